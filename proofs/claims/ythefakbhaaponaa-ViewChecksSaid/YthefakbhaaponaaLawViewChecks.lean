/- ViewChecksSaid is proved: view.Check answers what tailraceref.CheckedOf answers, and leaves its argument as it was, for every list of plain entries and every plain entry. No condition. -/
import Derived.Test.YthefakbhaaponaaLawKit
import Derived.Test.YthefakbhaaponaaOpenEnts
import Derived.Test.YthefakbhaaponaaOpenEnt
import Derived.Test.YthefakbhaaponaaSameEV
import Derived.Test.YthefakbhaaponaaViewH
import Derived.Test.YthefakbhaaponaaViewI
import Derived.Test.YthefakbhaaponaaViewF
import Derived.Deep.CondSized
namespace Go.Proofs.Ythefakbhaaponaa.lawViewChecks
open Go.ChangeShapes Go.WideShapes Go.ChangeAt Go.RowKit Go.Joins Go.Deep
open Go.ChangeMaps (open_string shut_string)

/-- entries in memory of the call's own -/
structure EnO (base : Nat) (w : World) (v : Value) (l : List Ent) : Prop where
  own : w.ownsRow base 30 7 v l.length (ecs l)
theorem EnO.keep {base : Nat} {w w' : World} {v : Value} {l : List Ent} (h : EnO base w v l) (hb : Below w.heap.size w w') : EnO base w' v l := ⟨own_keep h.own hb (fun b hb => (h.own.lt b hb).2)⟩
theorem EnO.alloc {base : Nat} {w : World} {v : Value} {l : List Ent} (h : EnO base w v l) (o : Obj) : EnO base (w.alloc o) v l := h.keep ((Below.refl _ _).alloc (Nat.le_refl _) o)
theorem step_append_v {w : World} {ops : Array Oper} {o : Oper} {a : Act} {K : Act → World → Prop} {Q : Exit → Act → World → Prop} {E : Prop} (hgd : o.guard = none) (s x : Operand) (t : TypeId)
    (ho : o.op = .call { callee := .builtin .append, args := #[s, x], argTypes := #[t, t] })
    (base : Nat) (e : TypeId) (i : TypeInfo) (z : Value) (size bytes : Nat) (ht : Try.prog.underlying t = some (.slice e)) (hi : Try.prog.info? e = some i) (hz : i.zero = some z)
    (hsize : i.size = size) (hby : i.bytes = bytes) (hzs : z.cells.size = size) (hsz : 0 < size)
    (v : Value) (n : Nat) (xs : List Value) (hs : a.eval s = v) (hown : w.ownsRow base e size v n xs)
    (u : Value) (m : Nat) (news : List Value) (hx : a.eval x = u) (hr : Sl w size u m news) (h1 : ∀ x ∈ news, x.oneCell' = true)
    (h63 : n + m ≤ maxLen) (hbytes : (n + m) * bytes ≤ 140737488355328) (hbase : base ≤ w.heap.size)
    (h : ∀ v' w', w'.ownsRow base e size v' (n + m) (xs ++ news) → w.grownBy w' v.ownBlock → (v'.ownBlock = v.ownBlock ∨ v'.ownBlock = some w.heap.size) → K (a.put o.dst v') w') :
    if Region.wanted o (yielded ops a.tmps) = true then Oper.wp Try.prog o a w K Q else E := by
  have hw : Region.wanted o (yielded ops a.tmps) = true := by simp [Region.wanted, hgd]
  rw [if_pos hw]
  exact wp_append_sl w s x t ho base e i z size bytes ht hi hz hsize hby hzs hsz v n xs hs hown u m news hx hr h1 h63 hbytes hbase h
theorem lit_v (w : World) (e : TypeId) (cs : Array Value) (size n g : Nat) (h : cs.size = n * size) (hg : g = w.heap.size) : Sl (w.alloc (.cells cs e)) size (.slice (some ⟨g, 0, none⟩) n n) n cs.toList := by
  subst hg
  exact Sl.lit w e cs size n h
set_option maxRecDepth 100000 in
set_option maxHeartbeats 4000000 in
theorem walk (v : Value) (es : List Ent) (x : Ent) (w : World) (h : Es w v es) (hm : es.length * 64 ≤ 140737488355000)
    (hf : ∀ (v : Value) (w : World), Es w v es → PlainE (es ++ [x]) → ∃ n c : Int, (Calls Try.prog 10 #[v, .agg #[.int .i64 x.ep, .int .i64 x.pid, .int .i64 x.ver, .int .i64 x.seq, .int .i64 x.kind, .bool x.txn, .string x.text]] w fun e w' => e = .returned (.tuple #[.int .i64 n, .int .i64 c]) ∧ Below w.heap.size w w') ∧ ∀ (v : Value) (w : World), Es w v es → Calls Try.prog 11 #[v, .agg #[.int .i64 x.ep, .int .i64 x.pid, .int .i64 x.ver, .int .i64 x.seq, .int .i64 x.kind, .bool x.txn, .string x.text]] w fun e w' => e = .returned (.tuple #[.int .i64 n, .int .i64 c]) ∧ Below w.heap.size w w') :
    Calls Try.prog 4 #[v, .agg #[.int .i64 x.ep, .int .i64 x.pid, .int .i64 x.ver, .int .i64 x.seq, .int .i64 x.kind, .bool x.txn, .string x.text]] w fun e w' => e = .returned (.bool true) ∧ Below w.heap.size w w' := by
  obtain ⟨i0, j0, j1, j2, j3⟩ := info_parts ent_info
  obtain ⟨A, c, rfl, hc, -⟩ := h.at_
  have H := Lib.hid h
  have HF := Lib.hid hf
  clear h hf
  go_enter Try.func4, Try.ntmps4
  go_wp2_with fail
  have hb1 : Below w.heap.size w (w.alloc (.cells #[.int .i64 x.ep, .int .i64 x.pid, .int .i64 x.ver, .int .i64 x.seq, .int .i64 x.kind, .bool x.txn, .string x.text] 30)) := (Below.refl _ _).alloc (by first | omega | (simp; done) | (simp; omega)) _
  have hal1 : Below w.heap.size w (w.alloc (.cells #[.int .i64 x.ep, .int .i64 x.pid, .int .i64 x.ver, .int .i64 x.seq, .int .i64 x.kind, .bool x.txn, .string x.text] 30)) := (Below.refl _ _).alloc (by first | omega | (simp; done) | (simp; omega)) _
  have b_bx1 : Blk (w.alloc (.cells #[.int .i64 x.ep, .int .i64 x.pid, .int .i64 x.ver, .int .i64 x.seq, .int .i64 x.kind, .bool x.txn, .string x.text] 30)) (w.heap.size) 30 #[.int .i64 x.ep, .int .i64 x.pid, .int .i64 x.ver, .int .i64 x.seq, .int .i64 x.kind, .bool x.txn, .string x.text] := Blk.new_ _ 30 #[.int .i64 x.ep, .int .i64 x.pid, .int .i64 x.ver, .int .i64 x.seq, .int .i64 x.kind, .bool x.txn, .string x.text] (by first | rfl | (simp; done) | (simp; omega))
  have hz1 : w.heap.size + 1 ≤ (w.alloc (.cells #[.int .i64 x.ep, .int .i64 x.pid, .int .i64 x.ver, .int .i64 x.seq, .int .i64 x.kind, .bool x.txn, .string x.text] 30)).heap.size := by first | omega | (simp; done) | (simp; omega)
  generalize w.alloc (.cells #[.int .i64 x.ep, .int .i64 x.pid, .int .i64 x.ver, .int .i64 x.seq, .int .i64 x.kind, .bool x.txn, .string x.text] 30) = W1 at *
  have HB1 := Lib.hid hb1
  have B1_bx := Lib.hid b_bx1
  clear hb1 b_bx1
  have c_bx0 := B1_bx.out.cell 0
  have c_bx1 := B1_bx.out.cell 1
  have c_bx2 := B1_bx.out.cell 2
  have c_bx3 := B1_bx.out.cell 3
  have c_bx4 := B1_bx.out.cell 4
  have c_bx5 := B1_bx.out.cell 5
  have c_bx6 := B1_bx.out.cell 6
  have l_bx := B1_bx.out.lt
  go_wp2_with fail
  clear c_bx0 c_bx1 c_bx2 c_bx3 c_bx4 c_bx5 c_bx6 l_bx
  have c_bx0 := B1_bx.out.cell 0
  have c_bx1 := B1_bx.out.cell 1
  have c_bx2 := B1_bx.out.cell 2
  have c_bx3 := B1_bx.out.cell 3
  have c_bx4 := B1_bx.out.cell 4
  have c_bx5 := B1_bx.out.cell 5
  have c_bx6 := B1_bx.out.cell 6
  have l_bx := B1_bx.out.lt
  refine wp_region_held_drew (S := fun w0 => w0.cell? ⟨w.heap.size, 0, none⟩ = some (.int .i64 x.ep) ∧ w0.cell? ⟨w.heap.size, 1, none⟩ = some (.int .i64 x.pid) ∧ w0.cell? ⟨w.heap.size, 2, none⟩ = some (.int .i64 x.ver) ∧ w0.cell? ⟨w.heap.size, 3, none⟩ = some (.int .i64 x.seq) ∧ w0.cell? ⟨w.heap.size, 4, none⟩ = some (.int .i64 x.kind) ∧ w0.cell? ⟨w.heap.size, 5, none⟩ = some (.bool x.txn) ∧ w0.cell? ⟨w.heap.size, 6, none⟩ = some (.string x.text)) (by kernel_rfl) ?_ (fun hHeld => ?_)
  · exact ⟨c_bx0, c_bx1, c_bx2, c_bx3, c_bx4, c_bx5, c_bx6⟩
  clear c_bx0 c_bx1 c_bx2 c_bx3 c_bx4 c_bx5 c_bx6 l_bx
  generalize hd : World.drew W1 = W2 at *
  have hb : Below W1.heap.size W1 W2 := by rw [← hd]; exact (Below.refl _ _).drew
  have hb2 : Below w.heap.size w W2 := below_then HB1.out hb
  have b_bx2 := B1_bx.out.below hb B1_bx.out.lt
  have hz2 := hb.size
  have HB2 := Lib.hid hb2
  have B2_bx := Lib.hid b_bx2
  clear hb2 b_bx2
  clear B1_bx HB1
  clear hd hb
  refine wpAnyH_take (i := 0) (v := ?_) rfl (by kernel_rfl) (by kernel_rfl) (by kernel_rfl) (fun _ _ _ h => h) (Or.inl ⟨by rfl, ?_⟩) (by assumption) ?_
  rotate_left
  · intro w0 hSw
    (try dsimp only at hSw)
    go_simp
    all_goals with_reducible rfl
  try simp only [Act.put, List.getElem_toArray, List.getElem_cons_zero, List.setIfInBounds_toArray, List.set_cons_zero, List.set_cons_succ]
  refine wpAnyH_take (i := 2) (v := ?_) rfl (by kernel_rfl) (by kernel_rfl) (by kernel_rfl) (fun _ _ _ h => h) (Or.inl ⟨by rfl, ?_⟩) (by assumption) ?_
  rotate_left
  · intro w0 hSw
    (try dsimp only at hSw)
    go_simp
    all_goals with_reducible rfl
  try simp only [Act.put, List.getElem_toArray, List.getElem_cons_zero, List.getElem_cons_succ, List.setIfInBounds_toArray, List.set_cons_zero, List.set_cons_succ]
  refine wpAnyH_ready (rs := [1, 3]) (by kernel_rfl) (by simp) (AllReadyH.cons rfl (fun K hK => ?_) (AllReadyH.cons rfl (fun K hK => ?_) AllReadyH.nil))
  · go_simp
    go_at_call 8
    refine (entries_any _ es _ (H.out.below HB2.out) (by omega)).mono ?_
    rintro e W3 ⟨v1, rfl, ho1, hb⟩
    obtain ⟨A1, c1, rfl, hc1⟩ := (Sl.of_own ho1).form
    have HEN := Lib.hid (EnO.mk (own_base ho1 (show W1.heap.size ≤ _ by omega)))
    clear ho1
    have hb3 : Below w.heap.size w W3 := below_then HB2.out hb
    have b_bx3 := B2_bx.out.below hb B2_bx.out.lt
    have hz3 := hb.size
    have HB3 := Lib.hid hb3
    have B3_bx := Lib.hid b_bx3
    clear hb3 b_bx3
    clear B2_bx HB2
    refine hK.out _ _ ?_ (fun hHeld => ?_)
    · exact ⟨(B3_bx.out).cell 0, (B3_bx.out).cell 1, (B3_bx.out).cell 2, (B3_bx.out).cell 3, (B3_bx.out).cell 4, (B3_bx.out).cell 5, (B3_bx.out).cell 6⟩
    clear hK K
    try simp only [Act.put, List.getElem_toArray, List.getElem_cons_zero, List.getElem_cons_succ, List.setIfInBounds_toArray, List.set_cons_zero, List.set_cons_succ]
    refine wpAnyH_ready (rs := [3]) (by kernel_rfl) (by simp) (AllReadyH.cons rfl (fun K hK => ?_) AllReadyH.nil)
    go_simp
    refine hK.out _ _ ?_ (fun hHeld => ?_)
    · exact ⟨((B3_bx.out).alloc _).cell 0, ((B3_bx.out).alloc _).cell 1, ((B3_bx.out).alloc _).cell 2, ((B3_bx.out).alloc _).cell 3, ((B3_bx.out).alloc _).cell 4, ((B3_bx.out).alloc _).cell 5, ((B3_bx.out).alloc _).cell 6⟩
    clear hK K
    try simp only [Act.put, List.getElem_toArray, List.getElem_cons_zero, List.getElem_cons_succ, List.setIfInBounds_toArray, List.set_cons_zero, List.set_cons_succ]
    have hli := lit_v W3 30 #[.int .i64 x.ep, .int .i64 x.pid, .int .i64 x.ver, .int .i64 x.seq, .int .i64 x.kind, .bool x.txn, .string x.text] 7 1 W3.heap.size (by simp) rfl
    obtain ⟨G, hG⟩ : ∃ G, G = W3.heap.size := ⟨_, rfl⟩
    have hsz4 := HB3.out.size
    have hb4 : Below w.heap.size w (W3.alloc (.cells (#[.int .i64 x.ep, .int .i64 x.pid, .int .i64 x.ver, .int .i64 x.seq, .int .i64 x.kind, .bool x.txn, .string x.text]) 30)) := (HB3.out).alloc (by first | omega | (simp; done) | (simp; omega)) _
    have hal4 : Below W3.heap.size W3 (W3.alloc (.cells (#[.int .i64 x.ep, .int .i64 x.pid, .int .i64 x.ver, .int .i64 x.seq, .int .i64 x.kind, .bool x.txn, .string x.text]) 30)) := (Below.refl _ _).alloc (by first | omega | (simp; done) | (simp; omega)) _
    have b_bx4 : Blk (W3.alloc (.cells (#[.int .i64 x.ep, .int .i64 x.pid, .int .i64 x.ver, .int .i64 x.seq, .int .i64 x.kind, .bool x.txn, .string x.text]) 30)) (w.heap.size) 30 #[.int .i64 x.ep, .int .i64 x.pid, .int .i64 x.ver, .int .i64 x.seq, .int .i64 x.kind, .bool x.txn, .string x.text] := (B3_bx.out).alloc _
    have k_en4 := (HEN.out).alloc (.cells (#[.int .i64 x.ep, .int .i64 x.pid, .int .i64 x.ver, .int .i64 x.seq, .int .i64 x.kind, .bool x.txn, .string x.text]) 30)
    have hz4 : W3.heap.size + 1 ≤ (W3.alloc (.cells (#[.int .i64 x.ep, .int .i64 x.pid, .int .i64 x.ver, .int .i64 x.seq, .int .i64 x.kind, .bool x.txn, .string x.text]) 30)).heap.size := by first | omega | (simp; done) | (simp; omega)
    generalize W3.alloc (.cells (#[.int .i64 x.ep, .int .i64 x.pid, .int .i64 x.ver, .int .i64 x.seq, .int .i64 x.kind, .bool x.txn, .string x.text]) 30) = W4 at *
    have HB4 := Lib.hid hb4
    have B4_bx := Lib.hid b_bx4
    have K4_en := Lib.hid k_en4
    clear hb4 b_bx4 k_en4
    clear B3_bx HB3 HEN
    rw [← hG] at hli
    rw [← hG]
    have HLI := Lib.hid hli
    clear hli hG
    refine wpAnyH_ready (rs := [4]) (by kernel_rfl) (by simp) (AllReadyH.cons rfl (fun K hK => ?_) AllReadyH.nil)
    refine step_append_v rfl (.tmp 11) (.tmp 13) 22 rfl W1.heap.size 30 i0 (.agg #[.int .i64 0, .int .i64 0, .int .i64 0, .int .i64 0, .int .i64 0, .bool false, .string .empty]) 7 64 Try.underlying22 j0 j1 j2 j3 rfl (by decide) _ _ _ (by first | rfl | simp [Act.eval, Act.put]) K4_en.out.own _ 1 _ (by first | rfl | simp [Act.eval, Act.put]) HLI.out (ecs_one [x]) (by simp only [maxLen]; omega) (by omega) (by omega) ?_
    intro v7 W7 ho7 hg7 ha7
    obtain ⟨A7, c7, rfl, hc7⟩ := (Sl.of_own ho7).form
    have hne : ∀ g, (Value.slice A1 es.length c1).ownBlock = some g → W1.heap.size ≤ g := fun g hg => (K4_en.out.own.lt g hg).1
    have hb7 : Below w.heap.size w W7 := HB4.out.grown hg7 (by omega) (fun b hb => by have := hne b hb; omega)
    have bx7 := B4_bx.out.grown hg7 (fun e => by have := hne _ e.symm; omega)
    have he7 : Es W7 (.slice A7 (es.length + 1) c7) (es ++ [x]) := by
      have h8 := own_eq ho7 (show es.length + 1 = (es ++ [x]).length by simp) (show ecs es ++ ecs [x] = ecs (es ++ [x]) by rw [ecs_append])
      exact Sl.of_own h8
    refine hK.out _ _ ?_ (fun hHeld => ?_)
    · exact ⟨bx7.cell 0, bx7.cell 1, bx7.cell 2, bx7.cell 3, bx7.cell 4, bx7.cell 5, bx7.cell 6⟩
    clear hK K
    try simp only [Act.put, List.getElem_toArray, List.getElem_cons_zero, List.getElem_cons_succ, List.setIfInBounds_toArray, List.set_cons_zero, List.set_cons_succ]
    have HB7 := Lib.hid hb7
    have BX7 := Lib.hid bx7
    have HE7 := Lib.hid he7
    clear hb7 bx7 he7 ho7 hg7 ha7 hne
    refine wpAnyH_ready (rs := [5]) (by kernel_rfl) (by simp) (AllReadyH.cons rfl (fun K hK => ?_) AllReadyH.nil)
    go_simp
    go_at_call 6
    refine (plain_any _ (es ++ [x]) _ HE7.out (by simp; omega)).mono ?_
    rintro e w8 ⟨b, rfl, hbp, he8⟩
    obtain rfl := he8.symm
    clear he8
    refine hK.out _ _ ?_ (fun hHeld => ?_)
    · exact ⟨(BX7.out).cell 0, (BX7.out).cell 1, (BX7.out).cell 2, (BX7.out).cell 3, (BX7.out).cell 4, (BX7.out).cell 5, (BX7.out).cell 6⟩
    clear hK K
    try simp only [Act.put, List.getElem_toArray, List.getElem_cons_zero, List.getElem_cons_succ, List.setIfInBounds_toArray, List.set_cons_zero, List.set_cons_succ]
    refine wpAnyH_take (i := 6) (v := ?_) rfl (by kernel_rfl) (by kernel_rfl) (by kernel_rfl) (fun _ _ _ h => h) (Or.inl ⟨by rfl, ?_⟩) (by assumption) ?_
    rotate_left
    · intro w0 hSw
      (try dsimp only at hSw)
      go_simp
      all_goals with_reducible rfl
    try simp only [Act.put, List.getElem_toArray, List.getElem_cons_zero, List.getElem_cons_succ, List.setIfInBounds_toArray, List.set_cons_zero, List.set_cons_succ]
    refine wpAnyH_done (by kernel_rfl) ?_ _
    rcases b with _ | _
    · go_wp2
      go_ret
      exact ⟨rfl, HB7.out⟩
    have HPP := Lib.hid (hbp.1 rfl)
    clear hbp
    go_wp2_with fail
    refine (entries_any _ es _ (H.out.below HB7.out) (by omega)).mono ?_
    rintro e W8 ⟨v2, rfl, ho2, hb⟩
    obtain ⟨A2, c2, rfl, hc2⟩ := (Sl.of_own ho2).form
    have HES := Lib.hid (show Es _ _ es from Sl.of_own ho2)
    clear ho2
    have hb8 : Below w.heap.size w W8 := below_then HB7.out hb
    have b_bx8 := BX7.out.below hb BX7.out.lt
    have hz8 := hb.size
    have HB8 := Lib.hid hb8
    have B8_bx := Lib.hid b_bx8
    clear hb8 b_bx8
    clear BX7 HB7
    obtain ⟨n, cd, hprog, href⟩ := HF.out _ _ HES.out HPP.out
    have HPG := Lib.hid hprog
    have HRF := Lib.hid href
    clear hprog href
    have c_bx0 := B8_bx.out.cell 0
    have c_bx1 := B8_bx.out.cell 1
    have c_bx2 := B8_bx.out.cell 2
    have c_bx3 := B8_bx.out.cell 3
    have c_bx4 := B8_bx.out.cell 4
    have c_bx5 := B8_bx.out.cell 5
    have c_bx6 := B8_bx.out.cell 6
    have l_bx := B8_bx.out.lt
    go_wp2_with fail
    clear c_bx0 c_bx1 c_bx2 c_bx3 c_bx4 c_bx5 c_bx6 l_bx
    refine (HPG.out).mono ?_
    rintro e W9 ⟨rfl, hb⟩
    have hb9 : Below w.heap.size w W9 := below_then HB8.out hb
    have b_bx9 := B8_bx.out.below hb B8_bx.out.lt
    have k_es9 := HES.out.below hb
    have hz9 := hb.size
    have HB9 := Lib.hid hb9
    have B9_bx := Lib.hid b_bx9
    have K9_es := Lib.hid k_es9
    clear hb9 b_bx9 k_es9
    clear B8_bx HB8 HES
    have c_bx0 := B9_bx.out.cell 0
    have c_bx1 := B9_bx.out.cell 1
    have c_bx2 := B9_bx.out.cell 2
    have c_bx3 := B9_bx.out.cell 3
    have c_bx4 := B9_bx.out.cell 4
    have c_bx5 := B9_bx.out.cell 5
    have c_bx6 := B9_bx.out.cell 6
    have l_bx := B9_bx.out.lt
    go_wp2_with fail
    clear c_bx0 c_bx1 c_bx2 c_bx3 c_bx4 c_bx5 c_bx6 l_bx
    refine (HRF.out _ _ (H.out.below HB9.out)).mono ?_
    rintro e W10 ⟨rfl, hb⟩
    have hb10 : Below w.heap.size w W10 := below_then HB9.out hb
    have b_bx10 := B9_bx.out.below hb B9_bx.out.lt
    have k_es10 := K9_es.out.below hb
    have hz10 := hb.size
    have HB10 := Lib.hid hb10
    have B10_bx := Lib.hid b_bx10
    have K10_es := Lib.hid k_es10
    clear hb10 b_bx10 k_es10
    clear B9_bx HB9 K9_es
    have zc : (cd == cd) = true := by simp
    have zn : (n == n) = true := by simp
    go_wp2_with fail
    refine (sameEntries_same _ _ es _ K10_es.out (H.out.below HB10.out) (by omega)).mono ?_
    rintro e W11 ⟨rfl, hb⟩
    have hb11 : Below w.heap.size w W11 := below_then HB10.out hb
    have b_bx11 := B10_bx.out.below hb B10_bx.out.lt
    have k_es11 := K10_es.out.below hb
    have hz11 := hb.size
    have HB11 := Lib.hid hb11
    have B11_bx := Lib.hid b_bx11
    have K11_es := Lib.hid k_es11
    clear hb11 b_bx11 k_es11
    clear B10_bx HB10 K10_es
    go_wp2
    go_ret
    exact ⟨rfl, HB11.out⟩
  · go_simp
    refine hK.out _ _ ?_ (fun hHeld => ?_)
    · exact ⟨((B2_bx.out).alloc _).cell 0, ((B2_bx.out).alloc _).cell 1, ((B2_bx.out).alloc _).cell 2, ((B2_bx.out).alloc _).cell 3, ((B2_bx.out).alloc _).cell 4, ((B2_bx.out).alloc _).cell 5, ((B2_bx.out).alloc _).cell 6⟩
    clear hK K
    try simp only [Act.put, List.getElem_toArray, List.getElem_cons_zero, List.getElem_cons_succ, List.setIfInBounds_toArray, List.set_cons_zero, List.set_cons_succ]
    have hli := lit_v W2 30 #[.int .i64 x.ep, .int .i64 x.pid, .int .i64 x.ver, .int .i64 x.seq, .int .i64 x.kind, .bool x.txn, .string x.text] 7 1 W2.heap.size (by simp) rfl
    obtain ⟨G, hG⟩ : ∃ G, G = W2.heap.size := ⟨_, rfl⟩
    have hsz3 := HB2.out.size
    have hb3 : Below w.heap.size w (W2.alloc (.cells (#[.int .i64 x.ep, .int .i64 x.pid, .int .i64 x.ver, .int .i64 x.seq, .int .i64 x.kind, .bool x.txn, .string x.text]) 30)) := (HB2.out).alloc (by first | omega | (simp; done) | (simp; omega)) _
    have hal3 : Below W2.heap.size W2 (W2.alloc (.cells (#[.int .i64 x.ep, .int .i64 x.pid, .int .i64 x.ver, .int .i64 x.seq, .int .i64 x.kind, .bool x.txn, .string x.text]) 30)) := (Below.refl _ _).alloc (by first | omega | (simp; done) | (simp; omega)) _
    have b_bx3 : Blk (W2.alloc (.cells (#[.int .i64 x.ep, .int .i64 x.pid, .int .i64 x.ver, .int .i64 x.seq, .int .i64 x.kind, .bool x.txn, .string x.text]) 30)) (w.heap.size) 30 #[.int .i64 x.ep, .int .i64 x.pid, .int .i64 x.ver, .int .i64 x.seq, .int .i64 x.kind, .bool x.txn, .string x.text] := (B2_bx.out).alloc _
    have hz3 : W2.heap.size + 1 ≤ (W2.alloc (.cells (#[.int .i64 x.ep, .int .i64 x.pid, .int .i64 x.ver, .int .i64 x.seq, .int .i64 x.kind, .bool x.txn, .string x.text]) 30)).heap.size := by first | omega | (simp; done) | (simp; omega)
    generalize W2.alloc (.cells (#[.int .i64 x.ep, .int .i64 x.pid, .int .i64 x.ver, .int .i64 x.seq, .int .i64 x.kind, .bool x.txn, .string x.text]) 30) = W3 at *
    have HB3 := Lib.hid hb3
    have B3_bx := Lib.hid b_bx3
    clear hb3 b_bx3
    clear B2_bx HB2
    rw [← hG] at hli
    rw [← hG]
    have HLI := Lib.hid hli
    clear hli hG
    refine wpAnyH_ready (rs := [1]) (by kernel_rfl) (by simp) (AllReadyH.cons rfl (fun K hK => ?_) AllReadyH.nil)
    go_simp
    go_at_call 8
    refine (entries_any _ es _ (H.out.below HB3.out) (by omega)).mono ?_
    rintro e W4 ⟨v1, rfl, ho1, hb⟩
    obtain ⟨A1, c1, rfl, hc1⟩ := (Sl.of_own ho1).form
    have HEN := Lib.hid (EnO.mk (own_base ho1 (show W1.heap.size ≤ _ by omega)))
    clear ho1
    have hb4 : Below w.heap.size w W4 := below_then HB3.out hb
    have b_bx4 := B3_bx.out.below hb B3_bx.out.lt
    have k_li4 := HLI.out.below hb
    have hz4 := hb.size
    have HB4 := Lib.hid hb4
    have B4_bx := Lib.hid b_bx4
    have K4_li := Lib.hid k_li4
    clear hb4 b_bx4 k_li4
    clear B3_bx HB3 HLI
    refine hK.out _ _ ?_ (fun hHeld => ?_)
    · exact ⟨(B4_bx.out).cell 0, (B4_bx.out).cell 1, (B4_bx.out).cell 2, (B4_bx.out).cell 3, (B4_bx.out).cell 4, (B4_bx.out).cell 5, (B4_bx.out).cell 6⟩
    clear hK K
    try simp only [Act.put, List.getElem_toArray, List.getElem_cons_zero, List.getElem_cons_succ, List.setIfInBounds_toArray, List.set_cons_zero, List.set_cons_succ]
    refine wpAnyH_ready (rs := [4]) (by kernel_rfl) (by simp) (AllReadyH.cons rfl (fun K hK => ?_) AllReadyH.nil)
    refine step_append_v rfl (.tmp 11) (.tmp 13) 22 rfl W1.heap.size 30 i0 (.agg #[.int .i64 0, .int .i64 0, .int .i64 0, .int .i64 0, .int .i64 0, .bool false, .string .empty]) 7 64 Try.underlying22 j0 j1 j2 j3 rfl (by decide) _ _ _ (by first | rfl | simp [Act.eval, Act.put]) HEN.out.own _ 1 _ (by first | rfl | simp [Act.eval, Act.put]) K4_li.out (ecs_one [x]) (by simp only [maxLen]; omega) (by omega) (by omega) ?_
    intro v7 W7 ho7 hg7 ha7
    obtain ⟨A7, c7, rfl, hc7⟩ := (Sl.of_own ho7).form
    have hne : ∀ g, (Value.slice A1 es.length c1).ownBlock = some g → W1.heap.size ≤ g := fun g hg => (HEN.out.own.lt g hg).1
    have hb7 : Below w.heap.size w W7 := HB4.out.grown hg7 (by omega) (fun b hb => by have := hne b hb; omega)
    have bx7 := B4_bx.out.grown hg7 (fun e => by have := hne _ e.symm; omega)
    have he7 : Es W7 (.slice A7 (es.length + 1) c7) (es ++ [x]) := by
      have h8 := own_eq ho7 (show es.length + 1 = (es ++ [x]).length by simp) (show ecs es ++ ecs [x] = ecs (es ++ [x]) by rw [ecs_append])
      exact Sl.of_own h8
    refine hK.out _ _ ?_ (fun hHeld => ?_)
    · exact ⟨bx7.cell 0, bx7.cell 1, bx7.cell 2, bx7.cell 3, bx7.cell 4, bx7.cell 5, bx7.cell 6⟩
    clear hK K
    try simp only [Act.put, List.getElem_toArray, List.getElem_cons_zero, List.getElem_cons_succ, List.setIfInBounds_toArray, List.set_cons_zero, List.set_cons_succ]
    have HB7 := Lib.hid hb7
    have BX7 := Lib.hid bx7
    have HE7 := Lib.hid he7
    clear hb7 bx7 he7 ho7 hg7 ha7 hne
    refine wpAnyH_ready (rs := [5]) (by kernel_rfl) (by simp) (AllReadyH.cons rfl (fun K hK => ?_) AllReadyH.nil)
    go_simp
    go_at_call 6
    refine (plain_any _ (es ++ [x]) _ HE7.out (by simp; omega)).mono ?_
    rintro e w8 ⟨b, rfl, hbp, he8⟩
    obtain rfl := he8.symm
    clear he8
    refine hK.out _ _ ?_ (fun hHeld => ?_)
    · exact ⟨(BX7.out).cell 0, (BX7.out).cell 1, (BX7.out).cell 2, (BX7.out).cell 3, (BX7.out).cell 4, (BX7.out).cell 5, (BX7.out).cell 6⟩
    clear hK K
    try simp only [Act.put, List.getElem_toArray, List.getElem_cons_zero, List.getElem_cons_succ, List.setIfInBounds_toArray, List.set_cons_zero, List.set_cons_succ]
    refine wpAnyH_take (i := 6) (v := ?_) rfl (by kernel_rfl) (by kernel_rfl) (by kernel_rfl) (fun _ _ _ h => h) (Or.inl ⟨by rfl, ?_⟩) (by assumption) ?_
    rotate_left
    · intro w0 hSw
      (try dsimp only at hSw)
      go_simp
      all_goals with_reducible rfl
    try simp only [Act.put, List.getElem_toArray, List.getElem_cons_zero, List.getElem_cons_succ, List.setIfInBounds_toArray, List.set_cons_zero, List.set_cons_succ]
    refine wpAnyH_done (by kernel_rfl) ?_ _
    rcases b with _ | _
    · go_wp2
      go_ret
      exact ⟨rfl, HB7.out⟩
    have HPP := Lib.hid (hbp.1 rfl)
    clear hbp
    go_wp2_with fail
    refine (entries_any _ es _ (H.out.below HB7.out) (by omega)).mono ?_
    rintro e W8 ⟨v2, rfl, ho2, hb⟩
    obtain ⟨A2, c2, rfl, hc2⟩ := (Sl.of_own ho2).form
    have HES := Lib.hid (show Es _ _ es from Sl.of_own ho2)
    clear ho2
    have hb8 : Below w.heap.size w W8 := below_then HB7.out hb
    have b_bx8 := BX7.out.below hb BX7.out.lt
    have hz8 := hb.size
    have HB8 := Lib.hid hb8
    have B8_bx := Lib.hid b_bx8
    clear hb8 b_bx8
    clear BX7 HB7
    obtain ⟨n, cd, hprog, href⟩ := HF.out _ _ HES.out HPP.out
    have HPG := Lib.hid hprog
    have HRF := Lib.hid href
    clear hprog href
    have c_bx0 := B8_bx.out.cell 0
    have c_bx1 := B8_bx.out.cell 1
    have c_bx2 := B8_bx.out.cell 2
    have c_bx3 := B8_bx.out.cell 3
    have c_bx4 := B8_bx.out.cell 4
    have c_bx5 := B8_bx.out.cell 5
    have c_bx6 := B8_bx.out.cell 6
    have l_bx := B8_bx.out.lt
    go_wp2_with fail
    clear c_bx0 c_bx1 c_bx2 c_bx3 c_bx4 c_bx5 c_bx6 l_bx
    refine (HPG.out).mono ?_
    rintro e W9 ⟨rfl, hb⟩
    have hb9 : Below w.heap.size w W9 := below_then HB8.out hb
    have b_bx9 := B8_bx.out.below hb B8_bx.out.lt
    have k_es9 := HES.out.below hb
    have hz9 := hb.size
    have HB9 := Lib.hid hb9
    have B9_bx := Lib.hid b_bx9
    have K9_es := Lib.hid k_es9
    clear hb9 b_bx9 k_es9
    clear B8_bx HB8 HES
    have c_bx0 := B9_bx.out.cell 0
    have c_bx1 := B9_bx.out.cell 1
    have c_bx2 := B9_bx.out.cell 2
    have c_bx3 := B9_bx.out.cell 3
    have c_bx4 := B9_bx.out.cell 4
    have c_bx5 := B9_bx.out.cell 5
    have c_bx6 := B9_bx.out.cell 6
    have l_bx := B9_bx.out.lt
    go_wp2_with fail
    clear c_bx0 c_bx1 c_bx2 c_bx3 c_bx4 c_bx5 c_bx6 l_bx
    refine (HRF.out _ _ (H.out.below HB9.out)).mono ?_
    rintro e W10 ⟨rfl, hb⟩
    have hb10 : Below w.heap.size w W10 := below_then HB9.out hb
    have b_bx10 := B9_bx.out.below hb B9_bx.out.lt
    have k_es10 := K9_es.out.below hb
    have hz10 := hb.size
    have HB10 := Lib.hid hb10
    have B10_bx := Lib.hid b_bx10
    have K10_es := Lib.hid k_es10
    clear hb10 b_bx10 k_es10
    clear B9_bx HB9 K9_es
    have zc : (cd == cd) = true := by simp
    have zn : (n == n) = true := by simp
    go_wp2_with fail
    refine (sameEntries_same _ _ es _ K10_es.out (H.out.below HB10.out) (by omega)).mono ?_
    rintro e W11 ⟨rfl, hb⟩
    have hb11 : Below w.heap.size w W11 := below_then HB10.out hb
    have b_bx11 := B10_bx.out.below hb B10_bx.out.lt
    have k_es11 := K10_es.out.below hb
    have hz11 := hb.size
    have HB11 := Lib.hid hb11
    have B11_bx := Lib.hid b_bx11
    have K11_es := Lib.hid k_es11
    clear hb11 b_bx11 k_es11
    clear B10_bx HB10 K10_es
    go_wp2
    go_ret
    exact ⟨rfl, HB11.out⟩

theorem both (v : Value) (es : List Ent) (x : Ent) (w : World) (h : Es w v es) (hpp : PlainE (es ++ [x])) (hl : es.length ≤ 9223372036854775806) : ∃ n c : Int, (Calls Try.prog 10 #[v, .agg #[.int .i64 x.ep, .int .i64 x.pid, .int .i64 x.ver, .int .i64 x.seq, .int .i64 x.kind, .bool x.txn, .string x.text]] w fun e w' => e = .returned (.tuple #[.int .i64 n, .int .i64 c]) ∧ Below w.heap.size w w') ∧ ∀ (v : Value) (w : World), Es w v es → Calls Try.prog 11 #[v, .agg #[.int .i64 x.ep, .int .i64 x.pid, .int .i64 x.ver, .int .i64 x.seq, .int .i64 x.kind, .bool x.txn, .string x.text]] w fun e w' => e = .returned (.tuple #[.int .i64 n, .int .i64 c]) ∧ Below w.heap.size w w' := by
  have hp : PlainE es := fun k hk => by
    have := hpp k (by simp; omega)
    rwa [List.getElem_append_left hk] at this
  have hx : 0 ≤ x.ver ∧ x.ver ≤ 1073741824 ∧ 0 ≤ x.seq ∧ x.seq ≤ 1073741824 ∧ 0 ≤ x.pid ∧ x.pid ≤ 1073741824 := by
    have := hpp es.length (by simp)
    simp at this
    omega
  by_cases h0 : x.pid = 0
  · exact ⟨_, _, check_zero v es x w h hp hl h0, fun v w h => checkedOf_zero v es x w h hl h0⟩
  obtain ⟨vT, mT, oT, sT, hr⟩ := refQ_ex hp x hx.1
  obtain ⟨q, hq⟩ : ∃ q, q = prOf es x := ⟨_, rfl⟩
  rw [← hq] at hr
  by_cases hf : x.ver < q.ver
  · exact ⟨_, _, check_fence v es x w h hp hl hx h0 q hq hf, fun v w h => checkedOf_fence v es x w h hl hx h0 q hr hf⟩
  by_cases hk : x.kind = 1
  · by_cases hv : q.ver < x.ver
    · have hv' := hr.new_ hf hv
      by_cases hg : -1 + 1 < x.seq
      · exact ⟨_, _, check_gap_new v es x w h hp hl hx h0 q hq hf hk hv hg, fun v w h => checkedOf_gap_new v es x w h hl hx h0 q hr hf hk hv' hg⟩
      · have hg' : x.seq = -1 + 1 := by omega
        exact ⟨_, _, check_next_new v es x w h hp hl hx h0 q hq hf hk hv hg', fun v w h => checkedOf_next_new v es x w h hl hx h0 q hr hf hk hv' hg'⟩
    · rcases hr.old hf hv with ⟨hv', hs⟩ | ⟨hv', hs⟩
      · by_cases hg : q.seq + 1 < x.seq
        · exact ⟨_, _, check_gap_old v es x w h hp hl hx h0 q hq hf hk hv hg, fun v w h => checkedOf_gap_old v es x w h hl hx h0 q hr hf hk hv' (by omega)⟩
        · by_cases hg' : x.seq = q.seq + 1
          · exact ⟨_, _, check_next_old v es x w h hp hl hx h0 q hq hf hk hv hg', fun v w h => checkedOf_next_old v es x w h hl hx h0 q hr hf hk hv' (by omega)⟩
          · obtain ⟨n, cd, hfi⟩ := findTo_ex es x
            exact ⟨n, cd, check_find_old v es x w h hp hl hx h0 q hq hf hk hv (by omega) hfi, fun v w h => checkedOf_find_old v es x w h hl hx h0 q hr hf hk hv' (by omega) hfi⟩
      · by_cases hg : -1 + 1 < x.seq
        · exact ⟨_, _, check_gap_old v es x w h hp hl hx h0 q hq hf hk hv (by omega), fun v w h => checkedOf_gap_new v es x w h hl hx h0 q hr hf hk hv' hg⟩
        · exact ⟨_, _, check_next_old v es x w h hp hl hx h0 q hq hf hk hv (by omega), fun v w h => checkedOf_next_new v es x w h hl hx h0 q hr hf hk hv' (by omega)⟩
  · by_cases hm : 0 ≤ q.mark
    · by_cases ho : q.opn < 0
      · have hb := prOf_known hp x
        rw [← hq] at hb
        have hmm : q.mark = (q.mark.toNat : Int) ∧ q.mark.toNat < es.length := by omega
        have hml := hmm.2
        by_cases e1 : es[q.mark.toNat].kind = x.kind
        · by_cases e2 : es[q.mark.toNat].ver = x.ver
          · exact ⟨_, _, check_mark v es x w h hp hl hx h0 q hq hf hk ho _ hmm (fun _ => e1) (fun _ => e2), fun v w h => checkedOf_mark v es x w h hl hx h0 q hr hf hk ho _ hmm (fun _ => e1) (fun _ => e2)⟩
          · exact ⟨_, _, check_mver v es x w h hp hl hx h0 q hq hf hk ho _ hmm (fun _ => e1) (fun _ => e2), fun v w h => checkedOf_mver v es x w h hl hx h0 q hr hf hk ho _ hmm (fun _ => e1) (fun _ => e2)⟩
        · exact ⟨_, _, check_mkind v es x w h hp hl hx h0 q hq hf hk ho _ hmm (fun _ => e1), fun v w h => checkedOf_mkind v es x w h hl hx h0 q hr hf hk ho _ hmm (fun _ => e1)⟩
      · exact ⟨_, _, check_open v es x w h hp hl hx h0 q hq hf hk ho, fun v w h => checkedOf_open v es x w h hl hx h0 q hr hf hk ho hm⟩
    · by_cases ho : q.opn < 0
      · exact ⟨_, _, check_nomark v es x w h hp hl hx h0 q hq hf hk ho hm, fun v w h => checkedOf_nomark v es x w h hl hx h0 q hr hf hk hm⟩
      · exact ⟨_, _, check_open v es x w h hp hl hx h0 q hq hf hk ho, fun v w h => checkedOf_nomark v es x w h hl hx h0 q hr hf hk hm⟩

set_option maxRecDepth 100000 in
theorem contract (H : Type) (enc : TypeId × Value → H) (W : World) (base : Nat) (args : Array Value) (ds gs : List (DataW H)) (before : List MemPlace)
    (hval : ∀ (j : Nat) t v, Try.f4.params[j]? = some t → args[j]? = some v → Value.okWide Try.prog W .any base t v)
    (hW : DataW.Whole enc Try.prog Try.f4.params.toList Rows.viewChecksSpec.vars false W args.toList ds gs before) (hsz : (DataW.weightsEach Try.prog (Try.f4.params.toList ++ Rows.viewChecksSpec.plain.varTypes Try.prog) (ds ++ gs)).all (· ≤ reachBytes) = true) :
    Calls Try.prog 4 args W fun e W' => ∃ v, e = .returned v ∧ Rows.viewChecksSpec.post enc Try.prog Try.f4 false true false false W args v W' := by
  have hW' := hW
  obtain ⟨p, q, hA0, hV, rfl, hfz, hnd⟩ := hW
  have hA : DataW.TrodAll enc Try.prog W 0 (fun _ => true) true Try.f4.params.toList args.toList ds p := hA0
  rw [Try.params4] at hA hval
  obtain ⟨v0, vs0, d0, ds0, p0, q0, hargs, rfl, rfl, h0, r0⟩ := trodAll_cons hA
  obtain ⟨v1, vs1, d1, ds1, p1, q1, rfl, rfl, rfl, h1, r1⟩ := trodAll_cons r0
  obtain ⟨rfl, rfl, rfl⟩ := trodAll_nil r1
  obtain rfl : args = #[v0, v1] := by cases args; simp_all
  obtain ⟨rfl, rfl⟩ := trodVars_none hV
  obtain ⟨x, enx, -, smx⟩ := open_entries (hval 0 22 v0 rfl rfl) h0
  obtain ⟨y0, y1, y2, y3, y4, y5, y6, ey, wty⟩ := open_entry (hval 1 30 v1 rfl rfl) h1
  subst ey
  refine Calls.mono (R := fun e W' => e = .returned (.bool true) ∧ Below W.heap.size W W') ?_ fun e W' ⟨he, hb⟩ => ?_
  · have hs := smx (fits_arg hsz (j := 0) (t := 22) (by rw [Try.params4]; rfl) rfl)
    simp only [reachBytes] at hs
    exact walk v0 x ⟨y0, y1, y2, y3, y4, y5, y6⟩ W enx (by omega) (fun v w h hp => both v x _ w h hp (by omega))
  · subst he
    exact ⟨_, rfl, law_post laid_ rfl rfl (by rfl) Try.underlying4 (by rw [Try.params4]; exact rec_ok (by kernel_rfl)) hW' hb⟩

set_option maxRecDepth 100000 in
theorem lifted (os : Os) (started : os.Started) (H : Type) (enc : TypeId × Value → H) :
    ReturnsInHanded {} Try.checked os 4 .any (Rows.viewChecksSpec.pre6 enc Try.prog Try.f4 Rows.viewChecksRow.domain false) (Rows.viewChecksSpec.post enc Try.prog Try.f4 false true false false) := by
  refine returnsInHanded_of_change_sized (C := Try.checked) own_ started (by kernel_rfl) Try.func4
    (ChangeSpec.witness6 (enc := enc) (C := Try.checked) false ⟨#[], #[.slice none 0 0, .agg #[.int .i64 0, .int .i64 0, .int .i64 0, .int .i64 0, .int .i64 0, .bool false, .string .empty]], []⟩ 8 (by kernel_rfl) (by kernel_rfl) (by kernel_rfl) (by kernel_rfl)) ?_
  intro W base args ds gs before hval hW _ hsz _
  exact contract H enc W base args ds gs before hval hW hsz

theorem closed : joinedFacts Try.prog 4 Try.f4 Rows.viewChecksSpec Rows.viewChecksRow = true := by
  unfold joinedFacts
  rw [mayEnter_, lifts_, make_]
  kernel_rfl

theorem proved : Rows.ViewChecksSaid :=
  OpenClaim.holds_of_wide 4 Try.f4 rfl rfl rfl rfl rfl rfl rfl ⟨rfl, rfl, rfl, rfl, rfl⟩ rfl rfl rfl rfl rfl (by kernel_rfl) Try.func4 closed
    (of_decide_eq_true (by kernel_rfl)) (by unfold Func.isWrapper; first | (rw [if_pos (by decide +kernel)]; kernel_rfl) | (rw [if_neg (by decide +kernel)]; exact ⟨rfl, rfl⟩))
    (fun os started H enc _ => lifted os started H enc)

end Go.Proofs.Ythefakbhaaponaa.lawViewChecks
