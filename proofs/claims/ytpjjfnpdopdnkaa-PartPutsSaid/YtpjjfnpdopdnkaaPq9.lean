/- Parts of a proof, merged: ViewH. No condition. -/
import Derived.Test.YtpjjfnpdopdnkaaPq8
import Derived.Deep.RegionHeld3
import Derived.Deep.DrawnRows
namespace Go.Proofs.Ytpjjfnpdopdnkaa
open Go.RowKit

theorem PrMap.look {base n M : Nat} {w : World} {f : Int → Option Nat} {g : Int → Option PrD} (h : PrMap base w M n f g) {pid : Int} (hwf : (Lit.int .i64 pid).wf = true) {r : Option Nat} (hr : f pid = r) :
    (Instr.lookup 107 (.map (some M)) (.int .i64 pid) false).run Try.prog w = .ok (ptrV r) w := by
  obtain ⟨D, hown, ha⟩ := h.map
  obtain ⟨v, ps, hrun, hat⟩ := hown.lookup (Maps.int_keyed Try.underlying3) Try.underlying107 (z := .pointer none) (show (zeroValue 106).run Try.prog w = .ok (.pointer none) w by kernel_rfl) (zd := .nil) (zp := []) rfl (pkey_of hwf)
  rw [ha, hr] at hat
  obtain ⟨s, rfl, hs⟩ := ptrR_inv hat
  have := ptrD_inj hs
  subst this
  exact hrun
theorem seqTo_bound {es : List Ent} {pid : Int} (hp : PlainE es) : ∀ k : Nat, k ≤ es.length → -1 ≤ (seqTo es pid k).1 ∧ (seqTo es pid k).1 ≤ 1073741824
  | 0, _ => by simp [seqTo]
  | k + 1, h => by
    have ih := seqTo_bound (pid := pid) hp k (by omega)
    have hlt : k < es.length := by omega
    have hk := hp k hlt
    by_cases hq : es[k].pid = pid
    · rw [seqTo_hit hlt hq]
      simp only
      split
      · omega
      · split <;> omega
    · rw [seqTo_miss hlt hq]; exact ih
/-- what is known of the producer of x -/
theorem prOf_known {es : List Ent} (hp : PlainE es) (x : Ent) : -1 ≤ (prOf es x).mark ∧ (prOf es x).mark < es.length ∧ -1 ≤ (prOf es x).seq ∧ (prOf es x).seq ≤ 1073741824 := by
  unfold prOf
  cases hq : prTo es x.pid es.length with
  | none => simp only [Option.getD_none]; omega
  | some q =>
    obtain ⟨h1, h2, -⟩ := mark_lt hp.ver hq
    have h3 := seqTo_bound (pid := x.pid) hp es.length (Nat.le_refl _)
    have h4 := prTo_says (pid := x.pid) hp.ver es.length (Nat.le_refl _)
    rw [hq] at h4
    rw [h4.2.1] at h3
    exact ⟨h1, h2, h3.1, h3.2⟩
set_option maxRecDepth 100000 in
set_option maxHeartbeats 4000000 in
theorem check_zero (v : Value) (es : List Ent) (x : Ent) (w : World) (h : Es w v es) (_hp : PlainE es) (_hl : es.length ≤ 9223372036854775806) (h0 : x.pid = 0) :
    Calls Try.prog 96 #[v, .agg #[.int .i64 x.ep, .int .i64 x.pid, .int .i64 x.ver, .int .i64 x.seq, .int .i64 x.kind, .bool x.txn, .string x.text]] w fun e w' => e = .returned (.tuple #[.int .i64 (-1), .int .i64 0]) ∧ Below w.heap.size w w' := by
  obtain ⟨A, c, rfl, hc, -⟩ := h.at_
  have z1 : (x.pid == 0) = true := beq_iff_eq.2 h0
  clear h h0
  obtain ⟨ep, pid, ver, seq, kind, txn, text⟩ := x
  simp only at *
  go_enter Try.func96, Try.ntmps96
  go_wp2
  go_ret2
  exact ⟨rfl, (Below.refl _ _).alloc (Nat.le_refl _) _⟩
set_option maxRecDepth 100000 in
set_option maxHeartbeats 4000000 in
theorem check_fence (v : Value) (es : List Ent) (x : Ent) (w : World) (h : Es w v es) (hp : PlainE es) (hl : es.length ≤ 9223372036854775806) (hx : 0 ≤ x.ver ∧ x.ver ≤ 1073741824 ∧ 0 ≤ x.seq ∧ x.seq ≤ 1073741824 ∧ 0 ≤ x.pid ∧ x.pid ≤ 1073741824) (h0 : x.pid ≠ 0) (q : PrD) (hq : q = prOf es x) (hf : x.ver < q.ver) :
    Calls Try.prog 96 #[v, .agg #[.int .i64 x.ep, .int .i64 x.pid, .int .i64 x.ver, .int .i64 x.seq, .int .i64 x.kind, .bool x.txn, .string x.text]] w fun e w' => e = .returned (.tuple #[.int .i64 0, .int .i64 10]) ∧ Below w.heap.size w w' := by
  obtain ⟨A, c, rfl, hc, hx1⟩ := h.at_
  have HX := Lib.hid hx1
  have H := Lib.hid h
  have HP := Lib.hid hp
  obtain ⟨x0, x1, x2, x3, x4, x5⟩ := hx
  obtain ⟨k1, k2, k3, k4⟩ := prOf_known hp x
  have hdef : prOf es x = (prTo es x.pid es.length).getD ⟨x.ver, -1, -1, -1⟩ := rfl
  have hgd : prG es es.length x.pid = prTo es x.pid es.length := by unfold prG; rw [if_neg h0]
  rw [hgd.symm] at hdef
  rw [← hq] at k1 k2 k3 k4 hdef
  have z1 : (x.pid == 0) = false := beq_eq_false_iff_ne.2 h0
  have hwf : (Lit.int .i64 x.pid).wf = true := WalkArith.wf_i64 (by omega)
  have HWF := Lib.hid hwf
  have HDF := Lib.hid hdef
  clear h hx1 hp hq hgd hwf hdef h0
  have z2 : decide (x.ver < q.ver) = true := decide_eq_true hf
  clear hf
  obtain ⟨ep, pid, ver, seq, kind, txn, text⟩ := x
  obtain ⟨qv, qs, qo, qm⟩ := q
  simp only at *
  go_enter Try.func96, Try.ntmps96
  go_wp2_with fail
  have hb1 : Below w.heap.size w (w.alloc (.cells #[.int .i64 ep, .int .i64 pid, .int .i64 ver, .int .i64 seq, .int .i64 kind, .bool txn, .string text] 55)) := (Below.refl _ _).alloc (by first | omega | (simp; done) | (simp; omega)) _
  have hal1 : Below w.heap.size w (w.alloc (.cells #[.int .i64 ep, .int .i64 pid, .int .i64 ver, .int .i64 seq, .int .i64 kind, .bool txn, .string text] 55)) := (Below.refl _ _).alloc (by first | omega | (simp; done) | (simp; omega)) _
  have b_bx1 : Blk (w.alloc (.cells #[.int .i64 ep, .int .i64 pid, .int .i64 ver, .int .i64 seq, .int .i64 kind, .bool txn, .string text] 55)) (w.heap.size) 55 #[.int .i64 ep, .int .i64 pid, .int .i64 ver, .int .i64 seq, .int .i64 kind, .bool txn, .string text] := Blk.new_ _ 55 #[.int .i64 ep, .int .i64 pid, .int .i64 ver, .int .i64 seq, .int .i64 kind, .bool txn, .string text] (by first | rfl | (simp; done) | (simp; omega))
  have hz1 : w.heap.size + 1 ≤ (w.alloc (.cells #[.int .i64 ep, .int .i64 pid, .int .i64 ver, .int .i64 seq, .int .i64 kind, .bool txn, .string text] 55)).heap.size := by first | omega | (simp; done) | (simp; omega)
  generalize w.alloc (.cells #[.int .i64 ep, .int .i64 pid, .int .i64 ver, .int .i64 seq, .int .i64 kind, .bool txn, .string text] 55) = W1 at *
  have HB1 := Lib.hid hb1
  have B1_bx := Lib.hid b_bx1
  clear hb1 b_bx1
  have c_bx0 := B1_bx.out.cell 0
  have c_bx1 := B1_bx.out.cell 1
  have c_bx2 := B1_bx.out.cell 2
  have c_bx3 := B1_bx.out.cell 3
  have c_bx4 := B1_bx.out.cell 4
  have c_bx5 := B1_bx.out.cell 5
  have c_bx6 := B1_bx.out.cell 6
  have l_bx := B1_bx.out.lt
  go_wp2_with fail
  clear c_bx0 c_bx1 c_bx2 c_bx3 c_bx4 c_bx5 c_bx6 l_bx
  have c_bx1 := B1_bx.out.cell 1
  have l_bx := B1_bx.out.lt
  refine wp_region_held_drew (S := fun w0 => w0.cell? ⟨w.heap.size, 1, none⟩ = some (.int .i64 pid)) (by kernel_rfl) ?_ (fun hHeld => ?_)
  · exact c_bx1
  clear c_bx1 l_bx
  generalize hd : World.drew W1 = W2 at *
  have hb : Below W1.heap.size W1 W2 := by rw [← hd]; exact (Below.refl _ _).drew
  have hb2 : Below w.heap.size w W2 := below_then HB1.out hb
  have b_bx2 := B1_bx.out.below hb B1_bx.out.lt
  have hz2 := hb.size
  have HB2 := Lib.hid hb2
  have B2_bx := Lib.hid b_bx2
  clear hb2 b_bx2
  clear B1_bx HB1
  clear hd hb
  refine wpAnyH_take (i := 0) (v := ?_) rfl (by kernel_rfl) (by kernel_rfl) (by kernel_rfl) (fun _ _ _ h => h) (Or.inl ⟨by rfl, ?_⟩) (by assumption) ?_
  rotate_left
  · intro w0 hSw
    (try dsimp only at hSw)
    go_simp
    all_goals with_reducible rfl
  try simp only [Act.put, List.getElem_toArray, List.getElem_cons_zero, List.setIfInBounds_toArray, List.set_cons_zero, List.set_cons_succ]
  refine wpAnyH_take (i := 2) (v := ?_) rfl (by kernel_rfl) (by kernel_rfl) (by kernel_rfl) (fun _ _ _ h => h) (Or.inl ⟨by rfl, ?_⟩) (by assumption) ?_
  rotate_left
  · intro w0 hSw
    (try dsimp only at hSw)
    go_simp
    all_goals with_reducible rfl
  try simp only [Act.put, List.getElem_toArray, List.getElem_cons_zero, List.getElem_cons_succ, List.setIfInBounds_toArray, List.set_cons_zero, List.set_cons_succ]
  refine wpAnyH_take (i := 3) (v := ?_) rfl (by kernel_rfl) (by kernel_rfl) (by kernel_rfl) (fun _ _ _ h => h) (Or.inl ⟨by rfl, ?_⟩) (by assumption) ?_
  rotate_left
  · intro w0 hSw
    (try dsimp only at hSw)
    go_simp
    all_goals with_reducible rfl
  try simp only [Act.put, List.getElem_toArray, List.getElem_cons_zero, List.getElem_cons_succ, List.setIfInBounds_toArray, List.set_cons_zero, List.set_cons_succ]
  refine wpAnyH_ready (rs := [1]) (by kernel_rfl) (by simp) (AllReadyH.cons rfl (fun K hK => ?_) AllReadyH.nil)
  go_simp
  go_at_call 108
  refine (replay_any _ es _ (H.out.below HB2.out) HP.out hl).mono ?_
  rintro e W3 ⟨M, f, rfl, hm, hb, hM⟩
  have HM := Lib.hid hm
  clear hm
  have hb3 : Below w.heap.size w W3 := below_then HB2.out hb
  have b_bx3 := B2_bx.out.below hb B2_bx.out.lt
  have hz3 := hb.size
  have HB3 := Lib.hid hb3
  have B3_bx := Lib.hid b_bx3
  clear hb3 b_bx3
  clear B2_bx HB2
  refine hK.out _ _ ?_ (fun hHeld => ?_)
  · exact (B3_bx.out).cell 1
  clear hK K
  try simp only [Act.put, List.getElem_toArray, List.getElem_cons_zero, List.getElem_cons_succ, List.setIfInBounds_toArray, List.set_cons_zero, List.set_cons_succ]
  rcases hf : f pid with _ | b
  · have hrun := HM.out.look HWF.out hf
    simp only [ptrV] at hrun
    have hgn := HM.out.none_ pid hf
    have HGN := Lib.hid hgn
    clear hgn
    have HF := Lib.hid hf
    clear hf
    refine wpAnyH_ready (rs := [4]) (by kernel_rfl) (by simp) (AllReadyH.cons rfl (fun K hK => ?_) AllReadyH.nil)
    go_simp
    refine hK.out _ _ ?_ (fun hHeld => ?_)
    · assumption
    clear hK K
    try simp only [Act.put, List.getElem_toArray, List.getElem_cons_zero, List.getElem_cons_succ, List.setIfInBounds_toArray, List.set_cons_zero, List.set_cons_succ]
    clear hrun
    refine wpAnyH_take (i := 5) (v := ?_) rfl (by kernel_rfl) (by kernel_rfl) (by kernel_rfl) (fun _ _ _ h => h) (Or.inl ⟨by rfl, ?_⟩) (by assumption) ?_
    rotate_left
    · intro w0 hSw
      (try dsimp only at hSw)
      go_simp
      all_goals with_reducible rfl
    try simp only [Act.put, List.getElem_toArray, List.getElem_cons_zero, List.getElem_cons_succ, List.setIfInBounds_toArray, List.set_cons_zero, List.set_cons_succ]
    refine wpAnyH_done (by kernel_rfl) ?_ _
    have c_bx0 := B3_bx.out.cell 0
    have c_bx1 := B3_bx.out.cell 1
    have c_bx2 := B3_bx.out.cell 2
    have c_bx3 := B3_bx.out.cell 3
    have c_bx4 := B3_bx.out.cell 4
    have c_bx5 := B3_bx.out.cell 5
    have c_bx6 := B3_bx.out.cell 6
    have l_bx := B3_bx.out.lt
    go_upto_region 6 with fail
    clear c_bx0 c_bx1 c_bx2 c_bx3 c_bx4 c_bx5 c_bx6 l_bx
    have hsz4 := HB3.out.size
    have hb4 : Below w.heap.size w (W3.alloc (.cells #[.int .i64 ver, .int .i64 (-1), .int .i64 (-1), .int .i64 (-1)] 110)) := (HB3.out).alloc (by first | omega | (simp; done) | (simp; omega)) _
    have hal4 : Below W3.heap.size W3 (W3.alloc (.cells #[.int .i64 ver, .int .i64 (-1), .int .i64 (-1), .int .i64 (-1)] 110)) := (Below.refl _ _).alloc (by first | omega | (simp; done) | (simp; omega)) _
    have b_bx4 : Blk (W3.alloc (.cells #[.int .i64 ver, .int .i64 (-1), .int .i64 (-1), .int .i64 (-1)] 110)) (w.heap.size) 55 #[.int .i64 ep, .int .i64 pid, .int .i64 ver, .int .i64 seq, .int .i64 kind, .bool txn, .string text] := (B3_bx.out).alloc _
    have b_bp4 : Blk (W3.alloc (.cells #[.int .i64 ver, .int .i64 (-1), .int .i64 (-1), .int .i64 (-1)] 110)) (W3.heap.size) 110 #[.int .i64 ver, .int .i64 (-1), .int .i64 (-1), .int .i64 (-1)] := Blk.new_ _ 110 #[.int .i64 ver, .int .i64 (-1), .int .i64 (-1), .int .i64 (-1)] (by first | rfl | (simp; done) | (simp; omega))
    have hz4 : W3.heap.size + 1 ≤ (W3.alloc (.cells #[.int .i64 ver, .int .i64 (-1), .int .i64 (-1), .int .i64 (-1)] 110)).heap.size := by first | omega | (simp; done) | (simp; omega)
    generalize W3.alloc (.cells #[.int .i64 ver, .int .i64 (-1), .int .i64 (-1), .int .i64 (-1)] 110) = W4 at *
    have HB4 := Lib.hid hb4
    have B4_bx := Lib.hid b_bx4
    have B4_bp := Lib.hid b_bp4
    clear hb4 b_bx4 b_bp4
    clear B3_bx HB3
    have hbp : Blk W4 (W3.heap.size) 110 #[.int .i64 qv, .int .i64 qs, .int .i64 qo, .int .i64 qm] := by
      have he := HDF.out
      rw [HGN.out] at he
      simp only [Option.getD_none, PrD.mk.injEq] at he
      rw [he.1, he.2.1, he.2.2.1, he.2.2.2]
      exact B4_bp.out
    have HBP := Lib.hid hbp
    clear hbp B4_bp
    have hbb : w.heap.size ≤ W3.heap.size := by omega
    have c_bx2 := B4_bx.out.cell 2
    have l_bx := B4_bx.out.lt
    have c_bp0 := HBP.out.cell 0
    have l_bp := HBP.out.lt
    go_quiet (fail)
    clear c_bx2 l_bx c_bp0 l_bp
    generalize hd : World.drewN W4 _ = W5 at *
    have hb : Below W4.heap.size W4 W5 := by rw [← hd]; exact below_dn _ _
    have hb5 : Below w.heap.size w W5 := below_then HB4.out hb
    have b_bx5 := B4_bx.out.below hb B4_bx.out.lt
    have b_bp5 := HBP.out.below hb HBP.out.lt
    have hz5 := hb.size
    have HB5 := Lib.hid hb5
    have B5_bx := Lib.hid b_bx5
    have B5_bp := Lib.hid b_bp5
    clear hb5 b_bx5 b_bp5
    clear B4_bx HBP HB4
    clear hd hb
    have c_bx2 := B5_bx.out.cell 2
    have l_bx := B5_bx.out.lt
    have c_bp0 := B5_bp.out.cell 0
    have l_bp := B5_bp.out.lt
    go_wp2
    go_ret2
    exact ⟨rfl, HB5.out⟩
  · have hrun := HM.out.look HWF.out hf
    simp only [ptrV] at hrun
    obtain ⟨hbb, q9, hq9, hbq⟩ := HM.out.blk pid b hf
    have he : (⟨ qv,  qs,  qo,  qm⟩ : PrD) = q9 := by rw [HDF.out, hq9]; rfl
    rw [← he] at hbq
    have hbp : Blk W3 b 110 #[.int .i64 qv, .int .i64 qs, .int .i64 qo, .int .i64 qm] := hbq
    have HBP := Lib.hid hbp
    clear hbq hbp he hq9
    have HF := Lib.hid hf
    clear hf
    refine wpAnyH_ready (rs := [4]) (by kernel_rfl) (by simp) (AllReadyH.cons rfl (fun K hK => ?_) AllReadyH.nil)
    go_simp
    refine hK.out _ _ ?_ (fun hHeld => ?_)
    · assumption
    clear hK K
    try simp only [Act.put, List.getElem_toArray, List.getElem_cons_zero, List.getElem_cons_succ, List.setIfInBounds_toArray, List.set_cons_zero, List.set_cons_succ]
    clear hrun
    refine wpAnyH_take (i := 5) (v := ?_) rfl (by kernel_rfl) (by kernel_rfl) (by kernel_rfl) (fun _ _ _ h => h) (Or.inl ⟨by rfl, ?_⟩) (by assumption) ?_
    rotate_left
    · intro w0 hSw
      (try dsimp only at hSw)
      go_simp
      all_goals with_reducible rfl
    try simp only [Act.put, List.getElem_toArray, List.getElem_cons_zero, List.getElem_cons_succ, List.setIfInBounds_toArray, List.set_cons_zero, List.set_cons_succ]
    refine wpAnyH_done (by kernel_rfl) ?_ _
    go_upto_region 6 with fail
    have c_bx2 := B3_bx.out.cell 2
    have l_bx := B3_bx.out.lt
    have c_bp0 := HBP.out.cell 0
    have l_bp := HBP.out.lt
    go_quiet (fail)
    clear c_bx2 l_bx c_bp0 l_bp
    generalize hd : World.drewN W3 _ = W4 at *
    have hb : Below W3.heap.size W3 W4 := by rw [← hd]; exact below_dn _ _
    have hb4 : Below w.heap.size w W4 := below_then HB3.out hb
    have b_bx4 := B3_bx.out.below hb B3_bx.out.lt
    have b_bp4 := HBP.out.below hb HBP.out.lt
    have hz4 := hb.size
    have HB4 := Lib.hid hb4
    have B4_bx := Lib.hid b_bx4
    have B4_bp := Lib.hid b_bp4
    clear hb4 b_bx4 b_bp4
    clear B3_bx HBP HB3
    clear hd hb
    have c_bx2 := B4_bx.out.cell 2
    have l_bx := B4_bx.out.lt
    have c_bp0 := B4_bp.out.cell 0
    have l_bp := B4_bp.out.lt
    go_wp2
    go_ret2
    exact ⟨rfl, HB4.out⟩
set_option maxRecDepth 100000 in
set_option maxHeartbeats 4000000 in
theorem check_open (v : Value) (es : List Ent) (x : Ent) (w : World) (h : Es w v es) (hp : PlainE es) (hl : es.length ≤ 9223372036854775806) (hx : 0 ≤ x.ver ∧ x.ver ≤ 1073741824 ∧ 0 ≤ x.seq ∧ x.seq ≤ 1073741824 ∧ 0 ≤ x.pid ∧ x.pid ≤ 1073741824) (h0 : x.pid ≠ 0) (q : PrD) (hq : q = prOf es x) (hf : ¬ x.ver < q.ver) (hk : x.kind ≠ 1) (ho : ¬ q.opn < 0) :
    Calls Try.prog 96 #[v, .agg #[.int .i64 x.ep, .int .i64 x.pid, .int .i64 x.ver, .int .i64 x.seq, .int .i64 x.kind, .bool x.txn, .string x.text]] w fun e w' => e = .returned (.tuple #[.int .i64 (-1), .int .i64 0]) ∧ Below w.heap.size w w' := by
  obtain ⟨A, c, rfl, hc, hx1⟩ := h.at_
  have HX := Lib.hid hx1
  have H := Lib.hid h
  have HP := Lib.hid hp
  obtain ⟨x0, x1, x2, x3, x4, x5⟩ := hx
  obtain ⟨k1, k2, k3, k4⟩ := prOf_known hp x
  have hdef : prOf es x = (prTo es x.pid es.length).getD ⟨x.ver, -1, -1, -1⟩ := rfl
  have hgd : prG es es.length x.pid = prTo es x.pid es.length := by unfold prG; rw [if_neg h0]
  rw [hgd.symm] at hdef
  rw [← hq] at k1 k2 k3 k4 hdef
  have z1 : (x.pid == 0) = false := beq_eq_false_iff_ne.2 h0
  have hwf : (Lit.int .i64 x.pid).wf = true := WalkArith.wf_i64 (by omega)
  have HWF := Lib.hid hwf
  have HDF := Lib.hid hdef
  clear h hx1 hp hq hgd hwf hdef h0
  have z2 : decide (x.ver < q.ver) = false := decide_eq_false hf
  clear hf
  have z3 : (x.kind != 1) = true := by simpa using hk
  clear hk
  have z4 : decide (q.opn < 0) = false := decide_eq_false ho
  clear ho
  obtain ⟨ep, pid, ver, seq, kind, txn, text⟩ := x
  obtain ⟨qv, qs, qo, qm⟩ := q
  simp only at *
  go_enter Try.func96, Try.ntmps96
  go_wp2_with fail
  have hb1 : Below w.heap.size w (w.alloc (.cells #[.int .i64 ep, .int .i64 pid, .int .i64 ver, .int .i64 seq, .int .i64 kind, .bool txn, .string text] 55)) := (Below.refl _ _).alloc (by first | omega | (simp; done) | (simp; omega)) _
  have hal1 : Below w.heap.size w (w.alloc (.cells #[.int .i64 ep, .int .i64 pid, .int .i64 ver, .int .i64 seq, .int .i64 kind, .bool txn, .string text] 55)) := (Below.refl _ _).alloc (by first | omega | (simp; done) | (simp; omega)) _
  have b_bx1 : Blk (w.alloc (.cells #[.int .i64 ep, .int .i64 pid, .int .i64 ver, .int .i64 seq, .int .i64 kind, .bool txn, .string text] 55)) (w.heap.size) 55 #[.int .i64 ep, .int .i64 pid, .int .i64 ver, .int .i64 seq, .int .i64 kind, .bool txn, .string text] := Blk.new_ _ 55 #[.int .i64 ep, .int .i64 pid, .int .i64 ver, .int .i64 seq, .int .i64 kind, .bool txn, .string text] (by first | rfl | (simp; done) | (simp; omega))
  have hz1 : w.heap.size + 1 ≤ (w.alloc (.cells #[.int .i64 ep, .int .i64 pid, .int .i64 ver, .int .i64 seq, .int .i64 kind, .bool txn, .string text] 55)).heap.size := by first | omega | (simp; done) | (simp; omega)
  generalize w.alloc (.cells #[.int .i64 ep, .int .i64 pid, .int .i64 ver, .int .i64 seq, .int .i64 kind, .bool txn, .string text] 55) = W1 at *
  have HB1 := Lib.hid hb1
  have B1_bx := Lib.hid b_bx1
  clear hb1 b_bx1
  have c_bx0 := B1_bx.out.cell 0
  have c_bx1 := B1_bx.out.cell 1
  have c_bx2 := B1_bx.out.cell 2
  have c_bx3 := B1_bx.out.cell 3
  have c_bx4 := B1_bx.out.cell 4
  have c_bx5 := B1_bx.out.cell 5
  have c_bx6 := B1_bx.out.cell 6
  have l_bx := B1_bx.out.lt
  go_wp2_with fail
  clear c_bx0 c_bx1 c_bx2 c_bx3 c_bx4 c_bx5 c_bx6 l_bx
  have c_bx1 := B1_bx.out.cell 1
  have l_bx := B1_bx.out.lt
  refine wp_region_held_drew (S := fun w0 => w0.cell? ⟨w.heap.size, 1, none⟩ = some (.int .i64 pid)) (by kernel_rfl) ?_ (fun hHeld => ?_)
  · exact c_bx1
  clear c_bx1 l_bx
  generalize hd : World.drew W1 = W2 at *
  have hb : Below W1.heap.size W1 W2 := by rw [← hd]; exact (Below.refl _ _).drew
  have hb2 : Below w.heap.size w W2 := below_then HB1.out hb
  have b_bx2 := B1_bx.out.below hb B1_bx.out.lt
  have hz2 := hb.size
  have HB2 := Lib.hid hb2
  have B2_bx := Lib.hid b_bx2
  clear hb2 b_bx2
  clear B1_bx HB1
  clear hd hb
  refine wpAnyH_take (i := 0) (v := ?_) rfl (by kernel_rfl) (by kernel_rfl) (by kernel_rfl) (fun _ _ _ h => h) (Or.inl ⟨by rfl, ?_⟩) (by assumption) ?_
  rotate_left
  · intro w0 hSw
    (try dsimp only at hSw)
    go_simp
    all_goals with_reducible rfl
  try simp only [Act.put, List.getElem_toArray, List.getElem_cons_zero, List.setIfInBounds_toArray, List.set_cons_zero, List.set_cons_succ]
  refine wpAnyH_take (i := 2) (v := ?_) rfl (by kernel_rfl) (by kernel_rfl) (by kernel_rfl) (fun _ _ _ h => h) (Or.inl ⟨by rfl, ?_⟩) (by assumption) ?_
  rotate_left
  · intro w0 hSw
    (try dsimp only at hSw)
    go_simp
    all_goals with_reducible rfl
  try simp only [Act.put, List.getElem_toArray, List.getElem_cons_zero, List.getElem_cons_succ, List.setIfInBounds_toArray, List.set_cons_zero, List.set_cons_succ]
  refine wpAnyH_take (i := 3) (v := ?_) rfl (by kernel_rfl) (by kernel_rfl) (by kernel_rfl) (fun _ _ _ h => h) (Or.inl ⟨by rfl, ?_⟩) (by assumption) ?_
  rotate_left
  · intro w0 hSw
    (try dsimp only at hSw)
    go_simp
    all_goals with_reducible rfl
  try simp only [Act.put, List.getElem_toArray, List.getElem_cons_zero, List.getElem_cons_succ, List.setIfInBounds_toArray, List.set_cons_zero, List.set_cons_succ]
  refine wpAnyH_ready (rs := [1]) (by kernel_rfl) (by simp) (AllReadyH.cons rfl (fun K hK => ?_) AllReadyH.nil)
  go_simp
  go_at_call 108
  refine (replay_any _ es _ (H.out.below HB2.out) HP.out hl).mono ?_
  rintro e W3 ⟨M, f, rfl, hm, hb, hM⟩
  have HM := Lib.hid hm
  clear hm
  have hb3 : Below w.heap.size w W3 := below_then HB2.out hb
  have b_bx3 := B2_bx.out.below hb B2_bx.out.lt
  have hz3 := hb.size
  have HB3 := Lib.hid hb3
  have B3_bx := Lib.hid b_bx3
  clear hb3 b_bx3
  clear B2_bx HB2
  refine hK.out _ _ ?_ (fun hHeld => ?_)
  · exact (B3_bx.out).cell 1
  clear hK K
  try simp only [Act.put, List.getElem_toArray, List.getElem_cons_zero, List.getElem_cons_succ, List.setIfInBounds_toArray, List.set_cons_zero, List.set_cons_succ]
  rcases hf : f pid with _ | b
  · have hrun := HM.out.look HWF.out hf
    simp only [ptrV] at hrun
    have hgn := HM.out.none_ pid hf
    have HGN := Lib.hid hgn
    clear hgn
    have HF := Lib.hid hf
    clear hf
    refine wpAnyH_ready (rs := [4]) (by kernel_rfl) (by simp) (AllReadyH.cons rfl (fun K hK => ?_) AllReadyH.nil)
    go_simp
    refine hK.out _ _ ?_ (fun hHeld => ?_)
    · assumption
    clear hK K
    try simp only [Act.put, List.getElem_toArray, List.getElem_cons_zero, List.getElem_cons_succ, List.setIfInBounds_toArray, List.set_cons_zero, List.set_cons_succ]
    clear hrun
    refine wpAnyH_take (i := 5) (v := ?_) rfl (by kernel_rfl) (by kernel_rfl) (by kernel_rfl) (fun _ _ _ h => h) (Or.inl ⟨by rfl, ?_⟩) (by assumption) ?_
    rotate_left
    · intro w0 hSw
      (try dsimp only at hSw)
      go_simp
      all_goals with_reducible rfl
    try simp only [Act.put, List.getElem_toArray, List.getElem_cons_zero, List.getElem_cons_succ, List.setIfInBounds_toArray, List.set_cons_zero, List.set_cons_succ]
    refine wpAnyH_done (by kernel_rfl) ?_ _
    have c_bx0 := B3_bx.out.cell 0
    have c_bx1 := B3_bx.out.cell 1
    have c_bx2 := B3_bx.out.cell 2
    have c_bx3 := B3_bx.out.cell 3
    have c_bx4 := B3_bx.out.cell 4
    have c_bx5 := B3_bx.out.cell 5
    have c_bx6 := B3_bx.out.cell 6
    have l_bx := B3_bx.out.lt
    go_upto_region 6 with fail
    clear c_bx0 c_bx1 c_bx2 c_bx3 c_bx4 c_bx5 c_bx6 l_bx
    have hsz4 := HB3.out.size
    have hb4 : Below w.heap.size w (W3.alloc (.cells #[.int .i64 ver, .int .i64 (-1), .int .i64 (-1), .int .i64 (-1)] 110)) := (HB3.out).alloc (by first | omega | (simp; done) | (simp; omega)) _
    have hal4 : Below W3.heap.size W3 (W3.alloc (.cells #[.int .i64 ver, .int .i64 (-1), .int .i64 (-1), .int .i64 (-1)] 110)) := (Below.refl _ _).alloc (by first | omega | (simp; done) | (simp; omega)) _
    have b_bx4 : Blk (W3.alloc (.cells #[.int .i64 ver, .int .i64 (-1), .int .i64 (-1), .int .i64 (-1)] 110)) (w.heap.size) 55 #[.int .i64 ep, .int .i64 pid, .int .i64 ver, .int .i64 seq, .int .i64 kind, .bool txn, .string text] := (B3_bx.out).alloc _
    have b_bp4 : Blk (W3.alloc (.cells #[.int .i64 ver, .int .i64 (-1), .int .i64 (-1), .int .i64 (-1)] 110)) (W3.heap.size) 110 #[.int .i64 ver, .int .i64 (-1), .int .i64 (-1), .int .i64 (-1)] := Blk.new_ _ 110 #[.int .i64 ver, .int .i64 (-1), .int .i64 (-1), .int .i64 (-1)] (by first | rfl | (simp; done) | (simp; omega))
    have hz4 : W3.heap.size + 1 ≤ (W3.alloc (.cells #[.int .i64 ver, .int .i64 (-1), .int .i64 (-1), .int .i64 (-1)] 110)).heap.size := by first | omega | (simp; done) | (simp; omega)
    generalize W3.alloc (.cells #[.int .i64 ver, .int .i64 (-1), .int .i64 (-1), .int .i64 (-1)] 110) = W4 at *
    have HB4 := Lib.hid hb4
    have B4_bx := Lib.hid b_bx4
    have B4_bp := Lib.hid b_bp4
    clear hb4 b_bx4 b_bp4
    clear B3_bx HB3
    have hbp : Blk W4 (W3.heap.size) 110 #[.int .i64 qv, .int .i64 qs, .int .i64 qo, .int .i64 qm] := by
      have he := HDF.out
      rw [HGN.out] at he
      simp only [Option.getD_none, PrD.mk.injEq] at he
      rw [he.1, he.2.1, he.2.2.1, he.2.2.2]
      exact B4_bp.out
    have HBP := Lib.hid hbp
    clear hbp B4_bp
    have hbb : w.heap.size ≤ W3.heap.size := by omega
    have c_bx2 := B4_bx.out.cell 2
    have l_bx := B4_bx.out.lt
    have c_bp0 := HBP.out.cell 0
    have l_bp := HBP.out.lt
    go_quiet (fail)
    clear c_bx2 l_bx c_bp0 l_bp
    generalize hd : World.drewN W4 _ = W5 at *
    have hb : Below W4.heap.size W4 W5 := by rw [← hd]; exact below_dn _ _
    have hb5 : Below w.heap.size w W5 := below_then HB4.out hb
    have b_bx5 := B4_bx.out.below hb B4_bx.out.lt
    have b_bp5 := HBP.out.below hb HBP.out.lt
    have hz5 := hb.size
    have HB5 := Lib.hid hb5
    have B5_bx := Lib.hid b_bx5
    have B5_bp := Lib.hid b_bp5
    clear hb5 b_bx5 b_bp5
    clear B4_bx HBP HB4
    clear hd hb
    have c_bx2 := B5_bx.out.cell 2
    have l_bx := B5_bx.out.lt
    have c_bp0 := B5_bp.out.cell 0
    have l_bp := B5_bp.out.lt
    have c_bx4 := B5_bx.out.cell 4
    have l_bx := B5_bx.out.lt
    go_wp2_with fail
    clear c_bx2 l_bx c_bp0 l_bp c_bx4
    have c_bx2 := B5_bx.out.cell 2
    have c_bx4 := B5_bx.out.cell 4
    have l_bx := B5_bx.out.lt
    have c_bp2 := B5_bp.out.cell 2
    have c_bp3 := B5_bp.out.cell 3
    have l_bp := B5_bp.out.lt
    go_quiet (fail)
    clear c_bx2 c_bx4 l_bx c_bp2 c_bp3 l_bp
    generalize hd : World.drewN W5 _ = W6 at *
    have hb : Below W5.heap.size W5 W6 := by rw [← hd]; exact below_dn _ _
    have hb6 : Below w.heap.size w W6 := below_then HB5.out hb
    have b_bx6 := B5_bx.out.below hb B5_bx.out.lt
    have b_bp6 := B5_bp.out.below hb B5_bp.out.lt
    have hz6 := hb.size
    have HB6 := Lib.hid hb6
    have B6_bx := Lib.hid b_bx6
    have B6_bp := Lib.hid b_bp6
    clear hb6 b_bx6 b_bp6
    clear B5_bx B5_bp HB5
    clear hd hb
    have c_bp3 := B6_bp.out.cell 3
    have l_bp := B6_bp.out.lt
    go_wp2
    go_ret2
    exact ⟨rfl, HB6.out⟩
  · have hrun := HM.out.look HWF.out hf
    simp only [ptrV] at hrun
    obtain ⟨hbb, q9, hq9, hbq⟩ := HM.out.blk pid b hf
    have he : (⟨ qv,  qs,  qo,  qm⟩ : PrD) = q9 := by rw [HDF.out, hq9]; rfl
    rw [← he] at hbq
    have hbp : Blk W3 b 110 #[.int .i64 qv, .int .i64 qs, .int .i64 qo, .int .i64 qm] := hbq
    have HBP := Lib.hid hbp
    clear hbq hbp he hq9
    have HF := Lib.hid hf
    clear hf
    refine wpAnyH_ready (rs := [4]) (by kernel_rfl) (by simp) (AllReadyH.cons rfl (fun K hK => ?_) AllReadyH.nil)
    go_simp
    refine hK.out _ _ ?_ (fun hHeld => ?_)
    · assumption
    clear hK K
    try simp only [Act.put, List.getElem_toArray, List.getElem_cons_zero, List.getElem_cons_succ, List.setIfInBounds_toArray, List.set_cons_zero, List.set_cons_succ]
    clear hrun
    refine wpAnyH_take (i := 5) (v := ?_) rfl (by kernel_rfl) (by kernel_rfl) (by kernel_rfl) (fun _ _ _ h => h) (Or.inl ⟨by rfl, ?_⟩) (by assumption) ?_
    rotate_left
    · intro w0 hSw
      (try dsimp only at hSw)
      go_simp
      all_goals with_reducible rfl
    try simp only [Act.put, List.getElem_toArray, List.getElem_cons_zero, List.getElem_cons_succ, List.setIfInBounds_toArray, List.set_cons_zero, List.set_cons_succ]
    refine wpAnyH_done (by kernel_rfl) ?_ _
    go_upto_region 6 with fail
    have c_bx2 := B3_bx.out.cell 2
    have l_bx := B3_bx.out.lt
    have c_bp0 := HBP.out.cell 0
    have l_bp := HBP.out.lt
    go_quiet (fail)
    clear c_bx2 l_bx c_bp0 l_bp
    generalize hd : World.drewN W3 _ = W4 at *
    have hb : Below W3.heap.size W3 W4 := by rw [← hd]; exact below_dn _ _
    have hb4 : Below w.heap.size w W4 := below_then HB3.out hb
    have b_bx4 := B3_bx.out.below hb B3_bx.out.lt
    have b_bp4 := HBP.out.below hb HBP.out.lt
    have hz4 := hb.size
    have HB4 := Lib.hid hb4
    have B4_bx := Lib.hid b_bx4
    have B4_bp := Lib.hid b_bp4
    clear hb4 b_bx4 b_bp4
    clear B3_bx HBP HB3
    clear hd hb
    have c_bx2 := B4_bx.out.cell 2
    have l_bx := B4_bx.out.lt
    have c_bp0 := B4_bp.out.cell 0
    have l_bp := B4_bp.out.lt
    have c_bx4 := B4_bx.out.cell 4
    have l_bx := B4_bx.out.lt
    go_wp2_with fail
    clear c_bx2 l_bx c_bp0 l_bp c_bx4
    have c_bx2 := B4_bx.out.cell 2
    have c_bx4 := B4_bx.out.cell 4
    have l_bx := B4_bx.out.lt
    have c_bp2 := B4_bp.out.cell 2
    have c_bp3 := B4_bp.out.cell 3
    have l_bp := B4_bp.out.lt
    go_quiet (fail)
    clear c_bx2 c_bx4 l_bx c_bp2 c_bp3 l_bp
    generalize hd : World.drewN W4 _ = W5 at *
    have hb : Below W4.heap.size W4 W5 := by rw [← hd]; exact below_dn _ _
    have hb5 : Below w.heap.size w W5 := below_then HB4.out hb
    have b_bx5 := B4_bx.out.below hb B4_bx.out.lt
    have b_bp5 := B4_bp.out.below hb B4_bp.out.lt
    have hz5 := hb.size
    have HB5 := Lib.hid hb5
    have B5_bx := Lib.hid b_bx5
    have B5_bp := Lib.hid b_bp5
    clear hb5 b_bx5 b_bp5
    clear B4_bx B4_bp HB4
    clear hd hb
    have c_bp3 := B5_bp.out.cell 3
    have l_bp := B5_bp.out.lt
    go_wp2
    go_ret2
    exact ⟨rfl, HB5.out⟩
set_option maxRecDepth 100000 in
set_option maxHeartbeats 4000000 in
theorem check_nomark (v : Value) (es : List Ent) (x : Ent) (w : World) (h : Es w v es) (hp : PlainE es) (hl : es.length ≤ 9223372036854775806) (hx : 0 ≤ x.ver ∧ x.ver ≤ 1073741824 ∧ 0 ≤ x.seq ∧ x.seq ≤ 1073741824 ∧ 0 ≤ x.pid ∧ x.pid ≤ 1073741824) (h0 : x.pid ≠ 0) (q : PrD) (hq : q = prOf es x) (hf : ¬ x.ver < q.ver) (hk : x.kind ≠ 1) (ho : q.opn < 0) (hm : ¬ 0 ≤ q.mark) :
    Calls Try.prog 96 #[v, .agg #[.int .i64 x.ep, .int .i64 x.pid, .int .i64 x.ver, .int .i64 x.seq, .int .i64 x.kind, .bool x.txn, .string x.text]] w fun e w' => e = .returned (.tuple #[.int .i64 (-1), .int .i64 0]) ∧ Below w.heap.size w w' := by
  obtain ⟨A, c, rfl, hc, hx1⟩ := h.at_
  have HX := Lib.hid hx1
  have H := Lib.hid h
  have HP := Lib.hid hp
  obtain ⟨x0, x1, x2, x3, x4, x5⟩ := hx
  obtain ⟨k1, k2, k3, k4⟩ := prOf_known hp x
  have hdef : prOf es x = (prTo es x.pid es.length).getD ⟨x.ver, -1, -1, -1⟩ := rfl
  have hgd : prG es es.length x.pid = prTo es x.pid es.length := by unfold prG; rw [if_neg h0]
  rw [hgd.symm] at hdef
  rw [← hq] at k1 k2 k3 k4 hdef
  have z1 : (x.pid == 0) = false := beq_eq_false_iff_ne.2 h0
  have hwf : (Lit.int .i64 x.pid).wf = true := WalkArith.wf_i64 (by omega)
  have HWF := Lib.hid hwf
  have HDF := Lib.hid hdef
  clear h hx1 hp hq hgd hwf hdef h0
  have z2 : decide (x.ver < q.ver) = false := decide_eq_false hf
  clear hf
  have z3 : (x.kind != 1) = true := by simpa using hk
  clear hk
  have z4 : decide (q.opn < 0) = true := decide_eq_true ho
  clear ho
  have z5 : decide (0 ≤ q.mark) = false := decide_eq_false hm
  clear hm
  obtain ⟨ep, pid, ver, seq, kind, txn, text⟩ := x
  obtain ⟨qv, qs, qo, qm⟩ := q
  simp only at *
  go_enter Try.func96, Try.ntmps96
  go_wp2_with fail
  have hb1 : Below w.heap.size w (w.alloc (.cells #[.int .i64 ep, .int .i64 pid, .int .i64 ver, .int .i64 seq, .int .i64 kind, .bool txn, .string text] 55)) := (Below.refl _ _).alloc (by first | omega | (simp; done) | (simp; omega)) _
  have hal1 : Below w.heap.size w (w.alloc (.cells #[.int .i64 ep, .int .i64 pid, .int .i64 ver, .int .i64 seq, .int .i64 kind, .bool txn, .string text] 55)) := (Below.refl _ _).alloc (by first | omega | (simp; done) | (simp; omega)) _
  have b_bx1 : Blk (w.alloc (.cells #[.int .i64 ep, .int .i64 pid, .int .i64 ver, .int .i64 seq, .int .i64 kind, .bool txn, .string text] 55)) (w.heap.size) 55 #[.int .i64 ep, .int .i64 pid, .int .i64 ver, .int .i64 seq, .int .i64 kind, .bool txn, .string text] := Blk.new_ _ 55 #[.int .i64 ep, .int .i64 pid, .int .i64 ver, .int .i64 seq, .int .i64 kind, .bool txn, .string text] (by first | rfl | (simp; done) | (simp; omega))
  have hz1 : w.heap.size + 1 ≤ (w.alloc (.cells #[.int .i64 ep, .int .i64 pid, .int .i64 ver, .int .i64 seq, .int .i64 kind, .bool txn, .string text] 55)).heap.size := by first | omega | (simp; done) | (simp; omega)
  generalize w.alloc (.cells #[.int .i64 ep, .int .i64 pid, .int .i64 ver, .int .i64 seq, .int .i64 kind, .bool txn, .string text] 55) = W1 at *
  have HB1 := Lib.hid hb1
  have B1_bx := Lib.hid b_bx1
  clear hb1 b_bx1
  have c_bx0 := B1_bx.out.cell 0
  have c_bx1 := B1_bx.out.cell 1
  have c_bx2 := B1_bx.out.cell 2
  have c_bx3 := B1_bx.out.cell 3
  have c_bx4 := B1_bx.out.cell 4
  have c_bx5 := B1_bx.out.cell 5
  have c_bx6 := B1_bx.out.cell 6
  have l_bx := B1_bx.out.lt
  go_wp2_with fail
  clear c_bx0 c_bx1 c_bx2 c_bx3 c_bx4 c_bx5 c_bx6 l_bx
  have c_bx1 := B1_bx.out.cell 1
  have l_bx := B1_bx.out.lt
  refine wp_region_held_drew (S := fun w0 => w0.cell? ⟨w.heap.size, 1, none⟩ = some (.int .i64 pid)) (by kernel_rfl) ?_ (fun hHeld => ?_)
  · exact c_bx1
  clear c_bx1 l_bx
  generalize hd : World.drew W1 = W2 at *
  have hb : Below W1.heap.size W1 W2 := by rw [← hd]; exact (Below.refl _ _).drew
  have hb2 : Below w.heap.size w W2 := below_then HB1.out hb
  have b_bx2 := B1_bx.out.below hb B1_bx.out.lt
  have hz2 := hb.size
  have HB2 := Lib.hid hb2
  have B2_bx := Lib.hid b_bx2
  clear hb2 b_bx2
  clear B1_bx HB1
  clear hd hb
  refine wpAnyH_take (i := 0) (v := ?_) rfl (by kernel_rfl) (by kernel_rfl) (by kernel_rfl) (fun _ _ _ h => h) (Or.inl ⟨by rfl, ?_⟩) (by assumption) ?_
  rotate_left
  · intro w0 hSw
    (try dsimp only at hSw)
    go_simp
    all_goals with_reducible rfl
  try simp only [Act.put, List.getElem_toArray, List.getElem_cons_zero, List.setIfInBounds_toArray, List.set_cons_zero, List.set_cons_succ]
  refine wpAnyH_take (i := 2) (v := ?_) rfl (by kernel_rfl) (by kernel_rfl) (by kernel_rfl) (fun _ _ _ h => h) (Or.inl ⟨by rfl, ?_⟩) (by assumption) ?_
  rotate_left
  · intro w0 hSw
    (try dsimp only at hSw)
    go_simp
    all_goals with_reducible rfl
  try simp only [Act.put, List.getElem_toArray, List.getElem_cons_zero, List.getElem_cons_succ, List.setIfInBounds_toArray, List.set_cons_zero, List.set_cons_succ]
  refine wpAnyH_take (i := 3) (v := ?_) rfl (by kernel_rfl) (by kernel_rfl) (by kernel_rfl) (fun _ _ _ h => h) (Or.inl ⟨by rfl, ?_⟩) (by assumption) ?_
  rotate_left
  · intro w0 hSw
    (try dsimp only at hSw)
    go_simp
    all_goals with_reducible rfl
  try simp only [Act.put, List.getElem_toArray, List.getElem_cons_zero, List.getElem_cons_succ, List.setIfInBounds_toArray, List.set_cons_zero, List.set_cons_succ]
  refine wpAnyH_ready (rs := [1]) (by kernel_rfl) (by simp) (AllReadyH.cons rfl (fun K hK => ?_) AllReadyH.nil)
  go_simp
  go_at_call 108
  refine (replay_any _ es _ (H.out.below HB2.out) HP.out hl).mono ?_
  rintro e W3 ⟨M, f, rfl, hm, hb, hM⟩
  have HM := Lib.hid hm
  clear hm
  have hb3 : Below w.heap.size w W3 := below_then HB2.out hb
  have b_bx3 := B2_bx.out.below hb B2_bx.out.lt
  have hz3 := hb.size
  have HB3 := Lib.hid hb3
  have B3_bx := Lib.hid b_bx3
  clear hb3 b_bx3
  clear B2_bx HB2
  refine hK.out _ _ ?_ (fun hHeld => ?_)
  · exact (B3_bx.out).cell 1
  clear hK K
  try simp only [Act.put, List.getElem_toArray, List.getElem_cons_zero, List.getElem_cons_succ, List.setIfInBounds_toArray, List.set_cons_zero, List.set_cons_succ]
  rcases hf : f pid with _ | b
  · have hrun := HM.out.look HWF.out hf
    simp only [ptrV] at hrun
    have hgn := HM.out.none_ pid hf
    have HGN := Lib.hid hgn
    clear hgn
    have HF := Lib.hid hf
    clear hf
    refine wpAnyH_ready (rs := [4]) (by kernel_rfl) (by simp) (AllReadyH.cons rfl (fun K hK => ?_) AllReadyH.nil)
    go_simp
    refine hK.out _ _ ?_ (fun hHeld => ?_)
    · assumption
    clear hK K
    try simp only [Act.put, List.getElem_toArray, List.getElem_cons_zero, List.getElem_cons_succ, List.setIfInBounds_toArray, List.set_cons_zero, List.set_cons_succ]
    clear hrun
    refine wpAnyH_take (i := 5) (v := ?_) rfl (by kernel_rfl) (by kernel_rfl) (by kernel_rfl) (fun _ _ _ h => h) (Or.inl ⟨by rfl, ?_⟩) (by assumption) ?_
    rotate_left
    · intro w0 hSw
      (try dsimp only at hSw)
      go_simp
      all_goals with_reducible rfl
    try simp only [Act.put, List.getElem_toArray, List.getElem_cons_zero, List.getElem_cons_succ, List.setIfInBounds_toArray, List.set_cons_zero, List.set_cons_succ]
    refine wpAnyH_done (by kernel_rfl) ?_ _
    have c_bx0 := B3_bx.out.cell 0
    have c_bx1 := B3_bx.out.cell 1
    have c_bx2 := B3_bx.out.cell 2
    have c_bx3 := B3_bx.out.cell 3
    have c_bx4 := B3_bx.out.cell 4
    have c_bx5 := B3_bx.out.cell 5
    have c_bx6 := B3_bx.out.cell 6
    have l_bx := B3_bx.out.lt
    go_upto_region 6 with fail
    clear c_bx0 c_bx1 c_bx2 c_bx3 c_bx4 c_bx5 c_bx6 l_bx
    have hsz4 := HB3.out.size
    have hb4 : Below w.heap.size w (W3.alloc (.cells #[.int .i64 ver, .int .i64 (-1), .int .i64 (-1), .int .i64 (-1)] 110)) := (HB3.out).alloc (by first | omega | (simp; done) | (simp; omega)) _
    have hal4 : Below W3.heap.size W3 (W3.alloc (.cells #[.int .i64 ver, .int .i64 (-1), .int .i64 (-1), .int .i64 (-1)] 110)) := (Below.refl _ _).alloc (by first | omega | (simp; done) | (simp; omega)) _
    have b_bx4 : Blk (W3.alloc (.cells #[.int .i64 ver, .int .i64 (-1), .int .i64 (-1), .int .i64 (-1)] 110)) (w.heap.size) 55 #[.int .i64 ep, .int .i64 pid, .int .i64 ver, .int .i64 seq, .int .i64 kind, .bool txn, .string text] := (B3_bx.out).alloc _
    have b_bp4 : Blk (W3.alloc (.cells #[.int .i64 ver, .int .i64 (-1), .int .i64 (-1), .int .i64 (-1)] 110)) (W3.heap.size) 110 #[.int .i64 ver, .int .i64 (-1), .int .i64 (-1), .int .i64 (-1)] := Blk.new_ _ 110 #[.int .i64 ver, .int .i64 (-1), .int .i64 (-1), .int .i64 (-1)] (by first | rfl | (simp; done) | (simp; omega))
    have hz4 : W3.heap.size + 1 ≤ (W3.alloc (.cells #[.int .i64 ver, .int .i64 (-1), .int .i64 (-1), .int .i64 (-1)] 110)).heap.size := by first | omega | (simp; done) | (simp; omega)
    generalize W3.alloc (.cells #[.int .i64 ver, .int .i64 (-1), .int .i64 (-1), .int .i64 (-1)] 110) = W4 at *
    have HB4 := Lib.hid hb4
    have B4_bx := Lib.hid b_bx4
    have B4_bp := Lib.hid b_bp4
    clear hb4 b_bx4 b_bp4
    clear B3_bx HB3
    have hbp : Blk W4 (W3.heap.size) 110 #[.int .i64 qv, .int .i64 qs, .int .i64 qo, .int .i64 qm] := by
      have he := HDF.out
      rw [HGN.out] at he
      simp only [Option.getD_none, PrD.mk.injEq] at he
      rw [he.1, he.2.1, he.2.2.1, he.2.2.2]
      exact B4_bp.out
    have HBP := Lib.hid hbp
    clear hbp B4_bp
    have hbb : w.heap.size ≤ W3.heap.size := by omega
    have c_bx2 := B4_bx.out.cell 2
    have l_bx := B4_bx.out.lt
    have c_bp0 := HBP.out.cell 0
    have l_bp := HBP.out.lt
    go_quiet (fail)
    clear c_bx2 l_bx c_bp0 l_bp
    generalize hd : World.drewN W4 _ = W5 at *
    have hb : Below W4.heap.size W4 W5 := by rw [← hd]; exact below_dn _ _
    have hb5 : Below w.heap.size w W5 := below_then HB4.out hb
    have b_bx5 := B4_bx.out.below hb B4_bx.out.lt
    have b_bp5 := HBP.out.below hb HBP.out.lt
    have hz5 := hb.size
    have HB5 := Lib.hid hb5
    have B5_bx := Lib.hid b_bx5
    have B5_bp := Lib.hid b_bp5
    clear hb5 b_bx5 b_bp5
    clear B4_bx HBP HB4
    clear hd hb
    have c_bx2 := B5_bx.out.cell 2
    have l_bx := B5_bx.out.lt
    have c_bp0 := B5_bp.out.cell 0
    have l_bp := B5_bp.out.lt
    have c_bx4 := B5_bx.out.cell 4
    have l_bx := B5_bx.out.lt
    go_wp2_with fail
    clear c_bx2 l_bx c_bp0 l_bp c_bx4
    have c_bx2 := B5_bx.out.cell 2
    have c_bx4 := B5_bx.out.cell 4
    have l_bx := B5_bx.out.lt
    have c_bp2 := B5_bp.out.cell 2
    have c_bp3 := B5_bp.out.cell 3
    have l_bp := B5_bp.out.lt
    go_quiet (fail)
    clear c_bx2 c_bx4 l_bx c_bp2 c_bp3 l_bp
    generalize hd : World.drewN W5 _ = W6 at *
    have hb : Below W5.heap.size W5 W6 := by rw [← hd]; exact below_dn _ _
    have hb6 : Below w.heap.size w W6 := below_then HB5.out hb
    have b_bx6 := B5_bx.out.below hb B5_bx.out.lt
    have b_bp6 := B5_bp.out.below hb B5_bp.out.lt
    have hz6 := hb.size
    have HB6 := Lib.hid hb6
    have B6_bx := Lib.hid b_bx6
    have B6_bp := Lib.hid b_bp6
    clear hb6 b_bx6 b_bp6
    clear B5_bx B5_bp HB5
    clear hd hb
    have c_bp3 := B6_bp.out.cell 3
    have l_bp := B6_bp.out.lt
    go_wp2
    go_ret2
    exact ⟨rfl, HB6.out⟩
  · have hrun := HM.out.look HWF.out hf
    simp only [ptrV] at hrun
    obtain ⟨hbb, q9, hq9, hbq⟩ := HM.out.blk pid b hf
    have he : (⟨ qv,  qs,  qo,  qm⟩ : PrD) = q9 := by rw [HDF.out, hq9]; rfl
    rw [← he] at hbq
    have hbp : Blk W3 b 110 #[.int .i64 qv, .int .i64 qs, .int .i64 qo, .int .i64 qm] := hbq
    have HBP := Lib.hid hbp
    clear hbq hbp he hq9
    have HF := Lib.hid hf
    clear hf
    refine wpAnyH_ready (rs := [4]) (by kernel_rfl) (by simp) (AllReadyH.cons rfl (fun K hK => ?_) AllReadyH.nil)
    go_simp
    refine hK.out _ _ ?_ (fun hHeld => ?_)
    · assumption
    clear hK K
    try simp only [Act.put, List.getElem_toArray, List.getElem_cons_zero, List.getElem_cons_succ, List.setIfInBounds_toArray, List.set_cons_zero, List.set_cons_succ]
    clear hrun
    refine wpAnyH_take (i := 5) (v := ?_) rfl (by kernel_rfl) (by kernel_rfl) (by kernel_rfl) (fun _ _ _ h => h) (Or.inl ⟨by rfl, ?_⟩) (by assumption) ?_
    rotate_left
    · intro w0 hSw
      (try dsimp only at hSw)
      go_simp
      all_goals with_reducible rfl
    try simp only [Act.put, List.getElem_toArray, List.getElem_cons_zero, List.getElem_cons_succ, List.setIfInBounds_toArray, List.set_cons_zero, List.set_cons_succ]
    refine wpAnyH_done (by kernel_rfl) ?_ _
    go_upto_region 6 with fail
    have c_bx2 := B3_bx.out.cell 2
    have l_bx := B3_bx.out.lt
    have c_bp0 := HBP.out.cell 0
    have l_bp := HBP.out.lt
    go_quiet (fail)
    clear c_bx2 l_bx c_bp0 l_bp
    generalize hd : World.drewN W3 _ = W4 at *
    have hb : Below W3.heap.size W3 W4 := by rw [← hd]; exact below_dn _ _
    have hb4 : Below w.heap.size w W4 := below_then HB3.out hb
    have b_bx4 := B3_bx.out.below hb B3_bx.out.lt
    have b_bp4 := HBP.out.below hb HBP.out.lt
    have hz4 := hb.size
    have HB4 := Lib.hid hb4
    have B4_bx := Lib.hid b_bx4
    have B4_bp := Lib.hid b_bp4
    clear hb4 b_bx4 b_bp4
    clear B3_bx HBP HB3
    clear hd hb
    have c_bx2 := B4_bx.out.cell 2
    have l_bx := B4_bx.out.lt
    have c_bp0 := B4_bp.out.cell 0
    have l_bp := B4_bp.out.lt
    have c_bx4 := B4_bx.out.cell 4
    have l_bx := B4_bx.out.lt
    go_wp2_with fail
    clear c_bx2 l_bx c_bp0 l_bp c_bx4
    have c_bx2 := B4_bx.out.cell 2
    have c_bx4 := B4_bx.out.cell 4
    have l_bx := B4_bx.out.lt
    have c_bp2 := B4_bp.out.cell 2
    have c_bp3 := B4_bp.out.cell 3
    have l_bp := B4_bp.out.lt
    go_quiet (fail)
    clear c_bx2 c_bx4 l_bx c_bp2 c_bp3 l_bp
    generalize hd : World.drewN W4 _ = W5 at *
    have hb : Below W4.heap.size W4 W5 := by rw [← hd]; exact below_dn _ _
    have hb5 : Below w.heap.size w W5 := below_then HB4.out hb
    have b_bx5 := B4_bx.out.below hb B4_bx.out.lt
    have b_bp5 := B4_bp.out.below hb B4_bp.out.lt
    have hz5 := hb.size
    have HB5 := Lib.hid hb5
    have B5_bx := Lib.hid b_bx5
    have B5_bp := Lib.hid b_bp5
    clear hb5 b_bx5 b_bp5
    clear B4_bx B4_bp HB4
    clear hd hb
    have c_bp3 := B5_bp.out.cell 3
    have l_bp := B5_bp.out.lt
    go_wp2
    go_ret2
    exact ⟨rfl, HB5.out⟩
set_option maxRecDepth 100000 in
set_option maxHeartbeats 4000000 in
theorem check_mkind (v : Value) (es : List Ent) (x : Ent) (w : World) (h : Es w v es) (hp : PlainE es) (hl : es.length ≤ 9223372036854775806) (hx : 0 ≤ x.ver ∧ x.ver ≤ 1073741824 ∧ 0 ≤ x.seq ∧ x.seq ≤ 1073741824 ∧ 0 ≤ x.pid ∧ x.pid ≤ 1073741824) (h0 : x.pid ≠ 0) (q : PrD) (hq : q = prOf es x) (hf : ¬ x.ver < q.ver) (hk : x.kind ≠ 1) (ho : q.opn < 0) (m : Nat) (hm : q.mark = m ∧ m < es.length) (h1 : ∀ hm : m < es.length, es[m].kind ≠ x.kind) :
    Calls Try.prog 96 #[v, .agg #[.int .i64 x.ep, .int .i64 x.pid, .int .i64 x.ver, .int .i64 x.seq, .int .i64 x.kind, .bool x.txn, .string x.text]] w fun e w' => e = .returned (.tuple #[.int .i64 (-1), .int .i64 0]) ∧ Below w.heap.size w w' := by
  obtain ⟨A, c, rfl, hc, hx1⟩ := h.at_
  have HX := Lib.hid hx1
  have H := Lib.hid h
  have HP := Lib.hid hp
  obtain ⟨x0, x1, x2, x3, x4, x5⟩ := hx
  obtain ⟨k1, k2, k3, k4⟩ := prOf_known hp x
  have hdef : prOf es x = (prTo es x.pid es.length).getD ⟨x.ver, -1, -1, -1⟩ := rfl
  have hgd : prG es es.length x.pid = prTo es x.pid es.length := by unfold prG; rw [if_neg h0]
  rw [hgd.symm] at hdef
  rw [← hq] at k1 k2 k3 k4 hdef
  have z1 : (x.pid == 0) = false := beq_eq_false_iff_ne.2 h0
  have hwf : (Lit.int .i64 x.pid).wf = true := WalkArith.wf_i64 (by omega)
  have HWF := Lib.hid hwf
  have HDF := Lib.hid hdef
  clear h hx1 hp hq hgd hwf hdef h0
  have z2 : decide (x.ver < q.ver) = false := decide_eq_false hf
  clear hf
  have z3 : (x.kind != 1) = true := by simpa using hk
  clear hk
  have z4 : decide (q.opn < 0) = true := decide_eq_true ho
  clear ho
  have hml : m < es.length := hm.2
  have m0 : (0 : Int) ≤ (m : Int) := by omega
  have m1 : (m : Int) < (es.length : Int) := by omega
  have z5 : decide (0 ≤ q.mark) = true := decide_eq_true (by omega)
  obtain ⟨b1, o1, rfl, hb1, hcell⟩ := HX.out (by omega)
  obtain ⟨-, -, y2, -, y4, -, -⟩ := hcell m hml
  have XC := Lib.hid (And.intro y2 y4)
  clear hcell y2 y4 HX
  have z6 : (es[m].kind == x.kind) = false := beq_eq_false_iff_ne.2 (h1 hml)
  clear h1
  have hqm := hm.1
  clear hm
  obtain ⟨ep, pid, ver, seq, kind, txn, text⟩ := x
  obtain ⟨qv, qs, qo, qm⟩ := q
  simp only at *
  subst hqm
  generalize es[m].kind = mk at *
  generalize es[m].ver = mv at *
  go_enter Try.func96, Try.ntmps96
  go_wp2_with fail
  have hb1 : Below w.heap.size w (w.alloc (.cells #[.int .i64 ep, .int .i64 pid, .int .i64 ver, .int .i64 seq, .int .i64 kind, .bool txn, .string text] 55)) := (Below.refl _ _).alloc (by first | omega | (simp; done) | (simp; omega)) _
  have hal1 : Below w.heap.size w (w.alloc (.cells #[.int .i64 ep, .int .i64 pid, .int .i64 ver, .int .i64 seq, .int .i64 kind, .bool txn, .string text] 55)) := (Below.refl _ _).alloc (by first | omega | (simp; done) | (simp; omega)) _
  have b_bx1 : Blk (w.alloc (.cells #[.int .i64 ep, .int .i64 pid, .int .i64 ver, .int .i64 seq, .int .i64 kind, .bool txn, .string text] 55)) (w.heap.size) 55 #[.int .i64 ep, .int .i64 pid, .int .i64 ver, .int .i64 seq, .int .i64 kind, .bool txn, .string text] := Blk.new_ _ 55 #[.int .i64 ep, .int .i64 pid, .int .i64 ver, .int .i64 seq, .int .i64 kind, .bool txn, .string text] (by first | rfl | (simp; done) | (simp; omega))
  have hz1 : w.heap.size + 1 ≤ (w.alloc (.cells #[.int .i64 ep, .int .i64 pid, .int .i64 ver, .int .i64 seq, .int .i64 kind, .bool txn, .string text] 55)).heap.size := by first | omega | (simp; done) | (simp; omega)
  generalize w.alloc (.cells #[.int .i64 ep, .int .i64 pid, .int .i64 ver, .int .i64 seq, .int .i64 kind, .bool txn, .string text] 55) = W1 at *
  have HB1 := Lib.hid hb1
  have B1_bx := Lib.hid b_bx1
  clear hb1 b_bx1
  have c_bx0 := B1_bx.out.cell 0
  have c_bx1 := B1_bx.out.cell 1
  have c_bx2 := B1_bx.out.cell 2
  have c_bx3 := B1_bx.out.cell 3
  have c_bx4 := B1_bx.out.cell 4
  have c_bx5 := B1_bx.out.cell 5
  have c_bx6 := B1_bx.out.cell 6
  have l_bx := B1_bx.out.lt
  go_wp2_with fail
  clear c_bx0 c_bx1 c_bx2 c_bx3 c_bx4 c_bx5 c_bx6 l_bx
  have c_bx1 := B1_bx.out.cell 1
  have l_bx := B1_bx.out.lt
  refine wp_region_held_drew (S := fun w0 => w0.cell? ⟨w.heap.size, 1, none⟩ = some (.int .i64 pid)) (by kernel_rfl) ?_ (fun hHeld => ?_)
  · exact c_bx1
  clear c_bx1 l_bx
  generalize hd : World.drew W1 = W2 at *
  have hb : Below W1.heap.size W1 W2 := by rw [← hd]; exact (Below.refl _ _).drew
  have hb2 : Below w.heap.size w W2 := below_then HB1.out hb
  have b_bx2 := B1_bx.out.below hb B1_bx.out.lt
  have hz2 := hb.size
  have HB2 := Lib.hid hb2
  have B2_bx := Lib.hid b_bx2
  clear hb2 b_bx2
  clear B1_bx HB1
  clear hd hb
  refine wpAnyH_take (i := 0) (v := ?_) rfl (by kernel_rfl) (by kernel_rfl) (by kernel_rfl) (fun _ _ _ h => h) (Or.inl ⟨by rfl, ?_⟩) (by assumption) ?_
  rotate_left
  · intro w0 hSw
    (try dsimp only at hSw)
    go_simp
    all_goals with_reducible rfl
  try simp only [Act.put, List.getElem_toArray, List.getElem_cons_zero, List.setIfInBounds_toArray, List.set_cons_zero, List.set_cons_succ]
  refine wpAnyH_take (i := 2) (v := ?_) rfl (by kernel_rfl) (by kernel_rfl) (by kernel_rfl) (fun _ _ _ h => h) (Or.inl ⟨by rfl, ?_⟩) (by assumption) ?_
  rotate_left
  · intro w0 hSw
    (try dsimp only at hSw)
    go_simp
    all_goals with_reducible rfl
  try simp only [Act.put, List.getElem_toArray, List.getElem_cons_zero, List.getElem_cons_succ, List.setIfInBounds_toArray, List.set_cons_zero, List.set_cons_succ]
  refine wpAnyH_take (i := 3) (v := ?_) rfl (by kernel_rfl) (by kernel_rfl) (by kernel_rfl) (fun _ _ _ h => h) (Or.inl ⟨by rfl, ?_⟩) (by assumption) ?_
  rotate_left
  · intro w0 hSw
    (try dsimp only at hSw)
    go_simp
    all_goals with_reducible rfl
  try simp only [Act.put, List.getElem_toArray, List.getElem_cons_zero, List.getElem_cons_succ, List.setIfInBounds_toArray, List.set_cons_zero, List.set_cons_succ]
  refine wpAnyH_ready (rs := [1]) (by kernel_rfl) (by simp) (AllReadyH.cons rfl (fun K hK => ?_) AllReadyH.nil)
  go_simp
  go_at_call 108
  refine (replay_any _ es _ (H.out.below HB2.out) HP.out hl).mono ?_
  rintro e W3 ⟨M, f, rfl, hm, hb, hM⟩
  have HM := Lib.hid hm
  clear hm
  have hb3 : Below w.heap.size w W3 := below_then HB2.out hb
  have b_bx3 := B2_bx.out.below hb B2_bx.out.lt
  have hz3 := hb.size
  have HB3 := Lib.hid hb3
  have B3_bx := Lib.hid b_bx3
  clear hb3 b_bx3
  clear B2_bx HB2
  refine hK.out _ _ ?_ (fun hHeld => ?_)
  · exact (B3_bx.out).cell 1
  clear hK K
  try simp only [Act.put, List.getElem_toArray, List.getElem_cons_zero, List.getElem_cons_succ, List.setIfInBounds_toArray, List.set_cons_zero, List.set_cons_succ]
  rcases hf : f pid with _ | b
  · have hrun := HM.out.look HWF.out hf
    simp only [ptrV] at hrun
    have hgn := HM.out.none_ pid hf
    have HGN := Lib.hid hgn
    clear hgn
    have HF := Lib.hid hf
    clear hf
    refine wpAnyH_ready (rs := [4]) (by kernel_rfl) (by simp) (AllReadyH.cons rfl (fun K hK => ?_) AllReadyH.nil)
    go_simp
    refine hK.out _ _ ?_ (fun hHeld => ?_)
    · assumption
    clear hK K
    try simp only [Act.put, List.getElem_toArray, List.getElem_cons_zero, List.getElem_cons_succ, List.setIfInBounds_toArray, List.set_cons_zero, List.set_cons_succ]
    clear hrun
    refine wpAnyH_take (i := 5) (v := ?_) rfl (by kernel_rfl) (by kernel_rfl) (by kernel_rfl) (fun _ _ _ h => h) (Or.inl ⟨by rfl, ?_⟩) (by assumption) ?_
    rotate_left
    · intro w0 hSw
      (try dsimp only at hSw)
      go_simp
      all_goals with_reducible rfl
    try simp only [Act.put, List.getElem_toArray, List.getElem_cons_zero, List.getElem_cons_succ, List.setIfInBounds_toArray, List.set_cons_zero, List.set_cons_succ]
    refine wpAnyH_done (by kernel_rfl) ?_ _
    have c_bx0 := B3_bx.out.cell 0
    have c_bx1 := B3_bx.out.cell 1
    have c_bx2 := B3_bx.out.cell 2
    have c_bx3 := B3_bx.out.cell 3
    have c_bx4 := B3_bx.out.cell 4
    have c_bx5 := B3_bx.out.cell 5
    have c_bx6 := B3_bx.out.cell 6
    have l_bx := B3_bx.out.lt
    go_upto_region 6 with fail
    clear c_bx0 c_bx1 c_bx2 c_bx3 c_bx4 c_bx5 c_bx6 l_bx
    have hsz4 := HB3.out.size
    have hb4 : Below w.heap.size w (W3.alloc (.cells #[.int .i64 ver, .int .i64 (-1), .int .i64 (-1), .int .i64 (-1)] 110)) := (HB3.out).alloc (by first | omega | (simp; done) | (simp; omega)) _
    have hal4 : Below W3.heap.size W3 (W3.alloc (.cells #[.int .i64 ver, .int .i64 (-1), .int .i64 (-1), .int .i64 (-1)] 110)) := (Below.refl _ _).alloc (by first | omega | (simp; done) | (simp; omega)) _
    have b_bx4 : Blk (W3.alloc (.cells #[.int .i64 ver, .int .i64 (-1), .int .i64 (-1), .int .i64 (-1)] 110)) (w.heap.size) 55 #[.int .i64 ep, .int .i64 pid, .int .i64 ver, .int .i64 seq, .int .i64 kind, .bool txn, .string text] := (B3_bx.out).alloc _
    have b_bp4 : Blk (W3.alloc (.cells #[.int .i64 ver, .int .i64 (-1), .int .i64 (-1), .int .i64 (-1)] 110)) (W3.heap.size) 110 #[.int .i64 ver, .int .i64 (-1), .int .i64 (-1), .int .i64 (-1)] := Blk.new_ _ 110 #[.int .i64 ver, .int .i64 (-1), .int .i64 (-1), .int .i64 (-1)] (by first | rfl | (simp; done) | (simp; omega))
    have hz4 : W3.heap.size + 1 ≤ (W3.alloc (.cells #[.int .i64 ver, .int .i64 (-1), .int .i64 (-1), .int .i64 (-1)] 110)).heap.size := by first | omega | (simp; done) | (simp; omega)
    generalize W3.alloc (.cells #[.int .i64 ver, .int .i64 (-1), .int .i64 (-1), .int .i64 (-1)] 110) = W4 at *
    have HB4 := Lib.hid hb4
    have B4_bx := Lib.hid b_bx4
    have B4_bp := Lib.hid b_bp4
    clear hb4 b_bx4 b_bp4
    clear B3_bx HB3
    have hbp : Blk W4 (W3.heap.size) 110 #[.int .i64 qv, .int .i64 qs, .int .i64 qo, .int .i64 (m : Int)] := by
      have he := HDF.out
      rw [HGN.out] at he
      simp only [Option.getD_none, PrD.mk.injEq] at he
      rw [he.1, he.2.1, he.2.2.1, he.2.2.2]
      exact B4_bp.out
    have HBP := Lib.hid hbp
    clear hbp B4_bp
    have hbb : w.heap.size ≤ W3.heap.size := by omega
    have c_bx2 := B4_bx.out.cell 2
    have l_bx := B4_bx.out.lt
    have c_bp0 := HBP.out.cell 0
    have l_bp := HBP.out.lt
    go_quiet (fail)
    clear c_bx2 l_bx c_bp0 l_bp
    generalize hd : World.drewN W4 _ = W5 at *
    have hb : Below W4.heap.size W4 W5 := by rw [← hd]; exact below_dn _ _
    have hb5 : Below w.heap.size w W5 := below_then HB4.out hb
    have b_bx5 := B4_bx.out.below hb B4_bx.out.lt
    have b_bp5 := HBP.out.below hb HBP.out.lt
    have hz5 := hb.size
    have HB5 := Lib.hid hb5
    have B5_bx := Lib.hid b_bx5
    have B5_bp := Lib.hid b_bp5
    clear hb5 b_bx5 b_bp5
    clear B4_bx HBP HB4
    clear hd hb
    have c_bx2 := B5_bx.out.cell 2
    have l_bx := B5_bx.out.lt
    have c_bp0 := B5_bp.out.cell 0
    have l_bp := B5_bp.out.lt
    have c_bx4 := B5_bx.out.cell 4
    have l_bx := B5_bx.out.lt
    go_wp2_with fail
    clear c_bx2 l_bx c_bp0 l_bp c_bx4
    have y2 := (HB5.out.cell (p := ⟨b1, o1 + m * 7 + 2, none⟩) hb1).trans XC.out.1
    have y4 := (HB5.out.cell (p := ⟨b1, o1 + m * 7 + 4, none⟩) hb1).trans XC.out.2
    have yl := Nat.lt_of_lt_of_le hb1 HB5.out.size
    have c_bx2 := B5_bx.out.cell 2
    have c_bx4 := B5_bx.out.cell 4
    have l_bx := B5_bx.out.lt
    have c_bp2 := B5_bp.out.cell 2
    have c_bp3 := B5_bp.out.cell 3
    have l_bp := B5_bp.out.lt
    go_quiet (fail)
    clear y2 y4 yl c_bx2 c_bx4 l_bx c_bp2 c_bp3 l_bp
    generalize hd : World.drewN W5 _ = W6 at *
    have hb : Below W5.heap.size W5 W6 := by rw [← hd]; exact below_dn _ _
    have hb6 : Below w.heap.size w W6 := below_then HB5.out hb
    have b_bx6 := B5_bx.out.below hb B5_bx.out.lt
    have b_bp6 := B5_bp.out.below hb B5_bp.out.lt
    have hz6 := hb.size
    have HB6 := Lib.hid hb6
    have B6_bx := Lib.hid b_bx6
    have B6_bp := Lib.hid b_bp6
    clear hb6 b_bx6 b_bp6
    clear B5_bx B5_bp HB5
    clear hd hb
    have c_bp3 := B6_bp.out.cell 3
    have l_bp := B6_bp.out.lt
    go_wp2
    go_ret2
    exact ⟨rfl, HB6.out⟩
  · have hrun := HM.out.look HWF.out hf
    simp only [ptrV] at hrun
    obtain ⟨hbb, q9, hq9, hbq⟩ := HM.out.blk pid b hf
    have he : (⟨ qv,  qs,  qo,  (m : Int)⟩ : PrD) = q9 := by rw [HDF.out, hq9]; rfl
    rw [← he] at hbq
    have hbp : Blk W3 b 110 #[.int .i64 qv, .int .i64 qs, .int .i64 qo, .int .i64 (m : Int)] := hbq
    have HBP := Lib.hid hbp
    clear hbq hbp he hq9
    have HF := Lib.hid hf
    clear hf
    refine wpAnyH_ready (rs := [4]) (by kernel_rfl) (by simp) (AllReadyH.cons rfl (fun K hK => ?_) AllReadyH.nil)
    go_simp
    refine hK.out _ _ ?_ (fun hHeld => ?_)
    · assumption
    clear hK K
    try simp only [Act.put, List.getElem_toArray, List.getElem_cons_zero, List.getElem_cons_succ, List.setIfInBounds_toArray, List.set_cons_zero, List.set_cons_succ]
    clear hrun
    refine wpAnyH_take (i := 5) (v := ?_) rfl (by kernel_rfl) (by kernel_rfl) (by kernel_rfl) (fun _ _ _ h => h) (Or.inl ⟨by rfl, ?_⟩) (by assumption) ?_
    rotate_left
    · intro w0 hSw
      (try dsimp only at hSw)
      go_simp
      all_goals with_reducible rfl
    try simp only [Act.put, List.getElem_toArray, List.getElem_cons_zero, List.getElem_cons_succ, List.setIfInBounds_toArray, List.set_cons_zero, List.set_cons_succ]
    refine wpAnyH_done (by kernel_rfl) ?_ _
    go_upto_region 6 with fail
    have c_bx2 := B3_bx.out.cell 2
    have l_bx := B3_bx.out.lt
    have c_bp0 := HBP.out.cell 0
    have l_bp := HBP.out.lt
    go_quiet (fail)
    clear c_bx2 l_bx c_bp0 l_bp
    generalize hd : World.drewN W3 _ = W4 at *
    have hb : Below W3.heap.size W3 W4 := by rw [← hd]; exact below_dn _ _
    have hb4 : Below w.heap.size w W4 := below_then HB3.out hb
    have b_bx4 := B3_bx.out.below hb B3_bx.out.lt
    have b_bp4 := HBP.out.below hb HBP.out.lt
    have hz4 := hb.size
    have HB4 := Lib.hid hb4
    have B4_bx := Lib.hid b_bx4
    have B4_bp := Lib.hid b_bp4
    clear hb4 b_bx4 b_bp4
    clear B3_bx HBP HB3
    clear hd hb
    have c_bx2 := B4_bx.out.cell 2
    have l_bx := B4_bx.out.lt
    have c_bp0 := B4_bp.out.cell 0
    have l_bp := B4_bp.out.lt
    have c_bx4 := B4_bx.out.cell 4
    have l_bx := B4_bx.out.lt
    go_wp2_with fail
    clear c_bx2 l_bx c_bp0 l_bp c_bx4
    have y2 := (HB4.out.cell (p := ⟨b1, o1 + m * 7 + 2, none⟩) hb1).trans XC.out.1
    have y4 := (HB4.out.cell (p := ⟨b1, o1 + m * 7 + 4, none⟩) hb1).trans XC.out.2
    have yl := Nat.lt_of_lt_of_le hb1 HB4.out.size
    have c_bx2 := B4_bx.out.cell 2
    have c_bx4 := B4_bx.out.cell 4
    have l_bx := B4_bx.out.lt
    have c_bp2 := B4_bp.out.cell 2
    have c_bp3 := B4_bp.out.cell 3
    have l_bp := B4_bp.out.lt
    go_quiet (fail)
    clear y2 y4 yl c_bx2 c_bx4 l_bx c_bp2 c_bp3 l_bp
    generalize hd : World.drewN W4 _ = W5 at *
    have hb : Below W4.heap.size W4 W5 := by rw [← hd]; exact below_dn _ _
    have hb5 : Below w.heap.size w W5 := below_then HB4.out hb
    have b_bx5 := B4_bx.out.below hb B4_bx.out.lt
    have b_bp5 := B4_bp.out.below hb B4_bp.out.lt
    have hz5 := hb.size
    have HB5 := Lib.hid hb5
    have B5_bx := Lib.hid b_bx5
    have B5_bp := Lib.hid b_bp5
    clear hb5 b_bx5 b_bp5
    clear B4_bx B4_bp HB4
    clear hd hb
    have c_bp3 := B5_bp.out.cell 3
    have l_bp := B5_bp.out.lt
    go_wp2
    go_ret2
    exact ⟨rfl, HB5.out⟩
set_option maxRecDepth 100000 in
set_option maxHeartbeats 4000000 in
theorem check_mver (v : Value) (es : List Ent) (x : Ent) (w : World) (h : Es w v es) (hp : PlainE es) (hl : es.length ≤ 9223372036854775806) (hx : 0 ≤ x.ver ∧ x.ver ≤ 1073741824 ∧ 0 ≤ x.seq ∧ x.seq ≤ 1073741824 ∧ 0 ≤ x.pid ∧ x.pid ≤ 1073741824) (h0 : x.pid ≠ 0) (q : PrD) (hq : q = prOf es x) (hf : ¬ x.ver < q.ver) (hk : x.kind ≠ 1) (ho : q.opn < 0) (m : Nat) (hm : q.mark = m ∧ m < es.length) (h1 : ∀ hm : m < es.length, es[m].kind = x.kind) (h2 : ∀ hm : m < es.length, es[m].ver ≠ x.ver) :
    Calls Try.prog 96 #[v, .agg #[.int .i64 x.ep, .int .i64 x.pid, .int .i64 x.ver, .int .i64 x.seq, .int .i64 x.kind, .bool x.txn, .string x.text]] w fun e w' => e = .returned (.tuple #[.int .i64 (-1), .int .i64 0]) ∧ Below w.heap.size w w' := by
  obtain ⟨A, c, rfl, hc, hx1⟩ := h.at_
  have HX := Lib.hid hx1
  have H := Lib.hid h
  have HP := Lib.hid hp
  obtain ⟨x0, x1, x2, x3, x4, x5⟩ := hx
  obtain ⟨k1, k2, k3, k4⟩ := prOf_known hp x
  have hdef : prOf es x = (prTo es x.pid es.length).getD ⟨x.ver, -1, -1, -1⟩ := rfl
  have hgd : prG es es.length x.pid = prTo es x.pid es.length := by unfold prG; rw [if_neg h0]
  rw [hgd.symm] at hdef
  rw [← hq] at k1 k2 k3 k4 hdef
  have z1 : (x.pid == 0) = false := beq_eq_false_iff_ne.2 h0
  have hwf : (Lit.int .i64 x.pid).wf = true := WalkArith.wf_i64 (by omega)
  have HWF := Lib.hid hwf
  have HDF := Lib.hid hdef
  clear h hx1 hp hq hgd hwf hdef h0
  have z2 : decide (x.ver < q.ver) = false := decide_eq_false hf
  clear hf
  have z3 : (x.kind != 1) = true := by simpa using hk
  clear hk
  have z4 : decide (q.opn < 0) = true := decide_eq_true ho
  clear ho
  have hml : m < es.length := hm.2
  have m0 : (0 : Int) ≤ (m : Int) := by omega
  have m1 : (m : Int) < (es.length : Int) := by omega
  have z5 : decide (0 ≤ q.mark) = true := decide_eq_true (by omega)
  obtain ⟨b1, o1, rfl, hb1, hcell⟩ := HX.out (by omega)
  obtain ⟨-, -, y2, -, y4, -, -⟩ := hcell m hml
  have XC := Lib.hid (And.intro y2 y4)
  clear hcell y2 y4 HX
  have z6 : (es[m].kind == x.kind) = true := beq_iff_eq.2 (h1 hml)
  have z7 : (es[m].ver == x.ver) = false := beq_eq_false_iff_ne.2 (h2 hml)
  clear h1 h2
  have hqm := hm.1
  clear hm
  obtain ⟨ep, pid, ver, seq, kind, txn, text⟩ := x
  obtain ⟨qv, qs, qo, qm⟩ := q
  simp only at *
  subst hqm
  generalize es[m].kind = mk at *
  generalize es[m].ver = mv at *
  go_enter Try.func96, Try.ntmps96
  go_wp2_with fail
  have hb1 : Below w.heap.size w (w.alloc (.cells #[.int .i64 ep, .int .i64 pid, .int .i64 ver, .int .i64 seq, .int .i64 kind, .bool txn, .string text] 55)) := (Below.refl _ _).alloc (by first | omega | (simp; done) | (simp; omega)) _
  have hal1 : Below w.heap.size w (w.alloc (.cells #[.int .i64 ep, .int .i64 pid, .int .i64 ver, .int .i64 seq, .int .i64 kind, .bool txn, .string text] 55)) := (Below.refl _ _).alloc (by first | omega | (simp; done) | (simp; omega)) _
  have b_bx1 : Blk (w.alloc (.cells #[.int .i64 ep, .int .i64 pid, .int .i64 ver, .int .i64 seq, .int .i64 kind, .bool txn, .string text] 55)) (w.heap.size) 55 #[.int .i64 ep, .int .i64 pid, .int .i64 ver, .int .i64 seq, .int .i64 kind, .bool txn, .string text] := Blk.new_ _ 55 #[.int .i64 ep, .int .i64 pid, .int .i64 ver, .int .i64 seq, .int .i64 kind, .bool txn, .string text] (by first | rfl | (simp; done) | (simp; omega))
  have hz1 : w.heap.size + 1 ≤ (w.alloc (.cells #[.int .i64 ep, .int .i64 pid, .int .i64 ver, .int .i64 seq, .int .i64 kind, .bool txn, .string text] 55)).heap.size := by first | omega | (simp; done) | (simp; omega)
  generalize w.alloc (.cells #[.int .i64 ep, .int .i64 pid, .int .i64 ver, .int .i64 seq, .int .i64 kind, .bool txn, .string text] 55) = W1 at *
  have HB1 := Lib.hid hb1
  have B1_bx := Lib.hid b_bx1
  clear hb1 b_bx1
  have c_bx0 := B1_bx.out.cell 0
  have c_bx1 := B1_bx.out.cell 1
  have c_bx2 := B1_bx.out.cell 2
  have c_bx3 := B1_bx.out.cell 3
  have c_bx4 := B1_bx.out.cell 4
  have c_bx5 := B1_bx.out.cell 5
  have c_bx6 := B1_bx.out.cell 6
  have l_bx := B1_bx.out.lt
  go_wp2_with fail
  clear c_bx0 c_bx1 c_bx2 c_bx3 c_bx4 c_bx5 c_bx6 l_bx
  have c_bx1 := B1_bx.out.cell 1
  have l_bx := B1_bx.out.lt
  refine wp_region_held_drew (S := fun w0 => w0.cell? ⟨w.heap.size, 1, none⟩ = some (.int .i64 pid)) (by kernel_rfl) ?_ (fun hHeld => ?_)
  · exact c_bx1
  clear c_bx1 l_bx
  generalize hd : World.drew W1 = W2 at *
  have hb : Below W1.heap.size W1 W2 := by rw [← hd]; exact (Below.refl _ _).drew
  have hb2 : Below w.heap.size w W2 := below_then HB1.out hb
  have b_bx2 := B1_bx.out.below hb B1_bx.out.lt
  have hz2 := hb.size
  have HB2 := Lib.hid hb2
  have B2_bx := Lib.hid b_bx2
  clear hb2 b_bx2
  clear B1_bx HB1
  clear hd hb
  refine wpAnyH_take (i := 0) (v := ?_) rfl (by kernel_rfl) (by kernel_rfl) (by kernel_rfl) (fun _ _ _ h => h) (Or.inl ⟨by rfl, ?_⟩) (by assumption) ?_
  rotate_left
  · intro w0 hSw
    (try dsimp only at hSw)
    go_simp
    all_goals with_reducible rfl
  try simp only [Act.put, List.getElem_toArray, List.getElem_cons_zero, List.setIfInBounds_toArray, List.set_cons_zero, List.set_cons_succ]
  refine wpAnyH_take (i := 2) (v := ?_) rfl (by kernel_rfl) (by kernel_rfl) (by kernel_rfl) (fun _ _ _ h => h) (Or.inl ⟨by rfl, ?_⟩) (by assumption) ?_
  rotate_left
  · intro w0 hSw
    (try dsimp only at hSw)
    go_simp
    all_goals with_reducible rfl
  try simp only [Act.put, List.getElem_toArray, List.getElem_cons_zero, List.getElem_cons_succ, List.setIfInBounds_toArray, List.set_cons_zero, List.set_cons_succ]
  refine wpAnyH_take (i := 3) (v := ?_) rfl (by kernel_rfl) (by kernel_rfl) (by kernel_rfl) (fun _ _ _ h => h) (Or.inl ⟨by rfl, ?_⟩) (by assumption) ?_
  rotate_left
  · intro w0 hSw
    (try dsimp only at hSw)
    go_simp
    all_goals with_reducible rfl
  try simp only [Act.put, List.getElem_toArray, List.getElem_cons_zero, List.getElem_cons_succ, List.setIfInBounds_toArray, List.set_cons_zero, List.set_cons_succ]
  refine wpAnyH_ready (rs := [1]) (by kernel_rfl) (by simp) (AllReadyH.cons rfl (fun K hK => ?_) AllReadyH.nil)
  go_simp
  go_at_call 108
  refine (replay_any _ es _ (H.out.below HB2.out) HP.out hl).mono ?_
  rintro e W3 ⟨M, f, rfl, hm, hb, hM⟩
  have HM := Lib.hid hm
  clear hm
  have hb3 : Below w.heap.size w W3 := below_then HB2.out hb
  have b_bx3 := B2_bx.out.below hb B2_bx.out.lt
  have hz3 := hb.size
  have HB3 := Lib.hid hb3
  have B3_bx := Lib.hid b_bx3
  clear hb3 b_bx3
  clear B2_bx HB2
  refine hK.out _ _ ?_ (fun hHeld => ?_)
  · exact (B3_bx.out).cell 1
  clear hK K
  try simp only [Act.put, List.getElem_toArray, List.getElem_cons_zero, List.getElem_cons_succ, List.setIfInBounds_toArray, List.set_cons_zero, List.set_cons_succ]
  rcases hf : f pid with _ | b
  · have hrun := HM.out.look HWF.out hf
    simp only [ptrV] at hrun
    have hgn := HM.out.none_ pid hf
    have HGN := Lib.hid hgn
    clear hgn
    have HF := Lib.hid hf
    clear hf
    refine wpAnyH_ready (rs := [4]) (by kernel_rfl) (by simp) (AllReadyH.cons rfl (fun K hK => ?_) AllReadyH.nil)
    go_simp
    refine hK.out _ _ ?_ (fun hHeld => ?_)
    · assumption
    clear hK K
    try simp only [Act.put, List.getElem_toArray, List.getElem_cons_zero, List.getElem_cons_succ, List.setIfInBounds_toArray, List.set_cons_zero, List.set_cons_succ]
    clear hrun
    refine wpAnyH_take (i := 5) (v := ?_) rfl (by kernel_rfl) (by kernel_rfl) (by kernel_rfl) (fun _ _ _ h => h) (Or.inl ⟨by rfl, ?_⟩) (by assumption) ?_
    rotate_left
    · intro w0 hSw
      (try dsimp only at hSw)
      go_simp
      all_goals with_reducible rfl
    try simp only [Act.put, List.getElem_toArray, List.getElem_cons_zero, List.getElem_cons_succ, List.setIfInBounds_toArray, List.set_cons_zero, List.set_cons_succ]
    refine wpAnyH_done (by kernel_rfl) ?_ _
    have c_bx0 := B3_bx.out.cell 0
    have c_bx1 := B3_bx.out.cell 1
    have c_bx2 := B3_bx.out.cell 2
    have c_bx3 := B3_bx.out.cell 3
    have c_bx4 := B3_bx.out.cell 4
    have c_bx5 := B3_bx.out.cell 5
    have c_bx6 := B3_bx.out.cell 6
    have l_bx := B3_bx.out.lt
    go_upto_region 6 with fail
    clear c_bx0 c_bx1 c_bx2 c_bx3 c_bx4 c_bx5 c_bx6 l_bx
    have hsz4 := HB3.out.size
    have hb4 : Below w.heap.size w (W3.alloc (.cells #[.int .i64 ver, .int .i64 (-1), .int .i64 (-1), .int .i64 (-1)] 110)) := (HB3.out).alloc (by first | omega | (simp; done) | (simp; omega)) _
    have hal4 : Below W3.heap.size W3 (W3.alloc (.cells #[.int .i64 ver, .int .i64 (-1), .int .i64 (-1), .int .i64 (-1)] 110)) := (Below.refl _ _).alloc (by first | omega | (simp; done) | (simp; omega)) _
    have b_bx4 : Blk (W3.alloc (.cells #[.int .i64 ver, .int .i64 (-1), .int .i64 (-1), .int .i64 (-1)] 110)) (w.heap.size) 55 #[.int .i64 ep, .int .i64 pid, .int .i64 ver, .int .i64 seq, .int .i64 kind, .bool txn, .string text] := (B3_bx.out).alloc _
    have b_bp4 : Blk (W3.alloc (.cells #[.int .i64 ver, .int .i64 (-1), .int .i64 (-1), .int .i64 (-1)] 110)) (W3.heap.size) 110 #[.int .i64 ver, .int .i64 (-1), .int .i64 (-1), .int .i64 (-1)] := Blk.new_ _ 110 #[.int .i64 ver, .int .i64 (-1), .int .i64 (-1), .int .i64 (-1)] (by first | rfl | (simp; done) | (simp; omega))
    have hz4 : W3.heap.size + 1 ≤ (W3.alloc (.cells #[.int .i64 ver, .int .i64 (-1), .int .i64 (-1), .int .i64 (-1)] 110)).heap.size := by first | omega | (simp; done) | (simp; omega)
    generalize W3.alloc (.cells #[.int .i64 ver, .int .i64 (-1), .int .i64 (-1), .int .i64 (-1)] 110) = W4 at *
    have HB4 := Lib.hid hb4
    have B4_bx := Lib.hid b_bx4
    have B4_bp := Lib.hid b_bp4
    clear hb4 b_bx4 b_bp4
    clear B3_bx HB3
    have hbp : Blk W4 (W3.heap.size) 110 #[.int .i64 qv, .int .i64 qs, .int .i64 qo, .int .i64 (m : Int)] := by
      have he := HDF.out
      rw [HGN.out] at he
      simp only [Option.getD_none, PrD.mk.injEq] at he
      rw [he.1, he.2.1, he.2.2.1, he.2.2.2]
      exact B4_bp.out
    have HBP := Lib.hid hbp
    clear hbp B4_bp
    have hbb : w.heap.size ≤ W3.heap.size := by omega
    have c_bx2 := B4_bx.out.cell 2
    have l_bx := B4_bx.out.lt
    have c_bp0 := HBP.out.cell 0
    have l_bp := HBP.out.lt
    go_quiet (fail)
    clear c_bx2 l_bx c_bp0 l_bp
    generalize hd : World.drewN W4 _ = W5 at *
    have hb : Below W4.heap.size W4 W5 := by rw [← hd]; exact below_dn _ _
    have hb5 : Below w.heap.size w W5 := below_then HB4.out hb
    have b_bx5 := B4_bx.out.below hb B4_bx.out.lt
    have b_bp5 := HBP.out.below hb HBP.out.lt
    have hz5 := hb.size
    have HB5 := Lib.hid hb5
    have B5_bx := Lib.hid b_bx5
    have B5_bp := Lib.hid b_bp5
    clear hb5 b_bx5 b_bp5
    clear B4_bx HBP HB4
    clear hd hb
    have c_bx2 := B5_bx.out.cell 2
    have l_bx := B5_bx.out.lt
    have c_bp0 := B5_bp.out.cell 0
    have l_bp := B5_bp.out.lt
    have c_bx4 := B5_bx.out.cell 4
    have l_bx := B5_bx.out.lt
    go_wp2_with fail
    clear c_bx2 l_bx c_bp0 l_bp c_bx4
    have y2 := (HB5.out.cell (p := ⟨b1, o1 + m * 7 + 2, none⟩) hb1).trans XC.out.1
    have y4 := (HB5.out.cell (p := ⟨b1, o1 + m * 7 + 4, none⟩) hb1).trans XC.out.2
    have yl := Nat.lt_of_lt_of_le hb1 HB5.out.size
    have c_bx2 := B5_bx.out.cell 2
    have c_bx4 := B5_bx.out.cell 4
    have l_bx := B5_bx.out.lt
    have c_bp2 := B5_bp.out.cell 2
    have c_bp3 := B5_bp.out.cell 3
    have l_bp := B5_bp.out.lt
    go_quiet (fail)
    clear y2 y4 yl c_bx2 c_bx4 l_bx c_bp2 c_bp3 l_bp
    generalize hd : World.drewN W5 _ = W6 at *
    have hb : Below W5.heap.size W5 W6 := by rw [← hd]; exact below_dn _ _
    have hb6 : Below w.heap.size w W6 := below_then HB5.out hb
    have b_bx6 := B5_bx.out.below hb B5_bx.out.lt
    have b_bp6 := B5_bp.out.below hb B5_bp.out.lt
    have hz6 := hb.size
    have HB6 := Lib.hid hb6
    have B6_bx := Lib.hid b_bx6
    have B6_bp := Lib.hid b_bp6
    clear hb6 b_bx6 b_bp6
    clear B5_bx B5_bp HB5
    clear hd hb
    have c_bp3 := B6_bp.out.cell 3
    have l_bp := B6_bp.out.lt
    go_wp2
    go_ret2
    exact ⟨rfl, HB6.out⟩
  · have hrun := HM.out.look HWF.out hf
    simp only [ptrV] at hrun
    obtain ⟨hbb, q9, hq9, hbq⟩ := HM.out.blk pid b hf
    have he : (⟨ qv,  qs,  qo,  (m : Int)⟩ : PrD) = q9 := by rw [HDF.out, hq9]; rfl
    rw [← he] at hbq
    have hbp : Blk W3 b 110 #[.int .i64 qv, .int .i64 qs, .int .i64 qo, .int .i64 (m : Int)] := hbq
    have HBP := Lib.hid hbp
    clear hbq hbp he hq9
    have HF := Lib.hid hf
    clear hf
    refine wpAnyH_ready (rs := [4]) (by kernel_rfl) (by simp) (AllReadyH.cons rfl (fun K hK => ?_) AllReadyH.nil)
    go_simp
    refine hK.out _ _ ?_ (fun hHeld => ?_)
    · assumption
    clear hK K
    try simp only [Act.put, List.getElem_toArray, List.getElem_cons_zero, List.getElem_cons_succ, List.setIfInBounds_toArray, List.set_cons_zero, List.set_cons_succ]
    clear hrun
    refine wpAnyH_take (i := 5) (v := ?_) rfl (by kernel_rfl) (by kernel_rfl) (by kernel_rfl) (fun _ _ _ h => h) (Or.inl ⟨by rfl, ?_⟩) (by assumption) ?_
    rotate_left
    · intro w0 hSw
      (try dsimp only at hSw)
      go_simp
      all_goals with_reducible rfl
    try simp only [Act.put, List.getElem_toArray, List.getElem_cons_zero, List.getElem_cons_succ, List.setIfInBounds_toArray, List.set_cons_zero, List.set_cons_succ]
    refine wpAnyH_done (by kernel_rfl) ?_ _
    go_upto_region 6 with fail
    have c_bx2 := B3_bx.out.cell 2
    have l_bx := B3_bx.out.lt
    have c_bp0 := HBP.out.cell 0
    have l_bp := HBP.out.lt
    go_quiet (fail)
    clear c_bx2 l_bx c_bp0 l_bp
    generalize hd : World.drewN W3 _ = W4 at *
    have hb : Below W3.heap.size W3 W4 := by rw [← hd]; exact below_dn _ _
    have hb4 : Below w.heap.size w W4 := below_then HB3.out hb
    have b_bx4 := B3_bx.out.below hb B3_bx.out.lt
    have b_bp4 := HBP.out.below hb HBP.out.lt
    have hz4 := hb.size
    have HB4 := Lib.hid hb4
    have B4_bx := Lib.hid b_bx4
    have B4_bp := Lib.hid b_bp4
    clear hb4 b_bx4 b_bp4
    clear B3_bx HBP HB3
    clear hd hb
    have c_bx2 := B4_bx.out.cell 2
    have l_bx := B4_bx.out.lt
    have c_bp0 := B4_bp.out.cell 0
    have l_bp := B4_bp.out.lt
    have c_bx4 := B4_bx.out.cell 4
    have l_bx := B4_bx.out.lt
    go_wp2_with fail
    clear c_bx2 l_bx c_bp0 l_bp c_bx4
    have y2 := (HB4.out.cell (p := ⟨b1, o1 + m * 7 + 2, none⟩) hb1).trans XC.out.1
    have y4 := (HB4.out.cell (p := ⟨b1, o1 + m * 7 + 4, none⟩) hb1).trans XC.out.2
    have yl := Nat.lt_of_lt_of_le hb1 HB4.out.size
    have c_bx2 := B4_bx.out.cell 2
    have c_bx4 := B4_bx.out.cell 4
    have l_bx := B4_bx.out.lt
    have c_bp2 := B4_bp.out.cell 2
    have c_bp3 := B4_bp.out.cell 3
    have l_bp := B4_bp.out.lt
    go_quiet (fail)
    clear y2 y4 yl c_bx2 c_bx4 l_bx c_bp2 c_bp3 l_bp
    generalize hd : World.drewN W4 _ = W5 at *
    have hb : Below W4.heap.size W4 W5 := by rw [← hd]; exact below_dn _ _
    have hb5 : Below w.heap.size w W5 := below_then HB4.out hb
    have b_bx5 := B4_bx.out.below hb B4_bx.out.lt
    have b_bp5 := B4_bp.out.below hb B4_bp.out.lt
    have hz5 := hb.size
    have HB5 := Lib.hid hb5
    have B5_bx := Lib.hid b_bx5
    have B5_bp := Lib.hid b_bp5
    clear hb5 b_bx5 b_bp5
    clear B4_bx B4_bp HB4
    clear hd hb
    have c_bp3 := B5_bp.out.cell 3
    have l_bp := B5_bp.out.lt
    go_wp2
    go_ret2
    exact ⟨rfl, HB5.out⟩
set_option maxRecDepth 100000 in
set_option maxHeartbeats 4000000 in
theorem check_mark (v : Value) (es : List Ent) (x : Ent) (w : World) (h : Es w v es) (hp : PlainE es) (hl : es.length ≤ 9223372036854775806) (hx : 0 ≤ x.ver ∧ x.ver ≤ 1073741824 ∧ 0 ≤ x.seq ∧ x.seq ≤ 1073741824 ∧ 0 ≤ x.pid ∧ x.pid ≤ 1073741824) (h0 : x.pid ≠ 0) (q : PrD) (hq : q = prOf es x) (hf : ¬ x.ver < q.ver) (hk : x.kind ≠ 1) (ho : q.opn < 0) (m : Nat) (hm : q.mark = m ∧ m < es.length) (h1 : ∀ hm : m < es.length, es[m].kind = x.kind) (h2 : ∀ hm : m < es.length, es[m].ver = x.ver) :
    Calls Try.prog 96 #[v, .agg #[.int .i64 x.ep, .int .i64 x.pid, .int .i64 x.ver, .int .i64 x.seq, .int .i64 x.kind, .bool x.txn, .string x.text]] w fun e w' => e = .returned (.tuple #[.int .i64 m, .int .i64 0]) ∧ Below w.heap.size w w' := by
  obtain ⟨A, c, rfl, hc, hx1⟩ := h.at_
  have HX := Lib.hid hx1
  have H := Lib.hid h
  have HP := Lib.hid hp
  obtain ⟨x0, x1, x2, x3, x4, x5⟩ := hx
  obtain ⟨k1, k2, k3, k4⟩ := prOf_known hp x
  have hdef : prOf es x = (prTo es x.pid es.length).getD ⟨x.ver, -1, -1, -1⟩ := rfl
  have hgd : prG es es.length x.pid = prTo es x.pid es.length := by unfold prG; rw [if_neg h0]
  rw [hgd.symm] at hdef
  rw [← hq] at k1 k2 k3 k4 hdef
  have z1 : (x.pid == 0) = false := beq_eq_false_iff_ne.2 h0
  have hwf : (Lit.int .i64 x.pid).wf = true := WalkArith.wf_i64 (by omega)
  have HWF := Lib.hid hwf
  have HDF := Lib.hid hdef
  clear h hx1 hp hq hgd hwf hdef h0
  have z2 : decide (x.ver < q.ver) = false := decide_eq_false hf
  clear hf
  have z3 : (x.kind != 1) = true := by simpa using hk
  clear hk
  have z4 : decide (q.opn < 0) = true := decide_eq_true ho
  clear ho
  have hml : m < es.length := hm.2
  have m0 : (0 : Int) ≤ (m : Int) := by omega
  have m1 : (m : Int) < (es.length : Int) := by omega
  have z5 : decide (0 ≤ q.mark) = true := decide_eq_true (by omega)
  obtain ⟨b1, o1, rfl, hb1, hcell⟩ := HX.out (by omega)
  obtain ⟨-, -, y2, -, y4, -, -⟩ := hcell m hml
  have XC := Lib.hid (And.intro y2 y4)
  clear hcell y2 y4 HX
  have z6 : (es[m].kind == x.kind) = true := beq_iff_eq.2 (h1 hml)
  have z7 : (es[m].ver == x.ver) = true := beq_iff_eq.2 (h2 hml)
  clear h1 h2
  have hqm := hm.1
  clear hm
  obtain ⟨ep, pid, ver, seq, kind, txn, text⟩ := x
  obtain ⟨qv, qs, qo, qm⟩ := q
  simp only at *
  subst hqm
  generalize es[m].kind = mk at *
  generalize es[m].ver = mv at *
  go_enter Try.func96, Try.ntmps96
  go_wp2_with fail
  have hb1 : Below w.heap.size w (w.alloc (.cells #[.int .i64 ep, .int .i64 pid, .int .i64 ver, .int .i64 seq, .int .i64 kind, .bool txn, .string text] 55)) := (Below.refl _ _).alloc (by first | omega | (simp; done) | (simp; omega)) _
  have hal1 : Below w.heap.size w (w.alloc (.cells #[.int .i64 ep, .int .i64 pid, .int .i64 ver, .int .i64 seq, .int .i64 kind, .bool txn, .string text] 55)) := (Below.refl _ _).alloc (by first | omega | (simp; done) | (simp; omega)) _
  have b_bx1 : Blk (w.alloc (.cells #[.int .i64 ep, .int .i64 pid, .int .i64 ver, .int .i64 seq, .int .i64 kind, .bool txn, .string text] 55)) (w.heap.size) 55 #[.int .i64 ep, .int .i64 pid, .int .i64 ver, .int .i64 seq, .int .i64 kind, .bool txn, .string text] := Blk.new_ _ 55 #[.int .i64 ep, .int .i64 pid, .int .i64 ver, .int .i64 seq, .int .i64 kind, .bool txn, .string text] (by first | rfl | (simp; done) | (simp; omega))
  have hz1 : w.heap.size + 1 ≤ (w.alloc (.cells #[.int .i64 ep, .int .i64 pid, .int .i64 ver, .int .i64 seq, .int .i64 kind, .bool txn, .string text] 55)).heap.size := by first | omega | (simp; done) | (simp; omega)
  generalize w.alloc (.cells #[.int .i64 ep, .int .i64 pid, .int .i64 ver, .int .i64 seq, .int .i64 kind, .bool txn, .string text] 55) = W1 at *
  have HB1 := Lib.hid hb1
  have B1_bx := Lib.hid b_bx1
  clear hb1 b_bx1
  have c_bx0 := B1_bx.out.cell 0
  have c_bx1 := B1_bx.out.cell 1
  have c_bx2 := B1_bx.out.cell 2
  have c_bx3 := B1_bx.out.cell 3
  have c_bx4 := B1_bx.out.cell 4
  have c_bx5 := B1_bx.out.cell 5
  have c_bx6 := B1_bx.out.cell 6
  have l_bx := B1_bx.out.lt
  go_wp2_with fail
  clear c_bx0 c_bx1 c_bx2 c_bx3 c_bx4 c_bx5 c_bx6 l_bx
  have c_bx1 := B1_bx.out.cell 1
  have l_bx := B1_bx.out.lt
  refine wp_region_held_drew (S := fun w0 => w0.cell? ⟨w.heap.size, 1, none⟩ = some (.int .i64 pid)) (by kernel_rfl) ?_ (fun hHeld => ?_)
  · exact c_bx1
  clear c_bx1 l_bx
  generalize hd : World.drew W1 = W2 at *
  have hb : Below W1.heap.size W1 W2 := by rw [← hd]; exact (Below.refl _ _).drew
  have hb2 : Below w.heap.size w W2 := below_then HB1.out hb
  have b_bx2 := B1_bx.out.below hb B1_bx.out.lt
  have hz2 := hb.size
  have HB2 := Lib.hid hb2
  have B2_bx := Lib.hid b_bx2
  clear hb2 b_bx2
  clear B1_bx HB1
  clear hd hb
  refine wpAnyH_take (i := 0) (v := ?_) rfl (by kernel_rfl) (by kernel_rfl) (by kernel_rfl) (fun _ _ _ h => h) (Or.inl ⟨by rfl, ?_⟩) (by assumption) ?_
  rotate_left
  · intro w0 hSw
    (try dsimp only at hSw)
    go_simp
    all_goals with_reducible rfl
  try simp only [Act.put, List.getElem_toArray, List.getElem_cons_zero, List.setIfInBounds_toArray, List.set_cons_zero, List.set_cons_succ]
  refine wpAnyH_take (i := 2) (v := ?_) rfl (by kernel_rfl) (by kernel_rfl) (by kernel_rfl) (fun _ _ _ h => h) (Or.inl ⟨by rfl, ?_⟩) (by assumption) ?_
  rotate_left
  · intro w0 hSw
    (try dsimp only at hSw)
    go_simp
    all_goals with_reducible rfl
  try simp only [Act.put, List.getElem_toArray, List.getElem_cons_zero, List.getElem_cons_succ, List.setIfInBounds_toArray, List.set_cons_zero, List.set_cons_succ]
  refine wpAnyH_take (i := 3) (v := ?_) rfl (by kernel_rfl) (by kernel_rfl) (by kernel_rfl) (fun _ _ _ h => h) (Or.inl ⟨by rfl, ?_⟩) (by assumption) ?_
  rotate_left
  · intro w0 hSw
    (try dsimp only at hSw)
    go_simp
    all_goals with_reducible rfl
  try simp only [Act.put, List.getElem_toArray, List.getElem_cons_zero, List.getElem_cons_succ, List.setIfInBounds_toArray, List.set_cons_zero, List.set_cons_succ]
  refine wpAnyH_ready (rs := [1]) (by kernel_rfl) (by simp) (AllReadyH.cons rfl (fun K hK => ?_) AllReadyH.nil)
  go_simp
  go_at_call 108
  refine (replay_any _ es _ (H.out.below HB2.out) HP.out hl).mono ?_
  rintro e W3 ⟨M, f, rfl, hm, hb, hM⟩
  have HM := Lib.hid hm
  clear hm
  have hb3 : Below w.heap.size w W3 := below_then HB2.out hb
  have b_bx3 := B2_bx.out.below hb B2_bx.out.lt
  have hz3 := hb.size
  have HB3 := Lib.hid hb3
  have B3_bx := Lib.hid b_bx3
  clear hb3 b_bx3
  clear B2_bx HB2
  refine hK.out _ _ ?_ (fun hHeld => ?_)
  · exact (B3_bx.out).cell 1
  clear hK K
  try simp only [Act.put, List.getElem_toArray, List.getElem_cons_zero, List.getElem_cons_succ, List.setIfInBounds_toArray, List.set_cons_zero, List.set_cons_succ]
  rcases hf : f pid with _ | b
  · have hrun := HM.out.look HWF.out hf
    simp only [ptrV] at hrun
    have hgn := HM.out.none_ pid hf
    have HGN := Lib.hid hgn
    clear hgn
    have HF := Lib.hid hf
    clear hf
    refine wpAnyH_ready (rs := [4]) (by kernel_rfl) (by simp) (AllReadyH.cons rfl (fun K hK => ?_) AllReadyH.nil)
    go_simp
    refine hK.out _ _ ?_ (fun hHeld => ?_)
    · assumption
    clear hK K
    try simp only [Act.put, List.getElem_toArray, List.getElem_cons_zero, List.getElem_cons_succ, List.setIfInBounds_toArray, List.set_cons_zero, List.set_cons_succ]
    clear hrun
    refine wpAnyH_take (i := 5) (v := ?_) rfl (by kernel_rfl) (by kernel_rfl) (by kernel_rfl) (fun _ _ _ h => h) (Or.inl ⟨by rfl, ?_⟩) (by assumption) ?_
    rotate_left
    · intro w0 hSw
      (try dsimp only at hSw)
      go_simp
      all_goals with_reducible rfl
    try simp only [Act.put, List.getElem_toArray, List.getElem_cons_zero, List.getElem_cons_succ, List.setIfInBounds_toArray, List.set_cons_zero, List.set_cons_succ]
    refine wpAnyH_done (by kernel_rfl) ?_ _
    have c_bx0 := B3_bx.out.cell 0
    have c_bx1 := B3_bx.out.cell 1
    have c_bx2 := B3_bx.out.cell 2
    have c_bx3 := B3_bx.out.cell 3
    have c_bx4 := B3_bx.out.cell 4
    have c_bx5 := B3_bx.out.cell 5
    have c_bx6 := B3_bx.out.cell 6
    have l_bx := B3_bx.out.lt
    go_upto_region 6 with fail
    clear c_bx0 c_bx1 c_bx2 c_bx3 c_bx4 c_bx5 c_bx6 l_bx
    have hsz4 := HB3.out.size
    have hb4 : Below w.heap.size w (W3.alloc (.cells #[.int .i64 ver, .int .i64 (-1), .int .i64 (-1), .int .i64 (-1)] 110)) := (HB3.out).alloc (by first | omega | (simp; done) | (simp; omega)) _
    have hal4 : Below W3.heap.size W3 (W3.alloc (.cells #[.int .i64 ver, .int .i64 (-1), .int .i64 (-1), .int .i64 (-1)] 110)) := (Below.refl _ _).alloc (by first | omega | (simp; done) | (simp; omega)) _
    have b_bx4 : Blk (W3.alloc (.cells #[.int .i64 ver, .int .i64 (-1), .int .i64 (-1), .int .i64 (-1)] 110)) (w.heap.size) 55 #[.int .i64 ep, .int .i64 pid, .int .i64 ver, .int .i64 seq, .int .i64 kind, .bool txn, .string text] := (B3_bx.out).alloc _
    have b_bp4 : Blk (W3.alloc (.cells #[.int .i64 ver, .int .i64 (-1), .int .i64 (-1), .int .i64 (-1)] 110)) (W3.heap.size) 110 #[.int .i64 ver, .int .i64 (-1), .int .i64 (-1), .int .i64 (-1)] := Blk.new_ _ 110 #[.int .i64 ver, .int .i64 (-1), .int .i64 (-1), .int .i64 (-1)] (by first | rfl | (simp; done) | (simp; omega))
    have hz4 : W3.heap.size + 1 ≤ (W3.alloc (.cells #[.int .i64 ver, .int .i64 (-1), .int .i64 (-1), .int .i64 (-1)] 110)).heap.size := by first | omega | (simp; done) | (simp; omega)
    generalize W3.alloc (.cells #[.int .i64 ver, .int .i64 (-1), .int .i64 (-1), .int .i64 (-1)] 110) = W4 at *
    have HB4 := Lib.hid hb4
    have B4_bx := Lib.hid b_bx4
    have B4_bp := Lib.hid b_bp4
    clear hb4 b_bx4 b_bp4
    clear B3_bx HB3
    have hbp : Blk W4 (W3.heap.size) 110 #[.int .i64 qv, .int .i64 qs, .int .i64 qo, .int .i64 (m : Int)] := by
      have he := HDF.out
      rw [HGN.out] at he
      simp only [Option.getD_none, PrD.mk.injEq] at he
      rw [he.1, he.2.1, he.2.2.1, he.2.2.2]
      exact B4_bp.out
    have HBP := Lib.hid hbp
    clear hbp B4_bp
    have hbb : w.heap.size ≤ W3.heap.size := by omega
    have c_bx2 := B4_bx.out.cell 2
    have l_bx := B4_bx.out.lt
    have c_bp0 := HBP.out.cell 0
    have l_bp := HBP.out.lt
    go_quiet (fail)
    clear c_bx2 l_bx c_bp0 l_bp
    generalize hd : World.drewN W4 _ = W5 at *
    have hb : Below W4.heap.size W4 W5 := by rw [← hd]; exact below_dn _ _
    have hb5 : Below w.heap.size w W5 := below_then HB4.out hb
    have b_bx5 := B4_bx.out.below hb B4_bx.out.lt
    have b_bp5 := HBP.out.below hb HBP.out.lt
    have hz5 := hb.size
    have HB5 := Lib.hid hb5
    have B5_bx := Lib.hid b_bx5
    have B5_bp := Lib.hid b_bp5
    clear hb5 b_bx5 b_bp5
    clear B4_bx HBP HB4
    clear hd hb
    have c_bx2 := B5_bx.out.cell 2
    have l_bx := B5_bx.out.lt
    have c_bp0 := B5_bp.out.cell 0
    have l_bp := B5_bp.out.lt
    have c_bx4 := B5_bx.out.cell 4
    have l_bx := B5_bx.out.lt
    go_wp2_with fail
    clear c_bx2 l_bx c_bp0 l_bp c_bx4
    have y2 := (HB5.out.cell (p := ⟨b1, o1 + m * 7 + 2, none⟩) hb1).trans XC.out.1
    have y4 := (HB5.out.cell (p := ⟨b1, o1 + m * 7 + 4, none⟩) hb1).trans XC.out.2
    have yl := Nat.lt_of_lt_of_le hb1 HB5.out.size
    have c_bx2 := B5_bx.out.cell 2
    have c_bx4 := B5_bx.out.cell 4
    have l_bx := B5_bx.out.lt
    have c_bp2 := B5_bp.out.cell 2
    have c_bp3 := B5_bp.out.cell 3
    have l_bp := B5_bp.out.lt
    go_quiet (fail)
    clear y2 y4 yl c_bx2 c_bx4 l_bx c_bp2 c_bp3 l_bp
    generalize hd : World.drewN W5 _ = W6 at *
    have hb : Below W5.heap.size W5 W6 := by rw [← hd]; exact below_dn _ _
    have hb6 : Below w.heap.size w W6 := below_then HB5.out hb
    have b_bx6 := B5_bx.out.below hb B5_bx.out.lt
    have b_bp6 := B5_bp.out.below hb B5_bp.out.lt
    have hz6 := hb.size
    have HB6 := Lib.hid hb6
    have B6_bx := Lib.hid b_bx6
    have B6_bp := Lib.hid b_bp6
    clear hb6 b_bx6 b_bp6
    clear B5_bx B5_bp HB5
    clear hd hb
    have c_bp3 := B6_bp.out.cell 3
    have l_bp := B6_bp.out.lt
    go_wp2
    go_ret2
    exact ⟨rfl, HB6.out⟩
  · have hrun := HM.out.look HWF.out hf
    simp only [ptrV] at hrun
    obtain ⟨hbb, q9, hq9, hbq⟩ := HM.out.blk pid b hf
    have he : (⟨ qv,  qs,  qo,  (m : Int)⟩ : PrD) = q9 := by rw [HDF.out, hq9]; rfl
    rw [← he] at hbq
    have hbp : Blk W3 b 110 #[.int .i64 qv, .int .i64 qs, .int .i64 qo, .int .i64 (m : Int)] := hbq
    have HBP := Lib.hid hbp
    clear hbq hbp he hq9
    have HF := Lib.hid hf
    clear hf
    refine wpAnyH_ready (rs := [4]) (by kernel_rfl) (by simp) (AllReadyH.cons rfl (fun K hK => ?_) AllReadyH.nil)
    go_simp
    refine hK.out _ _ ?_ (fun hHeld => ?_)
    · assumption
    clear hK K
    try simp only [Act.put, List.getElem_toArray, List.getElem_cons_zero, List.getElem_cons_succ, List.setIfInBounds_toArray, List.set_cons_zero, List.set_cons_succ]
    clear hrun
    refine wpAnyH_take (i := 5) (v := ?_) rfl (by kernel_rfl) (by kernel_rfl) (by kernel_rfl) (fun _ _ _ h => h) (Or.inl ⟨by rfl, ?_⟩) (by assumption) ?_
    rotate_left
    · intro w0 hSw
      (try dsimp only at hSw)
      go_simp
      all_goals with_reducible rfl
    try simp only [Act.put, List.getElem_toArray, List.getElem_cons_zero, List.getElem_cons_succ, List.setIfInBounds_toArray, List.set_cons_zero, List.set_cons_succ]
    refine wpAnyH_done (by kernel_rfl) ?_ _
    go_upto_region 6 with fail
    have c_bx2 := B3_bx.out.cell 2
    have l_bx := B3_bx.out.lt
    have c_bp0 := HBP.out.cell 0
    have l_bp := HBP.out.lt
    go_quiet (fail)
    clear c_bx2 l_bx c_bp0 l_bp
    generalize hd : World.drewN W3 _ = W4 at *
    have hb : Below W3.heap.size W3 W4 := by rw [← hd]; exact below_dn _ _
    have hb4 : Below w.heap.size w W4 := below_then HB3.out hb
    have b_bx4 := B3_bx.out.below hb B3_bx.out.lt
    have b_bp4 := HBP.out.below hb HBP.out.lt
    have hz4 := hb.size
    have HB4 := Lib.hid hb4
    have B4_bx := Lib.hid b_bx4
    have B4_bp := Lib.hid b_bp4
    clear hb4 b_bx4 b_bp4
    clear B3_bx HBP HB3
    clear hd hb
    have c_bx2 := B4_bx.out.cell 2
    have l_bx := B4_bx.out.lt
    have c_bp0 := B4_bp.out.cell 0
    have l_bp := B4_bp.out.lt
    have c_bx4 := B4_bx.out.cell 4
    have l_bx := B4_bx.out.lt
    go_wp2_with fail
    clear c_bx2 l_bx c_bp0 l_bp c_bx4
    have y2 := (HB4.out.cell (p := ⟨b1, o1 + m * 7 + 2, none⟩) hb1).trans XC.out.1
    have y4 := (HB4.out.cell (p := ⟨b1, o1 + m * 7 + 4, none⟩) hb1).trans XC.out.2
    have yl := Nat.lt_of_lt_of_le hb1 HB4.out.size
    have c_bx2 := B4_bx.out.cell 2
    have c_bx4 := B4_bx.out.cell 4
    have l_bx := B4_bx.out.lt
    have c_bp2 := B4_bp.out.cell 2
    have c_bp3 := B4_bp.out.cell 3
    have l_bp := B4_bp.out.lt
    go_quiet (fail)
    clear y2 y4 yl c_bx2 c_bx4 l_bx c_bp2 c_bp3 l_bp
    generalize hd : World.drewN W4 _ = W5 at *
    have hb : Below W4.heap.size W4 W5 := by rw [← hd]; exact below_dn _ _
    have hb5 : Below w.heap.size w W5 := below_then HB4.out hb
    have b_bx5 := B4_bx.out.below hb B4_bx.out.lt
    have b_bp5 := B4_bp.out.below hb B4_bp.out.lt
    have hz5 := hb.size
    have HB5 := Lib.hid hb5
    have B5_bx := Lib.hid b_bx5
    have B5_bp := Lib.hid b_bp5
    clear hb5 b_bx5 b_bp5
    clear B4_bx B4_bp HB4
    clear hd hb
    have c_bp3 := B5_bp.out.cell 3
    have l_bp := B5_bp.out.lt
    go_wp2
    go_ret2
    exact ⟨rfl, HB5.out⟩
set_option maxRecDepth 100000 in
set_option maxHeartbeats 4000000 in
theorem check_gap_new (v : Value) (es : List Ent) (x : Ent) (w : World) (h : Es w v es) (hp : PlainE es) (hl : es.length ≤ 9223372036854775806) (hx : 0 ≤ x.ver ∧ x.ver ≤ 1073741824 ∧ 0 ≤ x.seq ∧ x.seq ≤ 1073741824 ∧ 0 ≤ x.pid ∧ x.pid ≤ 1073741824) (h0 : x.pid ≠ 0) (q : PrD) (hq : q = prOf es x) (hf : ¬ x.ver < q.ver) (hk : x.kind = 1) (hv : q.ver < x.ver) (hg : -1 + 1 < x.seq) :
    Calls Try.prog 96 #[v, .agg #[.int .i64 x.ep, .int .i64 x.pid, .int .i64 x.ver, .int .i64 x.seq, .int .i64 x.kind, .bool x.txn, .string x.text]] w fun e w' => e = .returned (.tuple #[.int .i64 0, .int .i64 11]) ∧ Below w.heap.size w w' := by
  obtain ⟨A, c, rfl, hc, hx1⟩ := h.at_
  have HX := Lib.hid hx1
  have H := Lib.hid h
  have HP := Lib.hid hp
  obtain ⟨x0, x1, x2, x3, x4, x5⟩ := hx
  obtain ⟨k1, k2, k3, k4⟩ := prOf_known hp x
  have hdef : prOf es x = (prTo es x.pid es.length).getD ⟨x.ver, -1, -1, -1⟩ := rfl
  have hgd : prG es es.length x.pid = prTo es x.pid es.length := by unfold prG; rw [if_neg h0]
  rw [hgd.symm] at hdef
  rw [← hq] at k1 k2 k3 k4 hdef
  have z1 : (x.pid == 0) = false := beq_eq_false_iff_ne.2 h0
  have hwf : (Lit.int .i64 x.pid).wf = true := WalkArith.wf_i64 (by omega)
  have HWF := Lib.hid hwf
  have HDF := Lib.hid hdef
  clear h hx1 hp hq hgd hwf hdef h0
  have z2 : decide (x.ver < q.ver) = false := decide_eq_false hf
  clear hf
  have z3 : (x.kind != 1) = false := by simpa using hk
  clear hk
  have z4 : decide (q.ver < x.ver) = true := decide_eq_true hv
  clear hv
  have z5 : decide (0 < x.seq) = true := decide_eq_true (by omega)
  clear hg
  obtain ⟨ep, pid, ver, seq, kind, txn, text⟩ := x
  obtain ⟨qv, qs, qo, qm⟩ := q
  simp only at *
  go_enter Try.func96, Try.ntmps96
  go_wp2_with fail
  have hb1 : Below w.heap.size w (w.alloc (.cells #[.int .i64 ep, .int .i64 pid, .int .i64 ver, .int .i64 seq, .int .i64 kind, .bool txn, .string text] 55)) := (Below.refl _ _).alloc (by first | omega | (simp; done) | (simp; omega)) _
  have hal1 : Below w.heap.size w (w.alloc (.cells #[.int .i64 ep, .int .i64 pid, .int .i64 ver, .int .i64 seq, .int .i64 kind, .bool txn, .string text] 55)) := (Below.refl _ _).alloc (by first | omega | (simp; done) | (simp; omega)) _
  have b_bx1 : Blk (w.alloc (.cells #[.int .i64 ep, .int .i64 pid, .int .i64 ver, .int .i64 seq, .int .i64 kind, .bool txn, .string text] 55)) (w.heap.size) 55 #[.int .i64 ep, .int .i64 pid, .int .i64 ver, .int .i64 seq, .int .i64 kind, .bool txn, .string text] := Blk.new_ _ 55 #[.int .i64 ep, .int .i64 pid, .int .i64 ver, .int .i64 seq, .int .i64 kind, .bool txn, .string text] (by first | rfl | (simp; done) | (simp; omega))
  have hz1 : w.heap.size + 1 ≤ (w.alloc (.cells #[.int .i64 ep, .int .i64 pid, .int .i64 ver, .int .i64 seq, .int .i64 kind, .bool txn, .string text] 55)).heap.size := by first | omega | (simp; done) | (simp; omega)
  generalize w.alloc (.cells #[.int .i64 ep, .int .i64 pid, .int .i64 ver, .int .i64 seq, .int .i64 kind, .bool txn, .string text] 55) = W1 at *
  have HB1 := Lib.hid hb1
  have B1_bx := Lib.hid b_bx1
  clear hb1 b_bx1
  have c_bx0 := B1_bx.out.cell 0
  have c_bx1 := B1_bx.out.cell 1
  have c_bx2 := B1_bx.out.cell 2
  have c_bx3 := B1_bx.out.cell 3
  have c_bx4 := B1_bx.out.cell 4
  have c_bx5 := B1_bx.out.cell 5
  have c_bx6 := B1_bx.out.cell 6
  have l_bx := B1_bx.out.lt
  go_wp2_with fail
  clear c_bx0 c_bx1 c_bx2 c_bx3 c_bx4 c_bx5 c_bx6 l_bx
  have c_bx1 := B1_bx.out.cell 1
  have l_bx := B1_bx.out.lt
  refine wp_region_held_drew (S := fun w0 => w0.cell? ⟨w.heap.size, 1, none⟩ = some (.int .i64 pid)) (by kernel_rfl) ?_ (fun hHeld => ?_)
  · exact c_bx1
  clear c_bx1 l_bx
  generalize hd : World.drew W1 = W2 at *
  have hb : Below W1.heap.size W1 W2 := by rw [← hd]; exact (Below.refl _ _).drew
  have hb2 : Below w.heap.size w W2 := below_then HB1.out hb
  have b_bx2 := B1_bx.out.below hb B1_bx.out.lt
  have hz2 := hb.size
  have HB2 := Lib.hid hb2
  have B2_bx := Lib.hid b_bx2
  clear hb2 b_bx2
  clear B1_bx HB1
  clear hd hb
  refine wpAnyH_take (i := 0) (v := ?_) rfl (by kernel_rfl) (by kernel_rfl) (by kernel_rfl) (fun _ _ _ h => h) (Or.inl ⟨by rfl, ?_⟩) (by assumption) ?_
  rotate_left
  · intro w0 hSw
    (try dsimp only at hSw)
    go_simp
    all_goals with_reducible rfl
  try simp only [Act.put, List.getElem_toArray, List.getElem_cons_zero, List.setIfInBounds_toArray, List.set_cons_zero, List.set_cons_succ]
  refine wpAnyH_take (i := 2) (v := ?_) rfl (by kernel_rfl) (by kernel_rfl) (by kernel_rfl) (fun _ _ _ h => h) (Or.inl ⟨by rfl, ?_⟩) (by assumption) ?_
  rotate_left
  · intro w0 hSw
    (try dsimp only at hSw)
    go_simp
    all_goals with_reducible rfl
  try simp only [Act.put, List.getElem_toArray, List.getElem_cons_zero, List.getElem_cons_succ, List.setIfInBounds_toArray, List.set_cons_zero, List.set_cons_succ]
  refine wpAnyH_take (i := 3) (v := ?_) rfl (by kernel_rfl) (by kernel_rfl) (by kernel_rfl) (fun _ _ _ h => h) (Or.inl ⟨by rfl, ?_⟩) (by assumption) ?_
  rotate_left
  · intro w0 hSw
    (try dsimp only at hSw)
    go_simp
    all_goals with_reducible rfl
  try simp only [Act.put, List.getElem_toArray, List.getElem_cons_zero, List.getElem_cons_succ, List.setIfInBounds_toArray, List.set_cons_zero, List.set_cons_succ]
  refine wpAnyH_ready (rs := [1]) (by kernel_rfl) (by simp) (AllReadyH.cons rfl (fun K hK => ?_) AllReadyH.nil)
  go_simp
  go_at_call 108
  refine (replay_any _ es _ (H.out.below HB2.out) HP.out hl).mono ?_
  rintro e W3 ⟨M, f, rfl, hm, hb, hM⟩
  have HM := Lib.hid hm
  clear hm
  have hb3 : Below w.heap.size w W3 := below_then HB2.out hb
  have b_bx3 := B2_bx.out.below hb B2_bx.out.lt
  have hz3 := hb.size
  have HB3 := Lib.hid hb3
  have B3_bx := Lib.hid b_bx3
  clear hb3 b_bx3
  clear B2_bx HB2
  refine hK.out _ _ ?_ (fun hHeld => ?_)
  · exact (B3_bx.out).cell 1
  clear hK K
  try simp only [Act.put, List.getElem_toArray, List.getElem_cons_zero, List.getElem_cons_succ, List.setIfInBounds_toArray, List.set_cons_zero, List.set_cons_succ]
  rcases hf : f pid with _ | b
  · have hrun := HM.out.look HWF.out hf
    simp only [ptrV] at hrun
    have hgn := HM.out.none_ pid hf
    have HGN := Lib.hid hgn
    clear hgn
    have HF := Lib.hid hf
    clear hf
    refine wpAnyH_ready (rs := [4]) (by kernel_rfl) (by simp) (AllReadyH.cons rfl (fun K hK => ?_) AllReadyH.nil)
    go_simp
    refine hK.out _ _ ?_ (fun hHeld => ?_)
    · assumption
    clear hK K
    try simp only [Act.put, List.getElem_toArray, List.getElem_cons_zero, List.getElem_cons_succ, List.setIfInBounds_toArray, List.set_cons_zero, List.set_cons_succ]
    clear hrun
    refine wpAnyH_take (i := 5) (v := ?_) rfl (by kernel_rfl) (by kernel_rfl) (by kernel_rfl) (fun _ _ _ h => h) (Or.inl ⟨by rfl, ?_⟩) (by assumption) ?_
    rotate_left
    · intro w0 hSw
      (try dsimp only at hSw)
      go_simp
      all_goals with_reducible rfl
    try simp only [Act.put, List.getElem_toArray, List.getElem_cons_zero, List.getElem_cons_succ, List.setIfInBounds_toArray, List.set_cons_zero, List.set_cons_succ]
    refine wpAnyH_done (by kernel_rfl) ?_ _
    have c_bx0 := B3_bx.out.cell 0
    have c_bx1 := B3_bx.out.cell 1
    have c_bx2 := B3_bx.out.cell 2
    have c_bx3 := B3_bx.out.cell 3
    have c_bx4 := B3_bx.out.cell 4
    have c_bx5 := B3_bx.out.cell 5
    have c_bx6 := B3_bx.out.cell 6
    have l_bx := B3_bx.out.lt
    go_upto_region 6 with fail
    clear c_bx0 c_bx1 c_bx2 c_bx3 c_bx4 c_bx5 c_bx6 l_bx
    have hsz4 := HB3.out.size
    have hb4 : Below w.heap.size w (W3.alloc (.cells #[.int .i64 ver, .int .i64 (-1), .int .i64 (-1), .int .i64 (-1)] 110)) := (HB3.out).alloc (by first | omega | (simp; done) | (simp; omega)) _
    have hal4 : Below W3.heap.size W3 (W3.alloc (.cells #[.int .i64 ver, .int .i64 (-1), .int .i64 (-1), .int .i64 (-1)] 110)) := (Below.refl _ _).alloc (by first | omega | (simp; done) | (simp; omega)) _
    have b_bx4 : Blk (W3.alloc (.cells #[.int .i64 ver, .int .i64 (-1), .int .i64 (-1), .int .i64 (-1)] 110)) (w.heap.size) 55 #[.int .i64 ep, .int .i64 pid, .int .i64 ver, .int .i64 seq, .int .i64 kind, .bool txn, .string text] := (B3_bx.out).alloc _
    have b_bp4 : Blk (W3.alloc (.cells #[.int .i64 ver, .int .i64 (-1), .int .i64 (-1), .int .i64 (-1)] 110)) (W3.heap.size) 110 #[.int .i64 ver, .int .i64 (-1), .int .i64 (-1), .int .i64 (-1)] := Blk.new_ _ 110 #[.int .i64 ver, .int .i64 (-1), .int .i64 (-1), .int .i64 (-1)] (by first | rfl | (simp; done) | (simp; omega))
    have hz4 : W3.heap.size + 1 ≤ (W3.alloc (.cells #[.int .i64 ver, .int .i64 (-1), .int .i64 (-1), .int .i64 (-1)] 110)).heap.size := by first | omega | (simp; done) | (simp; omega)
    generalize W3.alloc (.cells #[.int .i64 ver, .int .i64 (-1), .int .i64 (-1), .int .i64 (-1)] 110) = W4 at *
    have HB4 := Lib.hid hb4
    have B4_bx := Lib.hid b_bx4
    have B4_bp := Lib.hid b_bp4
    clear hb4 b_bx4 b_bp4
    clear B3_bx HB3
    have hbp : Blk W4 (W3.heap.size) 110 #[.int .i64 qv, .int .i64 qs, .int .i64 qo, .int .i64 qm] := by
      have he := HDF.out
      rw [HGN.out] at he
      simp only [Option.getD_none, PrD.mk.injEq] at he
      rw [he.1, he.2.1, he.2.2.1, he.2.2.2]
      exact B4_bp.out
    have HBP := Lib.hid hbp
    clear hbp B4_bp
    have hbb : w.heap.size ≤ W3.heap.size := by omega
    have c_bx2 := B4_bx.out.cell 2
    have l_bx := B4_bx.out.lt
    have c_bp0 := HBP.out.cell 0
    have l_bp := HBP.out.lt
    go_quiet (fail)
    clear c_bx2 l_bx c_bp0 l_bp
    generalize hd : World.drewN W4 _ = W5 at *
    have hb : Below W4.heap.size W4 W5 := by rw [← hd]; exact below_dn _ _
    have hb5 : Below w.heap.size w W5 := below_then HB4.out hb
    have b_bx5 := B4_bx.out.below hb B4_bx.out.lt
    have b_bp5 := HBP.out.below hb HBP.out.lt
    have hz5 := hb.size
    have HB5 := Lib.hid hb5
    have B5_bx := Lib.hid b_bx5
    have B5_bp := Lib.hid b_bp5
    clear hb5 b_bx5 b_bp5
    clear B4_bx HBP HB4
    clear hd hb
    have c_bx2 := B5_bx.out.cell 2
    have l_bx := B5_bx.out.lt
    have c_bp0 := B5_bp.out.cell 0
    have l_bp := B5_bp.out.lt
    have c_bx4 := B5_bx.out.cell 4
    have l_bx := B5_bx.out.lt
    go_wp2_with fail
    clear c_bx2 l_bx c_bp0 l_bp c_bx4
    have c_bx2 := B5_bx.out.cell 2
    have l_bx := B5_bx.out.lt
    have c_bp0 := B5_bp.out.cell 0
    have l_bp := B5_bp.out.lt
    go_quiet (fail)
    clear c_bx2 l_bx c_bp0 l_bp
    generalize hd : World.drewN W5 _ = W6 at *
    have hb : Below W5.heap.size W5 W6 := by rw [← hd]; exact below_dn _ _
    have hb6 : Below w.heap.size w W6 := below_then HB5.out hb
    have b_bx6 := B5_bx.out.below hb B5_bx.out.lt
    have b_bp6 := B5_bp.out.below hb B5_bp.out.lt
    have hz6 := hb.size
    have HB6 := Lib.hid hb6
    have B6_bx := Lib.hid b_bx6
    have B6_bp := Lib.hid b_bp6
    clear hb6 b_bx6 b_bp6
    clear B5_bx B5_bp HB5
    clear hd hb
    have c_bp1 := B6_bp.out.cell 1
    have f_bp1 := B6_bp.out.frozen 1
    have l_bp := B6_bp.out.lt
    go_upto_region 14 with fail
    clear c_bp1 f_bp1 l_bp
    have hsz7 := HB6.out.size
    have hb7 : Below w.heap.size w (W6.setCell ⟨W3.heap.size, 1, none⟩ (.int .i64 (-1))) := (HB6.out).setCell (by show w.heap.size ≤ W3.heap.size; omega) _
    have b_bx7 : Blk (W6.setCell ⟨W3.heap.size, 1, none⟩ (.int .i64 (-1))) (w.heap.size) 55 #[.int .i64 ep, .int .i64 pid, .int .i64 ver, .int .i64 seq, .int .i64 kind, .bool txn, .string text] := (B6_bx.out).far (p := ⟨W3.heap.size, 1, none⟩) (by show w.heap.size ≠ W3.heap.size; omega) _
    have b_bp7 : Blk (W6.setCell ⟨W3.heap.size, 1, none⟩ (.int .i64 (-1))) (W3.heap.size) 110 #[.int .i64 qv, .int .i64 (-1), .int .i64 qo, .int .i64 qm] := (B6_bp.out).set_ 1 _
    have hz7 : W6.heap.size + 0 ≤ (W6.setCell ⟨W3.heap.size, 1, none⟩ (.int .i64 (-1))).heap.size := by first | omega | (simp; done) | (simp; omega)
    generalize W6.setCell ⟨W3.heap.size, 1, none⟩ (.int .i64 (-1)) = W7 at *
    have HB7 := Lib.hid hb7
    have B7_bx := Lib.hid b_bx7
    have B7_bp := Lib.hid b_bp7
    clear hb7 b_bx7 b_bp7
    clear B6_bx B6_bp HB6
    have c_bx3 := B7_bx.out.cell 3
    have l_bx := B7_bx.out.lt
    have c_bp1 := B7_bp.out.cell 1
    have l_bp := B7_bp.out.lt
    go_wp2_with fail
    go_quiet (fail)
    clear c_bx3 l_bx c_bp1 l_bp
    generalize hd : World.drewN W7 _ = W8 at *
    have hb : Below W7.heap.size W7 W8 := by rw [← hd]; exact below_dn _ _
    have hb8 : Below w.heap.size w W8 := below_then HB7.out hb
    have b_bx8 := B7_bx.out.below hb B7_bx.out.lt
    have b_bp8 := B7_bp.out.below hb B7_bp.out.lt
    have hz8 := hb.size
    have HB8 := Lib.hid hb8
    have B8_bx := Lib.hid b_bx8
    have B8_bp := Lib.hid b_bp8
    clear hb8 b_bx8 b_bp8
    clear B7_bx B7_bp HB7
    clear hd hb
    go_wp2
    go_ret2
    exact ⟨rfl, HB8.out⟩
  · have hrun := HM.out.look HWF.out hf
    simp only [ptrV] at hrun
    obtain ⟨hbb, q9, hq9, hbq⟩ := HM.out.blk pid b hf
    have he : (⟨ qv,  qs,  qo,  qm⟩ : PrD) = q9 := by rw [HDF.out, hq9]; rfl
    rw [← he] at hbq
    have hbp : Blk W3 b 110 #[.int .i64 qv, .int .i64 qs, .int .i64 qo, .int .i64 qm] := hbq
    have HBP := Lib.hid hbp
    clear hbq hbp he hq9
    have HF := Lib.hid hf
    clear hf
    refine wpAnyH_ready (rs := [4]) (by kernel_rfl) (by simp) (AllReadyH.cons rfl (fun K hK => ?_) AllReadyH.nil)
    go_simp
    refine hK.out _ _ ?_ (fun hHeld => ?_)
    · assumption
    clear hK K
    try simp only [Act.put, List.getElem_toArray, List.getElem_cons_zero, List.getElem_cons_succ, List.setIfInBounds_toArray, List.set_cons_zero, List.set_cons_succ]
    clear hrun
    refine wpAnyH_take (i := 5) (v := ?_) rfl (by kernel_rfl) (by kernel_rfl) (by kernel_rfl) (fun _ _ _ h => h) (Or.inl ⟨by rfl, ?_⟩) (by assumption) ?_
    rotate_left
    · intro w0 hSw
      (try dsimp only at hSw)
      go_simp
      all_goals with_reducible rfl
    try simp only [Act.put, List.getElem_toArray, List.getElem_cons_zero, List.getElem_cons_succ, List.setIfInBounds_toArray, List.set_cons_zero, List.set_cons_succ]
    refine wpAnyH_done (by kernel_rfl) ?_ _
    go_upto_region 6 with fail
    have c_bx2 := B3_bx.out.cell 2
    have l_bx := B3_bx.out.lt
    have c_bp0 := HBP.out.cell 0
    have l_bp := HBP.out.lt
    go_quiet (fail)
    clear c_bx2 l_bx c_bp0 l_bp
    generalize hd : World.drewN W3 _ = W4 at *
    have hb : Below W3.heap.size W3 W4 := by rw [← hd]; exact below_dn _ _
    have hb4 : Below w.heap.size w W4 := below_then HB3.out hb
    have b_bx4 := B3_bx.out.below hb B3_bx.out.lt
    have b_bp4 := HBP.out.below hb HBP.out.lt
    have hz4 := hb.size
    have HB4 := Lib.hid hb4
    have B4_bx := Lib.hid b_bx4
    have B4_bp := Lib.hid b_bp4
    clear hb4 b_bx4 b_bp4
    clear B3_bx HBP HB3
    clear hd hb
    have c_bx2 := B4_bx.out.cell 2
    have l_bx := B4_bx.out.lt
    have c_bp0 := B4_bp.out.cell 0
    have l_bp := B4_bp.out.lt
    have c_bx4 := B4_bx.out.cell 4
    have l_bx := B4_bx.out.lt
    go_wp2_with fail
    clear c_bx2 l_bx c_bp0 l_bp c_bx4
    have c_bx2 := B4_bx.out.cell 2
    have l_bx := B4_bx.out.lt
    have c_bp0 := B4_bp.out.cell 0
    have l_bp := B4_bp.out.lt
    go_quiet (fail)
    clear c_bx2 l_bx c_bp0 l_bp
    generalize hd : World.drewN W4 _ = W5 at *
    have hb : Below W4.heap.size W4 W5 := by rw [← hd]; exact below_dn _ _
    have hb5 : Below w.heap.size w W5 := below_then HB4.out hb
    have b_bx5 := B4_bx.out.below hb B4_bx.out.lt
    have b_bp5 := B4_bp.out.below hb B4_bp.out.lt
    have hz5 := hb.size
    have HB5 := Lib.hid hb5
    have B5_bx := Lib.hid b_bx5
    have B5_bp := Lib.hid b_bp5
    clear hb5 b_bx5 b_bp5
    clear B4_bx B4_bp HB4
    clear hd hb
    have c_bp1 := B5_bp.out.cell 1
    have f_bp1 := B5_bp.out.frozen 1
    have l_bp := B5_bp.out.lt
    go_upto_region 14 with fail
    clear c_bp1 f_bp1 l_bp
    have hsz6 := HB5.out.size
    have hb6 : Below w.heap.size w (W5.setCell ⟨b, 1, none⟩ (.int .i64 (-1))) := (HB5.out).setCell (by show w.heap.size ≤ b; omega) _
    have b_bx6 : Blk (W5.setCell ⟨b, 1, none⟩ (.int .i64 (-1))) (w.heap.size) 55 #[.int .i64 ep, .int .i64 pid, .int .i64 ver, .int .i64 seq, .int .i64 kind, .bool txn, .string text] := (B5_bx.out).far (p := ⟨b, 1, none⟩) (by show w.heap.size ≠ b; omega) _
    have b_bp6 : Blk (W5.setCell ⟨b, 1, none⟩ (.int .i64 (-1))) (b) 110 #[.int .i64 qv, .int .i64 (-1), .int .i64 qo, .int .i64 qm] := (B5_bp.out).set_ 1 _
    have hz6 : W5.heap.size + 0 ≤ (W5.setCell ⟨b, 1, none⟩ (.int .i64 (-1))).heap.size := by first | omega | (simp; done) | (simp; omega)
    generalize W5.setCell ⟨b, 1, none⟩ (.int .i64 (-1)) = W6 at *
    have HB6 := Lib.hid hb6
    have B6_bx := Lib.hid b_bx6
    have B6_bp := Lib.hid b_bp6
    clear hb6 b_bx6 b_bp6
    clear B5_bx B5_bp HB5
    have c_bx3 := B6_bx.out.cell 3
    have l_bx := B6_bx.out.lt
    have c_bp1 := B6_bp.out.cell 1
    have l_bp := B6_bp.out.lt
    go_wp2_with fail
    go_quiet (fail)
    clear c_bx3 l_bx c_bp1 l_bp
    generalize hd : World.drewN W6 _ = W7 at *
    have hb : Below W6.heap.size W6 W7 := by rw [← hd]; exact below_dn _ _
    have hb7 : Below w.heap.size w W7 := below_then HB6.out hb
    have b_bx7 := B6_bx.out.below hb B6_bx.out.lt
    have b_bp7 := B6_bp.out.below hb B6_bp.out.lt
    have hz7 := hb.size
    have HB7 := Lib.hid hb7
    have B7_bx := Lib.hid b_bx7
    have B7_bp := Lib.hid b_bp7
    clear hb7 b_bx7 b_bp7
    clear B6_bx B6_bp HB6
    clear hd hb
    go_wp2
    go_ret2
    exact ⟨rfl, HB7.out⟩
set_option maxRecDepth 100000 in
set_option maxHeartbeats 4000000 in
theorem check_next_new (v : Value) (es : List Ent) (x : Ent) (w : World) (h : Es w v es) (hp : PlainE es) (hl : es.length ≤ 9223372036854775806) (hx : 0 ≤ x.ver ∧ x.ver ≤ 1073741824 ∧ 0 ≤ x.seq ∧ x.seq ≤ 1073741824 ∧ 0 ≤ x.pid ∧ x.pid ≤ 1073741824) (h0 : x.pid ≠ 0) (q : PrD) (hq : q = prOf es x) (hf : ¬ x.ver < q.ver) (hk : x.kind = 1) (hv : q.ver < x.ver) (hg : x.seq = -1 + 1) :
    Calls Try.prog 96 #[v, .agg #[.int .i64 x.ep, .int .i64 x.pid, .int .i64 x.ver, .int .i64 x.seq, .int .i64 x.kind, .bool x.txn, .string x.text]] w fun e w' => e = .returned (.tuple #[.int .i64 (-1), .int .i64 0]) ∧ Below w.heap.size w w' := by
  obtain ⟨A, c, rfl, hc, hx1⟩ := h.at_
  have HX := Lib.hid hx1
  have H := Lib.hid h
  have HP := Lib.hid hp
  obtain ⟨x0, x1, x2, x3, x4, x5⟩ := hx
  obtain ⟨k1, k2, k3, k4⟩ := prOf_known hp x
  have hdef : prOf es x = (prTo es x.pid es.length).getD ⟨x.ver, -1, -1, -1⟩ := rfl
  have hgd : prG es es.length x.pid = prTo es x.pid es.length := by unfold prG; rw [if_neg h0]
  rw [hgd.symm] at hdef
  rw [← hq] at k1 k2 k3 k4 hdef
  have z1 : (x.pid == 0) = false := beq_eq_false_iff_ne.2 h0
  have hwf : (Lit.int .i64 x.pid).wf = true := WalkArith.wf_i64 (by omega)
  have HWF := Lib.hid hwf
  have HDF := Lib.hid hdef
  clear h hx1 hp hq hgd hwf hdef h0
  have z2 : decide (x.ver < q.ver) = false := decide_eq_false hf
  clear hf
  have z3 : (x.kind != 1) = false := by simpa using hk
  clear hk
  have z4 : decide (q.ver < x.ver) = true := decide_eq_true hv
  clear hv
  have z5 : decide (0 < x.seq) = false := decide_eq_false (by omega)
  have z6 : (x.seq == 0) = true := beq_iff_eq.2 (by omega)
  clear hg
  obtain ⟨ep, pid, ver, seq, kind, txn, text⟩ := x
  obtain ⟨qv, qs, qo, qm⟩ := q
  simp only at *
  go_enter Try.func96, Try.ntmps96
  go_wp2_with fail
  have hb1 : Below w.heap.size w (w.alloc (.cells #[.int .i64 ep, .int .i64 pid, .int .i64 ver, .int .i64 seq, .int .i64 kind, .bool txn, .string text] 55)) := (Below.refl _ _).alloc (by first | omega | (simp; done) | (simp; omega)) _
  have hal1 : Below w.heap.size w (w.alloc (.cells #[.int .i64 ep, .int .i64 pid, .int .i64 ver, .int .i64 seq, .int .i64 kind, .bool txn, .string text] 55)) := (Below.refl _ _).alloc (by first | omega | (simp; done) | (simp; omega)) _
  have b_bx1 : Blk (w.alloc (.cells #[.int .i64 ep, .int .i64 pid, .int .i64 ver, .int .i64 seq, .int .i64 kind, .bool txn, .string text] 55)) (w.heap.size) 55 #[.int .i64 ep, .int .i64 pid, .int .i64 ver, .int .i64 seq, .int .i64 kind, .bool txn, .string text] := Blk.new_ _ 55 #[.int .i64 ep, .int .i64 pid, .int .i64 ver, .int .i64 seq, .int .i64 kind, .bool txn, .string text] (by first | rfl | (simp; done) | (simp; omega))
  have hz1 : w.heap.size + 1 ≤ (w.alloc (.cells #[.int .i64 ep, .int .i64 pid, .int .i64 ver, .int .i64 seq, .int .i64 kind, .bool txn, .string text] 55)).heap.size := by first | omega | (simp; done) | (simp; omega)
  generalize w.alloc (.cells #[.int .i64 ep, .int .i64 pid, .int .i64 ver, .int .i64 seq, .int .i64 kind, .bool txn, .string text] 55) = W1 at *
  have HB1 := Lib.hid hb1
  have B1_bx := Lib.hid b_bx1
  clear hb1 b_bx1
  have c_bx0 := B1_bx.out.cell 0
  have c_bx1 := B1_bx.out.cell 1
  have c_bx2 := B1_bx.out.cell 2
  have c_bx3 := B1_bx.out.cell 3
  have c_bx4 := B1_bx.out.cell 4
  have c_bx5 := B1_bx.out.cell 5
  have c_bx6 := B1_bx.out.cell 6
  have l_bx := B1_bx.out.lt
  go_wp2_with fail
  clear c_bx0 c_bx1 c_bx2 c_bx3 c_bx4 c_bx5 c_bx6 l_bx
  have c_bx1 := B1_bx.out.cell 1
  have l_bx := B1_bx.out.lt
  refine wp_region_held_drew (S := fun w0 => w0.cell? ⟨w.heap.size, 1, none⟩ = some (.int .i64 pid)) (by kernel_rfl) ?_ (fun hHeld => ?_)
  · exact c_bx1
  clear c_bx1 l_bx
  generalize hd : World.drew W1 = W2 at *
  have hb : Below W1.heap.size W1 W2 := by rw [← hd]; exact (Below.refl _ _).drew
  have hb2 : Below w.heap.size w W2 := below_then HB1.out hb
  have b_bx2 := B1_bx.out.below hb B1_bx.out.lt
  have hz2 := hb.size
  have HB2 := Lib.hid hb2
  have B2_bx := Lib.hid b_bx2
  clear hb2 b_bx2
  clear B1_bx HB1
  clear hd hb
  refine wpAnyH_take (i := 0) (v := ?_) rfl (by kernel_rfl) (by kernel_rfl) (by kernel_rfl) (fun _ _ _ h => h) (Or.inl ⟨by rfl, ?_⟩) (by assumption) ?_
  rotate_left
  · intro w0 hSw
    (try dsimp only at hSw)
    go_simp
    all_goals with_reducible rfl
  try simp only [Act.put, List.getElem_toArray, List.getElem_cons_zero, List.setIfInBounds_toArray, List.set_cons_zero, List.set_cons_succ]
  refine wpAnyH_take (i := 2) (v := ?_) rfl (by kernel_rfl) (by kernel_rfl) (by kernel_rfl) (fun _ _ _ h => h) (Or.inl ⟨by rfl, ?_⟩) (by assumption) ?_
  rotate_left
  · intro w0 hSw
    (try dsimp only at hSw)
    go_simp
    all_goals with_reducible rfl
  try simp only [Act.put, List.getElem_toArray, List.getElem_cons_zero, List.getElem_cons_succ, List.setIfInBounds_toArray, List.set_cons_zero, List.set_cons_succ]
  refine wpAnyH_take (i := 3) (v := ?_) rfl (by kernel_rfl) (by kernel_rfl) (by kernel_rfl) (fun _ _ _ h => h) (Or.inl ⟨by rfl, ?_⟩) (by assumption) ?_
  rotate_left
  · intro w0 hSw
    (try dsimp only at hSw)
    go_simp
    all_goals with_reducible rfl
  try simp only [Act.put, List.getElem_toArray, List.getElem_cons_zero, List.getElem_cons_succ, List.setIfInBounds_toArray, List.set_cons_zero, List.set_cons_succ]
  refine wpAnyH_ready (rs := [1]) (by kernel_rfl) (by simp) (AllReadyH.cons rfl (fun K hK => ?_) AllReadyH.nil)
  go_simp
  go_at_call 108
  refine (replay_any _ es _ (H.out.below HB2.out) HP.out hl).mono ?_
  rintro e W3 ⟨M, f, rfl, hm, hb, hM⟩
  have HM := Lib.hid hm
  clear hm
  have hb3 : Below w.heap.size w W3 := below_then HB2.out hb
  have b_bx3 := B2_bx.out.below hb B2_bx.out.lt
  have hz3 := hb.size
  have HB3 := Lib.hid hb3
  have B3_bx := Lib.hid b_bx3
  clear hb3 b_bx3
  clear B2_bx HB2
  refine hK.out _ _ ?_ (fun hHeld => ?_)
  · exact (B3_bx.out).cell 1
  clear hK K
  try simp only [Act.put, List.getElem_toArray, List.getElem_cons_zero, List.getElem_cons_succ, List.setIfInBounds_toArray, List.set_cons_zero, List.set_cons_succ]
  rcases hf : f pid with _ | b
  · have hrun := HM.out.look HWF.out hf
    simp only [ptrV] at hrun
    have hgn := HM.out.none_ pid hf
    have HGN := Lib.hid hgn
    clear hgn
    have HF := Lib.hid hf
    clear hf
    refine wpAnyH_ready (rs := [4]) (by kernel_rfl) (by simp) (AllReadyH.cons rfl (fun K hK => ?_) AllReadyH.nil)
    go_simp
    refine hK.out _ _ ?_ (fun hHeld => ?_)
    · assumption
    clear hK K
    try simp only [Act.put, List.getElem_toArray, List.getElem_cons_zero, List.getElem_cons_succ, List.setIfInBounds_toArray, List.set_cons_zero, List.set_cons_succ]
    clear hrun
    refine wpAnyH_take (i := 5) (v := ?_) rfl (by kernel_rfl) (by kernel_rfl) (by kernel_rfl) (fun _ _ _ h => h) (Or.inl ⟨by rfl, ?_⟩) (by assumption) ?_
    rotate_left
    · intro w0 hSw
      (try dsimp only at hSw)
      go_simp
      all_goals with_reducible rfl
    try simp only [Act.put, List.getElem_toArray, List.getElem_cons_zero, List.getElem_cons_succ, List.setIfInBounds_toArray, List.set_cons_zero, List.set_cons_succ]
    refine wpAnyH_done (by kernel_rfl) ?_ _
    have c_bx0 := B3_bx.out.cell 0
    have c_bx1 := B3_bx.out.cell 1
    have c_bx2 := B3_bx.out.cell 2
    have c_bx3 := B3_bx.out.cell 3
    have c_bx4 := B3_bx.out.cell 4
    have c_bx5 := B3_bx.out.cell 5
    have c_bx6 := B3_bx.out.cell 6
    have l_bx := B3_bx.out.lt
    go_upto_region 6 with fail
    clear c_bx0 c_bx1 c_bx2 c_bx3 c_bx4 c_bx5 c_bx6 l_bx
    have hsz4 := HB3.out.size
    have hb4 : Below w.heap.size w (W3.alloc (.cells #[.int .i64 ver, .int .i64 (-1), .int .i64 (-1), .int .i64 (-1)] 110)) := (HB3.out).alloc (by first | omega | (simp; done) | (simp; omega)) _
    have hal4 : Below W3.heap.size W3 (W3.alloc (.cells #[.int .i64 ver, .int .i64 (-1), .int .i64 (-1), .int .i64 (-1)] 110)) := (Below.refl _ _).alloc (by first | omega | (simp; done) | (simp; omega)) _
    have b_bx4 : Blk (W3.alloc (.cells #[.int .i64 ver, .int .i64 (-1), .int .i64 (-1), .int .i64 (-1)] 110)) (w.heap.size) 55 #[.int .i64 ep, .int .i64 pid, .int .i64 ver, .int .i64 seq, .int .i64 kind, .bool txn, .string text] := (B3_bx.out).alloc _
    have b_bp4 : Blk (W3.alloc (.cells #[.int .i64 ver, .int .i64 (-1), .int .i64 (-1), .int .i64 (-1)] 110)) (W3.heap.size) 110 #[.int .i64 ver, .int .i64 (-1), .int .i64 (-1), .int .i64 (-1)] := Blk.new_ _ 110 #[.int .i64 ver, .int .i64 (-1), .int .i64 (-1), .int .i64 (-1)] (by first | rfl | (simp; done) | (simp; omega))
    have hz4 : W3.heap.size + 1 ≤ (W3.alloc (.cells #[.int .i64 ver, .int .i64 (-1), .int .i64 (-1), .int .i64 (-1)] 110)).heap.size := by first | omega | (simp; done) | (simp; omega)
    generalize W3.alloc (.cells #[.int .i64 ver, .int .i64 (-1), .int .i64 (-1), .int .i64 (-1)] 110) = W4 at *
    have HB4 := Lib.hid hb4
    have B4_bx := Lib.hid b_bx4
    have B4_bp := Lib.hid b_bp4
    clear hb4 b_bx4 b_bp4
    clear B3_bx HB3
    have hbp : Blk W4 (W3.heap.size) 110 #[.int .i64 qv, .int .i64 qs, .int .i64 qo, .int .i64 qm] := by
      have he := HDF.out
      rw [HGN.out] at he
      simp only [Option.getD_none, PrD.mk.injEq] at he
      rw [he.1, he.2.1, he.2.2.1, he.2.2.2]
      exact B4_bp.out
    have HBP := Lib.hid hbp
    clear hbp B4_bp
    have hbb : w.heap.size ≤ W3.heap.size := by omega
    have c_bx2 := B4_bx.out.cell 2
    have l_bx := B4_bx.out.lt
    have c_bp0 := HBP.out.cell 0
    have l_bp := HBP.out.lt
    go_quiet (fail)
    clear c_bx2 l_bx c_bp0 l_bp
    generalize hd : World.drewN W4 _ = W5 at *
    have hb : Below W4.heap.size W4 W5 := by rw [← hd]; exact below_dn _ _
    have hb5 : Below w.heap.size w W5 := below_then HB4.out hb
    have b_bx5 := B4_bx.out.below hb B4_bx.out.lt
    have b_bp5 := HBP.out.below hb HBP.out.lt
    have hz5 := hb.size
    have HB5 := Lib.hid hb5
    have B5_bx := Lib.hid b_bx5
    have B5_bp := Lib.hid b_bp5
    clear hb5 b_bx5 b_bp5
    clear B4_bx HBP HB4
    clear hd hb
    have c_bx2 := B5_bx.out.cell 2
    have l_bx := B5_bx.out.lt
    have c_bp0 := B5_bp.out.cell 0
    have l_bp := B5_bp.out.lt
    have c_bx4 := B5_bx.out.cell 4
    have l_bx := B5_bx.out.lt
    go_wp2_with fail
    clear c_bx2 l_bx c_bp0 l_bp c_bx4
    have c_bx2 := B5_bx.out.cell 2
    have l_bx := B5_bx.out.lt
    have c_bp0 := B5_bp.out.cell 0
    have l_bp := B5_bp.out.lt
    go_quiet (fail)
    clear c_bx2 l_bx c_bp0 l_bp
    generalize hd : World.drewN W5 _ = W6 at *
    have hb : Below W5.heap.size W5 W6 := by rw [← hd]; exact below_dn _ _
    have hb6 : Below w.heap.size w W6 := below_then HB5.out hb
    have b_bx6 := B5_bx.out.below hb B5_bx.out.lt
    have b_bp6 := B5_bp.out.below hb B5_bp.out.lt
    have hz6 := hb.size
    have HB6 := Lib.hid hb6
    have B6_bx := Lib.hid b_bx6
    have B6_bp := Lib.hid b_bp6
    clear hb6 b_bx6 b_bp6
    clear B5_bx B5_bp HB5
    clear hd hb
    have c_bp1 := B6_bp.out.cell 1
    have f_bp1 := B6_bp.out.frozen 1
    have l_bp := B6_bp.out.lt
    go_upto_region 14 with fail
    clear c_bp1 f_bp1 l_bp
    have hsz7 := HB6.out.size
    have hb7 : Below w.heap.size w (W6.setCell ⟨W3.heap.size, 1, none⟩ (.int .i64 (-1))) := (HB6.out).setCell (by show w.heap.size ≤ W3.heap.size; omega) _
    have b_bx7 : Blk (W6.setCell ⟨W3.heap.size, 1, none⟩ (.int .i64 (-1))) (w.heap.size) 55 #[.int .i64 ep, .int .i64 pid, .int .i64 ver, .int .i64 seq, .int .i64 kind, .bool txn, .string text] := (B6_bx.out).far (p := ⟨W3.heap.size, 1, none⟩) (by show w.heap.size ≠ W3.heap.size; omega) _
    have b_bp7 : Blk (W6.setCell ⟨W3.heap.size, 1, none⟩ (.int .i64 (-1))) (W3.heap.size) 110 #[.int .i64 qv, .int .i64 (-1), .int .i64 qo, .int .i64 qm] := (B6_bp.out).set_ 1 _
    have hz7 : W6.heap.size + 0 ≤ (W6.setCell ⟨W3.heap.size, 1, none⟩ (.int .i64 (-1))).heap.size := by first | omega | (simp; done) | (simp; omega)
    generalize W6.setCell ⟨W3.heap.size, 1, none⟩ (.int .i64 (-1)) = W7 at *
    have HB7 := Lib.hid hb7
    have B7_bx := Lib.hid b_bx7
    have B7_bp := Lib.hid b_bp7
    clear hb7 b_bx7 b_bp7
    clear B6_bx B6_bp HB6
    have c_bx3 := B7_bx.out.cell 3
    have l_bx := B7_bx.out.lt
    have c_bp1 := B7_bp.out.cell 1
    have l_bp := B7_bp.out.lt
    go_wp2_with fail
    go_quiet (fail)
    clear c_bx3 l_bx c_bp1 l_bp
    generalize hd : World.drewN W7 _ = W8 at *
    have hb : Below W7.heap.size W7 W8 := by rw [← hd]; exact below_dn _ _
    have hb8 : Below w.heap.size w W8 := below_then HB7.out hb
    have b_bx8 := B7_bx.out.below hb B7_bx.out.lt
    have b_bp8 := B7_bp.out.below hb B7_bp.out.lt
    have hz8 := hb.size
    have HB8 := Lib.hid hb8
    have B8_bx := Lib.hid b_bx8
    have B8_bp := Lib.hid b_bp8
    clear hb8 b_bx8 b_bp8
    clear B7_bx B7_bp HB7
    clear hd hb
    have c_bx3 := B8_bx.out.cell 3
    have l_bx := B8_bx.out.lt
    have c_bp1 := B8_bp.out.cell 1
    have l_bp := B8_bp.out.lt
    go_wp2_with fail
    go_quiet (fail)
    clear c_bx3 l_bx c_bp1 l_bp
    generalize hd : World.drewN W8 _ = W9 at *
    have hb : Below W8.heap.size W8 W9 := by rw [← hd]; exact below_dn _ _
    have hb9 : Below w.heap.size w W9 := below_then HB8.out hb
    have b_bx9 := B8_bx.out.below hb B8_bx.out.lt
    have b_bp9 := B8_bp.out.below hb B8_bp.out.lt
    have hz9 := hb.size
    have HB9 := Lib.hid hb9
    have B9_bx := Lib.hid b_bx9
    have B9_bp := Lib.hid b_bp9
    clear hb9 b_bx9 b_bp9
    clear B8_bx B8_bp HB8
    clear hd hb
    go_wp2
    go_ret2
    exact ⟨rfl, HB9.out⟩
  · have hrun := HM.out.look HWF.out hf
    simp only [ptrV] at hrun
    obtain ⟨hbb, q9, hq9, hbq⟩ := HM.out.blk pid b hf
    have he : (⟨ qv,  qs,  qo,  qm⟩ : PrD) = q9 := by rw [HDF.out, hq9]; rfl
    rw [← he] at hbq
    have hbp : Blk W3 b 110 #[.int .i64 qv, .int .i64 qs, .int .i64 qo, .int .i64 qm] := hbq
    have HBP := Lib.hid hbp
    clear hbq hbp he hq9
    have HF := Lib.hid hf
    clear hf
    refine wpAnyH_ready (rs := [4]) (by kernel_rfl) (by simp) (AllReadyH.cons rfl (fun K hK => ?_) AllReadyH.nil)
    go_simp
    refine hK.out _ _ ?_ (fun hHeld => ?_)
    · assumption
    clear hK K
    try simp only [Act.put, List.getElem_toArray, List.getElem_cons_zero, List.getElem_cons_succ, List.setIfInBounds_toArray, List.set_cons_zero, List.set_cons_succ]
    clear hrun
    refine wpAnyH_take (i := 5) (v := ?_) rfl (by kernel_rfl) (by kernel_rfl) (by kernel_rfl) (fun _ _ _ h => h) (Or.inl ⟨by rfl, ?_⟩) (by assumption) ?_
    rotate_left
    · intro w0 hSw
      (try dsimp only at hSw)
      go_simp
      all_goals with_reducible rfl
    try simp only [Act.put, List.getElem_toArray, List.getElem_cons_zero, List.getElem_cons_succ, List.setIfInBounds_toArray, List.set_cons_zero, List.set_cons_succ]
    refine wpAnyH_done (by kernel_rfl) ?_ _
    go_upto_region 6 with fail
    have c_bx2 := B3_bx.out.cell 2
    have l_bx := B3_bx.out.lt
    have c_bp0 := HBP.out.cell 0
    have l_bp := HBP.out.lt
    go_quiet (fail)
    clear c_bx2 l_bx c_bp0 l_bp
    generalize hd : World.drewN W3 _ = W4 at *
    have hb : Below W3.heap.size W3 W4 := by rw [← hd]; exact below_dn _ _
    have hb4 : Below w.heap.size w W4 := below_then HB3.out hb
    have b_bx4 := B3_bx.out.below hb B3_bx.out.lt
    have b_bp4 := HBP.out.below hb HBP.out.lt
    have hz4 := hb.size
    have HB4 := Lib.hid hb4
    have B4_bx := Lib.hid b_bx4
    have B4_bp := Lib.hid b_bp4
    clear hb4 b_bx4 b_bp4
    clear B3_bx HBP HB3
    clear hd hb
    have c_bx2 := B4_bx.out.cell 2
    have l_bx := B4_bx.out.lt
    have c_bp0 := B4_bp.out.cell 0
    have l_bp := B4_bp.out.lt
    have c_bx4 := B4_bx.out.cell 4
    have l_bx := B4_bx.out.lt
    go_wp2_with fail
    clear c_bx2 l_bx c_bp0 l_bp c_bx4
    have c_bx2 := B4_bx.out.cell 2
    have l_bx := B4_bx.out.lt
    have c_bp0 := B4_bp.out.cell 0
    have l_bp := B4_bp.out.lt
    go_quiet (fail)
    clear c_bx2 l_bx c_bp0 l_bp
    generalize hd : World.drewN W4 _ = W5 at *
    have hb : Below W4.heap.size W4 W5 := by rw [← hd]; exact below_dn _ _
    have hb5 : Below w.heap.size w W5 := below_then HB4.out hb
    have b_bx5 := B4_bx.out.below hb B4_bx.out.lt
    have b_bp5 := B4_bp.out.below hb B4_bp.out.lt
    have hz5 := hb.size
    have HB5 := Lib.hid hb5
    have B5_bx := Lib.hid b_bx5
    have B5_bp := Lib.hid b_bp5
    clear hb5 b_bx5 b_bp5
    clear B4_bx B4_bp HB4
    clear hd hb
    have c_bp1 := B5_bp.out.cell 1
    have f_bp1 := B5_bp.out.frozen 1
    have l_bp := B5_bp.out.lt
    go_upto_region 14 with fail
    clear c_bp1 f_bp1 l_bp
    have hsz6 := HB5.out.size
    have hb6 : Below w.heap.size w (W5.setCell ⟨b, 1, none⟩ (.int .i64 (-1))) := (HB5.out).setCell (by show w.heap.size ≤ b; omega) _
    have b_bx6 : Blk (W5.setCell ⟨b, 1, none⟩ (.int .i64 (-1))) (w.heap.size) 55 #[.int .i64 ep, .int .i64 pid, .int .i64 ver, .int .i64 seq, .int .i64 kind, .bool txn, .string text] := (B5_bx.out).far (p := ⟨b, 1, none⟩) (by show w.heap.size ≠ b; omega) _
    have b_bp6 : Blk (W5.setCell ⟨b, 1, none⟩ (.int .i64 (-1))) (b) 110 #[.int .i64 qv, .int .i64 (-1), .int .i64 qo, .int .i64 qm] := (B5_bp.out).set_ 1 _
    have hz6 : W5.heap.size + 0 ≤ (W5.setCell ⟨b, 1, none⟩ (.int .i64 (-1))).heap.size := by first | omega | (simp; done) | (simp; omega)
    generalize W5.setCell ⟨b, 1, none⟩ (.int .i64 (-1)) = W6 at *
    have HB6 := Lib.hid hb6
    have B6_bx := Lib.hid b_bx6
    have B6_bp := Lib.hid b_bp6
    clear hb6 b_bx6 b_bp6
    clear B5_bx B5_bp HB5
    have c_bx3 := B6_bx.out.cell 3
    have l_bx := B6_bx.out.lt
    have c_bp1 := B6_bp.out.cell 1
    have l_bp := B6_bp.out.lt
    go_wp2_with fail
    go_quiet (fail)
    clear c_bx3 l_bx c_bp1 l_bp
    generalize hd : World.drewN W6 _ = W7 at *
    have hb : Below W6.heap.size W6 W7 := by rw [← hd]; exact below_dn _ _
    have hb7 : Below w.heap.size w W7 := below_then HB6.out hb
    have b_bx7 := B6_bx.out.below hb B6_bx.out.lt
    have b_bp7 := B6_bp.out.below hb B6_bp.out.lt
    have hz7 := hb.size
    have HB7 := Lib.hid hb7
    have B7_bx := Lib.hid b_bx7
    have B7_bp := Lib.hid b_bp7
    clear hb7 b_bx7 b_bp7
    clear B6_bx B6_bp HB6
    clear hd hb
    have c_bx3 := B7_bx.out.cell 3
    have l_bx := B7_bx.out.lt
    have c_bp1 := B7_bp.out.cell 1
    have l_bp := B7_bp.out.lt
    go_wp2_with fail
    go_quiet (fail)
    clear c_bx3 l_bx c_bp1 l_bp
    generalize hd : World.drewN W7 _ = W8 at *
    have hb : Below W7.heap.size W7 W8 := by rw [← hd]; exact below_dn _ _
    have hb8 : Below w.heap.size w W8 := below_then HB7.out hb
    have b_bx8 := B7_bx.out.below hb B7_bx.out.lt
    have b_bp8 := B7_bp.out.below hb B7_bp.out.lt
    have hz8 := hb.size
    have HB8 := Lib.hid hb8
    have B8_bx := Lib.hid b_bx8
    have B8_bp := Lib.hid b_bp8
    clear hb8 b_bx8 b_bp8
    clear B7_bx B7_bp HB7
    clear hd hb
    go_wp2
    go_ret2
    exact ⟨rfl, HB8.out⟩
set_option maxRecDepth 100000 in
set_option maxHeartbeats 4000000 in
theorem check_gap_old (v : Value) (es : List Ent) (x : Ent) (w : World) (h : Es w v es) (hp : PlainE es) (hl : es.length ≤ 9223372036854775806) (hx : 0 ≤ x.ver ∧ x.ver ≤ 1073741824 ∧ 0 ≤ x.seq ∧ x.seq ≤ 1073741824 ∧ 0 ≤ x.pid ∧ x.pid ≤ 1073741824) (h0 : x.pid ≠ 0) (q : PrD) (hq : q = prOf es x) (hf : ¬ x.ver < q.ver) (hk : x.kind = 1) (hv : ¬ q.ver < x.ver) (hg : q.seq + 1 < x.seq) :
    Calls Try.prog 96 #[v, .agg #[.int .i64 x.ep, .int .i64 x.pid, .int .i64 x.ver, .int .i64 x.seq, .int .i64 x.kind, .bool x.txn, .string x.text]] w fun e w' => e = .returned (.tuple #[.int .i64 0, .int .i64 11]) ∧ Below w.heap.size w w' := by
  obtain ⟨A, c, rfl, hc, hx1⟩ := h.at_
  have HX := Lib.hid hx1
  have H := Lib.hid h
  have HP := Lib.hid hp
  obtain ⟨x0, x1, x2, x3, x4, x5⟩ := hx
  obtain ⟨k1, k2, k3, k4⟩ := prOf_known hp x
  have hdef : prOf es x = (prTo es x.pid es.length).getD ⟨x.ver, -1, -1, -1⟩ := rfl
  have hgd : prG es es.length x.pid = prTo es x.pid es.length := by unfold prG; rw [if_neg h0]
  rw [hgd.symm] at hdef
  rw [← hq] at k1 k2 k3 k4 hdef
  have z1 : (x.pid == 0) = false := beq_eq_false_iff_ne.2 h0
  have hwf : (Lit.int .i64 x.pid).wf = true := WalkArith.wf_i64 (by omega)
  have HWF := Lib.hid hwf
  have HDF := Lib.hid hdef
  clear h hx1 hp hq hgd hwf hdef h0
  have z2 : decide (x.ver < q.ver) = false := decide_eq_false hf
  clear hf
  have z3 : (x.kind != 1) = false := by simpa using hk
  clear hk
  have z4 : decide (q.ver < x.ver) = false := decide_eq_false hv
  clear hv
  have z5 : decide ((q.seq + 1) < x.seq) = true := decide_eq_true (by omega)
  clear hg
  obtain ⟨ep, pid, ver, seq, kind, txn, text⟩ := x
  obtain ⟨qv, qs, qo, qm⟩ := q
  simp only at *
  go_enter Try.func96, Try.ntmps96
  go_wp2_with fail
  have hb1 : Below w.heap.size w (w.alloc (.cells #[.int .i64 ep, .int .i64 pid, .int .i64 ver, .int .i64 seq, .int .i64 kind, .bool txn, .string text] 55)) := (Below.refl _ _).alloc (by first | omega | (simp; done) | (simp; omega)) _
  have hal1 : Below w.heap.size w (w.alloc (.cells #[.int .i64 ep, .int .i64 pid, .int .i64 ver, .int .i64 seq, .int .i64 kind, .bool txn, .string text] 55)) := (Below.refl _ _).alloc (by first | omega | (simp; done) | (simp; omega)) _
  have b_bx1 : Blk (w.alloc (.cells #[.int .i64 ep, .int .i64 pid, .int .i64 ver, .int .i64 seq, .int .i64 kind, .bool txn, .string text] 55)) (w.heap.size) 55 #[.int .i64 ep, .int .i64 pid, .int .i64 ver, .int .i64 seq, .int .i64 kind, .bool txn, .string text] := Blk.new_ _ 55 #[.int .i64 ep, .int .i64 pid, .int .i64 ver, .int .i64 seq, .int .i64 kind, .bool txn, .string text] (by first | rfl | (simp; done) | (simp; omega))
  have hz1 : w.heap.size + 1 ≤ (w.alloc (.cells #[.int .i64 ep, .int .i64 pid, .int .i64 ver, .int .i64 seq, .int .i64 kind, .bool txn, .string text] 55)).heap.size := by first | omega | (simp; done) | (simp; omega)
  generalize w.alloc (.cells #[.int .i64 ep, .int .i64 pid, .int .i64 ver, .int .i64 seq, .int .i64 kind, .bool txn, .string text] 55) = W1 at *
  have HB1 := Lib.hid hb1
  have B1_bx := Lib.hid b_bx1
  clear hb1 b_bx1
  have c_bx0 := B1_bx.out.cell 0
  have c_bx1 := B1_bx.out.cell 1
  have c_bx2 := B1_bx.out.cell 2
  have c_bx3 := B1_bx.out.cell 3
  have c_bx4 := B1_bx.out.cell 4
  have c_bx5 := B1_bx.out.cell 5
  have c_bx6 := B1_bx.out.cell 6
  have l_bx := B1_bx.out.lt
  go_wp2_with fail
  clear c_bx0 c_bx1 c_bx2 c_bx3 c_bx4 c_bx5 c_bx6 l_bx
  have c_bx1 := B1_bx.out.cell 1
  have l_bx := B1_bx.out.lt
  refine wp_region_held_drew (S := fun w0 => w0.cell? ⟨w.heap.size, 1, none⟩ = some (.int .i64 pid)) (by kernel_rfl) ?_ (fun hHeld => ?_)
  · exact c_bx1
  clear c_bx1 l_bx
  generalize hd : World.drew W1 = W2 at *
  have hb : Below W1.heap.size W1 W2 := by rw [← hd]; exact (Below.refl _ _).drew
  have hb2 : Below w.heap.size w W2 := below_then HB1.out hb
  have b_bx2 := B1_bx.out.below hb B1_bx.out.lt
  have hz2 := hb.size
  have HB2 := Lib.hid hb2
  have B2_bx := Lib.hid b_bx2
  clear hb2 b_bx2
  clear B1_bx HB1
  clear hd hb
  refine wpAnyH_take (i := 0) (v := ?_) rfl (by kernel_rfl) (by kernel_rfl) (by kernel_rfl) (fun _ _ _ h => h) (Or.inl ⟨by rfl, ?_⟩) (by assumption) ?_
  rotate_left
  · intro w0 hSw
    (try dsimp only at hSw)
    go_simp
    all_goals with_reducible rfl
  try simp only [Act.put, List.getElem_toArray, List.getElem_cons_zero, List.setIfInBounds_toArray, List.set_cons_zero, List.set_cons_succ]
  refine wpAnyH_take (i := 2) (v := ?_) rfl (by kernel_rfl) (by kernel_rfl) (by kernel_rfl) (fun _ _ _ h => h) (Or.inl ⟨by rfl, ?_⟩) (by assumption) ?_
  rotate_left
  · intro w0 hSw
    (try dsimp only at hSw)
    go_simp
    all_goals with_reducible rfl
  try simp only [Act.put, List.getElem_toArray, List.getElem_cons_zero, List.getElem_cons_succ, List.setIfInBounds_toArray, List.set_cons_zero, List.set_cons_succ]
  refine wpAnyH_take (i := 3) (v := ?_) rfl (by kernel_rfl) (by kernel_rfl) (by kernel_rfl) (fun _ _ _ h => h) (Or.inl ⟨by rfl, ?_⟩) (by assumption) ?_
  rotate_left
  · intro w0 hSw
    (try dsimp only at hSw)
    go_simp
    all_goals with_reducible rfl
  try simp only [Act.put, List.getElem_toArray, List.getElem_cons_zero, List.getElem_cons_succ, List.setIfInBounds_toArray, List.set_cons_zero, List.set_cons_succ]
  refine wpAnyH_ready (rs := [1]) (by kernel_rfl) (by simp) (AllReadyH.cons rfl (fun K hK => ?_) AllReadyH.nil)
  go_simp
  go_at_call 108
  refine (replay_any _ es _ (H.out.below HB2.out) HP.out hl).mono ?_
  rintro e W3 ⟨M, f, rfl, hm, hb, hM⟩
  have HM := Lib.hid hm
  clear hm
  have hb3 : Below w.heap.size w W3 := below_then HB2.out hb
  have b_bx3 := B2_bx.out.below hb B2_bx.out.lt
  have hz3 := hb.size
  have HB3 := Lib.hid hb3
  have B3_bx := Lib.hid b_bx3
  clear hb3 b_bx3
  clear B2_bx HB2
  refine hK.out _ _ ?_ (fun hHeld => ?_)
  · exact (B3_bx.out).cell 1
  clear hK K
  try simp only [Act.put, List.getElem_toArray, List.getElem_cons_zero, List.getElem_cons_succ, List.setIfInBounds_toArray, List.set_cons_zero, List.set_cons_succ]
  rcases hf : f pid with _ | b
  · have hrun := HM.out.look HWF.out hf
    simp only [ptrV] at hrun
    have hgn := HM.out.none_ pid hf
    have HGN := Lib.hid hgn
    clear hgn
    have HF := Lib.hid hf
    clear hf
    refine wpAnyH_ready (rs := [4]) (by kernel_rfl) (by simp) (AllReadyH.cons rfl (fun K hK => ?_) AllReadyH.nil)
    go_simp
    refine hK.out _ _ ?_ (fun hHeld => ?_)
    · assumption
    clear hK K
    try simp only [Act.put, List.getElem_toArray, List.getElem_cons_zero, List.getElem_cons_succ, List.setIfInBounds_toArray, List.set_cons_zero, List.set_cons_succ]
    clear hrun
    refine wpAnyH_take (i := 5) (v := ?_) rfl (by kernel_rfl) (by kernel_rfl) (by kernel_rfl) (fun _ _ _ h => h) (Or.inl ⟨by rfl, ?_⟩) (by assumption) ?_
    rotate_left
    · intro w0 hSw
      (try dsimp only at hSw)
      go_simp
      all_goals with_reducible rfl
    try simp only [Act.put, List.getElem_toArray, List.getElem_cons_zero, List.getElem_cons_succ, List.setIfInBounds_toArray, List.set_cons_zero, List.set_cons_succ]
    refine wpAnyH_done (by kernel_rfl) ?_ _
    have c_bx0 := B3_bx.out.cell 0
    have c_bx1 := B3_bx.out.cell 1
    have c_bx2 := B3_bx.out.cell 2
    have c_bx3 := B3_bx.out.cell 3
    have c_bx4 := B3_bx.out.cell 4
    have c_bx5 := B3_bx.out.cell 5
    have c_bx6 := B3_bx.out.cell 6
    have l_bx := B3_bx.out.lt
    go_upto_region 6 with fail
    clear c_bx0 c_bx1 c_bx2 c_bx3 c_bx4 c_bx5 c_bx6 l_bx
    have hsz4 := HB3.out.size
    have hb4 : Below w.heap.size w (W3.alloc (.cells #[.int .i64 ver, .int .i64 (-1), .int .i64 (-1), .int .i64 (-1)] 110)) := (HB3.out).alloc (by first | omega | (simp; done) | (simp; omega)) _
    have hal4 : Below W3.heap.size W3 (W3.alloc (.cells #[.int .i64 ver, .int .i64 (-1), .int .i64 (-1), .int .i64 (-1)] 110)) := (Below.refl _ _).alloc (by first | omega | (simp; done) | (simp; omega)) _
    have b_bx4 : Blk (W3.alloc (.cells #[.int .i64 ver, .int .i64 (-1), .int .i64 (-1), .int .i64 (-1)] 110)) (w.heap.size) 55 #[.int .i64 ep, .int .i64 pid, .int .i64 ver, .int .i64 seq, .int .i64 kind, .bool txn, .string text] := (B3_bx.out).alloc _
    have b_bp4 : Blk (W3.alloc (.cells #[.int .i64 ver, .int .i64 (-1), .int .i64 (-1), .int .i64 (-1)] 110)) (W3.heap.size) 110 #[.int .i64 ver, .int .i64 (-1), .int .i64 (-1), .int .i64 (-1)] := Blk.new_ _ 110 #[.int .i64 ver, .int .i64 (-1), .int .i64 (-1), .int .i64 (-1)] (by first | rfl | (simp; done) | (simp; omega))
    have hz4 : W3.heap.size + 1 ≤ (W3.alloc (.cells #[.int .i64 ver, .int .i64 (-1), .int .i64 (-1), .int .i64 (-1)] 110)).heap.size := by first | omega | (simp; done) | (simp; omega)
    generalize W3.alloc (.cells #[.int .i64 ver, .int .i64 (-1), .int .i64 (-1), .int .i64 (-1)] 110) = W4 at *
    have HB4 := Lib.hid hb4
    have B4_bx := Lib.hid b_bx4
    have B4_bp := Lib.hid b_bp4
    clear hb4 b_bx4 b_bp4
    clear B3_bx HB3
    have hbp : Blk W4 (W3.heap.size) 110 #[.int .i64 qv, .int .i64 qs, .int .i64 qo, .int .i64 qm] := by
      have he := HDF.out
      rw [HGN.out] at he
      simp only [Option.getD_none, PrD.mk.injEq] at he
      rw [he.1, he.2.1, he.2.2.1, he.2.2.2]
      exact B4_bp.out
    have HBP := Lib.hid hbp
    clear hbp B4_bp
    have hbb : w.heap.size ≤ W3.heap.size := by omega
    have c_bx2 := B4_bx.out.cell 2
    have l_bx := B4_bx.out.lt
    have c_bp0 := HBP.out.cell 0
    have l_bp := HBP.out.lt
    go_quiet (fail)
    clear c_bx2 l_bx c_bp0 l_bp
    generalize hd : World.drewN W4 _ = W5 at *
    have hb : Below W4.heap.size W4 W5 := by rw [← hd]; exact below_dn _ _
    have hb5 : Below w.heap.size w W5 := below_then HB4.out hb
    have b_bx5 := B4_bx.out.below hb B4_bx.out.lt
    have b_bp5 := HBP.out.below hb HBP.out.lt
    have hz5 := hb.size
    have HB5 := Lib.hid hb5
    have B5_bx := Lib.hid b_bx5
    have B5_bp := Lib.hid b_bp5
    clear hb5 b_bx5 b_bp5
    clear B4_bx HBP HB4
    clear hd hb
    have c_bx2 := B5_bx.out.cell 2
    have l_bx := B5_bx.out.lt
    have c_bp0 := B5_bp.out.cell 0
    have l_bp := B5_bp.out.lt
    have c_bx4 := B5_bx.out.cell 4
    have l_bx := B5_bx.out.lt
    go_wp2_with fail
    clear c_bx2 l_bx c_bp0 l_bp c_bx4
    have c_bx2 := B5_bx.out.cell 2
    have l_bx := B5_bx.out.lt
    have c_bp0 := B5_bp.out.cell 0
    have l_bp := B5_bp.out.lt
    go_quiet (fail)
    clear c_bx2 l_bx c_bp0 l_bp
    generalize hd : World.drewN W5 _ = W6 at *
    have hb : Below W5.heap.size W5 W6 := by rw [← hd]; exact below_dn _ _
    have hb6 : Below w.heap.size w W6 := below_then HB5.out hb
    have b_bx6 := B5_bx.out.below hb B5_bx.out.lt
    have b_bp6 := B5_bp.out.below hb B5_bp.out.lt
    have hz6 := hb.size
    have HB6 := Lib.hid hb6
    have B6_bx := Lib.hid b_bx6
    have B6_bp := Lib.hid b_bp6
    clear hb6 b_bx6 b_bp6
    clear B5_bx B5_bp HB5
    clear hd hb
    have c_bx3 := B6_bx.out.cell 3
    have l_bx := B6_bx.out.lt
    have c_bp1 := B6_bp.out.cell 1
    have l_bp := B6_bp.out.lt
    go_wp2_with fail
    go_quiet (fail)
    clear c_bx3 l_bx c_bp1 l_bp
    generalize hd : World.drewN W6 _ = W7 at *
    have hb : Below W6.heap.size W6 W7 := by rw [← hd]; exact below_dn _ _
    have hb7 : Below w.heap.size w W7 := below_then HB6.out hb
    have b_bx7 := B6_bx.out.below hb B6_bx.out.lt
    have b_bp7 := B6_bp.out.below hb B6_bp.out.lt
    have hz7 := hb.size
    have HB7 := Lib.hid hb7
    have B7_bx := Lib.hid b_bx7
    have B7_bp := Lib.hid b_bp7
    clear hb7 b_bx7 b_bp7
    clear B6_bx B6_bp HB6
    clear hd hb
    go_wp2
    go_ret2
    exact ⟨rfl, HB7.out⟩
  · have hrun := HM.out.look HWF.out hf
    simp only [ptrV] at hrun
    obtain ⟨hbb, q9, hq9, hbq⟩ := HM.out.blk pid b hf
    have he : (⟨ qv,  qs,  qo,  qm⟩ : PrD) = q9 := by rw [HDF.out, hq9]; rfl
    rw [← he] at hbq
    have hbp : Blk W3 b 110 #[.int .i64 qv, .int .i64 qs, .int .i64 qo, .int .i64 qm] := hbq
    have HBP := Lib.hid hbp
    clear hbq hbp he hq9
    have HF := Lib.hid hf
    clear hf
    refine wpAnyH_ready (rs := [4]) (by kernel_rfl) (by simp) (AllReadyH.cons rfl (fun K hK => ?_) AllReadyH.nil)
    go_simp
    refine hK.out _ _ ?_ (fun hHeld => ?_)
    · assumption
    clear hK K
    try simp only [Act.put, List.getElem_toArray, List.getElem_cons_zero, List.getElem_cons_succ, List.setIfInBounds_toArray, List.set_cons_zero, List.set_cons_succ]
    clear hrun
    refine wpAnyH_take (i := 5) (v := ?_) rfl (by kernel_rfl) (by kernel_rfl) (by kernel_rfl) (fun _ _ _ h => h) (Or.inl ⟨by rfl, ?_⟩) (by assumption) ?_
    rotate_left
    · intro w0 hSw
      (try dsimp only at hSw)
      go_simp
      all_goals with_reducible rfl
    try simp only [Act.put, List.getElem_toArray, List.getElem_cons_zero, List.getElem_cons_succ, List.setIfInBounds_toArray, List.set_cons_zero, List.set_cons_succ]
    refine wpAnyH_done (by kernel_rfl) ?_ _
    go_upto_region 6 with fail
    have c_bx2 := B3_bx.out.cell 2
    have l_bx := B3_bx.out.lt
    have c_bp0 := HBP.out.cell 0
    have l_bp := HBP.out.lt
    go_quiet (fail)
    clear c_bx2 l_bx c_bp0 l_bp
    generalize hd : World.drewN W3 _ = W4 at *
    have hb : Below W3.heap.size W3 W4 := by rw [← hd]; exact below_dn _ _
    have hb4 : Below w.heap.size w W4 := below_then HB3.out hb
    have b_bx4 := B3_bx.out.below hb B3_bx.out.lt
    have b_bp4 := HBP.out.below hb HBP.out.lt
    have hz4 := hb.size
    have HB4 := Lib.hid hb4
    have B4_bx := Lib.hid b_bx4
    have B4_bp := Lib.hid b_bp4
    clear hb4 b_bx4 b_bp4
    clear B3_bx HBP HB3
    clear hd hb
    have c_bx2 := B4_bx.out.cell 2
    have l_bx := B4_bx.out.lt
    have c_bp0 := B4_bp.out.cell 0
    have l_bp := B4_bp.out.lt
    have c_bx4 := B4_bx.out.cell 4
    have l_bx := B4_bx.out.lt
    go_wp2_with fail
    clear c_bx2 l_bx c_bp0 l_bp c_bx4
    have c_bx2 := B4_bx.out.cell 2
    have l_bx := B4_bx.out.lt
    have c_bp0 := B4_bp.out.cell 0
    have l_bp := B4_bp.out.lt
    go_quiet (fail)
    clear c_bx2 l_bx c_bp0 l_bp
    generalize hd : World.drewN W4 _ = W5 at *
    have hb : Below W4.heap.size W4 W5 := by rw [← hd]; exact below_dn _ _
    have hb5 : Below w.heap.size w W5 := below_then HB4.out hb
    have b_bx5 := B4_bx.out.below hb B4_bx.out.lt
    have b_bp5 := B4_bp.out.below hb B4_bp.out.lt
    have hz5 := hb.size
    have HB5 := Lib.hid hb5
    have B5_bx := Lib.hid b_bx5
    have B5_bp := Lib.hid b_bp5
    clear hb5 b_bx5 b_bp5
    clear B4_bx B4_bp HB4
    clear hd hb
    have c_bx3 := B5_bx.out.cell 3
    have l_bx := B5_bx.out.lt
    have c_bp1 := B5_bp.out.cell 1
    have l_bp := B5_bp.out.lt
    go_wp2_with fail
    go_quiet (fail)
    clear c_bx3 l_bx c_bp1 l_bp
    generalize hd : World.drewN W5 _ = W6 at *
    have hb : Below W5.heap.size W5 W6 := by rw [← hd]; exact below_dn _ _
    have hb6 : Below w.heap.size w W6 := below_then HB5.out hb
    have b_bx6 := B5_bx.out.below hb B5_bx.out.lt
    have b_bp6 := B5_bp.out.below hb B5_bp.out.lt
    have hz6 := hb.size
    have HB6 := Lib.hid hb6
    have B6_bx := Lib.hid b_bx6
    have B6_bp := Lib.hid b_bp6
    clear hb6 b_bx6 b_bp6
    clear B5_bx B5_bp HB5
    clear hd hb
    go_wp2
    go_ret2
    exact ⟨rfl, HB6.out⟩
set_option maxRecDepth 100000 in
set_option maxHeartbeats 4000000 in
theorem check_next_old (v : Value) (es : List Ent) (x : Ent) (w : World) (h : Es w v es) (hp : PlainE es) (hl : es.length ≤ 9223372036854775806) (hx : 0 ≤ x.ver ∧ x.ver ≤ 1073741824 ∧ 0 ≤ x.seq ∧ x.seq ≤ 1073741824 ∧ 0 ≤ x.pid ∧ x.pid ≤ 1073741824) (h0 : x.pid ≠ 0) (q : PrD) (hq : q = prOf es x) (hf : ¬ x.ver < q.ver) (hk : x.kind = 1) (hv : ¬ q.ver < x.ver) (hg : x.seq = q.seq + 1) :
    Calls Try.prog 96 #[v, .agg #[.int .i64 x.ep, .int .i64 x.pid, .int .i64 x.ver, .int .i64 x.seq, .int .i64 x.kind, .bool x.txn, .string x.text]] w fun e w' => e = .returned (.tuple #[.int .i64 (-1), .int .i64 0]) ∧ Below w.heap.size w w' := by
  obtain ⟨A, c, rfl, hc, hx1⟩ := h.at_
  have HX := Lib.hid hx1
  have H := Lib.hid h
  have HP := Lib.hid hp
  obtain ⟨x0, x1, x2, x3, x4, x5⟩ := hx
  obtain ⟨k1, k2, k3, k4⟩ := prOf_known hp x
  have hdef : prOf es x = (prTo es x.pid es.length).getD ⟨x.ver, -1, -1, -1⟩ := rfl
  have hgd : prG es es.length x.pid = prTo es x.pid es.length := by unfold prG; rw [if_neg h0]
  rw [hgd.symm] at hdef
  rw [← hq] at k1 k2 k3 k4 hdef
  have z1 : (x.pid == 0) = false := beq_eq_false_iff_ne.2 h0
  have hwf : (Lit.int .i64 x.pid).wf = true := WalkArith.wf_i64 (by omega)
  have HWF := Lib.hid hwf
  have HDF := Lib.hid hdef
  clear h hx1 hp hq hgd hwf hdef h0
  have z2 : decide (x.ver < q.ver) = false := decide_eq_false hf
  clear hf
  have z3 : (x.kind != 1) = false := by simpa using hk
  clear hk
  have z4 : decide (q.ver < x.ver) = false := decide_eq_false hv
  clear hv
  have z5 : decide ((q.seq + 1) < x.seq) = false := decide_eq_false (by omega)
  have z6 : (x.seq == (q.seq + 1)) = true := beq_iff_eq.2 (by omega)
  clear hg
  obtain ⟨ep, pid, ver, seq, kind, txn, text⟩ := x
  obtain ⟨qv, qs, qo, qm⟩ := q
  simp only at *
  go_enter Try.func96, Try.ntmps96
  go_wp2_with fail
  have hb1 : Below w.heap.size w (w.alloc (.cells #[.int .i64 ep, .int .i64 pid, .int .i64 ver, .int .i64 seq, .int .i64 kind, .bool txn, .string text] 55)) := (Below.refl _ _).alloc (by first | omega | (simp; done) | (simp; omega)) _
  have hal1 : Below w.heap.size w (w.alloc (.cells #[.int .i64 ep, .int .i64 pid, .int .i64 ver, .int .i64 seq, .int .i64 kind, .bool txn, .string text] 55)) := (Below.refl _ _).alloc (by first | omega | (simp; done) | (simp; omega)) _
  have b_bx1 : Blk (w.alloc (.cells #[.int .i64 ep, .int .i64 pid, .int .i64 ver, .int .i64 seq, .int .i64 kind, .bool txn, .string text] 55)) (w.heap.size) 55 #[.int .i64 ep, .int .i64 pid, .int .i64 ver, .int .i64 seq, .int .i64 kind, .bool txn, .string text] := Blk.new_ _ 55 #[.int .i64 ep, .int .i64 pid, .int .i64 ver, .int .i64 seq, .int .i64 kind, .bool txn, .string text] (by first | rfl | (simp; done) | (simp; omega))
  have hz1 : w.heap.size + 1 ≤ (w.alloc (.cells #[.int .i64 ep, .int .i64 pid, .int .i64 ver, .int .i64 seq, .int .i64 kind, .bool txn, .string text] 55)).heap.size := by first | omega | (simp; done) | (simp; omega)
  generalize w.alloc (.cells #[.int .i64 ep, .int .i64 pid, .int .i64 ver, .int .i64 seq, .int .i64 kind, .bool txn, .string text] 55) = W1 at *
  have HB1 := Lib.hid hb1
  have B1_bx := Lib.hid b_bx1
  clear hb1 b_bx1
  have c_bx0 := B1_bx.out.cell 0
  have c_bx1 := B1_bx.out.cell 1
  have c_bx2 := B1_bx.out.cell 2
  have c_bx3 := B1_bx.out.cell 3
  have c_bx4 := B1_bx.out.cell 4
  have c_bx5 := B1_bx.out.cell 5
  have c_bx6 := B1_bx.out.cell 6
  have l_bx := B1_bx.out.lt
  go_wp2_with fail
  clear c_bx0 c_bx1 c_bx2 c_bx3 c_bx4 c_bx5 c_bx6 l_bx
  have c_bx1 := B1_bx.out.cell 1
  have l_bx := B1_bx.out.lt
  refine wp_region_held_drew (S := fun w0 => w0.cell? ⟨w.heap.size, 1, none⟩ = some (.int .i64 pid)) (by kernel_rfl) ?_ (fun hHeld => ?_)
  · exact c_bx1
  clear c_bx1 l_bx
  generalize hd : World.drew W1 = W2 at *
  have hb : Below W1.heap.size W1 W2 := by rw [← hd]; exact (Below.refl _ _).drew
  have hb2 : Below w.heap.size w W2 := below_then HB1.out hb
  have b_bx2 := B1_bx.out.below hb B1_bx.out.lt
  have hz2 := hb.size
  have HB2 := Lib.hid hb2
  have B2_bx := Lib.hid b_bx2
  clear hb2 b_bx2
  clear B1_bx HB1
  clear hd hb
  refine wpAnyH_take (i := 0) (v := ?_) rfl (by kernel_rfl) (by kernel_rfl) (by kernel_rfl) (fun _ _ _ h => h) (Or.inl ⟨by rfl, ?_⟩) (by assumption) ?_
  rotate_left
  · intro w0 hSw
    (try dsimp only at hSw)
    go_simp
    all_goals with_reducible rfl
  try simp only [Act.put, List.getElem_toArray, List.getElem_cons_zero, List.setIfInBounds_toArray, List.set_cons_zero, List.set_cons_succ]
  refine wpAnyH_take (i := 2) (v := ?_) rfl (by kernel_rfl) (by kernel_rfl) (by kernel_rfl) (fun _ _ _ h => h) (Or.inl ⟨by rfl, ?_⟩) (by assumption) ?_
  rotate_left
  · intro w0 hSw
    (try dsimp only at hSw)
    go_simp
    all_goals with_reducible rfl
  try simp only [Act.put, List.getElem_toArray, List.getElem_cons_zero, List.getElem_cons_succ, List.setIfInBounds_toArray, List.set_cons_zero, List.set_cons_succ]
  refine wpAnyH_take (i := 3) (v := ?_) rfl (by kernel_rfl) (by kernel_rfl) (by kernel_rfl) (fun _ _ _ h => h) (Or.inl ⟨by rfl, ?_⟩) (by assumption) ?_
  rotate_left
  · intro w0 hSw
    (try dsimp only at hSw)
    go_simp
    all_goals with_reducible rfl
  try simp only [Act.put, List.getElem_toArray, List.getElem_cons_zero, List.getElem_cons_succ, List.setIfInBounds_toArray, List.set_cons_zero, List.set_cons_succ]
  refine wpAnyH_ready (rs := [1]) (by kernel_rfl) (by simp) (AllReadyH.cons rfl (fun K hK => ?_) AllReadyH.nil)
  go_simp
  go_at_call 108
  refine (replay_any _ es _ (H.out.below HB2.out) HP.out hl).mono ?_
  rintro e W3 ⟨M, f, rfl, hm, hb, hM⟩
  have HM := Lib.hid hm
  clear hm
  have hb3 : Below w.heap.size w W3 := below_then HB2.out hb
  have b_bx3 := B2_bx.out.below hb B2_bx.out.lt
  have hz3 := hb.size
  have HB3 := Lib.hid hb3
  have B3_bx := Lib.hid b_bx3
  clear hb3 b_bx3
  clear B2_bx HB2
  refine hK.out _ _ ?_ (fun hHeld => ?_)
  · exact (B3_bx.out).cell 1
  clear hK K
  try simp only [Act.put, List.getElem_toArray, List.getElem_cons_zero, List.getElem_cons_succ, List.setIfInBounds_toArray, List.set_cons_zero, List.set_cons_succ]
  rcases hf : f pid with _ | b
  · have hrun := HM.out.look HWF.out hf
    simp only [ptrV] at hrun
    have hgn := HM.out.none_ pid hf
    have HGN := Lib.hid hgn
    clear hgn
    have HF := Lib.hid hf
    clear hf
    refine wpAnyH_ready (rs := [4]) (by kernel_rfl) (by simp) (AllReadyH.cons rfl (fun K hK => ?_) AllReadyH.nil)
    go_simp
    refine hK.out _ _ ?_ (fun hHeld => ?_)
    · assumption
    clear hK K
    try simp only [Act.put, List.getElem_toArray, List.getElem_cons_zero, List.getElem_cons_succ, List.setIfInBounds_toArray, List.set_cons_zero, List.set_cons_succ]
    clear hrun
    refine wpAnyH_take (i := 5) (v := ?_) rfl (by kernel_rfl) (by kernel_rfl) (by kernel_rfl) (fun _ _ _ h => h) (Or.inl ⟨by rfl, ?_⟩) (by assumption) ?_
    rotate_left
    · intro w0 hSw
      (try dsimp only at hSw)
      go_simp
      all_goals with_reducible rfl
    try simp only [Act.put, List.getElem_toArray, List.getElem_cons_zero, List.getElem_cons_succ, List.setIfInBounds_toArray, List.set_cons_zero, List.set_cons_succ]
    refine wpAnyH_done (by kernel_rfl) ?_ _
    have c_bx0 := B3_bx.out.cell 0
    have c_bx1 := B3_bx.out.cell 1
    have c_bx2 := B3_bx.out.cell 2
    have c_bx3 := B3_bx.out.cell 3
    have c_bx4 := B3_bx.out.cell 4
    have c_bx5 := B3_bx.out.cell 5
    have c_bx6 := B3_bx.out.cell 6
    have l_bx := B3_bx.out.lt
    go_upto_region 6 with fail
    clear c_bx0 c_bx1 c_bx2 c_bx3 c_bx4 c_bx5 c_bx6 l_bx
    have hsz4 := HB3.out.size
    have hb4 : Below w.heap.size w (W3.alloc (.cells #[.int .i64 ver, .int .i64 (-1), .int .i64 (-1), .int .i64 (-1)] 110)) := (HB3.out).alloc (by first | omega | (simp; done) | (simp; omega)) _
    have hal4 : Below W3.heap.size W3 (W3.alloc (.cells #[.int .i64 ver, .int .i64 (-1), .int .i64 (-1), .int .i64 (-1)] 110)) := (Below.refl _ _).alloc (by first | omega | (simp; done) | (simp; omega)) _
    have b_bx4 : Blk (W3.alloc (.cells #[.int .i64 ver, .int .i64 (-1), .int .i64 (-1), .int .i64 (-1)] 110)) (w.heap.size) 55 #[.int .i64 ep, .int .i64 pid, .int .i64 ver, .int .i64 seq, .int .i64 kind, .bool txn, .string text] := (B3_bx.out).alloc _
    have b_bp4 : Blk (W3.alloc (.cells #[.int .i64 ver, .int .i64 (-1), .int .i64 (-1), .int .i64 (-1)] 110)) (W3.heap.size) 110 #[.int .i64 ver, .int .i64 (-1), .int .i64 (-1), .int .i64 (-1)] := Blk.new_ _ 110 #[.int .i64 ver, .int .i64 (-1), .int .i64 (-1), .int .i64 (-1)] (by first | rfl | (simp; done) | (simp; omega))
    have hz4 : W3.heap.size + 1 ≤ (W3.alloc (.cells #[.int .i64 ver, .int .i64 (-1), .int .i64 (-1), .int .i64 (-1)] 110)).heap.size := by first | omega | (simp; done) | (simp; omega)
    generalize W3.alloc (.cells #[.int .i64 ver, .int .i64 (-1), .int .i64 (-1), .int .i64 (-1)] 110) = W4 at *
    have HB4 := Lib.hid hb4
    have B4_bx := Lib.hid b_bx4
    have B4_bp := Lib.hid b_bp4
    clear hb4 b_bx4 b_bp4
    clear B3_bx HB3
    have hbp : Blk W4 (W3.heap.size) 110 #[.int .i64 qv, .int .i64 qs, .int .i64 qo, .int .i64 qm] := by
      have he := HDF.out
      rw [HGN.out] at he
      simp only [Option.getD_none, PrD.mk.injEq] at he
      rw [he.1, he.2.1, he.2.2.1, he.2.2.2]
      exact B4_bp.out
    have HBP := Lib.hid hbp
    clear hbp B4_bp
    have hbb : w.heap.size ≤ W3.heap.size := by omega
    have c_bx2 := B4_bx.out.cell 2
    have l_bx := B4_bx.out.lt
    have c_bp0 := HBP.out.cell 0
    have l_bp := HBP.out.lt
    go_quiet (fail)
    clear c_bx2 l_bx c_bp0 l_bp
    generalize hd : World.drewN W4 _ = W5 at *
    have hb : Below W4.heap.size W4 W5 := by rw [← hd]; exact below_dn _ _
    have hb5 : Below w.heap.size w W5 := below_then HB4.out hb
    have b_bx5 := B4_bx.out.below hb B4_bx.out.lt
    have b_bp5 := HBP.out.below hb HBP.out.lt
    have hz5 := hb.size
    have HB5 := Lib.hid hb5
    have B5_bx := Lib.hid b_bx5
    have B5_bp := Lib.hid b_bp5
    clear hb5 b_bx5 b_bp5
    clear B4_bx HBP HB4
    clear hd hb
    have c_bx2 := B5_bx.out.cell 2
    have l_bx := B5_bx.out.lt
    have c_bp0 := B5_bp.out.cell 0
    have l_bp := B5_bp.out.lt
    have c_bx4 := B5_bx.out.cell 4
    have l_bx := B5_bx.out.lt
    go_wp2_with fail
    clear c_bx2 l_bx c_bp0 l_bp c_bx4
    have c_bx2 := B5_bx.out.cell 2
    have l_bx := B5_bx.out.lt
    have c_bp0 := B5_bp.out.cell 0
    have l_bp := B5_bp.out.lt
    go_quiet (fail)
    clear c_bx2 l_bx c_bp0 l_bp
    generalize hd : World.drewN W5 _ = W6 at *
    have hb : Below W5.heap.size W5 W6 := by rw [← hd]; exact below_dn _ _
    have hb6 : Below w.heap.size w W6 := below_then HB5.out hb
    have b_bx6 := B5_bx.out.below hb B5_bx.out.lt
    have b_bp6 := B5_bp.out.below hb B5_bp.out.lt
    have hz6 := hb.size
    have HB6 := Lib.hid hb6
    have B6_bx := Lib.hid b_bx6
    have B6_bp := Lib.hid b_bp6
    clear hb6 b_bx6 b_bp6
    clear B5_bx B5_bp HB5
    clear hd hb
    have c_bx3 := B6_bx.out.cell 3
    have l_bx := B6_bx.out.lt
    have c_bp1 := B6_bp.out.cell 1
    have l_bp := B6_bp.out.lt
    go_wp2_with fail
    go_quiet (fail)
    clear c_bx3 l_bx c_bp1 l_bp
    generalize hd : World.drewN W6 _ = W7 at *
    have hb : Below W6.heap.size W6 W7 := by rw [← hd]; exact below_dn _ _
    have hb7 : Below w.heap.size w W7 := below_then HB6.out hb
    have b_bx7 := B6_bx.out.below hb B6_bx.out.lt
    have b_bp7 := B6_bp.out.below hb B6_bp.out.lt
    have hz7 := hb.size
    have HB7 := Lib.hid hb7
    have B7_bx := Lib.hid b_bx7
    have B7_bp := Lib.hid b_bp7
    clear hb7 b_bx7 b_bp7
    clear B6_bx B6_bp HB6
    clear hd hb
    have c_bx3 := B7_bx.out.cell 3
    have l_bx := B7_bx.out.lt
    have c_bp1 := B7_bp.out.cell 1
    have l_bp := B7_bp.out.lt
    go_wp2_with fail
    go_quiet (fail)
    clear c_bx3 l_bx c_bp1 l_bp
    generalize hd : World.drewN W7 _ = W8 at *
    have hb : Below W7.heap.size W7 W8 := by rw [← hd]; exact below_dn _ _
    have hb8 : Below w.heap.size w W8 := below_then HB7.out hb
    have b_bx8 := B7_bx.out.below hb B7_bx.out.lt
    have b_bp8 := B7_bp.out.below hb B7_bp.out.lt
    have hz8 := hb.size
    have HB8 := Lib.hid hb8
    have B8_bx := Lib.hid b_bx8
    have B8_bp := Lib.hid b_bp8
    clear hb8 b_bx8 b_bp8
    clear B7_bx B7_bp HB7
    clear hd hb
    go_wp2
    go_ret2
    exact ⟨rfl, HB8.out⟩
  · have hrun := HM.out.look HWF.out hf
    simp only [ptrV] at hrun
    obtain ⟨hbb, q9, hq9, hbq⟩ := HM.out.blk pid b hf
    have he : (⟨ qv,  qs,  qo,  qm⟩ : PrD) = q9 := by rw [HDF.out, hq9]; rfl
    rw [← he] at hbq
    have hbp : Blk W3 b 110 #[.int .i64 qv, .int .i64 qs, .int .i64 qo, .int .i64 qm] := hbq
    have HBP := Lib.hid hbp
    clear hbq hbp he hq9
    have HF := Lib.hid hf
    clear hf
    refine wpAnyH_ready (rs := [4]) (by kernel_rfl) (by simp) (AllReadyH.cons rfl (fun K hK => ?_) AllReadyH.nil)
    go_simp
    refine hK.out _ _ ?_ (fun hHeld => ?_)
    · assumption
    clear hK K
    try simp only [Act.put, List.getElem_toArray, List.getElem_cons_zero, List.getElem_cons_succ, List.setIfInBounds_toArray, List.set_cons_zero, List.set_cons_succ]
    clear hrun
    refine wpAnyH_take (i := 5) (v := ?_) rfl (by kernel_rfl) (by kernel_rfl) (by kernel_rfl) (fun _ _ _ h => h) (Or.inl ⟨by rfl, ?_⟩) (by assumption) ?_
    rotate_left
    · intro w0 hSw
      (try dsimp only at hSw)
      go_simp
      all_goals with_reducible rfl
    try simp only [Act.put, List.getElem_toArray, List.getElem_cons_zero, List.getElem_cons_succ, List.setIfInBounds_toArray, List.set_cons_zero, List.set_cons_succ]
    refine wpAnyH_done (by kernel_rfl) ?_ _
    go_upto_region 6 with fail
    have c_bx2 := B3_bx.out.cell 2
    have l_bx := B3_bx.out.lt
    have c_bp0 := HBP.out.cell 0
    have l_bp := HBP.out.lt
    go_quiet (fail)
    clear c_bx2 l_bx c_bp0 l_bp
    generalize hd : World.drewN W3 _ = W4 at *
    have hb : Below W3.heap.size W3 W4 := by rw [← hd]; exact below_dn _ _
    have hb4 : Below w.heap.size w W4 := below_then HB3.out hb
    have b_bx4 := B3_bx.out.below hb B3_bx.out.lt
    have b_bp4 := HBP.out.below hb HBP.out.lt
    have hz4 := hb.size
    have HB4 := Lib.hid hb4
    have B4_bx := Lib.hid b_bx4
    have B4_bp := Lib.hid b_bp4
    clear hb4 b_bx4 b_bp4
    clear B3_bx HBP HB3
    clear hd hb
    have c_bx2 := B4_bx.out.cell 2
    have l_bx := B4_bx.out.lt
    have c_bp0 := B4_bp.out.cell 0
    have l_bp := B4_bp.out.lt
    have c_bx4 := B4_bx.out.cell 4
    have l_bx := B4_bx.out.lt
    go_wp2_with fail
    clear c_bx2 l_bx c_bp0 l_bp c_bx4
    have c_bx2 := B4_bx.out.cell 2
    have l_bx := B4_bx.out.lt
    have c_bp0 := B4_bp.out.cell 0
    have l_bp := B4_bp.out.lt
    go_quiet (fail)
    clear c_bx2 l_bx c_bp0 l_bp
    generalize hd : World.drewN W4 _ = W5 at *
    have hb : Below W4.heap.size W4 W5 := by rw [← hd]; exact below_dn _ _
    have hb5 : Below w.heap.size w W5 := below_then HB4.out hb
    have b_bx5 := B4_bx.out.below hb B4_bx.out.lt
    have b_bp5 := B4_bp.out.below hb B4_bp.out.lt
    have hz5 := hb.size
    have HB5 := Lib.hid hb5
    have B5_bx := Lib.hid b_bx5
    have B5_bp := Lib.hid b_bp5
    clear hb5 b_bx5 b_bp5
    clear B4_bx B4_bp HB4
    clear hd hb
    have c_bx3 := B5_bx.out.cell 3
    have l_bx := B5_bx.out.lt
    have c_bp1 := B5_bp.out.cell 1
    have l_bp := B5_bp.out.lt
    go_wp2_with fail
    go_quiet (fail)
    clear c_bx3 l_bx c_bp1 l_bp
    generalize hd : World.drewN W5 _ = W6 at *
    have hb : Below W5.heap.size W5 W6 := by rw [← hd]; exact below_dn _ _
    have hb6 : Below w.heap.size w W6 := below_then HB5.out hb
    have b_bx6 := B5_bx.out.below hb B5_bx.out.lt
    have b_bp6 := B5_bp.out.below hb B5_bp.out.lt
    have hz6 := hb.size
    have HB6 := Lib.hid hb6
    have B6_bx := Lib.hid b_bx6
    have B6_bp := Lib.hid b_bp6
    clear hb6 b_bx6 b_bp6
    clear B5_bx B5_bp HB5
    clear hd hb
    have c_bx3 := B6_bx.out.cell 3
    have l_bx := B6_bx.out.lt
    have c_bp1 := B6_bp.out.cell 1
    have l_bp := B6_bp.out.lt
    go_wp2_with fail
    go_quiet (fail)
    clear c_bx3 l_bx c_bp1 l_bp
    generalize hd : World.drewN W6 _ = W7 at *
    have hb : Below W6.heap.size W6 W7 := by rw [← hd]; exact below_dn _ _
    have hb7 : Below w.heap.size w W7 := below_then HB6.out hb
    have b_bx7 := B6_bx.out.below hb B6_bx.out.lt
    have b_bp7 := B6_bp.out.below hb B6_bp.out.lt
    have hz7 := hb.size
    have HB7 := Lib.hid hb7
    have B7_bx := Lib.hid b_bx7
    have B7_bp := Lib.hid b_bp7
    clear hb7 b_bx7 b_bp7
    clear B6_bx B6_bp HB6
    clear hd hb
    go_wp2
    go_ret2
    exact ⟨rfl, HB7.out⟩
set_option maxRecDepth 100000 in
set_option maxHeartbeats 4000000 in
theorem check_find_old (v : Value) (es : List Ent) (x : Ent) (w : World) (h : Es w v es) (hp : PlainE es) (hl : es.length ≤ 9223372036854775806) (hx : 0 ≤ x.ver ∧ x.ver ≤ 1073741824 ∧ 0 ≤ x.seq ∧ x.seq ≤ 1073741824 ∧ 0 ≤ x.pid ∧ x.pid ≤ 1073741824) (h0 : x.pid ≠ 0) (q : PrD) (hq : q = prOf es x) (hf : ¬ x.ver < q.ver) (hk : x.kind = 1) (hv : ¬ q.ver < x.ver) (hg : x.seq < q.seq + 1) {n cd : Int} (hfi : FindTo es x n cd) :
    Calls Try.prog 96 #[v, .agg #[.int .i64 x.ep, .int .i64 x.pid, .int .i64 x.ver, .int .i64 x.seq, .int .i64 x.kind, .bool x.txn, .string x.text]] w fun e w' => e = .returned (.tuple #[.int .i64 n, .int .i64 cd]) ∧ Below w.heap.size w w' := by
  obtain ⟨A, c, rfl, hc, hx1⟩ := h.at_
  have HX := Lib.hid hx1
  have H := Lib.hid h
  have HP := Lib.hid hp
  obtain ⟨x0, x1, x2, x3, x4, x5⟩ := hx
  obtain ⟨k1, k2, k3, k4⟩ := prOf_known hp x
  have hdef : prOf es x = (prTo es x.pid es.length).getD ⟨x.ver, -1, -1, -1⟩ := rfl
  have hgd : prG es es.length x.pid = prTo es x.pid es.length := by unfold prG; rw [if_neg h0]
  rw [hgd.symm] at hdef
  rw [← hq] at k1 k2 k3 k4 hdef
  have z1 : (x.pid == 0) = false := beq_eq_false_iff_ne.2 h0
  have hwf : (Lit.int .i64 x.pid).wf = true := WalkArith.wf_i64 (by omega)
  have HWF := Lib.hid hwf
  have HDF := Lib.hid hdef
  clear h hx1 hp hq hgd hwf hdef h0
  have z2 : decide (x.ver < q.ver) = false := decide_eq_false hf
  clear hf
  have z3 : (x.kind != 1) = false := by simpa using hk
  clear hk
  have z4 : decide (q.ver < x.ver) = false := decide_eq_false hv
  clear hv
  have z5 : decide ((q.seq + 1) < x.seq) = false := decide_eq_false (by omega)
  have z6 : (x.seq == (q.seq + 1)) = false := beq_eq_false_iff_ne.2 (by omega)
  have HFT := Lib.hid hfi
  clear hg hfi
  obtain ⟨ep, pid, ver, seq, kind, txn, text⟩ := x
  obtain ⟨qv, qs, qo, qm⟩ := q
  simp only at *
  go_enter Try.func96, Try.ntmps96
  go_wp2_with fail
  have hb1 : Below w.heap.size w (w.alloc (.cells #[.int .i64 ep, .int .i64 pid, .int .i64 ver, .int .i64 seq, .int .i64 kind, .bool txn, .string text] 55)) := (Below.refl _ _).alloc (by first | omega | (simp; done) | (simp; omega)) _
  have hal1 : Below w.heap.size w (w.alloc (.cells #[.int .i64 ep, .int .i64 pid, .int .i64 ver, .int .i64 seq, .int .i64 kind, .bool txn, .string text] 55)) := (Below.refl _ _).alloc (by first | omega | (simp; done) | (simp; omega)) _
  have b_bx1 : Blk (w.alloc (.cells #[.int .i64 ep, .int .i64 pid, .int .i64 ver, .int .i64 seq, .int .i64 kind, .bool txn, .string text] 55)) (w.heap.size) 55 #[.int .i64 ep, .int .i64 pid, .int .i64 ver, .int .i64 seq, .int .i64 kind, .bool txn, .string text] := Blk.new_ _ 55 #[.int .i64 ep, .int .i64 pid, .int .i64 ver, .int .i64 seq, .int .i64 kind, .bool txn, .string text] (by first | rfl | (simp; done) | (simp; omega))
  have hz1 : w.heap.size + 1 ≤ (w.alloc (.cells #[.int .i64 ep, .int .i64 pid, .int .i64 ver, .int .i64 seq, .int .i64 kind, .bool txn, .string text] 55)).heap.size := by first | omega | (simp; done) | (simp; omega)
  generalize w.alloc (.cells #[.int .i64 ep, .int .i64 pid, .int .i64 ver, .int .i64 seq, .int .i64 kind, .bool txn, .string text] 55) = W1 at *
  have HB1 := Lib.hid hb1
  have B1_bx := Lib.hid b_bx1
  clear hb1 b_bx1
  have c_bx0 := B1_bx.out.cell 0
  have c_bx1 := B1_bx.out.cell 1
  have c_bx2 := B1_bx.out.cell 2
  have c_bx3 := B1_bx.out.cell 3
  have c_bx4 := B1_bx.out.cell 4
  have c_bx5 := B1_bx.out.cell 5
  have c_bx6 := B1_bx.out.cell 6
  have l_bx := B1_bx.out.lt
  go_wp2_with fail
  clear c_bx0 c_bx1 c_bx2 c_bx3 c_bx4 c_bx5 c_bx6 l_bx
  have c_bx1 := B1_bx.out.cell 1
  have l_bx := B1_bx.out.lt
  refine wp_region_held_drew (S := fun w0 => w0.cell? ⟨w.heap.size, 1, none⟩ = some (.int .i64 pid)) (by kernel_rfl) ?_ (fun hHeld => ?_)
  · exact c_bx1
  clear c_bx1 l_bx
  generalize hd : World.drew W1 = W2 at *
  have hb : Below W1.heap.size W1 W2 := by rw [← hd]; exact (Below.refl _ _).drew
  have hb2 : Below w.heap.size w W2 := below_then HB1.out hb
  have b_bx2 := B1_bx.out.below hb B1_bx.out.lt
  have hz2 := hb.size
  have HB2 := Lib.hid hb2
  have B2_bx := Lib.hid b_bx2
  clear hb2 b_bx2
  clear B1_bx HB1
  clear hd hb
  refine wpAnyH_take (i := 0) (v := ?_) rfl (by kernel_rfl) (by kernel_rfl) (by kernel_rfl) (fun _ _ _ h => h) (Or.inl ⟨by rfl, ?_⟩) (by assumption) ?_
  rotate_left
  · intro w0 hSw
    (try dsimp only at hSw)
    go_simp
    all_goals with_reducible rfl
  try simp only [Act.put, List.getElem_toArray, List.getElem_cons_zero, List.setIfInBounds_toArray, List.set_cons_zero, List.set_cons_succ]
  refine wpAnyH_take (i := 2) (v := ?_) rfl (by kernel_rfl) (by kernel_rfl) (by kernel_rfl) (fun _ _ _ h => h) (Or.inl ⟨by rfl, ?_⟩) (by assumption) ?_
  rotate_left
  · intro w0 hSw
    (try dsimp only at hSw)
    go_simp
    all_goals with_reducible rfl
  try simp only [Act.put, List.getElem_toArray, List.getElem_cons_zero, List.getElem_cons_succ, List.setIfInBounds_toArray, List.set_cons_zero, List.set_cons_succ]
  refine wpAnyH_take (i := 3) (v := ?_) rfl (by kernel_rfl) (by kernel_rfl) (by kernel_rfl) (fun _ _ _ h => h) (Or.inl ⟨by rfl, ?_⟩) (by assumption) ?_
  rotate_left
  · intro w0 hSw
    (try dsimp only at hSw)
    go_simp
    all_goals with_reducible rfl
  try simp only [Act.put, List.getElem_toArray, List.getElem_cons_zero, List.getElem_cons_succ, List.setIfInBounds_toArray, List.set_cons_zero, List.set_cons_succ]
  refine wpAnyH_ready (rs := [1]) (by kernel_rfl) (by simp) (AllReadyH.cons rfl (fun K hK => ?_) AllReadyH.nil)
  go_simp
  go_at_call 108
  refine (replay_any _ es _ (H.out.below HB2.out) HP.out hl).mono ?_
  rintro e W3 ⟨M, f, rfl, hm, hb, hM⟩
  have HM := Lib.hid hm
  clear hm
  have hb3 : Below w.heap.size w W3 := below_then HB2.out hb
  have b_bx3 := B2_bx.out.below hb B2_bx.out.lt
  have hz3 := hb.size
  have HB3 := Lib.hid hb3
  have B3_bx := Lib.hid b_bx3
  clear hb3 b_bx3
  clear B2_bx HB2
  refine hK.out _ _ ?_ (fun hHeld => ?_)
  · exact (B3_bx.out).cell 1
  clear hK K
  try simp only [Act.put, List.getElem_toArray, List.getElem_cons_zero, List.getElem_cons_succ, List.setIfInBounds_toArray, List.set_cons_zero, List.set_cons_succ]
  rcases hf : f pid with _ | b
  · have hrun := HM.out.look HWF.out hf
    simp only [ptrV] at hrun
    have hgn := HM.out.none_ pid hf
    have HGN := Lib.hid hgn
    clear hgn
    have HF := Lib.hid hf
    clear hf
    refine wpAnyH_ready (rs := [4]) (by kernel_rfl) (by simp) (AllReadyH.cons rfl (fun K hK => ?_) AllReadyH.nil)
    go_simp
    refine hK.out _ _ ?_ (fun hHeld => ?_)
    · assumption
    clear hK K
    try simp only [Act.put, List.getElem_toArray, List.getElem_cons_zero, List.getElem_cons_succ, List.setIfInBounds_toArray, List.set_cons_zero, List.set_cons_succ]
    clear hrun
    refine wpAnyH_take (i := 5) (v := ?_) rfl (by kernel_rfl) (by kernel_rfl) (by kernel_rfl) (fun _ _ _ h => h) (Or.inl ⟨by rfl, ?_⟩) (by assumption) ?_
    rotate_left
    · intro w0 hSw
      (try dsimp only at hSw)
      go_simp
      all_goals with_reducible rfl
    try simp only [Act.put, List.getElem_toArray, List.getElem_cons_zero, List.getElem_cons_succ, List.setIfInBounds_toArray, List.set_cons_zero, List.set_cons_succ]
    refine wpAnyH_done (by kernel_rfl) ?_ _
    have c_bx0 := B3_bx.out.cell 0
    have c_bx1 := B3_bx.out.cell 1
    have c_bx2 := B3_bx.out.cell 2
    have c_bx3 := B3_bx.out.cell 3
    have c_bx4 := B3_bx.out.cell 4
    have c_bx5 := B3_bx.out.cell 5
    have c_bx6 := B3_bx.out.cell 6
    have l_bx := B3_bx.out.lt
    go_upto_region 6 with fail
    clear c_bx0 c_bx1 c_bx2 c_bx3 c_bx4 c_bx5 c_bx6 l_bx
    have hsz4 := HB3.out.size
    have hb4 : Below w.heap.size w (W3.alloc (.cells #[.int .i64 ver, .int .i64 (-1), .int .i64 (-1), .int .i64 (-1)] 110)) := (HB3.out).alloc (by first | omega | (simp; done) | (simp; omega)) _
    have hal4 : Below W3.heap.size W3 (W3.alloc (.cells #[.int .i64 ver, .int .i64 (-1), .int .i64 (-1), .int .i64 (-1)] 110)) := (Below.refl _ _).alloc (by first | omega | (simp; done) | (simp; omega)) _
    have b_bx4 : Blk (W3.alloc (.cells #[.int .i64 ver, .int .i64 (-1), .int .i64 (-1), .int .i64 (-1)] 110)) (w.heap.size) 55 #[.int .i64 ep, .int .i64 pid, .int .i64 ver, .int .i64 seq, .int .i64 kind, .bool txn, .string text] := (B3_bx.out).alloc _
    have b_bp4 : Blk (W3.alloc (.cells #[.int .i64 ver, .int .i64 (-1), .int .i64 (-1), .int .i64 (-1)] 110)) (W3.heap.size) 110 #[.int .i64 ver, .int .i64 (-1), .int .i64 (-1), .int .i64 (-1)] := Blk.new_ _ 110 #[.int .i64 ver, .int .i64 (-1), .int .i64 (-1), .int .i64 (-1)] (by first | rfl | (simp; done) | (simp; omega))
    have hz4 : W3.heap.size + 1 ≤ (W3.alloc (.cells #[.int .i64 ver, .int .i64 (-1), .int .i64 (-1), .int .i64 (-1)] 110)).heap.size := by first | omega | (simp; done) | (simp; omega)
    generalize W3.alloc (.cells #[.int .i64 ver, .int .i64 (-1), .int .i64 (-1), .int .i64 (-1)] 110) = W4 at *
    have HB4 := Lib.hid hb4
    have B4_bx := Lib.hid b_bx4
    have B4_bp := Lib.hid b_bp4
    clear hb4 b_bx4 b_bp4
    clear B3_bx HB3
    have hbp : Blk W4 (W3.heap.size) 110 #[.int .i64 qv, .int .i64 qs, .int .i64 qo, .int .i64 qm] := by
      have he := HDF.out
      rw [HGN.out] at he
      simp only [Option.getD_none, PrD.mk.injEq] at he
      rw [he.1, he.2.1, he.2.2.1, he.2.2.2]
      exact B4_bp.out
    have HBP := Lib.hid hbp
    clear hbp B4_bp
    have hbb : w.heap.size ≤ W3.heap.size := by omega
    have c_bx2 := B4_bx.out.cell 2
    have l_bx := B4_bx.out.lt
    have c_bp0 := HBP.out.cell 0
    have l_bp := HBP.out.lt
    go_quiet (fail)
    clear c_bx2 l_bx c_bp0 l_bp
    generalize hd : World.drewN W4 _ = W5 at *
    have hb : Below W4.heap.size W4 W5 := by rw [← hd]; exact below_dn _ _
    have hb5 : Below w.heap.size w W5 := below_then HB4.out hb
    have b_bx5 := B4_bx.out.below hb B4_bx.out.lt
    have b_bp5 := HBP.out.below hb HBP.out.lt
    have hz5 := hb.size
    have HB5 := Lib.hid hb5
    have B5_bx := Lib.hid b_bx5
    have B5_bp := Lib.hid b_bp5
    clear hb5 b_bx5 b_bp5
    clear B4_bx HBP HB4
    clear hd hb
    have c_bx2 := B5_bx.out.cell 2
    have l_bx := B5_bx.out.lt
    have c_bp0 := B5_bp.out.cell 0
    have l_bp := B5_bp.out.lt
    have c_bx4 := B5_bx.out.cell 4
    have l_bx := B5_bx.out.lt
    go_wp2_with fail
    clear c_bx2 l_bx c_bp0 l_bp c_bx4
    have c_bx2 := B5_bx.out.cell 2
    have l_bx := B5_bx.out.lt
    have c_bp0 := B5_bp.out.cell 0
    have l_bp := B5_bp.out.lt
    go_quiet (fail)
    clear c_bx2 l_bx c_bp0 l_bp
    generalize hd : World.drewN W5 _ = W6 at *
    have hb : Below W5.heap.size W5 W6 := by rw [← hd]; exact below_dn _ _
    have hb6 : Below w.heap.size w W6 := below_then HB5.out hb
    have b_bx6 := B5_bx.out.below hb B5_bx.out.lt
    have b_bp6 := B5_bp.out.below hb B5_bp.out.lt
    have hz6 := hb.size
    have HB6 := Lib.hid hb6
    have B6_bx := Lib.hid b_bx6
    have B6_bp := Lib.hid b_bp6
    clear hb6 b_bx6 b_bp6
    clear B5_bx B5_bp HB5
    clear hd hb
    have c_bx3 := B6_bx.out.cell 3
    have l_bx := B6_bx.out.lt
    have c_bp1 := B6_bp.out.cell 1
    have l_bp := B6_bp.out.lt
    go_wp2_with fail
    go_quiet (fail)
    clear c_bx3 l_bx c_bp1 l_bp
    generalize hd : World.drewN W6 _ = W7 at *
    have hb : Below W6.heap.size W6 W7 := by rw [← hd]; exact below_dn _ _
    have hb7 : Below w.heap.size w W7 := below_then HB6.out hb
    have b_bx7 := B6_bx.out.below hb B6_bx.out.lt
    have b_bp7 := B6_bp.out.below hb B6_bp.out.lt
    have hz7 := hb.size
    have HB7 := Lib.hid hb7
    have B7_bx := Lib.hid b_bx7
    have B7_bp := Lib.hid b_bp7
    clear hb7 b_bx7 b_bp7
    clear B6_bx B6_bp HB6
    clear hd hb
    have c_bx3 := B7_bx.out.cell 3
    have l_bx := B7_bx.out.lt
    have c_bp1 := B7_bp.out.cell 1
    have l_bp := B7_bp.out.lt
    go_wp2_with fail
    go_quiet (fail)
    clear c_bx3 l_bx c_bp1 l_bp
    generalize hd : World.drewN W7 _ = W8 at *
    have hb : Below W7.heap.size W7 W8 := by rw [← hd]; exact below_dn _ _
    have hb8 : Below w.heap.size w W8 := below_then HB7.out hb
    have b_bx8 := B7_bx.out.below hb B7_bx.out.lt
    have b_bp8 := B7_bp.out.below hb B7_bp.out.lt
    have hz8 := hb.size
    have HB8 := Lib.hid hb8
    have B8_bx := Lib.hid b_bx8
    have B8_bp := Lib.hid b_bp8
    clear hb8 b_bx8 b_bp8
    clear B7_bx B7_bp HB7
    clear hd hb
    go_wp2_with fail
    go_loopw [106] (fun y wr => ∃ k : Nat, k ≤ es.length ∧ y = .int .i64 k ∧ Hid (Blk wr w.heap.size 55 #[.int .i64 ep, .int .i64 pid, .int .i64 ver, .int .i64 seq, .int .i64 kind, .bool txn, .string text]) ∧ Hid (Below w.heap.size w wr) ∧ Hid (∀ j : Nat, j < k → ¬ SameAt es ⟨ep, pid, ver, seq, kind, txn, text⟩ j)) (fun y _ => es.length - (intOf y).toNat)
    case atStart => exact ⟨0, Nat.zero_le _, rfl, B8_bx, HB8, Lib.hid (fun j h => by omega)⟩
    case round =>
      obtain ⟨k, hk, rfl, HBX2, HB2, HN⟩ := hrel
      have c1 := HBX2.out.cell 1
      have c2 := HBX2.out.cell 2
      have c3 := HBX2.out.cell 3
      have cl := HBX2.out.lt
      by_cases hlt : k < es.length
      · obtain ⟨b1, o1, rfl, hb1, hcell⟩ := HX.out (Nat.lt_of_le_of_lt (Nat.zero_le _) hlt)
        obtain ⟨y0, y1, y2, y3, y4, y5, y6⟩ := hcell k hlt
        have hnext : ¬ SameAt es ⟨ep, pid, ver, seq, kind, txn, text⟩ k → ∀ j : Nat, j < k + 1 → ¬ SameAt es ⟨ep, pid, ver, seq, kind, txn, text⟩ j := fun hn j h2 => by
          rcases Nat.lt_succ_iff_lt_or_eq.1 h2 with h' | rfl
          · exact HN.out j h'
          · exact hn
        have HNX := Lib.hid hnext
        have HAT := Lib.hid (show SameAt es ⟨ep, pid, ver, seq, kind, txn, text⟩ k ↔ es[k].kind = 1 ∧ es[k].pid = pid ∧ es[k].ver = ver ∧ es[k].seq = seq from ⟨fun ⟨_, h⟩ => h, fun h => ⟨hlt, h⟩⟩)
        clear hnext hcell
        generalize es[k] = y at *
        obtain ⟨e0, e1, e2, e3, e4, e5, e6⟩ := y
        simp only at *
        have Y0 := (HB2.out.cell (p := ⟨b1, o1 + k * 7, none⟩) hb1).trans y0
        have Y1 := (HB2.out.cell (p := ⟨b1, o1 + k * 7 + 1, none⟩) hb1).trans y1
        have Y2 := (HB2.out.cell (p := ⟨b1, o1 + k * 7 + 2, none⟩) hb1).trans y2
        have Y3 := (HB2.out.cell (p := ⟨b1, o1 + k * 7 + 3, none⟩) hb1).trans y3
        have Y4 := (HB2.out.cell (p := ⟨b1, o1 + k * 7 + 4, none⟩) hb1).trans y4
        have Y5 := (HB2.out.cell (p := ⟨b1, o1 + k * 7 + 5, none⟩) hb1).trans y5
        have Y6 := (HB2.out.cell (p := ⟨b1, o1 + k * 7 + 6, none⟩) hb1).trans y6
        have yl := Nat.lt_of_lt_of_le hb1 HB2.out.size
        have kk0 : (0 : Int) ≤ (k : Int) := by omega
        have kk1 : (k : Int) < (es.length : Int) := by omega
        clear y0 y1 y2 y3 y4 y5 y6
        have hal := (Below.refl wr.heap.size wr).alloc (Nat.le_refl _) (.cells #[.int .i64 e0, .int .i64 e1, .int .i64 e2, .int .i64 e3, .int .i64 e4, .bool e5, .string e6] 55)
        have HBX3 := Lib.hid (HBX2.out.alloc (.cells #[.int .i64 e0, .int .i64 e1, .int .i64 e2, .int .i64 e3, .int .i64 e4, .bool e5, .string e6] 55))
        have HB3 := Lib.hid (below_then HB2.out hal)
        clear hal
        by_cases g0 : e4 = 1
        · have u0 : (e4 == 1) = true := beq_iff_eq.2 g0
          by_cases g1 : e1 = pid
          · have u1 : (e1 == pid) = true := beq_iff_eq.2 g1
            by_cases g2 : e2 = ver
            · have u2 : (e2 == ver) = true := beq_iff_eq.2 g2
              by_cases g3 : e3 = seq
              · have u3 : (e3 == seq) = true := beq_iff_eq.2 g3
                have hat := HAT.out.2 ⟨g0, g1, g2, g3⟩
                have hu := HFT.out.unique (.at_ k hat HN.out)
                have HU := Lib.hid hu
                clear g0 g1 g2 g3 hat hu
                go_wp2
                go_ret2
                exact ⟨by rw [HU.out.1, HU.out.2]; rfl, HB3.out⟩
              · have u3 : (e3 == seq) = false := beq_eq_false_iff_ne.2 g3
                have H2 := Lib.hid (HNX.out (fun h => g3 (HAT.out.1 h).2.2.2))
                clear HNX HAT g0 g1 g2 g3
                go_wp2
                go_light
                exact ⟨⟨k + 1, by omega, by go_num, HBX3, HB3, H2⟩, by simp [intOf]; omega⟩
            · have u2 : (e2 == ver) = false := beq_eq_false_iff_ne.2 g2
              have H2 := Lib.hid (HNX.out (fun h => g2 (HAT.out.1 h).2.2.1))
              clear HNX HAT g0 g1 g2
              go_wp2
              go_light
              exact ⟨⟨k + 1, by omega, by go_num, HBX3, HB3, H2⟩, by simp [intOf]; omega⟩
          · have u1 : (e1 == pid) = false := beq_eq_false_iff_ne.2 g1
            have H2 := Lib.hid (HNX.out (fun h => g1 (HAT.out.1 h).2.1))
            clear HNX HAT g0 g1
            go_wp2
            go_light
            exact ⟨⟨k + 1, by omega, by go_num, HBX3, HB3, H2⟩, by simp [intOf]; omega⟩
        · have u0 : (e4 == 1) = false := beq_eq_false_iff_ne.2 g0
          have H2 := Lib.hid (HNX.out (fun h => g0 (HAT.out.1 h).1))
          clear HNX HAT g0
          go_wp2
          go_light
          exact ⟨⟨k + 1, by omega, by go_num, HBX3, HB3, H2⟩, by simp [intOf]; omega⟩
      · obtain rfl : k = es.length := by omega
        have hu := HFT.out.unique (.no (fun j hj => HN.out j hj.1 hj))
        have HU := Lib.hid hu
        clear hu
        go_wp2
        go_ret2
        exact ⟨by rw [HU.out.1, HU.out.2]; rfl, HB2.out⟩
  · have hrun := HM.out.look HWF.out hf
    simp only [ptrV] at hrun
    obtain ⟨hbb, q9, hq9, hbq⟩ := HM.out.blk pid b hf
    have he : (⟨ qv,  qs,  qo,  qm⟩ : PrD) = q9 := by rw [HDF.out, hq9]; rfl
    rw [← he] at hbq
    have hbp : Blk W3 b 110 #[.int .i64 qv, .int .i64 qs, .int .i64 qo, .int .i64 qm] := hbq
    have HBP := Lib.hid hbp
    clear hbq hbp he hq9
    have HF := Lib.hid hf
    clear hf
    refine wpAnyH_ready (rs := [4]) (by kernel_rfl) (by simp) (AllReadyH.cons rfl (fun K hK => ?_) AllReadyH.nil)
    go_simp
    refine hK.out _ _ ?_ (fun hHeld => ?_)
    · assumption
    clear hK K
    try simp only [Act.put, List.getElem_toArray, List.getElem_cons_zero, List.getElem_cons_succ, List.setIfInBounds_toArray, List.set_cons_zero, List.set_cons_succ]
    clear hrun
    refine wpAnyH_take (i := 5) (v := ?_) rfl (by kernel_rfl) (by kernel_rfl) (by kernel_rfl) (fun _ _ _ h => h) (Or.inl ⟨by rfl, ?_⟩) (by assumption) ?_
    rotate_left
    · intro w0 hSw
      (try dsimp only at hSw)
      go_simp
      all_goals with_reducible rfl
    try simp only [Act.put, List.getElem_toArray, List.getElem_cons_zero, List.getElem_cons_succ, List.setIfInBounds_toArray, List.set_cons_zero, List.set_cons_succ]
    refine wpAnyH_done (by kernel_rfl) ?_ _
    go_upto_region 6 with fail
    have c_bx2 := B3_bx.out.cell 2
    have l_bx := B3_bx.out.lt
    have c_bp0 := HBP.out.cell 0
    have l_bp := HBP.out.lt
    go_quiet (fail)
    clear c_bx2 l_bx c_bp0 l_bp
    generalize hd : World.drewN W3 _ = W4 at *
    have hb : Below W3.heap.size W3 W4 := by rw [← hd]; exact below_dn _ _
    have hb4 : Below w.heap.size w W4 := below_then HB3.out hb
    have b_bx4 := B3_bx.out.below hb B3_bx.out.lt
    have b_bp4 := HBP.out.below hb HBP.out.lt
    have hz4 := hb.size
    have HB4 := Lib.hid hb4
    have B4_bx := Lib.hid b_bx4
    have B4_bp := Lib.hid b_bp4
    clear hb4 b_bx4 b_bp4
    clear B3_bx HBP HB3
    clear hd hb
    have c_bx2 := B4_bx.out.cell 2
    have l_bx := B4_bx.out.lt
    have c_bp0 := B4_bp.out.cell 0
    have l_bp := B4_bp.out.lt
    have c_bx4 := B4_bx.out.cell 4
    have l_bx := B4_bx.out.lt
    go_wp2_with fail
    clear c_bx2 l_bx c_bp0 l_bp c_bx4
    have c_bx2 := B4_bx.out.cell 2
    have l_bx := B4_bx.out.lt
    have c_bp0 := B4_bp.out.cell 0
    have l_bp := B4_bp.out.lt
    go_quiet (fail)
    clear c_bx2 l_bx c_bp0 l_bp
    generalize hd : World.drewN W4 _ = W5 at *
    have hb : Below W4.heap.size W4 W5 := by rw [← hd]; exact below_dn _ _
    have hb5 : Below w.heap.size w W5 := below_then HB4.out hb
    have b_bx5 := B4_bx.out.below hb B4_bx.out.lt
    have b_bp5 := B4_bp.out.below hb B4_bp.out.lt
    have hz5 := hb.size
    have HB5 := Lib.hid hb5
    have B5_bx := Lib.hid b_bx5
    have B5_bp := Lib.hid b_bp5
    clear hb5 b_bx5 b_bp5
    clear B4_bx B4_bp HB4
    clear hd hb
    have c_bx3 := B5_bx.out.cell 3
    have l_bx := B5_bx.out.lt
    have c_bp1 := B5_bp.out.cell 1
    have l_bp := B5_bp.out.lt
    go_wp2_with fail
    go_quiet (fail)
    clear c_bx3 l_bx c_bp1 l_bp
    generalize hd : World.drewN W5 _ = W6 at *
    have hb : Below W5.heap.size W5 W6 := by rw [← hd]; exact below_dn _ _
    have hb6 : Below w.heap.size w W6 := below_then HB5.out hb
    have b_bx6 := B5_bx.out.below hb B5_bx.out.lt
    have b_bp6 := B5_bp.out.below hb B5_bp.out.lt
    have hz6 := hb.size
    have HB6 := Lib.hid hb6
    have B6_bx := Lib.hid b_bx6
    have B6_bp := Lib.hid b_bp6
    clear hb6 b_bx6 b_bp6
    clear B5_bx B5_bp HB5
    clear hd hb
    have c_bx3 := B6_bx.out.cell 3
    have l_bx := B6_bx.out.lt
    have c_bp1 := B6_bp.out.cell 1
    have l_bp := B6_bp.out.lt
    go_wp2_with fail
    go_quiet (fail)
    clear c_bx3 l_bx c_bp1 l_bp
    generalize hd : World.drewN W6 _ = W7 at *
    have hb : Below W6.heap.size W6 W7 := by rw [← hd]; exact below_dn _ _
    have hb7 : Below w.heap.size w W7 := below_then HB6.out hb
    have b_bx7 := B6_bx.out.below hb B6_bx.out.lt
    have b_bp7 := B6_bp.out.below hb B6_bp.out.lt
    have hz7 := hb.size
    have HB7 := Lib.hid hb7
    have B7_bx := Lib.hid b_bx7
    have B7_bp := Lib.hid b_bp7
    clear hb7 b_bx7 b_bp7
    clear B6_bx B6_bp HB6
    clear hd hb
    go_wp2_with fail
    go_loopw [106] (fun y wr => ∃ k : Nat, k ≤ es.length ∧ y = .int .i64 k ∧ Hid (Blk wr w.heap.size 55 #[.int .i64 ep, .int .i64 pid, .int .i64 ver, .int .i64 seq, .int .i64 kind, .bool txn, .string text]) ∧ Hid (Below w.heap.size w wr) ∧ Hid (∀ j : Nat, j < k → ¬ SameAt es ⟨ep, pid, ver, seq, kind, txn, text⟩ j)) (fun y _ => es.length - (intOf y).toNat)
    case atStart => exact ⟨0, Nat.zero_le _, rfl, B7_bx, HB7, Lib.hid (fun j h => by omega)⟩
    case round =>
      obtain ⟨k, hk, rfl, HBX2, HB2, HN⟩ := hrel
      have c1 := HBX2.out.cell 1
      have c2 := HBX2.out.cell 2
      have c3 := HBX2.out.cell 3
      have cl := HBX2.out.lt
      by_cases hlt : k < es.length
      · obtain ⟨b1, o1, rfl, hb1, hcell⟩ := HX.out (Nat.lt_of_le_of_lt (Nat.zero_le _) hlt)
        obtain ⟨y0, y1, y2, y3, y4, y5, y6⟩ := hcell k hlt
        have hnext : ¬ SameAt es ⟨ep, pid, ver, seq, kind, txn, text⟩ k → ∀ j : Nat, j < k + 1 → ¬ SameAt es ⟨ep, pid, ver, seq, kind, txn, text⟩ j := fun hn j h2 => by
          rcases Nat.lt_succ_iff_lt_or_eq.1 h2 with h' | rfl
          · exact HN.out j h'
          · exact hn
        have HNX := Lib.hid hnext
        have HAT := Lib.hid (show SameAt es ⟨ep, pid, ver, seq, kind, txn, text⟩ k ↔ es[k].kind = 1 ∧ es[k].pid = pid ∧ es[k].ver = ver ∧ es[k].seq = seq from ⟨fun ⟨_, h⟩ => h, fun h => ⟨hlt, h⟩⟩)
        clear hnext hcell
        generalize es[k] = y at *
        obtain ⟨e0, e1, e2, e3, e4, e5, e6⟩ := y
        simp only at *
        have Y0 := (HB2.out.cell (p := ⟨b1, o1 + k * 7, none⟩) hb1).trans y0
        have Y1 := (HB2.out.cell (p := ⟨b1, o1 + k * 7 + 1, none⟩) hb1).trans y1
        have Y2 := (HB2.out.cell (p := ⟨b1, o1 + k * 7 + 2, none⟩) hb1).trans y2
        have Y3 := (HB2.out.cell (p := ⟨b1, o1 + k * 7 + 3, none⟩) hb1).trans y3
        have Y4 := (HB2.out.cell (p := ⟨b1, o1 + k * 7 + 4, none⟩) hb1).trans y4
        have Y5 := (HB2.out.cell (p := ⟨b1, o1 + k * 7 + 5, none⟩) hb1).trans y5
        have Y6 := (HB2.out.cell (p := ⟨b1, o1 + k * 7 + 6, none⟩) hb1).trans y6
        have yl := Nat.lt_of_lt_of_le hb1 HB2.out.size
        have kk0 : (0 : Int) ≤ (k : Int) := by omega
        have kk1 : (k : Int) < (es.length : Int) := by omega
        clear y0 y1 y2 y3 y4 y5 y6
        have hal := (Below.refl wr.heap.size wr).alloc (Nat.le_refl _) (.cells #[.int .i64 e0, .int .i64 e1, .int .i64 e2, .int .i64 e3, .int .i64 e4, .bool e5, .string e6] 55)
        have HBX3 := Lib.hid (HBX2.out.alloc (.cells #[.int .i64 e0, .int .i64 e1, .int .i64 e2, .int .i64 e3, .int .i64 e4, .bool e5, .string e6] 55))
        have HB3 := Lib.hid (below_then HB2.out hal)
        clear hal
        by_cases g0 : e4 = 1
        · have u0 : (e4 == 1) = true := beq_iff_eq.2 g0
          by_cases g1 : e1 = pid
          · have u1 : (e1 == pid) = true := beq_iff_eq.2 g1
            by_cases g2 : e2 = ver
            · have u2 : (e2 == ver) = true := beq_iff_eq.2 g2
              by_cases g3 : e3 = seq
              · have u3 : (e3 == seq) = true := beq_iff_eq.2 g3
                have hat := HAT.out.2 ⟨g0, g1, g2, g3⟩
                have hu := HFT.out.unique (.at_ k hat HN.out)
                have HU := Lib.hid hu
                clear g0 g1 g2 g3 hat hu
                go_wp2
                go_ret2
                exact ⟨by rw [HU.out.1, HU.out.2]; rfl, HB3.out⟩
              · have u3 : (e3 == seq) = false := beq_eq_false_iff_ne.2 g3
                have H2 := Lib.hid (HNX.out (fun h => g3 (HAT.out.1 h).2.2.2))
                clear HNX HAT g0 g1 g2 g3
                go_wp2
                go_light
                exact ⟨⟨k + 1, by omega, by go_num, HBX3, HB3, H2⟩, by simp [intOf]; omega⟩
            · have u2 : (e2 == ver) = false := beq_eq_false_iff_ne.2 g2
              have H2 := Lib.hid (HNX.out (fun h => g2 (HAT.out.1 h).2.2.1))
              clear HNX HAT g0 g1 g2
              go_wp2
              go_light
              exact ⟨⟨k + 1, by omega, by go_num, HBX3, HB3, H2⟩, by simp [intOf]; omega⟩
          · have u1 : (e1 == pid) = false := beq_eq_false_iff_ne.2 g1
            have H2 := Lib.hid (HNX.out (fun h => g1 (HAT.out.1 h).2.1))
            clear HNX HAT g0 g1
            go_wp2
            go_light
            exact ⟨⟨k + 1, by omega, by go_num, HBX3, HB3, H2⟩, by simp [intOf]; omega⟩
        · have u0 : (e4 == 1) = false := beq_eq_false_iff_ne.2 g0
          have H2 := Lib.hid (HNX.out (fun h => g0 (HAT.out.1 h).1))
          clear HNX HAT g0
          go_wp2
          go_light
          exact ⟨⟨k + 1, by omega, by go_num, HBX3, HB3, H2⟩, by simp [intOf]; omega⟩
      · obtain rfl : k = es.length := by omega
        have hu := HFT.out.unique (.no (fun j hj => HN.out j hj.1 hj))
        have HU := Lib.hid hu
        clear hu
        go_wp2
        go_ret2
        exact ⟨by rw [HU.out.1, HU.out.2]; rfl, HB2.out⟩
end Go.Proofs.Ytpjjfnpdopdnkaa
