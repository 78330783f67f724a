/- Parts of a proof, merged: WitB. No condition. -/
import Derived.Test.YtjkoceacjbhblaaGt8
import Derived.RegionTactic
namespace Go.Proofs.Ytjkoceacjbhblaa
open Go.RowKit

set_option maxRecDepth 100000 in
set_option maxHeartbeats 16000000 in
theorem without_any (v : Value) (g : GroupD) (q : MemD → Bool) (fn : Nat) (lb : Array Value) (w : World) (h : Gv w v g) (hk : GroupOk g) (eg : ∀ args w, (callFunc fn args).run Try.prog w = .ok (.enter fn args) w)
    (hf : ∀ t ∈ g.mems, ∀ (A : Option Addr) (n c : Nat) (W : World), Below w.heap.size w W → Calls Try.prog fn (#[.agg #[.string t.name, .int .i64 t.heard, .slice A n c]] ++ lb) W (Tells (q t = true) W)) :
    Calls Try.prog 105 #[v, .func (.func fn) #[] lb] w (KeptPost g q w) := by
  have hbd2 := hk.bounds.1
  have hmany := hk.many
  obtain ⟨mv, ov, rfl, hx, hy, hl1, hl2⟩ := id h
  obtain ⟨A, m, rfl, -⟩ := hx.at_
  obtain ⟨A', m', rfl, -⟩ := hy.at_
  have H := Lib.hid h
  have HX := Lib.hid hx
  have HY := Lib.hid hy
  clear h hx hy
  unfold groupV at *
  obtain ⟨ck, wt, gn, ms, os⟩ := g
  simp only at *
  obtain ⟨A9, m9, hxv, hxm, hxcell⟩ := HX.out.at_
  injection hxv with e1 e2 e3
  subst e1 e3
  have HXC := Lib.hid hxcell
  have H0 := Lib.hid H.out
  obtain ⟨i0, hi0, iz0, iz1, iz2⟩ := info_parts CloneMem_info
  have HFN := Lib.hid hf
  (try simp only at hbd2 hmany)
  clear hxcell hf hk
  go_enter Try.func105, Try.ntmps105
  go_wp2_with fail
  have hb1 : Below w.heap.size w ((w.alloc (.cells #[.int .i64 ck, .int .i64 wt, .int .i64 gn, .slice A ms.length m, .slice A' os.length m'] 36)).alloc (.cells #[.int .i64 0, .int .i64 0, .int .i64 0, .slice none 0 0, .slice none 0 0] 36)) := ((Below.refl _ _).alloc (by first | omega | (simp; done) | (simp; omega)) _).alloc (by first | omega | (simp; done) | (simp; omega)) _
  have hal1 : Below w.heap.size w ((w.alloc (.cells #[.int .i64 ck, .int .i64 wt, .int .i64 gn, .slice A ms.length m, .slice A' os.length m'] 36)).alloc (.cells #[.int .i64 0, .int .i64 0, .int .i64 0, .slice none 0 0, .slice none 0 0] 36)) := ((Below.refl _ _).alloc (by first | omega | (simp; done) | (simp; omega)) _).alloc (by first | omega | (simp; done) | (simp; omega)) _
  have b_bx1 : Blk ((w.alloc (.cells #[.int .i64 ck, .int .i64 wt, .int .i64 gn, .slice A ms.length m, .slice A' os.length m'] 36)).alloc (.cells #[.int .i64 0, .int .i64 0, .int .i64 0, .slice none 0 0, .slice none 0 0] 36)) (w.heap.size) 36 #[.int .i64 ck, .int .i64 wt, .int .i64 gn, .slice A ms.length m, .slice A' os.length m'] := (Blk.new_ _ 36 #[.int .i64 ck, .int .i64 wt, .int .i64 gn, .slice A ms.length m, .slice A' os.length m'] (by first | rfl | (simp; done) | (simp; omega))).alloc _
  have b_bz1 : Blk ((w.alloc (.cells #[.int .i64 ck, .int .i64 wt, .int .i64 gn, .slice A ms.length m, .slice A' os.length m'] 36)).alloc (.cells #[.int .i64 0, .int .i64 0, .int .i64 0, .slice none 0 0, .slice none 0 0] 36)) (w.heap.size + 1) 36 #[.int .i64 0, .int .i64 0, .int .i64 0, .slice none 0 0, .slice none 0 0] := Blk.new_ _ 36 #[.int .i64 0, .int .i64 0, .int .i64 0, .slice none 0 0, .slice none 0 0] (by first | rfl | (simp; done) | (simp; omega))
  have k_g1 := H.out.below hal1
  have hz1 : w.heap.size + 2 ≤ ((w.alloc (.cells #[.int .i64 ck, .int .i64 wt, .int .i64 gn, .slice A ms.length m, .slice A' os.length m'] 36)).alloc (.cells #[.int .i64 0, .int .i64 0, .int .i64 0, .slice none 0 0, .slice none 0 0] 36)).heap.size := by first | omega | (simp; done) | (simp; omega)
  generalize (w.alloc (.cells #[.int .i64 ck, .int .i64 wt, .int .i64 gn, .slice A ms.length m, .slice A' os.length m'] 36)).alloc (.cells #[.int .i64 0, .int .i64 0, .int .i64 0, .slice none 0 0, .slice none 0 0] 36) = W1 at *
  have HB1 := Lib.hid hb1
  have B1_bx := Lib.hid b_bx1
  have B1_bz := Lib.hid b_bz1
  have K1_g := Lib.hid k_g1
  clear hb1 b_bx1 b_bz1 k_g1
  clear H
  have c_bx0 := B1_bx.out.cell 0
  have c_bx1 := B1_bx.out.cell 1
  have c_bx2 := B1_bx.out.cell 2
  have c_bx3 := B1_bx.out.cell 3
  have c_bx4 := B1_bx.out.cell 4
  have l_bx := B1_bx.out.lt
  go_wp2_with fail
  clear c_bx0 c_bx1 c_bx2 c_bx3 c_bx4 l_bx
  refine (refGroupCopy_any _ ⟨ck, wt, gn, ms, os⟩ _ K1_g.out hbd2.1 hbd2.2.1 hbd2.2.2).mono ?_
  rintro e W2 ⟨mv5, ov5, rows, rfl, hown, hoff, hb⟩
  obtain ⟨A5, c5, rfl, hc5⟩ := (Sl.of_own hown.own).form
  obtain ⟨B5, d5, rfl, hd5⟩ := (Sl.of_own hoff).form
  simp only at *
  unfold groupV
  simp only
  have hb2 : Below w.heap.size w W2 := below_then HB1.out hb
  have b_bx2 := B1_bx.out.below hb B1_bx.out.lt
  have b_bz2 := B1_bz.out.below hb B1_bz.out.lt
  have k_g2 := K1_g.out.below hb
  have hz2 := hb.size
  have HB2 := Lib.hid hb2
  have B2_bx := Lib.hid b_bx2
  have B2_bz := Lib.hid b_bz2
  have K2_g := Lib.hid k_g2
  clear hb2 b_bx2 b_bz2 k_g2
  clear B1_bx B1_bz HB1 K1_g
  have ho := hown.rebase (w0 := w) rfl (Nat.le_refl _) HB2.out
  have HO := Lib.hid ho
  have hoff2 : OwnO W2 W1.heap.size (.slice B5 os.length d5) os := hoff
  have HFO := Lib.hid hoff2
  clear ho hown hoff hoff2 hc5 hd5
  have hB0 := HB2.out.size
  have hB1 : w.heap.size ≤ W1.heap.size := by omega
  have c_bx0 := B2_bx.out.cell 0
  have c_bx1 := B2_bx.out.cell 1
  have c_bx2 := B2_bx.out.cell 2
  have c_bx3 := B2_bx.out.cell 3
  have c_bx4 := B2_bx.out.cell 4
  have l_bx := B2_bx.out.lt
  go_upto_region 3 with fail
  clear c_bx0 c_bx1 c_bx2 c_bx3 c_bx4 l_bx
  have hsz3 := HB2.out.size
  have hb3 : Below w.heap.size w (W2.alloc (.cells #[.int .i64 ck, .int .i64 wt, .int .i64 gn, .slice none 0 0, .slice B5 os.length d5] 36)) := (HB2.out).alloc (by first | omega | (simp; done) | (simp; omega)) _
  have hal3 : Below W2.heap.size W2 (W2.alloc (.cells #[.int .i64 ck, .int .i64 wt, .int .i64 gn, .slice none 0 0, .slice B5 os.length d5] 36)) := (Below.refl _ _).alloc (by first | omega | (simp; done) | (simp; omega)) _
  have b_bx3 : Blk (W2.alloc (.cells #[.int .i64 ck, .int .i64 wt, .int .i64 gn, .slice none 0 0, .slice B5 os.length d5] 36)) (w.heap.size) 36 #[.int .i64 ck, .int .i64 wt, .int .i64 gn, .slice A ms.length m, .slice A' os.length m'] := (B2_bx.out).alloc _
  have b_bz3 : Blk (W2.alloc (.cells #[.int .i64 ck, .int .i64 wt, .int .i64 gn, .slice none 0 0, .slice B5 os.length d5] 36)) (w.heap.size + 1) 36 #[.int .i64 0, .int .i64 0, .int .i64 0, .slice none 0 0, .slice none 0 0] := (B2_bz.out).alloc _
  have b_bo3 : Blk (W2.alloc (.cells #[.int .i64 ck, .int .i64 wt, .int .i64 gn, .slice none 0 0, .slice B5 os.length d5] 36)) (W2.heap.size) 36 #[.int .i64 ck, .int .i64 wt, .int .i64 gn, .slice none 0 0, .slice B5 os.length d5] := Blk.new_ _ 36 #[.int .i64 ck, .int .i64 wt, .int .i64 gn, .slice none 0 0, .slice B5 os.length d5] (by first | rfl | (simp; done) | (simp; omega))
  have k_g3 := K2_g.out.below hal3
  have k_own3 := (HO.out).alloc (.cells #[.int .i64 ck, .int .i64 wt, .int .i64 gn, .slice none 0 0, .slice B5 os.length d5] 36)
  have k_off3 := (HFO.out).alloc (.cells #[.int .i64 ck, .int .i64 wt, .int .i64 gn, .slice none 0 0, .slice B5 os.length d5] 36)
  have hz3 : W2.heap.size + 1 ≤ (W2.alloc (.cells #[.int .i64 ck, .int .i64 wt, .int .i64 gn, .slice none 0 0, .slice B5 os.length d5] 36)).heap.size := by first | omega | (simp; done) | (simp; omega)
  generalize W2.alloc (.cells #[.int .i64 ck, .int .i64 wt, .int .i64 gn, .slice none 0 0, .slice B5 os.length d5] 36) = W3 at *
  have HB3 := Lib.hid hb3
  have B3_bx := Lib.hid b_bx3
  have B3_bz := Lib.hid b_bz3
  have B3_bo := Lib.hid b_bo3
  have K3_g := Lib.hid k_g3
  have K3_own := Lib.hid k_own3
  have K3_off := Lib.hid k_off3
  clear hb3 b_bx3 b_bz3 b_bo3 k_g3 k_own3 k_off3
  clear B2_bx B2_bz HB2 K2_g HO HFO
  obtain ⟨gb, hgb⟩ : ∃ gb, gb = W2.heap.size := ⟨_, rfl⟩
  have hgb1 : w.heap.size + 2 ≤ gb := by have := HB3.out.size; omega
  have hgb2 : W1.heap.size ≤ gb := by omega
  rw [← hgb] at B3_bo
  have hnil : OwnM w W3 W1.heap.size (.slice none 0 0) [] [] 0 := ⟨rfl, World.ownsRow_nil _ _ _ _, HB3.out, by simp, by simp, by simp⟩
  have HNIL := Lib.hid hnil
  have HGB := Lib.hid hgb
  clear hnil
  go_wp2_with fail
  rw [← hgb]
  clear hgb
  go_loopw [6] (fun x wr => ∃ (k : Nat) (C3 : Option Addr) (e3 : Nat) (rs : List (MemD × Value)), k ≤ ms.length ∧ x = .int .i64 k ∧ Hid (Blk wr w.heap.size 36 #[.int .i64 ck, .int .i64 wt, .int .i64 gn, .slice A ms.length m, .slice A' os.length m']) ∧ Hid (Blk wr (w.heap.size + 1) 36 #[.int .i64 0, .int .i64 0, .int .i64 0, .slice none 0 0, .slice none 0 0]) ∧ Hid (Blk wr gb 36 #[.int .i64 ck, .int .i64 wt, .int .i64 gn, .slice C3 (keptM q ms k).length e3, .slice B5 os.length d5]) ∧ Hid (OwnM w wr W1.heap.size (.slice C3 (keptM q ms k).length e3) (keptM q ms k) rs (keptM q ms k).length) ∧ Hid (OwnO wr W1.heap.size (.slice B5 os.length d5) os) ∧ Hid (Below w.heap.size w wr)) (fun x _ => ms.length - (intOf x).toNat)
  case atStart => exact ⟨0, none, 0, [], by omega, rfl, B3_bx.out, B3_bz.out, B3_bo.out, HNIL.out, K3_off.out, HB3.out⟩
  case round =>
    obtain ⟨k, C3, e3, rs, hkm, rfl, LX, LZ, LO, LM, LF, LB⟩ := hrel
    clear HNIL B3_bx B3_bz B3_bo K3_off K3_own K3_g HB3
    by_cases hlt : k < ms.length
    · have hz : (k : Int) < (ms.length : Int) := by omega
      obtain ⟨b, off, rfl, hbw, hcell⟩ := HXC.out (by omega)
      obtain ⟨pv, x0, x1, x2, xi, -⟩ := hcell k hlt
      obtain ⟨A3, m3, rfl, -⟩ := xi.form
      have X0 := (LB.out.cell (p := ⟨b, off + k * 3, none⟩) hbw).trans x0
      have X1 := (LB.out.cell (p := ⟨b, off + k * 3 + 1, none⟩) hbw).trans x1
      have X2 := (LB.out.cell (p := ⟨b, off + k * 3 + 2, none⟩) hbw).trans x2
      have hcall := HFN.out ms[k] (List.getElem_mem hlt) A3 ms[k].parts.length m3 wr LB.out
      have hbwr := LB.out.size
      clear x0 x1 x2 xi hcell
      have c_bx0 := LX.out.cell 0
      have c_bx1 := LX.out.cell 1
      have c_bx2 := LX.out.cell 2
      have c_bx3 := LX.out.cell 3
      have c_bx4 := LX.out.cell 4
      have l_bx := LX.out.lt
      cases hq : q ms[k] with
      | true =>
        go_wp2_with (go_at_fn fn; refine hcall.mono ?_; rintro e w1 hT; obtain ⟨rfl, hb1⟩ := hT.yes hq; clear hT)
        clear X0 X1 X2 hbwr c_bx0 c_bx1 c_bx2 c_bx3 c_bx4 l_bx
        go_light
        exact ⟨⟨k + 1, C3, e3, rs, by omega, by go_num, LX.out.below hb1 LX.out.lt, LZ.out.below hb1 LZ.out.lt, by rw [keptM_no hlt hq]; exact LO.out.below hb1 LO.out.lt, by rw [keptM_no hlt hq]; exact LM.out.keep hb1, LF.out.keep hb1, below_then LB.out hb1⟩, by simp [intOf]; omega⟩
      | false =>
        go_wp2_with (go_at_fn fn; refine hcall.mono ?_; rintro e w1 hT; obtain ⟨rfl, hb⟩ := hT.no (by rw [hq]; decide); clear hT)
        clear X0 X1 X2 hbwr c_bx0 c_bx1 c_bx2 c_bx3 c_bx4 l_bx hcall
        have hb21 : Below w.heap.size w w1 := below_then LB.out hb
        have b_bx21 := LX.out.below hb LX.out.lt
        have b_bz21 := LZ.out.below hb LZ.out.lt
        have b_bo21 := LO.out.below hb LO.out.lt
        have k_own21 := LM.out.keep hb
        have k_off21 := LF.out.keep hb
        have hz21 := hb.size
        have HB21 := Lib.hid hb21
        have B21_bx := Lib.hid b_bx21
        have B21_bz := Lib.hid b_bz21
        have B21_bo := Lib.hid b_bo21
        have K21_own := Lib.hid k_own21
        have K21_off := Lib.hid k_off21
        clear hb21 b_bx21 b_bz21 b_bo21 k_own21 k_off21
        clear LX LZ LO LB LM LF
        clear hb
        have c_bx0 := B21_bx.out.cell 0
        have c_bx1 := B21_bx.out.cell 1
        have c_bx2 := B21_bx.out.cell 2
        have c_bx3 := B21_bx.out.cell 3
        have c_bx4 := B21_bx.out.cell 4
        have l_bx := B21_bx.out.lt
        refine wp_region_held_drew (S := fun w0 => w0.cell? ⟨w.heap.size, 0, none⟩ = some (.int .i64 ck) ∧ w0.cell? ⟨w.heap.size, 1, none⟩ = some (.int .i64 wt) ∧ w0.cell? ⟨w.heap.size, 2, none⟩ = some (.int .i64 gn) ∧ w0.cell? ⟨w.heap.size, 3, none⟩ = some (.slice (some ⟨b, off, none⟩) ms.length m) ∧ w0.cell? ⟨w.heap.size, 4, none⟩ = some (.slice A' os.length m')) (by kernel_rfl) ?_ (fun hHeld => ?_)
        · exact ⟨c_bx0, c_bx1, c_bx2, c_bx3, c_bx4⟩
        clear c_bx0 c_bx1 c_bx2 c_bx3 c_bx4 l_bx
        generalize hd : World.drew w1 = W22 at *
        have hb : Below w1.heap.size w1 W22 := by rw [← hd]; exact (Below.refl _ _).drew
        have hb22 : Below w.heap.size w W22 := below_then HB21.out hb
        have b_bx22 := B21_bx.out.below hb B21_bx.out.lt
        have b_bz22 := B21_bz.out.below hb B21_bz.out.lt
        have b_bo22 := B21_bo.out.below hb B21_bo.out.lt
        have k_own22 := K21_own.out.keep hb
        have k_off22 := K21_off.out.keep hb
        have hz22 := hb.size
        have HB22 := Lib.hid hb22
        have B22_bx := Lib.hid b_bx22
        have B22_bz := Lib.hid b_bz22
        have B22_bo := Lib.hid b_bo22
        have K22_own := Lib.hid k_own22
        have K22_off := Lib.hid k_off22
        clear hb22 b_bx22 b_bz22 b_bo22 k_own22 k_off22
        clear B21_bx B21_bz B21_bo HB21 K21_own K21_off
        clear hd hb
        refine wpAnyH_take (i := 0) (v := ?_) rfl (by kernel_rfl) (by kernel_rfl) (by kernel_rfl) (fun _ _ _ h => h) (Or.inl ⟨by rfl, ?_⟩) (by assumption) ?_
        rotate_left
        · intro w0 hSw
          (try dsimp only at hSw)
          go_simp
          all_goals with_reducible rfl
        try simp only [Act.put, List.getElem_toArray, List.getElem_cons_zero, List.setIfInBounds_toArray, List.set_cons_zero, List.set_cons_succ]
        refine wpAnyH_take (i := 2) (v := ?_) rfl (by kernel_rfl) (by kernel_rfl) (by kernel_rfl) (fun _ _ _ h => h) (Or.inl ⟨by rfl, ?_⟩) (by assumption) ?_
        rotate_left
        · intro w0 hSw
          (try dsimp only at hSw)
          go_simp
          all_goals with_reducible rfl
        try simp only [Act.put, List.getElem_toArray, List.getElem_cons_zero, List.getElem_cons_succ, List.setIfInBounds_toArray, List.set_cons_zero, List.set_cons_succ]
        refine wpAnyH_take (i := 5) (v := ?_) rfl (by kernel_rfl) (by kernel_rfl) (by kernel_rfl) (fun _ _ _ h => h) (Or.inl ⟨by rfl, ?_⟩) (by assumption) ?_
        rotate_left
        · intro w0 hSw
          (try dsimp only at hSw)
          go_simp
          all_goals with_reducible rfl
        try simp only [Act.put, List.getElem_toArray, List.getElem_cons_zero, List.getElem_cons_succ, List.setIfInBounds_toArray, List.set_cons_zero, List.set_cons_succ]
        have LM21 := Lib.hid K22_own.out
        have hgb3 := B22_bo.out.lt
        have hkl := keptM_le q ms k
        refine wpAnyH_ready (rs := [1, 3]) (by kernel_rfl) (by simp) (AllReadyH.cons rfl (fun K hK => ?_) (AllReadyH.cons rfl (fun K hK => ?_) AllReadyH.nil))
        · have c_bo3 := B22_bo.out.cell 3
          have l_bo := B22_bo.out.lt
          go_simp
          clear c_bo3 l_bo
          refine hK.out _ _ ?_ (fun hHeld => ?_)
          · exact ⟨(B22_bx.out).cell 0, (B22_bx.out).cell 1, (B22_bx.out).cell 2, (B22_bx.out).cell 3, (B22_bx.out).cell 4⟩
          clear hK K
          try simp only [Act.put, List.getElem_toArray, List.getElem_cons_zero, List.getElem_cons_succ, List.setIfInBounds_toArray, List.set_cons_zero, List.set_cons_succ]
          refine wpAnyH_ready (rs := [3]) (by kernel_rfl) (by simp) (AllReadyH.cons rfl (fun K hK => ?_) AllReadyH.nil)
          go_simp
          go_at_call 40
          refine (refGroupCopy_any _ ⟨ck, wt, gn, ms, os⟩ _ (H0.out.below (HB22.out)) hbd2.1 hbd2.2.1 hbd2.2.2).mono ?_
          rintro e W23 ⟨mv6, ov6, rows6, rfl, hown6, hoff6, hb⟩
          obtain ⟨B6, d6, rfl, hd6⟩ := (Sl.of_own hoff6).form
          simp only at *
          unfold groupV
          simp only
          have hb23 : Below w.heap.size w W23 := below_then HB22.out hb
          have b_bx23 := B22_bx.out.below hb B22_bx.out.lt
          have b_bz23 := B22_bz.out.below hb B22_bz.out.lt
          have b_bo23 := B22_bo.out.below hb B22_bo.out.lt
          have k_own23 := K22_own.out.keep hb
          have k_off23 := K22_off.out.keep hb
          have hz23 := hb.size
          have HB23 := Lib.hid hb23
          have B23_bx := Lib.hid b_bx23
          have B23_bz := Lib.hid b_bz23
          have B23_bo := Lib.hid b_bo23
          have K23_own := Lib.hid k_own23
          have K23_off := Lib.hid k_off23
          clear hb23 b_bx23 b_bz23 b_bo23 k_own23 k_off23
          clear B22_bx B22_bz B22_bo HB22 K22_own K22_off
          refine hK.out _ _ ?_ (fun hHeld => ?_)
          · exact ⟨(B23_bx.out).cell 0, (B23_bx.out).cell 1, (B23_bx.out).cell 2, (B23_bx.out).cell 3, (B23_bx.out).cell 4⟩
          clear hK K
          try simp only [Act.put, List.getElem_toArray, List.getElem_cons_zero, List.getElem_cons_succ, List.setIfInBounds_toArray, List.set_cons_zero, List.set_cons_succ]
          have hk6 : k < rows6.length := by rw [ownM_rows hown6.fst]; exact hlt
          obtain ⟨g6, c6, rfl, -, -, -, -⟩ := hown6.at_ (show 0 < ms.length by omega)
          obtain ⟨p0, p1, p2, -⟩ := mrow_cell hown6.own (ownM_rows hown6.fst) k hk6
          have e1 : rows6[k].1 = ms[k] := fstM_get hown6.fst hk6 hlt
          have hp6 := hown6.parts rows6[k] (List.mem_take_iff_getElem.2 ⟨k, by rw [ownM_rows hown6.fst]; simpa using hlt, rfl⟩)
          have lg6 := (hown6.own.lt g6 rfl).2
          rw [e1] at p0 p1 hp6
          obtain ⟨A7, c7, e7, -⟩ := (Sl.of_own hp6).form
          rw [e7] at p2 hp6
          have HP6 := Lib.hid hp6
          clear hp6 e1 e7 hown6 hoff6
          have hfd : ∀ w : World, (Instr.field 36 (.agg #[.int .i64 ck, .int .i64 wt, .int .i64 gn, .slice (some ⟨g6, 0, none⟩) ms.length c6, .slice B6 os.length d6]) 3).run Try.prog w = .ok (.slice (some ⟨g6, 0, none⟩) ms.length c6) w := fun _ => by kernel_rfl
          refine wpAnyH_take (i := 4) (v := .slice (some ⟨g6, 0, none⟩) ms.length c6) rfl (by kernel_rfl) (by kernel_rfl) (by kernel_rfl) (fun _ _ _ h => h) (Or.inl ⟨by rfl, ?_⟩) (by assumption) ?_
          · intro w0 hSw
            (try dsimp only at hSw)
            go_simp
          try simp only [Act.put, List.getElem_toArray, List.getElem_cons_zero, List.getElem_cons_succ, List.setIfInBounds_toArray, List.set_cons_zero, List.set_cons_succ]
          refine wpAnyH_take (i := 6) (v := .pointer (some ⟨g6, k * 3, none⟩)) rfl (by kernel_rfl) (by kernel_rfl) (by kernel_rfl) (fun _ _ _ h => h) (Or.inl ⟨by rfl, ?_⟩) (by assumption) ?_
          · intro w0 hSw
            (try dsimp only at hSw)
            go_simp
          try simp only [Act.put, List.getElem_toArray, List.getElem_cons_zero, List.getElem_cons_succ, List.setIfInBounds_toArray, List.set_cons_zero, List.set_cons_succ]
          refine wpAnyH_ready (rs := [7]) (by kernel_rfl) (by simp) (AllReadyH.cons rfl (fun K hK => ?_) AllReadyH.nil)
          go_simp
          refine hK.out _ _ ?_ (fun hHeld => ?_)
          · exact ⟨(B23_bx.out).cell 0, (B23_bx.out).cell 1, (B23_bx.out).cell 2, (B23_bx.out).cell 3, (B23_bx.out).cell 4⟩
          clear hK K
          try simp only [Act.put, List.getElem_toArray, List.getElem_cons_zero, List.getElem_cons_succ, List.setIfInBounds_toArray, List.set_cons_zero, List.set_cons_succ]
          clear p0 p1 p2 lg6
          refine wpAnyH_ready (rs := [8]) (by kernel_rfl) (by simp) (AllReadyH.cons rfl (fun K hK => ?_) AllReadyH.nil)
          go_simp
          refine hK.out _ _ ?_ (fun hHeld => ?_)
          · exact ⟨((B23_bx.out).alloc _).cell 0, ((B23_bx.out).alloc _).cell 1, ((B23_bx.out).alloc _).cell 2, ((B23_bx.out).alloc _).cell 3, ((B23_bx.out).alloc _).cell 4⟩
          clear hK K
          try simp only [Act.put, List.getElem_toArray, List.getElem_cons_zero, List.getElem_cons_succ, List.setIfInBounds_toArray, List.set_cons_zero, List.set_cons_succ]
          have HOM3 := Lib.hid K23_own.out.own
          refine wpAnyH_ready (rs := [9]) (by kernel_rfl) (by simp) (AllReadyH.cons rfl (fun K hK => ?_) AllReadyH.nil)
          refine wp_append_sl _ (.tmp 26) (.tmp 33) 33 rfl W1.heap.size 79 i0 (.agg #[.string .empty, .int .i64 0, .slice none 0 0]) 3 48 Try.underlying33 hi0 iz0 iz1 iz2 rfl (by decide) _ _ _ (by rfl) (HOM3.out.alloc _) _ 1 _ (by rfl) (lit_at _ _ _ 3 1 W23.heap.size rfl (by simp)) (by intro x hx; simp at hx; rcases hx with rfl | rfl | rfl <;> rfl) (by simp only [maxLen]; omega) (by omega) (by have := HB23.out.size; simp; omega) ?_
          intro v4 w4 ho4 hg4 ha4
          obtain ⟨g4, c4, rfl⟩ := own_block ho4 (Nat.succ_pos _)
          have bx4 := (B23_bx.out.alloc _).grown hg4 (own_off HOM3.out B23_bx.out (by decide))
          have bz4 := (B23_bz.out.alloc _).grown hg4 (own_off HOM3.out B23_bz.out (by decide))
          have bo4 := (B23_bo.out.alloc _).grown hg4 (own_off HOM3.out B23_bo.out (by decide))
          have own4 := LM21.out.push rfl (by omega) (by omega) hb HP6.out ho4 hg4
          have off4 : OwnO w4 W1.heap.size (.slice B5 os.length d5) os := World.ownsRow.kept (World.ownsRow.alloc K23_off.out _) hg4 (own_apart (World.ownsRow.alloc K23_off.out (.cells #[.string ms[k].name, .int .i64 ms[k].heard, .slice A7 ms[k].parts.length c7] 79)) (HOM3.out.alloc _) (by decide))
          rw [← keptM_yes hlt hq] at own4
          have hgb4 := bo4.lt
          refine hK.out _ _ ?_ (fun hHeld => ?_)
          · exact ⟨bx4.cell 0, bx4.cell 1, bx4.cell 2, bx4.cell 3, bx4.cell 4⟩
          clear hK K
          try simp only [Act.put, List.getElem_toArray, List.getElem_cons_zero, List.getElem_cons_succ, List.setIfInBounds_toArray, List.set_cons_zero, List.set_cons_succ]
          have HBX4 := Lib.hid bx4
          have HBZ4 := Lib.hid bz4
          have HBO4 := Lib.hid bo4
          have HOWN4 := Lib.hid own4
          have HOFF4 := Lib.hid off4
          clear bx4 bz4 bo4 own4 off4 ho4 hg4 ha4 HOM3
          refine wpAnyH_ready (rs := [10]) (by kernel_rfl) (by simp) (AllReadyH.cons rfl (fun K hK => ?_) AllReadyH.nil)
          go_simp
          refine hK.out _ _ ?_ (fun hHeld => ?_)
          · assumption
          clear hK K
          try simp only [Act.put, List.getElem_toArray, List.getElem_cons_zero, List.getElem_cons_succ, List.setIfInBounds_toArray, List.set_cons_zero, List.set_cons_succ]
          have sb3 := HBO4.out.cell 3
          have sf3 := HBO4.out.frozen 3
          refine wpAnyH_ready (rs := [11]) (by kernel_rfl) (by simp) (AllReadyH.cons rfl (fun K hK => ?_) AllReadyH.nil)
          go_simp
          clear sb3 sf3
          have bx5 := HBX4.out.far (p := ⟨gb, 3, none⟩) (by show w.heap.size ≠ gb; omega) (.slice (some ⟨g4, 0, none⟩) ((keptM q ms k).length + 1) c4)
          have bz5 := HBZ4.out.far (p := ⟨gb, 3, none⟩) (by show w.heap.size + 1 ≠ gb; omega) (.slice (some ⟨g4, 0, none⟩) ((keptM q ms k).length + 1) c4)
          have bo5 := HBO4.out.set_ 3 (.slice (some ⟨g4, 0, none⟩) ((keptM q ms k).length + 1) c4)
          have own5 := HOWN4.out.farBlk HBO4.out (by omega) 3 (.slice (some ⟨g4, 0, none⟩) ((keptM q ms k).length + 1) c4)
          have off5 : OwnO (w4.setCell ⟨gb, 3, none⟩ (.slice (some ⟨g4, 0, none⟩) ((keptM q ms k).length + 1) c4)) W1.heap.size (.slice B5 os.length d5) os := own_far HOFF4.out HBO4.out (by decide) 3 _
          refine hK.out _ _ ?_ (fun hHeld => ?_)
          · exact ⟨bx5.cell 0, bx5.cell 1, bx5.cell 2, bx5.cell 3, bx5.cell 4⟩
          clear hK K hHeld
          have HBX5 := Lib.hid bx5
          have HBZ5 := Lib.hid bz5
          have HBO5 := Lib.hid bo5
          have HOWN5 := Lib.hid own5
          have HOFF5 := Lib.hid off5
          clear bx5 bz5 bo5 own5 off5
          refine wpAnyH_done (by kernel_rfl) ?_ _
          go_wp2_with fail
          go_light
          exact ⟨⟨k + 1, some ⟨g4, 0, none⟩, c4, rs ++ [(ms[k], .slice A7 ms[k].parts.length c7)], by omega, by go_num, HBX5.out, HBZ5.out, by rw [keptM_yes hlt hq, List.length_append]; exact HBO5.out, by rw [keptM_yes hlt hq, List.length_append] at *; exact HOWN5.out, HOFF5.out, HOWN5.out.bel⟩, by simp [intOf]; omega⟩
        · go_simp
          go_at_call 40
          refine (refGroupCopy_any _ ⟨ck, wt, gn, ms, os⟩ _ (H0.out.below (HB22.out)) hbd2.1 hbd2.2.1 hbd2.2.2).mono ?_
          rintro e W23 ⟨mv6, ov6, rows6, rfl, hown6, hoff6, hb⟩
          obtain ⟨B6, d6, rfl, hd6⟩ := (Sl.of_own hoff6).form
          simp only at *
          unfold groupV
          simp only
          have hb23 : Below w.heap.size w W23 := below_then HB22.out hb
          have b_bx23 := B22_bx.out.below hb B22_bx.out.lt
          have b_bz23 := B22_bz.out.below hb B22_bz.out.lt
          have b_bo23 := B22_bo.out.below hb B22_bo.out.lt
          have k_own23 := K22_own.out.keep hb
          have k_off23 := K22_off.out.keep hb
          have hz23 := hb.size
          have HB23 := Lib.hid hb23
          have B23_bx := Lib.hid b_bx23
          have B23_bz := Lib.hid b_bz23
          have B23_bo := Lib.hid b_bo23
          have K23_own := Lib.hid k_own23
          have K23_off := Lib.hid k_off23
          clear hb23 b_bx23 b_bz23 b_bo23 k_own23 k_off23
          clear B22_bx B22_bz B22_bo HB22 K22_own K22_off
          refine hK.out _ _ ?_ (fun hHeld => ?_)
          · exact ⟨(B23_bx.out).cell 0, (B23_bx.out).cell 1, (B23_bx.out).cell 2, (B23_bx.out).cell 3, (B23_bx.out).cell 4⟩
          clear hK K
          try simp only [Act.put, List.getElem_toArray, List.getElem_cons_zero, List.getElem_cons_succ, List.setIfInBounds_toArray, List.set_cons_zero, List.set_cons_succ]
          have hk6 : k < rows6.length := by rw [ownM_rows hown6.fst]; exact hlt
          obtain ⟨g6, c6, rfl, -, -, -, -⟩ := hown6.at_ (show 0 < ms.length by omega)
          obtain ⟨p0, p1, p2, -⟩ := mrow_cell hown6.own (ownM_rows hown6.fst) k hk6
          have e1 : rows6[k].1 = ms[k] := fstM_get hown6.fst hk6 hlt
          have hp6 := hown6.parts rows6[k] (List.mem_take_iff_getElem.2 ⟨k, by rw [ownM_rows hown6.fst]; simpa using hlt, rfl⟩)
          have lg6 := (hown6.own.lt g6 rfl).2
          rw [e1] at p0 p1 hp6
          obtain ⟨A7, c7, e7, -⟩ := (Sl.of_own hp6).form
          rw [e7] at p2 hp6
          have HP6 := Lib.hid hp6
          clear hp6 e1 e7 hown6 hoff6
          have hfd : ∀ w : World, (Instr.field 36 (.agg #[.int .i64 ck, .int .i64 wt, .int .i64 gn, .slice (some ⟨g6, 0, none⟩) ms.length c6, .slice B6 os.length d6]) 3).run Try.prog w = .ok (.slice (some ⟨g6, 0, none⟩) ms.length c6) w := fun _ => by kernel_rfl
          refine wpAnyH_take (i := 4) (v := .slice (some ⟨g6, 0, none⟩) ms.length c6) rfl (by kernel_rfl) (by kernel_rfl) (by kernel_rfl) (fun _ _ _ h => h) (Or.inl ⟨by rfl, ?_⟩) (by assumption) ?_
          · intro w0 hSw
            (try dsimp only at hSw)
            go_simp
          try simp only [Act.put, List.getElem_toArray, List.getElem_cons_zero, List.getElem_cons_succ, List.setIfInBounds_toArray, List.set_cons_zero, List.set_cons_succ]
          refine wpAnyH_take (i := 6) (v := .pointer (some ⟨g6, k * 3, none⟩)) rfl (by kernel_rfl) (by kernel_rfl) (by kernel_rfl) (fun _ _ _ h => h) (Or.inl ⟨by rfl, ?_⟩) (by assumption) ?_
          · intro w0 hSw
            (try dsimp only at hSw)
            go_simp
          try simp only [Act.put, List.getElem_toArray, List.getElem_cons_zero, List.getElem_cons_succ, List.setIfInBounds_toArray, List.set_cons_zero, List.set_cons_succ]
          refine wpAnyH_ready (rs := [1, 7]) (by kernel_rfl) (by simp) (AllReadyH.cons rfl (fun K hK => ?_) (AllReadyH.cons rfl (fun K hK => ?_) AllReadyH.nil))
          · have c_bo3 := B23_bo.out.cell 3
            have l_bo := B23_bo.out.lt
            go_simp
            clear c_bo3 l_bo
            refine hK.out _ _ ?_ (fun hHeld => ?_)
            · exact ⟨(B23_bx.out).cell 0, (B23_bx.out).cell 1, (B23_bx.out).cell 2, (B23_bx.out).cell 3, (B23_bx.out).cell 4⟩
            clear hK K
            try simp only [Act.put, List.getElem_toArray, List.getElem_cons_zero, List.getElem_cons_succ, List.setIfInBounds_toArray, List.set_cons_zero, List.set_cons_succ]
            refine wpAnyH_ready (rs := [7]) (by kernel_rfl) (by simp) (AllReadyH.cons rfl (fun K hK => ?_) AllReadyH.nil)
            go_simp
            refine hK.out _ _ ?_ (fun hHeld => ?_)
            · exact ⟨(B23_bx.out).cell 0, (B23_bx.out).cell 1, (B23_bx.out).cell 2, (B23_bx.out).cell 3, (B23_bx.out).cell 4⟩
            clear hK K
            try simp only [Act.put, List.getElem_toArray, List.getElem_cons_zero, List.getElem_cons_succ, List.setIfInBounds_toArray, List.set_cons_zero, List.set_cons_succ]
            clear p0 p1 p2 lg6
            refine wpAnyH_ready (rs := [8]) (by kernel_rfl) (by simp) (AllReadyH.cons rfl (fun K hK => ?_) AllReadyH.nil)
            go_simp
            refine hK.out _ _ ?_ (fun hHeld => ?_)
            · exact ⟨((B23_bx.out).alloc _).cell 0, ((B23_bx.out).alloc _).cell 1, ((B23_bx.out).alloc _).cell 2, ((B23_bx.out).alloc _).cell 3, ((B23_bx.out).alloc _).cell 4⟩
            clear hK K
            try simp only [Act.put, List.getElem_toArray, List.getElem_cons_zero, List.getElem_cons_succ, List.setIfInBounds_toArray, List.set_cons_zero, List.set_cons_succ]
            have HOM3 := Lib.hid K23_own.out.own
            refine wpAnyH_ready (rs := [9]) (by kernel_rfl) (by simp) (AllReadyH.cons rfl (fun K hK => ?_) AllReadyH.nil)
            refine wp_append_sl _ (.tmp 26) (.tmp 33) 33 rfl W1.heap.size 79 i0 (.agg #[.string .empty, .int .i64 0, .slice none 0 0]) 3 48 Try.underlying33 hi0 iz0 iz1 iz2 rfl (by decide) _ _ _ (by rfl) (HOM3.out.alloc _) _ 1 _ (by rfl) (lit_at _ _ _ 3 1 W23.heap.size rfl (by simp)) (by intro x hx; simp at hx; rcases hx with rfl | rfl | rfl <;> rfl) (by simp only [maxLen]; omega) (by omega) (by have := HB23.out.size; simp; omega) ?_
            intro v4 w4 ho4 hg4 ha4
            obtain ⟨g4, c4, rfl⟩ := own_block ho4 (Nat.succ_pos _)
            have bx4 := (B23_bx.out.alloc _).grown hg4 (own_off HOM3.out B23_bx.out (by decide))
            have bz4 := (B23_bz.out.alloc _).grown hg4 (own_off HOM3.out B23_bz.out (by decide))
            have bo4 := (B23_bo.out.alloc _).grown hg4 (own_off HOM3.out B23_bo.out (by decide))
            have own4 := LM21.out.push rfl (by omega) (by omega) hb HP6.out ho4 hg4
            have off4 : OwnO w4 W1.heap.size (.slice B5 os.length d5) os := World.ownsRow.kept (World.ownsRow.alloc K23_off.out _) hg4 (own_apart (World.ownsRow.alloc K23_off.out (.cells #[.string ms[k].name, .int .i64 ms[k].heard, .slice A7 ms[k].parts.length c7] 79)) (HOM3.out.alloc _) (by decide))
            rw [← keptM_yes hlt hq] at own4
            have hgb4 := bo4.lt
            refine hK.out _ _ ?_ (fun hHeld => ?_)
            · exact ⟨bx4.cell 0, bx4.cell 1, bx4.cell 2, bx4.cell 3, bx4.cell 4⟩
            clear hK K
            try simp only [Act.put, List.getElem_toArray, List.getElem_cons_zero, List.getElem_cons_succ, List.setIfInBounds_toArray, List.set_cons_zero, List.set_cons_succ]
            have HBX4 := Lib.hid bx4
            have HBZ4 := Lib.hid bz4
            have HBO4 := Lib.hid bo4
            have HOWN4 := Lib.hid own4
            have HOFF4 := Lib.hid off4
            clear bx4 bz4 bo4 own4 off4 ho4 hg4 ha4 HOM3
            refine wpAnyH_ready (rs := [10]) (by kernel_rfl) (by simp) (AllReadyH.cons rfl (fun K hK => ?_) AllReadyH.nil)
            go_simp
            refine hK.out _ _ ?_ (fun hHeld => ?_)
            · assumption
            clear hK K
            try simp only [Act.put, List.getElem_toArray, List.getElem_cons_zero, List.getElem_cons_succ, List.setIfInBounds_toArray, List.set_cons_zero, List.set_cons_succ]
            have sb3 := HBO4.out.cell 3
            have sf3 := HBO4.out.frozen 3
            refine wpAnyH_ready (rs := [11]) (by kernel_rfl) (by simp) (AllReadyH.cons rfl (fun K hK => ?_) AllReadyH.nil)
            go_simp
            clear sb3 sf3
            have bx5 := HBX4.out.far (p := ⟨gb, 3, none⟩) (by show w.heap.size ≠ gb; omega) (.slice (some ⟨g4, 0, none⟩) ((keptM q ms k).length + 1) c4)
            have bz5 := HBZ4.out.far (p := ⟨gb, 3, none⟩) (by show w.heap.size + 1 ≠ gb; omega) (.slice (some ⟨g4, 0, none⟩) ((keptM q ms k).length + 1) c4)
            have bo5 := HBO4.out.set_ 3 (.slice (some ⟨g4, 0, none⟩) ((keptM q ms k).length + 1) c4)
            have own5 := HOWN4.out.farBlk HBO4.out (by omega) 3 (.slice (some ⟨g4, 0, none⟩) ((keptM q ms k).length + 1) c4)
            have off5 : OwnO (w4.setCell ⟨gb, 3, none⟩ (.slice (some ⟨g4, 0, none⟩) ((keptM q ms k).length + 1) c4)) W1.heap.size (.slice B5 os.length d5) os := own_far HOFF4.out HBO4.out (by decide) 3 _
            refine hK.out _ _ ?_ (fun hHeld => ?_)
            · exact ⟨bx5.cell 0, bx5.cell 1, bx5.cell 2, bx5.cell 3, bx5.cell 4⟩
            clear hK K hHeld
            have HBX5 := Lib.hid bx5
            have HBZ5 := Lib.hid bz5
            have HBO5 := Lib.hid bo5
            have HOWN5 := Lib.hid own5
            have HOFF5 := Lib.hid off5
            clear bx5 bz5 bo5 own5 off5
            refine wpAnyH_done (by kernel_rfl) ?_ _
            go_wp2_with fail
            go_light
            exact ⟨⟨k + 1, some ⟨g4, 0, none⟩, c4, rs ++ [(ms[k], .slice A7 ms[k].parts.length c7)], by omega, by go_num, HBX5.out, HBZ5.out, by rw [keptM_yes hlt hq, List.length_append]; exact HBO5.out, by rw [keptM_yes hlt hq, List.length_append] at *; exact HOWN5.out, HOFF5.out, HOWN5.out.bel⟩, by simp [intOf]; omega⟩
          · go_simp
            refine hK.out _ _ ?_ (fun hHeld => ?_)
            · exact ⟨(B23_bx.out).cell 0, (B23_bx.out).cell 1, (B23_bx.out).cell 2, (B23_bx.out).cell 3, (B23_bx.out).cell 4⟩
            clear hK K
            try simp only [Act.put, List.getElem_toArray, List.getElem_cons_zero, List.getElem_cons_succ, List.setIfInBounds_toArray, List.set_cons_zero, List.set_cons_succ]
            clear p0 p1 p2 lg6
            refine wpAnyH_ready (rs := [1, 8]) (by kernel_rfl) (by simp) (AllReadyH.cons rfl (fun K hK => ?_) (AllReadyH.cons rfl (fun K hK => ?_) AllReadyH.nil))
            · have c_bo3 := B23_bo.out.cell 3
              have l_bo := B23_bo.out.lt
              go_simp
              clear c_bo3 l_bo
              refine hK.out _ _ ?_ (fun hHeld => ?_)
              · exact ⟨(B23_bx.out).cell 0, (B23_bx.out).cell 1, (B23_bx.out).cell 2, (B23_bx.out).cell 3, (B23_bx.out).cell 4⟩
              clear hK K
              try simp only [Act.put, List.getElem_toArray, List.getElem_cons_zero, List.getElem_cons_succ, List.setIfInBounds_toArray, List.set_cons_zero, List.set_cons_succ]
              refine wpAnyH_ready (rs := [8]) (by kernel_rfl) (by simp) (AllReadyH.cons rfl (fun K hK => ?_) AllReadyH.nil)
              go_simp
              refine hK.out _ _ ?_ (fun hHeld => ?_)
              · exact ⟨((B23_bx.out).alloc _).cell 0, ((B23_bx.out).alloc _).cell 1, ((B23_bx.out).alloc _).cell 2, ((B23_bx.out).alloc _).cell 3, ((B23_bx.out).alloc _).cell 4⟩
              clear hK K
              try simp only [Act.put, List.getElem_toArray, List.getElem_cons_zero, List.getElem_cons_succ, List.setIfInBounds_toArray, List.set_cons_zero, List.set_cons_succ]
              have HOM3 := Lib.hid K23_own.out.own
              refine wpAnyH_ready (rs := [9]) (by kernel_rfl) (by simp) (AllReadyH.cons rfl (fun K hK => ?_) AllReadyH.nil)
              refine wp_append_sl _ (.tmp 26) (.tmp 33) 33 rfl W1.heap.size 79 i0 (.agg #[.string .empty, .int .i64 0, .slice none 0 0]) 3 48 Try.underlying33 hi0 iz0 iz1 iz2 rfl (by decide) _ _ _ (by rfl) (HOM3.out.alloc _) _ 1 _ (by rfl) (lit_at _ _ _ 3 1 W23.heap.size rfl (by simp)) (by intro x hx; simp at hx; rcases hx with rfl | rfl | rfl <;> rfl) (by simp only [maxLen]; omega) (by omega) (by have := HB23.out.size; simp; omega) ?_
              intro v4 w4 ho4 hg4 ha4
              obtain ⟨g4, c4, rfl⟩ := own_block ho4 (Nat.succ_pos _)
              have bx4 := (B23_bx.out.alloc _).grown hg4 (own_off HOM3.out B23_bx.out (by decide))
              have bz4 := (B23_bz.out.alloc _).grown hg4 (own_off HOM3.out B23_bz.out (by decide))
              have bo4 := (B23_bo.out.alloc _).grown hg4 (own_off HOM3.out B23_bo.out (by decide))
              have own4 := LM21.out.push rfl (by omega) (by omega) hb HP6.out ho4 hg4
              have off4 : OwnO w4 W1.heap.size (.slice B5 os.length d5) os := World.ownsRow.kept (World.ownsRow.alloc K23_off.out _) hg4 (own_apart (World.ownsRow.alloc K23_off.out (.cells #[.string ms[k].name, .int .i64 ms[k].heard, .slice A7 ms[k].parts.length c7] 79)) (HOM3.out.alloc _) (by decide))
              rw [← keptM_yes hlt hq] at own4
              have hgb4 := bo4.lt
              refine hK.out _ _ ?_ (fun hHeld => ?_)
              · exact ⟨bx4.cell 0, bx4.cell 1, bx4.cell 2, bx4.cell 3, bx4.cell 4⟩
              clear hK K
              try simp only [Act.put, List.getElem_toArray, List.getElem_cons_zero, List.getElem_cons_succ, List.setIfInBounds_toArray, List.set_cons_zero, List.set_cons_succ]
              have HBX4 := Lib.hid bx4
              have HBZ4 := Lib.hid bz4
              have HBO4 := Lib.hid bo4
              have HOWN4 := Lib.hid own4
              have HOFF4 := Lib.hid off4
              clear bx4 bz4 bo4 own4 off4 ho4 hg4 ha4 HOM3
              refine wpAnyH_ready (rs := [10]) (by kernel_rfl) (by simp) (AllReadyH.cons rfl (fun K hK => ?_) AllReadyH.nil)
              go_simp
              refine hK.out _ _ ?_ (fun hHeld => ?_)
              · assumption
              clear hK K
              try simp only [Act.put, List.getElem_toArray, List.getElem_cons_zero, List.getElem_cons_succ, List.setIfInBounds_toArray, List.set_cons_zero, List.set_cons_succ]
              have sb3 := HBO4.out.cell 3
              have sf3 := HBO4.out.frozen 3
              refine wpAnyH_ready (rs := [11]) (by kernel_rfl) (by simp) (AllReadyH.cons rfl (fun K hK => ?_) AllReadyH.nil)
              go_simp
              clear sb3 sf3
              have bx5 := HBX4.out.far (p := ⟨gb, 3, none⟩) (by show w.heap.size ≠ gb; omega) (.slice (some ⟨g4, 0, none⟩) ((keptM q ms k).length + 1) c4)
              have bz5 := HBZ4.out.far (p := ⟨gb, 3, none⟩) (by show w.heap.size + 1 ≠ gb; omega) (.slice (some ⟨g4, 0, none⟩) ((keptM q ms k).length + 1) c4)
              have bo5 := HBO4.out.set_ 3 (.slice (some ⟨g4, 0, none⟩) ((keptM q ms k).length + 1) c4)
              have own5 := HOWN4.out.farBlk HBO4.out (by omega) 3 (.slice (some ⟨g4, 0, none⟩) ((keptM q ms k).length + 1) c4)
              have off5 : OwnO (w4.setCell ⟨gb, 3, none⟩ (.slice (some ⟨g4, 0, none⟩) ((keptM q ms k).length + 1) c4)) W1.heap.size (.slice B5 os.length d5) os := own_far HOFF4.out HBO4.out (by decide) 3 _
              refine hK.out _ _ ?_ (fun hHeld => ?_)
              · exact ⟨bx5.cell 0, bx5.cell 1, bx5.cell 2, bx5.cell 3, bx5.cell 4⟩
              clear hK K hHeld
              have HBX5 := Lib.hid bx5
              have HBZ5 := Lib.hid bz5
              have HBO5 := Lib.hid bo5
              have HOWN5 := Lib.hid own5
              have HOFF5 := Lib.hid off5
              clear bx5 bz5 bo5 own5 off5
              refine wpAnyH_done (by kernel_rfl) ?_ _
              go_wp2_with fail
              go_light
              exact ⟨⟨k + 1, some ⟨g4, 0, none⟩, c4, rs ++ [(ms[k], .slice A7 ms[k].parts.length c7)], by omega, by go_num, HBX5.out, HBZ5.out, by rw [keptM_yes hlt hq, List.length_append]; exact HBO5.out, by rw [keptM_yes hlt hq, List.length_append] at *; exact HOWN5.out, HOFF5.out, HOWN5.out.bel⟩, by simp [intOf]; omega⟩
            · go_simp
              refine hK.out _ _ ?_ (fun hHeld => ?_)
              · exact ⟨((B23_bx.out).alloc _).cell 0, ((B23_bx.out).alloc _).cell 1, ((B23_bx.out).alloc _).cell 2, ((B23_bx.out).alloc _).cell 3, ((B23_bx.out).alloc _).cell 4⟩
              clear hK K
              try simp only [Act.put, List.getElem_toArray, List.getElem_cons_zero, List.getElem_cons_succ, List.setIfInBounds_toArray, List.set_cons_zero, List.set_cons_succ]
              refine wpAnyH_ready (rs := [1]) (by kernel_rfl) (by simp) (AllReadyH.cons rfl (fun K hK => ?_) AllReadyH.nil)
              have c_bo3 := B23_bo.out.cell 3
              have l_bo := B23_bo.out.lt
              go_simp
              clear c_bo3 l_bo
              refine hK.out _ _ ?_ (fun hHeld => ?_)
              · exact ⟨((B23_bx.out).alloc _).cell 0, ((B23_bx.out).alloc _).cell 1, ((B23_bx.out).alloc _).cell 2, ((B23_bx.out).alloc _).cell 3, ((B23_bx.out).alloc _).cell 4⟩
              clear hK K
              try simp only [Act.put, List.getElem_toArray, List.getElem_cons_zero, List.getElem_cons_succ, List.setIfInBounds_toArray, List.set_cons_zero, List.set_cons_succ]
              have HOM3 := Lib.hid K23_own.out.own
              refine wpAnyH_ready (rs := [9]) (by kernel_rfl) (by simp) (AllReadyH.cons rfl (fun K hK => ?_) AllReadyH.nil)
              refine wp_append_sl _ (.tmp 26) (.tmp 33) 33 rfl W1.heap.size 79 i0 (.agg #[.string .empty, .int .i64 0, .slice none 0 0]) 3 48 Try.underlying33 hi0 iz0 iz1 iz2 rfl (by decide) _ _ _ (by rfl) (HOM3.out.alloc _) _ 1 _ (by rfl) (lit_at _ _ _ 3 1 W23.heap.size rfl (by simp)) (by intro x hx; simp at hx; rcases hx with rfl | rfl | rfl <;> rfl) (by simp only [maxLen]; omega) (by omega) (by have := HB23.out.size; simp; omega) ?_
              intro v4 w4 ho4 hg4 ha4
              obtain ⟨g4, c4, rfl⟩ := own_block ho4 (Nat.succ_pos _)
              have bx4 := (B23_bx.out.alloc _).grown hg4 (own_off HOM3.out B23_bx.out (by decide))
              have bz4 := (B23_bz.out.alloc _).grown hg4 (own_off HOM3.out B23_bz.out (by decide))
              have bo4 := (B23_bo.out.alloc _).grown hg4 (own_off HOM3.out B23_bo.out (by decide))
              have own4 := LM21.out.push rfl (by omega) (by omega) hb HP6.out ho4 hg4
              have off4 : OwnO w4 W1.heap.size (.slice B5 os.length d5) os := World.ownsRow.kept (World.ownsRow.alloc K23_off.out _) hg4 (own_apart (World.ownsRow.alloc K23_off.out (.cells #[.string ms[k].name, .int .i64 ms[k].heard, .slice A7 ms[k].parts.length c7] 79)) (HOM3.out.alloc _) (by decide))
              rw [← keptM_yes hlt hq] at own4
              have hgb4 := bo4.lt
              refine hK.out _ _ ?_ (fun hHeld => ?_)
              · exact ⟨bx4.cell 0, bx4.cell 1, bx4.cell 2, bx4.cell 3, bx4.cell 4⟩
              clear hK K
              try simp only [Act.put, List.getElem_toArray, List.getElem_cons_zero, List.getElem_cons_succ, List.setIfInBounds_toArray, List.set_cons_zero, List.set_cons_succ]
              have HBX4 := Lib.hid bx4
              have HBZ4 := Lib.hid bz4
              have HBO4 := Lib.hid bo4
              have HOWN4 := Lib.hid own4
              have HOFF4 := Lib.hid off4
              clear bx4 bz4 bo4 own4 off4 ho4 hg4 ha4 HOM3
              refine wpAnyH_ready (rs := [10]) (by kernel_rfl) (by simp) (AllReadyH.cons rfl (fun K hK => ?_) AllReadyH.nil)
              go_simp
              refine hK.out _ _ ?_ (fun hHeld => ?_)
              · assumption
              clear hK K
              try simp only [Act.put, List.getElem_toArray, List.getElem_cons_zero, List.getElem_cons_succ, List.setIfInBounds_toArray, List.set_cons_zero, List.set_cons_succ]
              have sb3 := HBO4.out.cell 3
              have sf3 := HBO4.out.frozen 3
              refine wpAnyH_ready (rs := [11]) (by kernel_rfl) (by simp) (AllReadyH.cons rfl (fun K hK => ?_) AllReadyH.nil)
              go_simp
              clear sb3 sf3
              have bx5 := HBX4.out.far (p := ⟨gb, 3, none⟩) (by show w.heap.size ≠ gb; omega) (.slice (some ⟨g4, 0, none⟩) ((keptM q ms k).length + 1) c4)
              have bz5 := HBZ4.out.far (p := ⟨gb, 3, none⟩) (by show w.heap.size + 1 ≠ gb; omega) (.slice (some ⟨g4, 0, none⟩) ((keptM q ms k).length + 1) c4)
              have bo5 := HBO4.out.set_ 3 (.slice (some ⟨g4, 0, none⟩) ((keptM q ms k).length + 1) c4)
              have own5 := HOWN4.out.farBlk HBO4.out (by omega) 3 (.slice (some ⟨g4, 0, none⟩) ((keptM q ms k).length + 1) c4)
              have off5 : OwnO (w4.setCell ⟨gb, 3, none⟩ (.slice (some ⟨g4, 0, none⟩) ((keptM q ms k).length + 1) c4)) W1.heap.size (.slice B5 os.length d5) os := own_far HOFF4.out HBO4.out (by decide) 3 _
              refine hK.out _ _ ?_ (fun hHeld => ?_)
              · exact ⟨bx5.cell 0, bx5.cell 1, bx5.cell 2, bx5.cell 3, bx5.cell 4⟩
              clear hK K hHeld
              have HBX5 := Lib.hid bx5
              have HBZ5 := Lib.hid bz5
              have HBO5 := Lib.hid bo5
              have HOWN5 := Lib.hid own5
              have HOFF5 := Lib.hid off5
              clear bx5 bz5 bo5 own5 off5
              refine wpAnyH_done (by kernel_rfl) ?_ _
              go_wp2_with fail
              go_light
              exact ⟨⟨k + 1, some ⟨g4, 0, none⟩, c4, rs ++ [(ms[k], .slice A7 ms[k].parts.length c7)], by omega, by go_num, HBX5.out, HBZ5.out, by rw [keptM_yes hlt hq, List.length_append]; exact HBO5.out, by rw [keptM_yes hlt hq, List.length_append] at *; exact HOWN5.out, HOFF5.out, HOWN5.out.bel⟩, by simp [intOf]; omega⟩
    · obtain rfl : k = ms.length := by omega
      have hz : ¬ (ms.length : Int) < (ms.length : Int) := by omega
      have c_bx0 := LX.out.cell 0
      have c_bx1 := LX.out.cell 1
      have c_bx2 := LX.out.cell 2
      have c_bx3 := LX.out.cell 3
      have c_bx4 := LX.out.cell 4
      have l_bx := LX.out.lt
      have c_bo0 := LO.out.cell 0
      have c_bo1 := LO.out.cell 1
      have c_bo2 := LO.out.cell 2
      have c_bo3 := LO.out.cell 3
      have c_bo4 := LO.out.cell 4
      have l_bo := LO.out.lt
      have c_bz0 := LZ.out.cell 0
      have f_bz0 := LZ.out.frozen 0
      have c_bz1 := LZ.out.cell 1
      have f_bz1 := LZ.out.frozen 1
      have c_bz2 := LZ.out.cell 2
      have f_bz2 := LZ.out.frozen 2
      have c_bz3 := LZ.out.cell 3
      have f_bz3 := LZ.out.frozen 3
      have c_bz4 := LZ.out.cell 4
      have f_bz4 := LZ.out.frozen 4
      have l_bz := LZ.out.lt
      go_wp2_with fail
      clear c_bx0 c_bx1 c_bx2 c_bx3 c_bx4 l_bx c_bo0 c_bo1 c_bo2 c_bo3 c_bo4 l_bo c_bz0 f_bz0 c_bz1 f_bz1 c_bz2 f_bz2 c_bz3 f_bz3 c_bz4 f_bz4 l_bz
      have hszF := LB.out.size
      have b_bxF : Blk (((((wr.setCell ⟨w.heap.size + 1, 0, none⟩ (.int .i64 ck)).setCell ⟨w.heap.size + 1, 1, none⟩ (.int .i64 wt)).setCell ⟨w.heap.size + 1, 2, none⟩ (.int .i64 gn)).setCell ⟨w.heap.size + 1, 3, none⟩ (.slice C3 (keptM q ms ms.length).length e3)).setCell ⟨w.heap.size + 1, 4, none⟩ (.slice B5 os.length d5)) (w.heap.size) 36 #[.int .i64 ck, .int .i64 wt, .int .i64 gn, .slice A ms.length m, .slice A' os.length m'] := (((((LX.out).far (p := ⟨w.heap.size + 1, 0, none⟩) (by show w.heap.size ≠ w.heap.size + 1; omega) _).far (p := ⟨w.heap.size + 1, 1, none⟩) (by show w.heap.size ≠ w.heap.size + 1; omega) _).far (p := ⟨w.heap.size + 1, 2, none⟩) (by show w.heap.size ≠ w.heap.size + 1; omega) _).far (p := ⟨w.heap.size + 1, 3, none⟩) (by show w.heap.size ≠ w.heap.size + 1; omega) _).far (p := ⟨w.heap.size + 1, 4, none⟩) (by show w.heap.size ≠ w.heap.size + 1; omega) _
      have b_bzF : Blk (((((wr.setCell ⟨w.heap.size + 1, 0, none⟩ (.int .i64 ck)).setCell ⟨w.heap.size + 1, 1, none⟩ (.int .i64 wt)).setCell ⟨w.heap.size + 1, 2, none⟩ (.int .i64 gn)).setCell ⟨w.heap.size + 1, 3, none⟩ (.slice C3 (keptM q ms ms.length).length e3)).setCell ⟨w.heap.size + 1, 4, none⟩ (.slice B5 os.length d5)) (w.heap.size + 1) 36 #[.int .i64 ck, .int .i64 wt, .int .i64 gn, .slice C3 (keptM q ms ms.length).length e3, .slice B5 os.length d5] := (((((LZ.out).set_ 0 _).set_ 1 _).set_ 2 _).set_ 3 _).set_ 4 _
      have b_boF : Blk (((((wr.setCell ⟨w.heap.size + 1, 0, none⟩ (.int .i64 ck)).setCell ⟨w.heap.size + 1, 1, none⟩ (.int .i64 wt)).setCell ⟨w.heap.size + 1, 2, none⟩ (.int .i64 gn)).setCell ⟨w.heap.size + 1, 3, none⟩ (.slice C3 (keptM q ms ms.length).length e3)).setCell ⟨w.heap.size + 1, 4, none⟩ (.slice B5 os.length d5)) (gb) 36 #[.int .i64 ck, .int .i64 wt, .int .i64 gn, .slice C3 (keptM q ms ms.length).length e3, .slice B5 os.length d5] := (((((LO.out).far (p := ⟨w.heap.size + 1, 0, none⟩) (by show gb ≠ w.heap.size + 1; omega) _).far (p := ⟨w.heap.size + 1, 1, none⟩) (by show gb ≠ w.heap.size + 1; omega) _).far (p := ⟨w.heap.size + 1, 2, none⟩) (by show gb ≠ w.heap.size + 1; omega) _).far (p := ⟨w.heap.size + 1, 3, none⟩) (by show gb ≠ w.heap.size + 1; omega) _).far (p := ⟨w.heap.size + 1, 4, none⟩) (by show gb ≠ w.heap.size + 1; omega) _
      have ownF := (((((LM.out).farBlk LZ.out (by omega) 0 (.int .i64 ck)).farBlk (LZ.out.set_ 0 (.int .i64 ck)) (by omega) 1 (.int .i64 wt)).farBlk ((LZ.out.set_ 0 (.int .i64 ck)).set_ 1 (.int .i64 wt)) (by omega) 2 (.int .i64 gn)).farBlk (((LZ.out.set_ 0 (.int .i64 ck)).set_ 1 (.int .i64 wt)).set_ 2 (.int .i64 gn)) (by omega) 3 (.slice C3 (keptM q ms ms.length).length e3)).farBlk ((((LZ.out.set_ 0 (.int .i64 ck)).set_ 1 (.int .i64 wt)).set_ 2 (.int .i64 gn)).set_ 3 (.slice C3 (keptM q ms ms.length).length e3)) (by omega) 4 (.slice B5 os.length d5)
      have offF : OwnO (((((wr.setCell ⟨w.heap.size + 1, 0, none⟩ (.int .i64 ck)).setCell ⟨w.heap.size + 1, 1, none⟩ (.int .i64 wt)).setCell ⟨w.heap.size + 1, 2, none⟩ (.int .i64 gn)).setCell ⟨w.heap.size + 1, 3, none⟩ (.slice C3 (keptM q ms ms.length).length e3)).setCell ⟨w.heap.size + 1, 4, none⟩ (.slice B5 os.length d5)) W1.heap.size (.slice B5 os.length d5) os := own_far (own_far (own_far (own_far (own_far (LF.out) LZ.out (by decide) 0 (.int .i64 ck)) (LZ.out.set_ 0 (.int .i64 ck)) (by decide) 1 (.int .i64 wt)) ((LZ.out.set_ 0 (.int .i64 ck)).set_ 1 (.int .i64 wt)) (by decide) 2 (.int .i64 gn)) (((LZ.out.set_ 0 (.int .i64 ck)).set_ 1 (.int .i64 wt)).set_ 2 (.int .i64 gn)) (by decide) 3 (.slice C3 (keptM q ms ms.length).length e3)) ((((LZ.out.set_ 0 (.int .i64 ck)).set_ 1 (.int .i64 wt)).set_ 2 (.int .i64 gn)).set_ 3 (.slice C3 (keptM q ms ms.length).length e3)) (by decide) 4 (.slice B5 os.length d5)
      have hbF : Below w.heap.size w (((((wr.setCell ⟨w.heap.size + 1, 0, none⟩ (.int .i64 ck)).setCell ⟨w.heap.size + 1, 1, none⟩ (.int .i64 wt)).setCell ⟨w.heap.size + 1, 2, none⟩ (.int .i64 gn)).setCell ⟨w.heap.size + 1, 3, none⟩ (.slice C3 (keptM q ms ms.length).length e3)).setCell ⟨w.heap.size + 1, 4, none⟩ (.slice B5 os.length d5)) := (((((LB.out).setCell (by show w.heap.size ≤ w.heap.size + 1; omega) (.int .i64 ck)).setCell (by show w.heap.size ≤ w.heap.size + 1; omega) (.int .i64 wt)).setCell (by show w.heap.size ≤ w.heap.size + 1; omega) (.int .i64 gn)).setCell (by show w.heap.size ≤ w.heap.size + 1; omega) (.slice C3 (keptM q ms ms.length).length e3)).setCell (by show w.heap.size ≤ w.heap.size + 1; omega) (.slice B5 os.length d5)
      have y0 := b_bzF.cell 0
      have y1 := b_bzF.cell 1
      have y2 := b_bzF.cell 2
      have y3 := b_bzF.cell 3
      have y4 := b_bzF.cell 4
      refine bodyPost_ret (v := .agg #[.int .i64 ck, .int .i64 wt, .int .i64 gn, .slice C3 (keptM q ms ms.length).length e3, .slice B5 os.length d5]) ?_ ?_ (show KeptPost ⟨ck, wt, gn, ms, os⟩ q w _ _ from ⟨.slice C3 (keptM q ms ms.length).length e3, .slice B5 os.length d5, rs, rfl, ownF.more hB1, own_base offF hB1, hbF⟩)
      · simp [results, Try.results105, go_sem, y0, y1, y2, y3, y4]
      · rfl
end Go.Proofs.Ytjkoceacjbhblaa
