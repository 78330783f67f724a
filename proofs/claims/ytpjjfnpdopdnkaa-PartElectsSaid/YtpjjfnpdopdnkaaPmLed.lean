/- part.led, tailraceref.othersFault. -/
import Derived.Test.YtpjjfnpdopdnkaaPartU
import Derived.Test.YtpjjfnpdopdnkaaPartV
namespace Go.Proofs.Ytpjjfnpdopdnkaa
open Go.RowKit

def LedFault (c : PartD) (r n : Int) : Prop := AtFault c r n ∨ PartOk c ∧ 0 ≤ r ∧ r < c.reps.length ∧ (c.leader < 0 ∨ c.leader = r) ∧ n = 8
theorem LedFault.ne {c : PartD} {r n : Int} (h : LedFault c r n) : n ≠ 0 := by
  rcases h with h | ⟨_, _, _, _, rfl⟩
  · exact h.ne
  · decide
theorem led_cases (c : PartD) (r : Int) : (∃ n, LedFault c r n) ∨ PartOk c ∧ ∃ i l : Nat, r = i ∧ i < c.reps.length ∧ c.leader = l ∧ l < c.reps.length ∧ l ≠ i := by
  rcases at_cases c r with ⟨n, h⟩ | ⟨h, i, rfl, hi⟩
  · exact Or.inl ⟨n, Or.inl h⟩
  · by_cases hl : c.leader < 0 ∨ c.leader = i
    · exact Or.inl ⟨8, Or.inr ⟨h, by omega, by omega, hl, rfl⟩⟩
    · have := h.leader
      exact Or.inr ⟨h, i, c.leader.toNat, rfl, hi, by omega, by omega, by omega⟩
theorem partV_adv (c : PartD) (iv kv rv : Value) : partV (advD c) iv kv rv = partV c iv kv rv := by
  unfold advD
  split <;> rfl
theorem PSm.setIsr {c : PartD} (h : PSm c) (i : Nat) (b : Bool) : PSm { c with isr := c.isr.set i b } := ⟨by simp only [List.length_set]; exact h.isr, h.known, h.reps, h.bytes⟩
theorem PSm.setKnown {c : PartD} (h : PSm c) (i : Nat) (x : Int) : PSm { c with known := c.known.set i x } := ⟨h.isr, by simp only [List.length_set]; exact h.known, h.reps, h.bytes⟩
set_option maxRecDepth 100000 in
set_option maxHeartbeats 4000000 in
theorem led0_bad (v : Value) (c : PartD) (r n : Int) (hf : AtFault c r n) (w : World) (h : Pv w v c) : Calls Try.prog 88 #[v, .int .i64 r] w (RefusesP n w) := by
  obtain ⟨xi, xk, xr, rfl, ix, kx, rx, hli, hlk, hlr⟩ := id h
  obtain ⟨A5, c5, rfl, hc5, -⟩ := rx.at_
  obtain ⟨A1, c1, rfl, hc1, -⟩ := ix.at_
  obtain ⟨A3, c3, rfl, hc3, -⟩ := kx.at_
  have H := Lib.hid h
  clear h ix kx rx
  unfold partV at *
  obtain ⟨ep, ld, is, ks, rs, fw, ba⟩ := c
  simp only at *
  have hn0 := hf.ne
  have n1 : (n == 0) = false := beq_eq_false_iff_ne.2 hn0
  have n2 : (n != 0) = true := by simpa using hn0
  have HF := Lib.hid hf
  clear hf hn0
  go_enter Try.func88, Try.ntmps88
  go_wp2_with fail
  have hb1 : Below w.heap.size w ((w.alloc (.cells #[.int .i64 ep, .int .i64 ld, .slice A1 is.length c1, .slice A3 ks.length c3, .slice A5 rs.length c5, .int .i64 fw, .int .i64 ba] 26)).alloc (.cells #[.int .i64 0, .int .i64 0, .slice none 0 0, .slice none 0 0, .slice none 0 0, .int .i64 0, .int .i64 0] 26)) := ((Below.refl _ _).alloc (by first | omega | (simp; done) | (simp; omega)) _).alloc (by first | omega | (simp; done) | (simp; omega)) _
  have hal1 : Below w.heap.size w ((w.alloc (.cells #[.int .i64 ep, .int .i64 ld, .slice A1 is.length c1, .slice A3 ks.length c3, .slice A5 rs.length c5, .int .i64 fw, .int .i64 ba] 26)).alloc (.cells #[.int .i64 0, .int .i64 0, .slice none 0 0, .slice none 0 0, .slice none 0 0, .int .i64 0, .int .i64 0] 26)) := ((Below.refl _ _).alloc (by first | omega | (simp; done) | (simp; omega)) _).alloc (by first | omega | (simp; done) | (simp; omega)) _
  have b_bx1 : Blk ((w.alloc (.cells #[.int .i64 ep, .int .i64 ld, .slice A1 is.length c1, .slice A3 ks.length c3, .slice A5 rs.length c5, .int .i64 fw, .int .i64 ba] 26)).alloc (.cells #[.int .i64 0, .int .i64 0, .slice none 0 0, .slice none 0 0, .slice none 0 0, .int .i64 0, .int .i64 0] 26)) (w.heap.size) 26 #[.int .i64 ep, .int .i64 ld, .slice A1 is.length c1, .slice A3 ks.length c3, .slice A5 rs.length c5, .int .i64 fw, .int .i64 ba] := (Blk.new_ _ 26 #[.int .i64 ep, .int .i64 ld, .slice A1 is.length c1, .slice A3 ks.length c3, .slice A5 rs.length c5, .int .i64 fw, .int .i64 ba] (by first | rfl | (simp; done) | (simp; omega))).alloc _
  have b_bz1 : Blk ((w.alloc (.cells #[.int .i64 ep, .int .i64 ld, .slice A1 is.length c1, .slice A3 ks.length c3, .slice A5 rs.length c5, .int .i64 fw, .int .i64 ba] 26)).alloc (.cells #[.int .i64 0, .int .i64 0, .slice none 0 0, .slice none 0 0, .slice none 0 0, .int .i64 0, .int .i64 0] 26)) (w.heap.size + 1) 26 #[.int .i64 0, .int .i64 0, .slice none 0 0, .slice none 0 0, .slice none 0 0, .int .i64 0, .int .i64 0] := Blk.new_ _ 26 #[.int .i64 0, .int .i64 0, .slice none 0 0, .slice none 0 0, .slice none 0 0, .int .i64 0, .int .i64 0] (by first | rfl | (simp; done) | (simp; omega))
  have k_v1 := H.out.below hal1
  have hz1 : w.heap.size + 2 ≤ ((w.alloc (.cells #[.int .i64 ep, .int .i64 ld, .slice A1 is.length c1, .slice A3 ks.length c3, .slice A5 rs.length c5, .int .i64 fw, .int .i64 ba] 26)).alloc (.cells #[.int .i64 0, .int .i64 0, .slice none 0 0, .slice none 0 0, .slice none 0 0, .int .i64 0, .int .i64 0] 26)).heap.size := by first | omega | (simp; done) | (simp; omega)
  generalize (w.alloc (.cells #[.int .i64 ep, .int .i64 ld, .slice A1 is.length c1, .slice A3 ks.length c3, .slice A5 rs.length c5, .int .i64 fw, .int .i64 ba] 26)).alloc (.cells #[.int .i64 0, .int .i64 0, .slice none 0 0, .slice none 0 0, .slice none 0 0, .int .i64 0, .int .i64 0] 26) = W1 at *
  have HB1 := Lib.hid hb1
  have B1_bx := Lib.hid b_bx1
  have B1_bz := Lib.hid b_bz1
  have K1_v := Lib.hid k_v1
  clear hb1 b_bx1 b_bz1 k_v1
  clear H
  refine (at_refuses K1_v.out HF.out).mono ?_
  rintro e W2 ⟨rfl, hb⟩
  have hb2 : Below w.heap.size w W2 := below_then HB1.out hb
  have b_bx2 := B1_bx.out.below hb B1_bx.out.lt
  have b_bz2 := B1_bz.out.below hb B1_bz.out.lt
  have k_v2 := K1_v.out.below hb
  have hz2 := hb.size
  have HB2 := Lib.hid hb2
  have B2_bx := Lib.hid b_bx2
  have B2_bz := Lib.hid b_bz2
  have K2_v := Lib.hid k_v2
  clear hb2 b_bx2 b_bz2 k_v2
  clear B1_bx B1_bz HB1 K1_v
  have c_bx0 := B2_bx.out.cell 0
  have f_bx0 := B2_bx.out.frozen 0
  have c_bx1 := B2_bx.out.cell 1
  have f_bx1 := B2_bx.out.frozen 1
  have c_bx2 := B2_bx.out.cell 2
  have f_bx2 := B2_bx.out.frozen 2
  have c_bx3 := B2_bx.out.cell 3
  have f_bx3 := B2_bx.out.frozen 3
  have c_bx4 := B2_bx.out.cell 4
  have f_bx4 := B2_bx.out.frozen 4
  have c_bx5 := B2_bx.out.cell 5
  have f_bx5 := B2_bx.out.frozen 5
  have c_bx6 := B2_bx.out.cell 6
  have f_bx6 := B2_bx.out.frozen 6
  have l_bx := B2_bx.out.lt
  have c_bz0 := B2_bz.out.cell 0
  have f_bz0 := B2_bz.out.frozen 0
  have c_bz1 := B2_bz.out.cell 1
  have f_bz1 := B2_bz.out.frozen 1
  have c_bz2 := B2_bz.out.cell 2
  have f_bz2 := B2_bz.out.frozen 2
  have c_bz3 := B2_bz.out.cell 3
  have f_bz3 := B2_bz.out.frozen 3
  have c_bz4 := B2_bz.out.cell 4
  have f_bz4 := B2_bz.out.frozen 4
  have c_bz5 := B2_bz.out.cell 5
  have f_bz5 := B2_bz.out.frozen 5
  have c_bz6 := B2_bz.out.cell 6
  have f_bz6 := B2_bz.out.frozen 6
  have l_bz := B2_bz.out.lt
  have hszE := HB2.out.size
  have hbE : Below w.heap.size w (((((((W2.setCell ⟨w.heap.size, 0, none⟩ (.int .i64 0)).setCell ⟨w.heap.size, 1, none⟩ (.int .i64 0)).setCell ⟨w.heap.size, 2, none⟩ (.slice none 0 0)).setCell ⟨w.heap.size, 3, none⟩ (.slice none 0 0)).setCell ⟨w.heap.size, 4, none⟩ (.slice none 0 0)).setCell ⟨w.heap.size, 5, none⟩ (.int .i64 0)).setCell ⟨w.heap.size, 6, none⟩ (.int .i64 0)) := (((((((HB2.out).setCell (by show w.heap.size ≤ w.heap.size; omega) _).setCell (by show w.heap.size ≤ w.heap.size; omega) _).setCell (by show w.heap.size ≤ w.heap.size; omega) _).setCell (by show w.heap.size ≤ w.heap.size; omega) _).setCell (by show w.heap.size ≤ w.heap.size; omega) _).setCell (by show w.heap.size ≤ w.heap.size; omega) _).setCell (by show w.heap.size ≤ w.heap.size; omega) _
  have b_bxE : Blk (((((((W2.setCell ⟨w.heap.size, 0, none⟩ (.int .i64 0)).setCell ⟨w.heap.size, 1, none⟩ (.int .i64 0)).setCell ⟨w.heap.size, 2, none⟩ (.slice none 0 0)).setCell ⟨w.heap.size, 3, none⟩ (.slice none 0 0)).setCell ⟨w.heap.size, 4, none⟩ (.slice none 0 0)).setCell ⟨w.heap.size, 5, none⟩ (.int .i64 0)).setCell ⟨w.heap.size, 6, none⟩ (.int .i64 0)) (w.heap.size) 26 #[.int .i64 0, .int .i64 0, .slice none 0 0, .slice none 0 0, .slice none 0 0, .int .i64 0, .int .i64 0] := (((((((B2_bx.out).set_ 0 _).set_ 1 _).set_ 2 _).set_ 3 _).set_ 4 _).set_ 5 _).set_ 6 _
  have b_bzE : Blk (((((((W2.setCell ⟨w.heap.size, 0, none⟩ (.int .i64 0)).setCell ⟨w.heap.size, 1, none⟩ (.int .i64 0)).setCell ⟨w.heap.size, 2, none⟩ (.slice none 0 0)).setCell ⟨w.heap.size, 3, none⟩ (.slice none 0 0)).setCell ⟨w.heap.size, 4, none⟩ (.slice none 0 0)).setCell ⟨w.heap.size, 5, none⟩ (.int .i64 0)).setCell ⟨w.heap.size, 6, none⟩ (.int .i64 0)) (w.heap.size + 1) 26 #[.int .i64 0, .int .i64 0, .slice none 0 0, .slice none 0 0, .slice none 0 0, .int .i64 0, .int .i64 0] := (((((((B2_bz.out).far (p := ⟨w.heap.size, 0, none⟩) (by show w.heap.size + 1 ≠ w.heap.size; omega) _).far (p := ⟨w.heap.size, 1, none⟩) (by show w.heap.size + 1 ≠ w.heap.size; omega) _).far (p := ⟨w.heap.size, 2, none⟩) (by show w.heap.size + 1 ≠ w.heap.size; omega) _).far (p := ⟨w.heap.size, 3, none⟩) (by show w.heap.size + 1 ≠ w.heap.size; omega) _).far (p := ⟨w.heap.size, 4, none⟩) (by show w.heap.size + 1 ≠ w.heap.size; omega) _).far (p := ⟨w.heap.size, 5, none⟩) (by show w.heap.size + 1 ≠ w.heap.size; omega) _).far (p := ⟨w.heap.size, 6, none⟩) (by show w.heap.size + 1 ≠ w.heap.size; omega) _
  have z0 := b_bzE.cell 0
  have zf0 := b_bzE.frozen 0
  have z1 := b_bzE.cell 1
  have zf1 := b_bzE.frozen 1
  have z2 := b_bzE.cell 2
  have zf2 := b_bzE.frozen 2
  have z3 := b_bzE.cell 3
  have zf3 := b_bzE.frozen 3
  have z4 := b_bzE.cell 4
  have zf4 := b_bzE.frozen 4
  have z5 := b_bzE.cell 5
  have zf5 := b_bzE.frozen 5
  have z6 := b_bzE.cell 6
  have zf6 := b_bzE.frozen 6
  have zl := b_bzE.lt
  clear b_bxE b_bzE hbE
  go_wp2_with fail
  clear c_bx0 f_bx0 c_bx1 f_bx1 c_bx2 f_bx2 c_bx3 f_bx3 c_bx4 f_bx4 c_bx5 f_bx5 c_bx6 f_bx6 l_bx c_bz0 f_bz0 c_bz1 f_bz1 c_bz2 f_bz2 c_bz3 f_bz3 c_bz4 f_bz4 c_bz5 f_bz5 c_bz6 f_bz6 l_bz
  have hszF := HB2.out.size
  have hbF : Below w.heap.size w ((((((((((((((W2.setCell ⟨w.heap.size, 0, none⟩ (.int .i64 0)).setCell ⟨w.heap.size, 1, none⟩ (.int .i64 0)).setCell ⟨w.heap.size, 2, none⟩ (.slice none 0 0)).setCell ⟨w.heap.size, 3, none⟩ (.slice none 0 0)).setCell ⟨w.heap.size, 4, none⟩ (.slice none 0 0)).setCell ⟨w.heap.size, 5, none⟩ (.int .i64 0)).setCell ⟨w.heap.size, 6, none⟩ (.int .i64 0)).setCell ⟨w.heap.size + 1, 0, none⟩ (.int .i64 0)).setCell ⟨w.heap.size + 1, 1, none⟩ (.int .i64 0)).setCell ⟨w.heap.size + 1, 2, none⟩ (.slice none 0 0)).setCell ⟨w.heap.size + 1, 3, none⟩ (.slice none 0 0)).setCell ⟨w.heap.size + 1, 4, none⟩ (.slice none 0 0)).setCell ⟨w.heap.size + 1, 5, none⟩ (.int .i64 0)).setCell ⟨w.heap.size + 1, 6, none⟩ (.int .i64 0)) := ((((((((((((((HB2.out).setCell (by show w.heap.size ≤ w.heap.size; omega) _).setCell (by show w.heap.size ≤ w.heap.size; omega) _).setCell (by show w.heap.size ≤ w.heap.size; omega) _).setCell (by show w.heap.size ≤ w.heap.size; omega) _).setCell (by show w.heap.size ≤ w.heap.size; omega) _).setCell (by show w.heap.size ≤ w.heap.size; omega) _).setCell (by show w.heap.size ≤ w.heap.size; omega) _).setCell (by show w.heap.size ≤ w.heap.size + 1; omega) _).setCell (by show w.heap.size ≤ w.heap.size + 1; omega) _).setCell (by show w.heap.size ≤ w.heap.size + 1; omega) _).setCell (by show w.heap.size ≤ w.heap.size + 1; omega) _).setCell (by show w.heap.size ≤ w.heap.size + 1; omega) _).setCell (by show w.heap.size ≤ w.heap.size + 1; omega) _).setCell (by show w.heap.size ≤ w.heap.size + 1; omega) _
  have b_bxF : Blk ((((((((((((((W2.setCell ⟨w.heap.size, 0, none⟩ (.int .i64 0)).setCell ⟨w.heap.size, 1, none⟩ (.int .i64 0)).setCell ⟨w.heap.size, 2, none⟩ (.slice none 0 0)).setCell ⟨w.heap.size, 3, none⟩ (.slice none 0 0)).setCell ⟨w.heap.size, 4, none⟩ (.slice none 0 0)).setCell ⟨w.heap.size, 5, none⟩ (.int .i64 0)).setCell ⟨w.heap.size, 6, none⟩ (.int .i64 0)).setCell ⟨w.heap.size + 1, 0, none⟩ (.int .i64 0)).setCell ⟨w.heap.size + 1, 1, none⟩ (.int .i64 0)).setCell ⟨w.heap.size + 1, 2, none⟩ (.slice none 0 0)).setCell ⟨w.heap.size + 1, 3, none⟩ (.slice none 0 0)).setCell ⟨w.heap.size + 1, 4, none⟩ (.slice none 0 0)).setCell ⟨w.heap.size + 1, 5, none⟩ (.int .i64 0)).setCell ⟨w.heap.size + 1, 6, none⟩ (.int .i64 0)) (w.heap.size) 26 #[.int .i64 0, .int .i64 0, .slice none 0 0, .slice none 0 0, .slice none 0 0, .int .i64 0, .int .i64 0] := ((((((((((((((B2_bx.out).set_ 0 _).set_ 1 _).set_ 2 _).set_ 3 _).set_ 4 _).set_ 5 _).set_ 6 _).far (p := ⟨w.heap.size + 1, 0, none⟩) (by show w.heap.size ≠ w.heap.size + 1; omega) _).far (p := ⟨w.heap.size + 1, 1, none⟩) (by show w.heap.size ≠ w.heap.size + 1; omega) _).far (p := ⟨w.heap.size + 1, 2, none⟩) (by show w.heap.size ≠ w.heap.size + 1; omega) _).far (p := ⟨w.heap.size + 1, 3, none⟩) (by show w.heap.size ≠ w.heap.size + 1; omega) _).far (p := ⟨w.heap.size + 1, 4, none⟩) (by show w.heap.size ≠ w.heap.size + 1; omega) _).far (p := ⟨w.heap.size + 1, 5, none⟩) (by show w.heap.size ≠ w.heap.size + 1; omega) _).far (p := ⟨w.heap.size + 1, 6, none⟩) (by show w.heap.size ≠ w.heap.size + 1; omega) _
  have b_bzF : Blk ((((((((((((((W2.setCell ⟨w.heap.size, 0, none⟩ (.int .i64 0)).setCell ⟨w.heap.size, 1, none⟩ (.int .i64 0)).setCell ⟨w.heap.size, 2, none⟩ (.slice none 0 0)).setCell ⟨w.heap.size, 3, none⟩ (.slice none 0 0)).setCell ⟨w.heap.size, 4, none⟩ (.slice none 0 0)).setCell ⟨w.heap.size, 5, none⟩ (.int .i64 0)).setCell ⟨w.heap.size, 6, none⟩ (.int .i64 0)).setCell ⟨w.heap.size + 1, 0, none⟩ (.int .i64 0)).setCell ⟨w.heap.size + 1, 1, none⟩ (.int .i64 0)).setCell ⟨w.heap.size + 1, 2, none⟩ (.slice none 0 0)).setCell ⟨w.heap.size + 1, 3, none⟩ (.slice none 0 0)).setCell ⟨w.heap.size + 1, 4, none⟩ (.slice none 0 0)).setCell ⟨w.heap.size + 1, 5, none⟩ (.int .i64 0)).setCell ⟨w.heap.size + 1, 6, none⟩ (.int .i64 0)) (w.heap.size + 1) 26 #[.int .i64 0, .int .i64 0, .slice none 0 0, .slice none 0 0, .slice none 0 0, .int .i64 0, .int .i64 0] := ((((((((((((((B2_bz.out).far (p := ⟨w.heap.size, 0, none⟩) (by show w.heap.size + 1 ≠ w.heap.size; omega) _).far (p := ⟨w.heap.size, 1, none⟩) (by show w.heap.size + 1 ≠ w.heap.size; omega) _).far (p := ⟨w.heap.size, 2, none⟩) (by show w.heap.size + 1 ≠ w.heap.size; omega) _).far (p := ⟨w.heap.size, 3, none⟩) (by show w.heap.size + 1 ≠ w.heap.size; omega) _).far (p := ⟨w.heap.size, 4, none⟩) (by show w.heap.size + 1 ≠ w.heap.size; omega) _).far (p := ⟨w.heap.size, 5, none⟩) (by show w.heap.size + 1 ≠ w.heap.size; omega) _).far (p := ⟨w.heap.size, 6, none⟩) (by show w.heap.size + 1 ≠ w.heap.size; omega) _).set_ 0 _).set_ 1 _).set_ 2 _).set_ 3 _).set_ 4 _).set_ 5 _).set_ 6 _
  have y0 := b_bzF.cell 0
  have y1 := b_bzF.cell 1
  have y2 := b_bzF.cell 2
  have y3 := b_bzF.cell 3
  have y4 := b_bzF.cell 4
  have y5 := b_bzF.cell 5
  have y6 := b_bzF.cell 6
  exact bodyPost_ret (v := .tuple #[.agg #[.int .i64 0, .int .i64 0, .slice none 0 0, .slice none 0 0, .slice none 0 0, .int .i64 0, .int .i64 0], .int .i64 n]) (by simp [results, Try.results88, go_sem, y0, y1, y2, y3, y4, y5, y6]) rfl (⟨rfl, hbF⟩)
set_option maxRecDepth 100000 in
set_option maxHeartbeats 4000000 in
theorem led_none (v : Value) (c : PartD) (i : Nat) (hn : PartOk c) (hi : i < c.reps.length) (hl : c.leader < 0) (w : World) (h : Pv w v c) : Calls Try.prog 88 #[v, .int .i64 i] w (RefusesP 8 w) := by
  have eqk := hn.known
  have eqi := hn.isr
  obtain ⟨xi, xk, xr, rfl, ix, kx, rx, hli, hlk, hlr⟩ := id h
  obtain ⟨A5, c5, rfl, hc5, -⟩ := rx.at_
  obtain ⟨A1, c1, rfl, hc1, -⟩ := ix.at_
  obtain ⟨A3, c3, rfl, hc3, -⟩ := kx.at_
  have H := Lib.hid h
  clear h ix kx rx
  unfold partV at *
  obtain ⟨ep, ld, is, ks, rs, fw, ba⟩ := c
  simp only at *
  have HN := Lib.hid hn
  have HSM := Lib.hid hn.small
  clear hn
  (try simp only at eqk eqi)
  have E1 := Lib.hid eqi
  have E2 := Lib.hid eqk
  have i0 : (0 : Int) ≤ (i : Int) := by omega
  have i1 : (i : Int) < (rs.length : Int) := Int.ofNat_lt.2 hi
  have i2 : (i : Int) < (is.length : Int) := by omega
  have i3 : (i : Int) < (ks.length : Int) := by omega
  have j2 : i < is.length := by omega
  have j3 : i < ks.length := by omega
  clear eqk eqi
  have y0 : decide (ld < 0) = true := decide_eq_true hl
  clear hl
  go_enter Try.func88, Try.ntmps88
  go_wp2_with fail
  have hb1 : Below w.heap.size w ((w.alloc (.cells #[.int .i64 ep, .int .i64 ld, .slice A1 is.length c1, .slice A3 ks.length c3, .slice A5 rs.length c5, .int .i64 fw, .int .i64 ba] 26)).alloc (.cells #[.int .i64 0, .int .i64 0, .slice none 0 0, .slice none 0 0, .slice none 0 0, .int .i64 0, .int .i64 0] 26)) := ((Below.refl _ _).alloc (by first | omega | (simp; done) | (simp; omega)) _).alloc (by first | omega | (simp; done) | (simp; omega)) _
  have hal1 : Below w.heap.size w ((w.alloc (.cells #[.int .i64 ep, .int .i64 ld, .slice A1 is.length c1, .slice A3 ks.length c3, .slice A5 rs.length c5, .int .i64 fw, .int .i64 ba] 26)).alloc (.cells #[.int .i64 0, .int .i64 0, .slice none 0 0, .slice none 0 0, .slice none 0 0, .int .i64 0, .int .i64 0] 26)) := ((Below.refl _ _).alloc (by first | omega | (simp; done) | (simp; omega)) _).alloc (by first | omega | (simp; done) | (simp; omega)) _
  have b_bx1 : Blk ((w.alloc (.cells #[.int .i64 ep, .int .i64 ld, .slice A1 is.length c1, .slice A3 ks.length c3, .slice A5 rs.length c5, .int .i64 fw, .int .i64 ba] 26)).alloc (.cells #[.int .i64 0, .int .i64 0, .slice none 0 0, .slice none 0 0, .slice none 0 0, .int .i64 0, .int .i64 0] 26)) (w.heap.size) 26 #[.int .i64 ep, .int .i64 ld, .slice A1 is.length c1, .slice A3 ks.length c3, .slice A5 rs.length c5, .int .i64 fw, .int .i64 ba] := (Blk.new_ _ 26 #[.int .i64 ep, .int .i64 ld, .slice A1 is.length c1, .slice A3 ks.length c3, .slice A5 rs.length c5, .int .i64 fw, .int .i64 ba] (by first | rfl | (simp; done) | (simp; omega))).alloc _
  have b_bz1 : Blk ((w.alloc (.cells #[.int .i64 ep, .int .i64 ld, .slice A1 is.length c1, .slice A3 ks.length c3, .slice A5 rs.length c5, .int .i64 fw, .int .i64 ba] 26)).alloc (.cells #[.int .i64 0, .int .i64 0, .slice none 0 0, .slice none 0 0, .slice none 0 0, .int .i64 0, .int .i64 0] 26)) (w.heap.size + 1) 26 #[.int .i64 0, .int .i64 0, .slice none 0 0, .slice none 0 0, .slice none 0 0, .int .i64 0, .int .i64 0] := Blk.new_ _ 26 #[.int .i64 0, .int .i64 0, .slice none 0 0, .slice none 0 0, .slice none 0 0, .int .i64 0, .int .i64 0] (by first | rfl | (simp; done) | (simp; omega))
  have k_v1 := H.out.below hal1
  have hz1 : w.heap.size + 2 ≤ ((w.alloc (.cells #[.int .i64 ep, .int .i64 ld, .slice A1 is.length c1, .slice A3 ks.length c3, .slice A5 rs.length c5, .int .i64 fw, .int .i64 ba] 26)).alloc (.cells #[.int .i64 0, .int .i64 0, .slice none 0 0, .slice none 0 0, .slice none 0 0, .int .i64 0, .int .i64 0] 26)).heap.size := by first | omega | (simp; done) | (simp; omega)
  generalize (w.alloc (.cells #[.int .i64 ep, .int .i64 ld, .slice A1 is.length c1, .slice A3 ks.length c3, .slice A5 rs.length c5, .int .i64 fw, .int .i64 ba] 26)).alloc (.cells #[.int .i64 0, .int .i64 0, .slice none 0 0, .slice none 0 0, .slice none 0 0, .int .i64 0, .int .i64 0] 26) = W1 at *
  have HB1 := Lib.hid hb1
  have B1_bx := Lib.hid b_bx1
  have B1_bz := Lib.hid b_bz1
  have K1_v := Lib.hid k_v1
  clear hb1 b_bx1 b_bz1 k_v1
  clear H
  refine (at_good _ ⟨ep, ld, is, ks, rs, fw, ba⟩ i HN.out hi _ K1_v.out).mono ?_
  rintro e W2 ⟨iv, kv, rv, rfl, ho, hb⟩
  obtain ⟨gi, d1, gk, d3, gr, d5, rfl, rfl, rfl, hgi, hgk, hgr, hgi', hgk', hgr'⟩ := ho.rows (by have := HN.out.isr; have := HN.out.many; simp only at *; omega) (by have := HN.out.known; have := HN.out.many; simp only at *; omega) (by have := HN.out.many; simp only at *; omega)
  unfold partV
  simp only at *
  have HO := Lib.hid ho
  clear ho
  have hb2 : Below w.heap.size w W2 := below_then HB1.out hb
  have b_bx2 := B1_bx.out.below hb B1_bx.out.lt
  have b_bz2 := B1_bz.out.below hb B1_bz.out.lt
  have k_v2 := K1_v.out.below hb
  have hz2 := hb.size
  have HB2 := Lib.hid hb2
  have B2_bx := Lib.hid b_bx2
  have B2_bz := Lib.hid b_bz2
  have K2_v := Lib.hid k_v2
  clear hb2 b_bx2 b_bz2 k_v2
  clear B1_bx B1_bz HB1 K1_v
  have c_bx0 := B2_bx.out.cell 0
  have f_bx0 := B2_bx.out.frozen 0
  have c_bx1 := B2_bx.out.cell 1
  have f_bx1 := B2_bx.out.frozen 1
  have c_bx2 := B2_bx.out.cell 2
  have f_bx2 := B2_bx.out.frozen 2
  have c_bx3 := B2_bx.out.cell 3
  have f_bx3 := B2_bx.out.frozen 3
  have c_bx4 := B2_bx.out.cell 4
  have f_bx4 := B2_bx.out.frozen 4
  have c_bx5 := B2_bx.out.cell 5
  have f_bx5 := B2_bx.out.frozen 5
  have c_bx6 := B2_bx.out.cell 6
  have f_bx6 := B2_bx.out.frozen 6
  have l_bx := B2_bx.out.lt
  go_upto_region 2 with fail
  clear c_bx0 f_bx0 c_bx1 f_bx1 c_bx2 f_bx2 c_bx3 f_bx3 c_bx4 f_bx4 c_bx5 f_bx5 c_bx6 f_bx6 l_bx
  have hsz3 := HB2.out.size
  have hb3 : Below w.heap.size w (((((((W2.setCell ⟨w.heap.size, 0, none⟩ (.int .i64 ep)).setCell ⟨w.heap.size, 1, none⟩ (.int .i64 ld)).setCell ⟨w.heap.size, 2, none⟩ (.slice (some ⟨gi, 0, none⟩) is.length d1)).setCell ⟨w.heap.size, 3, none⟩ (.slice (some ⟨gk, 0, none⟩) ks.length d3)).setCell ⟨w.heap.size, 4, none⟩ (.slice (some ⟨gr, 0, none⟩) rs.length d5)).setCell ⟨w.heap.size, 5, none⟩ (.int .i64 fw)).setCell ⟨w.heap.size, 6, none⟩ (.int .i64 ba)) := (((((((HB2.out).setCell (by show w.heap.size ≤ w.heap.size; omega) _).setCell (by show w.heap.size ≤ w.heap.size; omega) _).setCell (by show w.heap.size ≤ w.heap.size; omega) _).setCell (by show w.heap.size ≤ w.heap.size; omega) _).setCell (by show w.heap.size ≤ w.heap.size; omega) _).setCell (by show w.heap.size ≤ w.heap.size; omega) _).setCell (by show w.heap.size ≤ w.heap.size; omega) _
  have b_bx3 : Blk (((((((W2.setCell ⟨w.heap.size, 0, none⟩ (.int .i64 ep)).setCell ⟨w.heap.size, 1, none⟩ (.int .i64 ld)).setCell ⟨w.heap.size, 2, none⟩ (.slice (some ⟨gi, 0, none⟩) is.length d1)).setCell ⟨w.heap.size, 3, none⟩ (.slice (some ⟨gk, 0, none⟩) ks.length d3)).setCell ⟨w.heap.size, 4, none⟩ (.slice (some ⟨gr, 0, none⟩) rs.length d5)).setCell ⟨w.heap.size, 5, none⟩ (.int .i64 fw)).setCell ⟨w.heap.size, 6, none⟩ (.int .i64 ba)) (w.heap.size) 26 #[.int .i64 ep, .int .i64 ld, .slice (some ⟨gi, 0, none⟩) is.length d1, .slice (some ⟨gk, 0, none⟩) ks.length d3, .slice (some ⟨gr, 0, none⟩) rs.length d5, .int .i64 fw, .int .i64 ba] := (((((((B2_bx.out).set_ 0 _).set_ 1 _).set_ 2 _).set_ 3 _).set_ 4 _).set_ 5 _).set_ 6 _
  have b_bz3 : Blk (((((((W2.setCell ⟨w.heap.size, 0, none⟩ (.int .i64 ep)).setCell ⟨w.heap.size, 1, none⟩ (.int .i64 ld)).setCell ⟨w.heap.size, 2, none⟩ (.slice (some ⟨gi, 0, none⟩) is.length d1)).setCell ⟨w.heap.size, 3, none⟩ (.slice (some ⟨gk, 0, none⟩) ks.length d3)).setCell ⟨w.heap.size, 4, none⟩ (.slice (some ⟨gr, 0, none⟩) rs.length d5)).setCell ⟨w.heap.size, 5, none⟩ (.int .i64 fw)).setCell ⟨w.heap.size, 6, none⟩ (.int .i64 ba)) (w.heap.size + 1) 26 #[.int .i64 0, .int .i64 0, .slice none 0 0, .slice none 0 0, .slice none 0 0, .int .i64 0, .int .i64 0] := (((((((B2_bz.out).far (p := ⟨w.heap.size, 0, none⟩) (by show w.heap.size + 1 ≠ w.heap.size; omega) _).far (p := ⟨w.heap.size, 1, none⟩) (by show w.heap.size + 1 ≠ w.heap.size; omega) _).far (p := ⟨w.heap.size, 2, none⟩) (by show w.heap.size + 1 ≠ w.heap.size; omega) _).far (p := ⟨w.heap.size, 3, none⟩) (by show w.heap.size + 1 ≠ w.heap.size; omega) _).far (p := ⟨w.heap.size, 4, none⟩) (by show w.heap.size + 1 ≠ w.heap.size; omega) _).far (p := ⟨w.heap.size, 5, none⟩) (by show w.heap.size + 1 ≠ w.heap.size; omega) _).far (p := ⟨w.heap.size, 6, none⟩) (by show w.heap.size + 1 ≠ w.heap.size; omega) _
  have k_own3 := (((((((HO.out).under (a := ⟨w.heap.size, 0, none⟩) (by (try dsimp only); omega) (.int .i64 ep)).under (a := ⟨w.heap.size, 1, none⟩) (by (try dsimp only); omega) (.int .i64 ld)).under (a := ⟨w.heap.size, 2, none⟩) (by (try dsimp only); omega) (.slice (some ⟨gi, 0, none⟩) is.length d1)).under (a := ⟨w.heap.size, 3, none⟩) (by (try dsimp only); omega) (.slice (some ⟨gk, 0, none⟩) ks.length d3)).under (a := ⟨w.heap.size, 4, none⟩) (by (try dsimp only); omega) (.slice (some ⟨gr, 0, none⟩) rs.length d5)).under (a := ⟨w.heap.size, 5, none⟩) (by (try dsimp only); omega) (.int .i64 fw)).under (a := ⟨w.heap.size, 6, none⟩) (by (try dsimp only); omega) (.int .i64 ba)
  have hz3 : W2.heap.size + 0 ≤ (((((((W2.setCell ⟨w.heap.size, 0, none⟩ (.int .i64 ep)).setCell ⟨w.heap.size, 1, none⟩ (.int .i64 ld)).setCell ⟨w.heap.size, 2, none⟩ (.slice (some ⟨gi, 0, none⟩) is.length d1)).setCell ⟨w.heap.size, 3, none⟩ (.slice (some ⟨gk, 0, none⟩) ks.length d3)).setCell ⟨w.heap.size, 4, none⟩ (.slice (some ⟨gr, 0, none⟩) rs.length d5)).setCell ⟨w.heap.size, 5, none⟩ (.int .i64 fw)).setCell ⟨w.heap.size, 6, none⟩ (.int .i64 ba)).heap.size := by first | omega | (simp; done) | (simp; omega)
  generalize ((((((W2.setCell ⟨w.heap.size, 0, none⟩ (.int .i64 ep)).setCell ⟨w.heap.size, 1, none⟩ (.int .i64 ld)).setCell ⟨w.heap.size, 2, none⟩ (.slice (some ⟨gi, 0, none⟩) is.length d1)).setCell ⟨w.heap.size, 3, none⟩ (.slice (some ⟨gk, 0, none⟩) ks.length d3)).setCell ⟨w.heap.size, 4, none⟩ (.slice (some ⟨gr, 0, none⟩) rs.length d5)).setCell ⟨w.heap.size, 5, none⟩ (.int .i64 fw)).setCell ⟨w.heap.size, 6, none⟩ (.int .i64 ba) = W3 at *
  have HB3 := Lib.hid hb3
  have B3_bx := Lib.hid b_bx3
  have B3_bz := Lib.hid b_bz3
  have K3_own := Lib.hid k_own3
  clear hb3 b_bx3 b_bz3 k_own3
  clear B2_bx B2_bz HB2 HO
  have c_bx0 := B3_bx.out.cell 0
  have c_bx1 := B3_bx.out.cell 1
  have c_bx2 := B3_bx.out.cell 2
  have c_bx3 := B3_bx.out.cell 3
  have c_bx4 := B3_bx.out.cell 4
  have c_bx5 := B3_bx.out.cell 5
  have c_bx6 := B3_bx.out.cell 6
  have l_bx := B3_bx.out.lt
  have c_bz0 := B3_bz.out.cell 0
  have f_bz0 := B3_bz.out.frozen 0
  have c_bz1 := B3_bz.out.cell 1
  have f_bz1 := B3_bz.out.frozen 1
  have c_bz2 := B3_bz.out.cell 2
  have f_bz2 := B3_bz.out.frozen 2
  have c_bz3 := B3_bz.out.cell 3
  have f_bz3 := B3_bz.out.frozen 3
  have c_bz4 := B3_bz.out.cell 4
  have f_bz4 := B3_bz.out.frozen 4
  have c_bz5 := B3_bz.out.cell 5
  have f_bz5 := B3_bz.out.frozen 5
  have c_bz6 := B3_bz.out.cell 6
  have f_bz6 := B3_bz.out.frozen 6
  have l_bz := B3_bz.out.lt
  obtain ⟨A7, c7, ⟨r0, r1, r2, r3⟩, ⟨rf0, rf1, rf2, rf3⟩, rby⟩ := K3_own.out.repAt i hi
  obtain ⟨s0, sf0⟩ := K3_own.out.isrAt i j2
  obtain ⟨t0, tf0⟩ := K3_own.out.knownAt i j3
  (try simp only at r0 r1 r2 r3 rby s0 t0)
  go_wp2_with fail
  clear c_bx0 c_bx1 c_bx2 c_bx3 c_bx4 c_bx5 c_bx6 l_bx c_bz0 f_bz0 c_bz1 f_bz1 c_bz2 f_bz2 c_bz3 f_bz3 c_bz4 f_bz4 c_bz5 f_bz5 c_bz6 f_bz6 l_bz r0 r1 r2 r3 rf0 rf1 rf2 rf3 rby s0 sf0 t0 tf0
  have hszF := HB3.out.size
  have hbF : Below w.heap.size w (((((((W3.setCell ⟨w.heap.size + 1, 0, none⟩ (.int .i64 0)).setCell ⟨w.heap.size + 1, 1, none⟩ (.int .i64 0)).setCell ⟨w.heap.size + 1, 2, none⟩ (.slice none 0 0)).setCell ⟨w.heap.size + 1, 3, none⟩ (.slice none 0 0)).setCell ⟨w.heap.size + 1, 4, none⟩ (.slice none 0 0)).setCell ⟨w.heap.size + 1, 5, none⟩ (.int .i64 0)).setCell ⟨w.heap.size + 1, 6, none⟩ (.int .i64 0)) := (((((((HB3.out).setCell (by show w.heap.size ≤ w.heap.size + 1; omega) _).setCell (by show w.heap.size ≤ w.heap.size + 1; omega) _).setCell (by show w.heap.size ≤ w.heap.size + 1; omega) _).setCell (by show w.heap.size ≤ w.heap.size + 1; omega) _).setCell (by show w.heap.size ≤ w.heap.size + 1; omega) _).setCell (by show w.heap.size ≤ w.heap.size + 1; omega) _).setCell (by show w.heap.size ≤ w.heap.size + 1; omega) _
  have b_bxF : Blk (((((((W3.setCell ⟨w.heap.size + 1, 0, none⟩ (.int .i64 0)).setCell ⟨w.heap.size + 1, 1, none⟩ (.int .i64 0)).setCell ⟨w.heap.size + 1, 2, none⟩ (.slice none 0 0)).setCell ⟨w.heap.size + 1, 3, none⟩ (.slice none 0 0)).setCell ⟨w.heap.size + 1, 4, none⟩ (.slice none 0 0)).setCell ⟨w.heap.size + 1, 5, none⟩ (.int .i64 0)).setCell ⟨w.heap.size + 1, 6, none⟩ (.int .i64 0)) (w.heap.size) 26 #[.int .i64 ep, .int .i64 ld, .slice (some ⟨gi, 0, none⟩) is.length d1, .slice (some ⟨gk, 0, none⟩) ks.length d3, .slice (some ⟨gr, 0, none⟩) rs.length d5, .int .i64 fw, .int .i64 ba] := (((((((B3_bx.out).far (p := ⟨w.heap.size + 1, 0, none⟩) (by show w.heap.size ≠ w.heap.size + 1; omega) _).far (p := ⟨w.heap.size + 1, 1, none⟩) (by show w.heap.size ≠ w.heap.size + 1; omega) _).far (p := ⟨w.heap.size + 1, 2, none⟩) (by show w.heap.size ≠ w.heap.size + 1; omega) _).far (p := ⟨w.heap.size + 1, 3, none⟩) (by show w.heap.size ≠ w.heap.size + 1; omega) _).far (p := ⟨w.heap.size + 1, 4, none⟩) (by show w.heap.size ≠ w.heap.size + 1; omega) _).far (p := ⟨w.heap.size + 1, 5, none⟩) (by show w.heap.size ≠ w.heap.size + 1; omega) _).far (p := ⟨w.heap.size + 1, 6, none⟩) (by show w.heap.size ≠ w.heap.size + 1; omega) _
  have b_bzF : Blk (((((((W3.setCell ⟨w.heap.size + 1, 0, none⟩ (.int .i64 0)).setCell ⟨w.heap.size + 1, 1, none⟩ (.int .i64 0)).setCell ⟨w.heap.size + 1, 2, none⟩ (.slice none 0 0)).setCell ⟨w.heap.size + 1, 3, none⟩ (.slice none 0 0)).setCell ⟨w.heap.size + 1, 4, none⟩ (.slice none 0 0)).setCell ⟨w.heap.size + 1, 5, none⟩ (.int .i64 0)).setCell ⟨w.heap.size + 1, 6, none⟩ (.int .i64 0)) (w.heap.size + 1) 26 #[.int .i64 0, .int .i64 0, .slice none 0 0, .slice none 0 0, .slice none 0 0, .int .i64 0, .int .i64 0] := (((((((B3_bz.out).set_ 0 _).set_ 1 _).set_ 2 _).set_ 3 _).set_ 4 _).set_ 5 _).set_ 6 _
  have y0 := b_bzF.cell 0
  have y1 := b_bzF.cell 1
  have y2 := b_bzF.cell 2
  have y3 := b_bzF.cell 3
  have y4 := b_bzF.cell 4
  have y5 := b_bzF.cell 5
  have y6 := b_bzF.cell 6
  exact bodyPost_ret (v := .tuple #[.agg #[.int .i64 0, .int .i64 0, .slice none 0 0, .slice none 0 0, .slice none 0 0, .int .i64 0, .int .i64 0], .int .i64 8]) (by simp [results, Try.results88, go_sem, y0, y1, y2, y3, y4, y5, y6]) rfl (⟨rfl, hbF⟩)
set_option maxRecDepth 100000 in
set_option maxHeartbeats 4000000 in
theorem led_same (v : Value) (c : PartD) (i : Nat) (hn : PartOk c) (hi : i < c.reps.length) (hl : c.leader = i) (w : World) (h : Pv w v c) : Calls Try.prog 88 #[v, .int .i64 i] w (RefusesP 8 w) := by
  have eqk := hn.known
  have eqi := hn.isr
  obtain ⟨xi, xk, xr, rfl, ix, kx, rx, hli, hlk, hlr⟩ := id h
  obtain ⟨A5, c5, rfl, hc5, -⟩ := rx.at_
  obtain ⟨A1, c1, rfl, hc1, -⟩ := ix.at_
  obtain ⟨A3, c3, rfl, hc3, -⟩ := kx.at_
  have H := Lib.hid h
  clear h ix kx rx
  unfold partV at *
  obtain ⟨ep, ld, is, ks, rs, fw, ba⟩ := c
  simp only at *
  have HN := Lib.hid hn
  have HSM := Lib.hid hn.small
  clear hn
  (try simp only at eqk eqi)
  have E1 := Lib.hid eqi
  have E2 := Lib.hid eqk
  have i0 : (0 : Int) ≤ (i : Int) := by omega
  have i1 : (i : Int) < (rs.length : Int) := Int.ofNat_lt.2 hi
  have i2 : (i : Int) < (is.length : Int) := by omega
  have i3 : (i : Int) < (ks.length : Int) := by omega
  have j2 : i < is.length := by omega
  have j3 : i < ks.length := by omega
  clear eqk eqi
  have y0 : decide (ld < 0) = false := decide_eq_false (by omega)
  have y1 : (ld == (i : Int)) = true := beq_iff_eq.2 hl
  clear hl
  go_enter Try.func88, Try.ntmps88
  go_wp2_with fail
  have hb1 : Below w.heap.size w ((w.alloc (.cells #[.int .i64 ep, .int .i64 ld, .slice A1 is.length c1, .slice A3 ks.length c3, .slice A5 rs.length c5, .int .i64 fw, .int .i64 ba] 26)).alloc (.cells #[.int .i64 0, .int .i64 0, .slice none 0 0, .slice none 0 0, .slice none 0 0, .int .i64 0, .int .i64 0] 26)) := ((Below.refl _ _).alloc (by first | omega | (simp; done) | (simp; omega)) _).alloc (by first | omega | (simp; done) | (simp; omega)) _
  have hal1 : Below w.heap.size w ((w.alloc (.cells #[.int .i64 ep, .int .i64 ld, .slice A1 is.length c1, .slice A3 ks.length c3, .slice A5 rs.length c5, .int .i64 fw, .int .i64 ba] 26)).alloc (.cells #[.int .i64 0, .int .i64 0, .slice none 0 0, .slice none 0 0, .slice none 0 0, .int .i64 0, .int .i64 0] 26)) := ((Below.refl _ _).alloc (by first | omega | (simp; done) | (simp; omega)) _).alloc (by first | omega | (simp; done) | (simp; omega)) _
  have b_bx1 : Blk ((w.alloc (.cells #[.int .i64 ep, .int .i64 ld, .slice A1 is.length c1, .slice A3 ks.length c3, .slice A5 rs.length c5, .int .i64 fw, .int .i64 ba] 26)).alloc (.cells #[.int .i64 0, .int .i64 0, .slice none 0 0, .slice none 0 0, .slice none 0 0, .int .i64 0, .int .i64 0] 26)) (w.heap.size) 26 #[.int .i64 ep, .int .i64 ld, .slice A1 is.length c1, .slice A3 ks.length c3, .slice A5 rs.length c5, .int .i64 fw, .int .i64 ba] := (Blk.new_ _ 26 #[.int .i64 ep, .int .i64 ld, .slice A1 is.length c1, .slice A3 ks.length c3, .slice A5 rs.length c5, .int .i64 fw, .int .i64 ba] (by first | rfl | (simp; done) | (simp; omega))).alloc _
  have b_bz1 : Blk ((w.alloc (.cells #[.int .i64 ep, .int .i64 ld, .slice A1 is.length c1, .slice A3 ks.length c3, .slice A5 rs.length c5, .int .i64 fw, .int .i64 ba] 26)).alloc (.cells #[.int .i64 0, .int .i64 0, .slice none 0 0, .slice none 0 0, .slice none 0 0, .int .i64 0, .int .i64 0] 26)) (w.heap.size + 1) 26 #[.int .i64 0, .int .i64 0, .slice none 0 0, .slice none 0 0, .slice none 0 0, .int .i64 0, .int .i64 0] := Blk.new_ _ 26 #[.int .i64 0, .int .i64 0, .slice none 0 0, .slice none 0 0, .slice none 0 0, .int .i64 0, .int .i64 0] (by first | rfl | (simp; done) | (simp; omega))
  have k_v1 := H.out.below hal1
  have hz1 : w.heap.size + 2 ≤ ((w.alloc (.cells #[.int .i64 ep, .int .i64 ld, .slice A1 is.length c1, .slice A3 ks.length c3, .slice A5 rs.length c5, .int .i64 fw, .int .i64 ba] 26)).alloc (.cells #[.int .i64 0, .int .i64 0, .slice none 0 0, .slice none 0 0, .slice none 0 0, .int .i64 0, .int .i64 0] 26)).heap.size := by first | omega | (simp; done) | (simp; omega)
  generalize (w.alloc (.cells #[.int .i64 ep, .int .i64 ld, .slice A1 is.length c1, .slice A3 ks.length c3, .slice A5 rs.length c5, .int .i64 fw, .int .i64 ba] 26)).alloc (.cells #[.int .i64 0, .int .i64 0, .slice none 0 0, .slice none 0 0, .slice none 0 0, .int .i64 0, .int .i64 0] 26) = W1 at *
  have HB1 := Lib.hid hb1
  have B1_bx := Lib.hid b_bx1
  have B1_bz := Lib.hid b_bz1
  have K1_v := Lib.hid k_v1
  clear hb1 b_bx1 b_bz1 k_v1
  clear H
  refine (at_good _ ⟨ep, ld, is, ks, rs, fw, ba⟩ i HN.out hi _ K1_v.out).mono ?_
  rintro e W2 ⟨iv, kv, rv, rfl, ho, hb⟩
  obtain ⟨gi, d1, gk, d3, gr, d5, rfl, rfl, rfl, hgi, hgk, hgr, hgi', hgk', hgr'⟩ := ho.rows (by have := HN.out.isr; have := HN.out.many; simp only at *; omega) (by have := HN.out.known; have := HN.out.many; simp only at *; omega) (by have := HN.out.many; simp only at *; omega)
  unfold partV
  simp only at *
  have HO := Lib.hid ho
  clear ho
  have hb2 : Below w.heap.size w W2 := below_then HB1.out hb
  have b_bx2 := B1_bx.out.below hb B1_bx.out.lt
  have b_bz2 := B1_bz.out.below hb B1_bz.out.lt
  have k_v2 := K1_v.out.below hb
  have hz2 := hb.size
  have HB2 := Lib.hid hb2
  have B2_bx := Lib.hid b_bx2
  have B2_bz := Lib.hid b_bz2
  have K2_v := Lib.hid k_v2
  clear hb2 b_bx2 b_bz2 k_v2
  clear B1_bx B1_bz HB1 K1_v
  have c_bx0 := B2_bx.out.cell 0
  have f_bx0 := B2_bx.out.frozen 0
  have c_bx1 := B2_bx.out.cell 1
  have f_bx1 := B2_bx.out.frozen 1
  have c_bx2 := B2_bx.out.cell 2
  have f_bx2 := B2_bx.out.frozen 2
  have c_bx3 := B2_bx.out.cell 3
  have f_bx3 := B2_bx.out.frozen 3
  have c_bx4 := B2_bx.out.cell 4
  have f_bx4 := B2_bx.out.frozen 4
  have c_bx5 := B2_bx.out.cell 5
  have f_bx5 := B2_bx.out.frozen 5
  have c_bx6 := B2_bx.out.cell 6
  have f_bx6 := B2_bx.out.frozen 6
  have l_bx := B2_bx.out.lt
  go_upto_region 2 with fail
  clear c_bx0 f_bx0 c_bx1 f_bx1 c_bx2 f_bx2 c_bx3 f_bx3 c_bx4 f_bx4 c_bx5 f_bx5 c_bx6 f_bx6 l_bx
  have hsz3 := HB2.out.size
  have hb3 : Below w.heap.size w (((((((W2.setCell ⟨w.heap.size, 0, none⟩ (.int .i64 ep)).setCell ⟨w.heap.size, 1, none⟩ (.int .i64 ld)).setCell ⟨w.heap.size, 2, none⟩ (.slice (some ⟨gi, 0, none⟩) is.length d1)).setCell ⟨w.heap.size, 3, none⟩ (.slice (some ⟨gk, 0, none⟩) ks.length d3)).setCell ⟨w.heap.size, 4, none⟩ (.slice (some ⟨gr, 0, none⟩) rs.length d5)).setCell ⟨w.heap.size, 5, none⟩ (.int .i64 fw)).setCell ⟨w.heap.size, 6, none⟩ (.int .i64 ba)) := (((((((HB2.out).setCell (by show w.heap.size ≤ w.heap.size; omega) _).setCell (by show w.heap.size ≤ w.heap.size; omega) _).setCell (by show w.heap.size ≤ w.heap.size; omega) _).setCell (by show w.heap.size ≤ w.heap.size; omega) _).setCell (by show w.heap.size ≤ w.heap.size; omega) _).setCell (by show w.heap.size ≤ w.heap.size; omega) _).setCell (by show w.heap.size ≤ w.heap.size; omega) _
  have b_bx3 : Blk (((((((W2.setCell ⟨w.heap.size, 0, none⟩ (.int .i64 ep)).setCell ⟨w.heap.size, 1, none⟩ (.int .i64 ld)).setCell ⟨w.heap.size, 2, none⟩ (.slice (some ⟨gi, 0, none⟩) is.length d1)).setCell ⟨w.heap.size, 3, none⟩ (.slice (some ⟨gk, 0, none⟩) ks.length d3)).setCell ⟨w.heap.size, 4, none⟩ (.slice (some ⟨gr, 0, none⟩) rs.length d5)).setCell ⟨w.heap.size, 5, none⟩ (.int .i64 fw)).setCell ⟨w.heap.size, 6, none⟩ (.int .i64 ba)) (w.heap.size) 26 #[.int .i64 ep, .int .i64 ld, .slice (some ⟨gi, 0, none⟩) is.length d1, .slice (some ⟨gk, 0, none⟩) ks.length d3, .slice (some ⟨gr, 0, none⟩) rs.length d5, .int .i64 fw, .int .i64 ba] := (((((((B2_bx.out).set_ 0 _).set_ 1 _).set_ 2 _).set_ 3 _).set_ 4 _).set_ 5 _).set_ 6 _
  have b_bz3 : Blk (((((((W2.setCell ⟨w.heap.size, 0, none⟩ (.int .i64 ep)).setCell ⟨w.heap.size, 1, none⟩ (.int .i64 ld)).setCell ⟨w.heap.size, 2, none⟩ (.slice (some ⟨gi, 0, none⟩) is.length d1)).setCell ⟨w.heap.size, 3, none⟩ (.slice (some ⟨gk, 0, none⟩) ks.length d3)).setCell ⟨w.heap.size, 4, none⟩ (.slice (some ⟨gr, 0, none⟩) rs.length d5)).setCell ⟨w.heap.size, 5, none⟩ (.int .i64 fw)).setCell ⟨w.heap.size, 6, none⟩ (.int .i64 ba)) (w.heap.size + 1) 26 #[.int .i64 0, .int .i64 0, .slice none 0 0, .slice none 0 0, .slice none 0 0, .int .i64 0, .int .i64 0] := (((((((B2_bz.out).far (p := ⟨w.heap.size, 0, none⟩) (by show w.heap.size + 1 ≠ w.heap.size; omega) _).far (p := ⟨w.heap.size, 1, none⟩) (by show w.heap.size + 1 ≠ w.heap.size; omega) _).far (p := ⟨w.heap.size, 2, none⟩) (by show w.heap.size + 1 ≠ w.heap.size; omega) _).far (p := ⟨w.heap.size, 3, none⟩) (by show w.heap.size + 1 ≠ w.heap.size; omega) _).far (p := ⟨w.heap.size, 4, none⟩) (by show w.heap.size + 1 ≠ w.heap.size; omega) _).far (p := ⟨w.heap.size, 5, none⟩) (by show w.heap.size + 1 ≠ w.heap.size; omega) _).far (p := ⟨w.heap.size, 6, none⟩) (by show w.heap.size + 1 ≠ w.heap.size; omega) _
  have k_own3 := (((((((HO.out).under (a := ⟨w.heap.size, 0, none⟩) (by (try dsimp only); omega) (.int .i64 ep)).under (a := ⟨w.heap.size, 1, none⟩) (by (try dsimp only); omega) (.int .i64 ld)).under (a := ⟨w.heap.size, 2, none⟩) (by (try dsimp only); omega) (.slice (some ⟨gi, 0, none⟩) is.length d1)).under (a := ⟨w.heap.size, 3, none⟩) (by (try dsimp only); omega) (.slice (some ⟨gk, 0, none⟩) ks.length d3)).under (a := ⟨w.heap.size, 4, none⟩) (by (try dsimp only); omega) (.slice (some ⟨gr, 0, none⟩) rs.length d5)).under (a := ⟨w.heap.size, 5, none⟩) (by (try dsimp only); omega) (.int .i64 fw)).under (a := ⟨w.heap.size, 6, none⟩) (by (try dsimp only); omega) (.int .i64 ba)
  have hz3 : W2.heap.size + 0 ≤ (((((((W2.setCell ⟨w.heap.size, 0, none⟩ (.int .i64 ep)).setCell ⟨w.heap.size, 1, none⟩ (.int .i64 ld)).setCell ⟨w.heap.size, 2, none⟩ (.slice (some ⟨gi, 0, none⟩) is.length d1)).setCell ⟨w.heap.size, 3, none⟩ (.slice (some ⟨gk, 0, none⟩) ks.length d3)).setCell ⟨w.heap.size, 4, none⟩ (.slice (some ⟨gr, 0, none⟩) rs.length d5)).setCell ⟨w.heap.size, 5, none⟩ (.int .i64 fw)).setCell ⟨w.heap.size, 6, none⟩ (.int .i64 ba)).heap.size := by first | omega | (simp; done) | (simp; omega)
  generalize ((((((W2.setCell ⟨w.heap.size, 0, none⟩ (.int .i64 ep)).setCell ⟨w.heap.size, 1, none⟩ (.int .i64 ld)).setCell ⟨w.heap.size, 2, none⟩ (.slice (some ⟨gi, 0, none⟩) is.length d1)).setCell ⟨w.heap.size, 3, none⟩ (.slice (some ⟨gk, 0, none⟩) ks.length d3)).setCell ⟨w.heap.size, 4, none⟩ (.slice (some ⟨gr, 0, none⟩) rs.length d5)).setCell ⟨w.heap.size, 5, none⟩ (.int .i64 fw)).setCell ⟨w.heap.size, 6, none⟩ (.int .i64 ba) = W3 at *
  have HB3 := Lib.hid hb3
  have B3_bx := Lib.hid b_bx3
  have B3_bz := Lib.hid b_bz3
  have K3_own := Lib.hid k_own3
  clear hb3 b_bx3 b_bz3 k_own3
  clear B2_bx B2_bz HB2 HO
  have c_bx0 := B3_bx.out.cell 0
  have c_bx1 := B3_bx.out.cell 1
  have c_bx2 := B3_bx.out.cell 2
  have c_bx3 := B3_bx.out.cell 3
  have c_bx4 := B3_bx.out.cell 4
  have c_bx5 := B3_bx.out.cell 5
  have c_bx6 := B3_bx.out.cell 6
  have l_bx := B3_bx.out.lt
  have c_bz0 := B3_bz.out.cell 0
  have f_bz0 := B3_bz.out.frozen 0
  have c_bz1 := B3_bz.out.cell 1
  have f_bz1 := B3_bz.out.frozen 1
  have c_bz2 := B3_bz.out.cell 2
  have f_bz2 := B3_bz.out.frozen 2
  have c_bz3 := B3_bz.out.cell 3
  have f_bz3 := B3_bz.out.frozen 3
  have c_bz4 := B3_bz.out.cell 4
  have f_bz4 := B3_bz.out.frozen 4
  have c_bz5 := B3_bz.out.cell 5
  have f_bz5 := B3_bz.out.frozen 5
  have c_bz6 := B3_bz.out.cell 6
  have f_bz6 := B3_bz.out.frozen 6
  have l_bz := B3_bz.out.lt
  obtain ⟨A7, c7, ⟨r0, r1, r2, r3⟩, ⟨rf0, rf1, rf2, rf3⟩, rby⟩ := K3_own.out.repAt i hi
  obtain ⟨s0, sf0⟩ := K3_own.out.isrAt i j2
  obtain ⟨t0, tf0⟩ := K3_own.out.knownAt i j3
  (try simp only at r0 r1 r2 r3 rby s0 t0)
  go_wp2_with fail
  clear c_bx0 c_bx1 c_bx2 c_bx3 c_bx4 c_bx5 c_bx6 l_bx c_bz0 f_bz0 c_bz1 f_bz1 c_bz2 f_bz2 c_bz3 f_bz3 c_bz4 f_bz4 c_bz5 f_bz5 c_bz6 f_bz6 l_bz r0 r1 r2 r3 rf0 rf1 rf2 rf3 rby s0 sf0 t0 tf0
  have hszF := HB3.out.size
  have hbF : Below w.heap.size w (((((((W3.setCell ⟨w.heap.size + 1, 0, none⟩ (.int .i64 0)).setCell ⟨w.heap.size + 1, 1, none⟩ (.int .i64 0)).setCell ⟨w.heap.size + 1, 2, none⟩ (.slice none 0 0)).setCell ⟨w.heap.size + 1, 3, none⟩ (.slice none 0 0)).setCell ⟨w.heap.size + 1, 4, none⟩ (.slice none 0 0)).setCell ⟨w.heap.size + 1, 5, none⟩ (.int .i64 0)).setCell ⟨w.heap.size + 1, 6, none⟩ (.int .i64 0)) := (((((((HB3.out).setCell (by show w.heap.size ≤ w.heap.size + 1; omega) _).setCell (by show w.heap.size ≤ w.heap.size + 1; omega) _).setCell (by show w.heap.size ≤ w.heap.size + 1; omega) _).setCell (by show w.heap.size ≤ w.heap.size + 1; omega) _).setCell (by show w.heap.size ≤ w.heap.size + 1; omega) _).setCell (by show w.heap.size ≤ w.heap.size + 1; omega) _).setCell (by show w.heap.size ≤ w.heap.size + 1; omega) _
  have b_bxF : Blk (((((((W3.setCell ⟨w.heap.size + 1, 0, none⟩ (.int .i64 0)).setCell ⟨w.heap.size + 1, 1, none⟩ (.int .i64 0)).setCell ⟨w.heap.size + 1, 2, none⟩ (.slice none 0 0)).setCell ⟨w.heap.size + 1, 3, none⟩ (.slice none 0 0)).setCell ⟨w.heap.size + 1, 4, none⟩ (.slice none 0 0)).setCell ⟨w.heap.size + 1, 5, none⟩ (.int .i64 0)).setCell ⟨w.heap.size + 1, 6, none⟩ (.int .i64 0)) (w.heap.size) 26 #[.int .i64 ep, .int .i64 ld, .slice (some ⟨gi, 0, none⟩) is.length d1, .slice (some ⟨gk, 0, none⟩) ks.length d3, .slice (some ⟨gr, 0, none⟩) rs.length d5, .int .i64 fw, .int .i64 ba] := (((((((B3_bx.out).far (p := ⟨w.heap.size + 1, 0, none⟩) (by show w.heap.size ≠ w.heap.size + 1; omega) _).far (p := ⟨w.heap.size + 1, 1, none⟩) (by show w.heap.size ≠ w.heap.size + 1; omega) _).far (p := ⟨w.heap.size + 1, 2, none⟩) (by show w.heap.size ≠ w.heap.size + 1; omega) _).far (p := ⟨w.heap.size + 1, 3, none⟩) (by show w.heap.size ≠ w.heap.size + 1; omega) _).far (p := ⟨w.heap.size + 1, 4, none⟩) (by show w.heap.size ≠ w.heap.size + 1; omega) _).far (p := ⟨w.heap.size + 1, 5, none⟩) (by show w.heap.size ≠ w.heap.size + 1; omega) _).far (p := ⟨w.heap.size + 1, 6, none⟩) (by show w.heap.size ≠ w.heap.size + 1; omega) _
  have b_bzF : Blk (((((((W3.setCell ⟨w.heap.size + 1, 0, none⟩ (.int .i64 0)).setCell ⟨w.heap.size + 1, 1, none⟩ (.int .i64 0)).setCell ⟨w.heap.size + 1, 2, none⟩ (.slice none 0 0)).setCell ⟨w.heap.size + 1, 3, none⟩ (.slice none 0 0)).setCell ⟨w.heap.size + 1, 4, none⟩ (.slice none 0 0)).setCell ⟨w.heap.size + 1, 5, none⟩ (.int .i64 0)).setCell ⟨w.heap.size + 1, 6, none⟩ (.int .i64 0)) (w.heap.size + 1) 26 #[.int .i64 0, .int .i64 0, .slice none 0 0, .slice none 0 0, .slice none 0 0, .int .i64 0, .int .i64 0] := (((((((B3_bz.out).set_ 0 _).set_ 1 _).set_ 2 _).set_ 3 _).set_ 4 _).set_ 5 _).set_ 6 _
  have y0 := b_bzF.cell 0
  have y1 := b_bzF.cell 1
  have y2 := b_bzF.cell 2
  have y3 := b_bzF.cell 3
  have y4 := b_bzF.cell 4
  have y5 := b_bzF.cell 5
  have y6 := b_bzF.cell 6
  exact bodyPost_ret (v := .tuple #[.agg #[.int .i64 0, .int .i64 0, .slice none 0 0, .slice none 0 0, .slice none 0 0, .int .i64 0, .int .i64 0], .int .i64 8]) (by simp [results, Try.results88, go_sem, y0, y1, y2, y3, y4, y5, y6]) rfl (⟨rfl, hbF⟩)
set_option maxRecDepth 100000 in
set_option maxHeartbeats 4000000 in
theorem led_good (v : Value) (c : PartD) (i : Nat) (hn : PartOk c) (hi : i < c.reps.length) (l : Nat) (hl : c.leader = l) (hll : l < c.reps.length) (hne : l ≠ i) (w : World) (h : Pv w v c) : Calls Try.prog 88 #[v, .int .i64 i] w (OwnsP c w) := by
  have eqk := hn.known
  have eqi := hn.isr
  obtain ⟨xi, xk, xr, rfl, ix, kx, rx, hli, hlk, hlr⟩ := id h
  obtain ⟨A5, c5, rfl, hc5, -⟩ := rx.at_
  obtain ⟨A1, c1, rfl, hc1, -⟩ := ix.at_
  obtain ⟨A3, c3, rfl, hc3, -⟩ := kx.at_
  have H := Lib.hid h
  clear h ix kx rx
  unfold partV at *
  obtain ⟨ep, ld, is, ks, rs, fw, ba⟩ := c
  simp only at *
  have HN := Lib.hid hn
  have HSM := Lib.hid hn.small
  clear hn
  (try simp only at eqk eqi)
  have E1 := Lib.hid eqi
  have E2 := Lib.hid eqk
  have i0 : (0 : Int) ≤ (i : Int) := by omega
  have i1 : (i : Int) < (rs.length : Int) := Int.ofNat_lt.2 hi
  have i2 : (i : Int) < (is.length : Int) := by omega
  have i3 : (i : Int) < (ks.length : Int) := by omega
  have j2 : i < is.length := by omega
  have j3 : i < ks.length := by omega
  clear eqk eqi
  have HL := Lib.hid hl
  have HNE := Lib.hid hne
  have y0 : decide (ld < 0) = false := decide_eq_false (by omega)
  have y1 : (ld == (i : Int)) = false := beq_eq_false_iff_ne.2 (by omega)
  have l0 : (0 : Int) ≤ ld := by omega
  have l1 : ld < (rs.length : Int) := by have : (l : Int) < (rs.length : Int) := Int.ofNat_lt.2 hll; omega
  clear hl
  go_enter Try.func88, Try.ntmps88
  go_wp2_with fail
  have hb1 : Below w.heap.size w ((w.alloc (.cells #[.int .i64 ep, .int .i64 ld, .slice A1 is.length c1, .slice A3 ks.length c3, .slice A5 rs.length c5, .int .i64 fw, .int .i64 ba] 26)).alloc (.cells #[.int .i64 0, .int .i64 0, .slice none 0 0, .slice none 0 0, .slice none 0 0, .int .i64 0, .int .i64 0] 26)) := ((Below.refl _ _).alloc (by first | omega | (simp; done) | (simp; omega)) _).alloc (by first | omega | (simp; done) | (simp; omega)) _
  have hal1 : Below w.heap.size w ((w.alloc (.cells #[.int .i64 ep, .int .i64 ld, .slice A1 is.length c1, .slice A3 ks.length c3, .slice A5 rs.length c5, .int .i64 fw, .int .i64 ba] 26)).alloc (.cells #[.int .i64 0, .int .i64 0, .slice none 0 0, .slice none 0 0, .slice none 0 0, .int .i64 0, .int .i64 0] 26)) := ((Below.refl _ _).alloc (by first | omega | (simp; done) | (simp; omega)) _).alloc (by first | omega | (simp; done) | (simp; omega)) _
  have b_bx1 : Blk ((w.alloc (.cells #[.int .i64 ep, .int .i64 ld, .slice A1 is.length c1, .slice A3 ks.length c3, .slice A5 rs.length c5, .int .i64 fw, .int .i64 ba] 26)).alloc (.cells #[.int .i64 0, .int .i64 0, .slice none 0 0, .slice none 0 0, .slice none 0 0, .int .i64 0, .int .i64 0] 26)) (w.heap.size) 26 #[.int .i64 ep, .int .i64 ld, .slice A1 is.length c1, .slice A3 ks.length c3, .slice A5 rs.length c5, .int .i64 fw, .int .i64 ba] := (Blk.new_ _ 26 #[.int .i64 ep, .int .i64 ld, .slice A1 is.length c1, .slice A3 ks.length c3, .slice A5 rs.length c5, .int .i64 fw, .int .i64 ba] (by first | rfl | (simp; done) | (simp; omega))).alloc _
  have b_bz1 : Blk ((w.alloc (.cells #[.int .i64 ep, .int .i64 ld, .slice A1 is.length c1, .slice A3 ks.length c3, .slice A5 rs.length c5, .int .i64 fw, .int .i64 ba] 26)).alloc (.cells #[.int .i64 0, .int .i64 0, .slice none 0 0, .slice none 0 0, .slice none 0 0, .int .i64 0, .int .i64 0] 26)) (w.heap.size + 1) 26 #[.int .i64 0, .int .i64 0, .slice none 0 0, .slice none 0 0, .slice none 0 0, .int .i64 0, .int .i64 0] := Blk.new_ _ 26 #[.int .i64 0, .int .i64 0, .slice none 0 0, .slice none 0 0, .slice none 0 0, .int .i64 0, .int .i64 0] (by first | rfl | (simp; done) | (simp; omega))
  have k_v1 := H.out.below hal1
  have hz1 : w.heap.size + 2 ≤ ((w.alloc (.cells #[.int .i64 ep, .int .i64 ld, .slice A1 is.length c1, .slice A3 ks.length c3, .slice A5 rs.length c5, .int .i64 fw, .int .i64 ba] 26)).alloc (.cells #[.int .i64 0, .int .i64 0, .slice none 0 0, .slice none 0 0, .slice none 0 0, .int .i64 0, .int .i64 0] 26)).heap.size := by first | omega | (simp; done) | (simp; omega)
  generalize (w.alloc (.cells #[.int .i64 ep, .int .i64 ld, .slice A1 is.length c1, .slice A3 ks.length c3, .slice A5 rs.length c5, .int .i64 fw, .int .i64 ba] 26)).alloc (.cells #[.int .i64 0, .int .i64 0, .slice none 0 0, .slice none 0 0, .slice none 0 0, .int .i64 0, .int .i64 0] 26) = W1 at *
  have HB1 := Lib.hid hb1
  have B1_bx := Lib.hid b_bx1
  have B1_bz := Lib.hid b_bz1
  have K1_v := Lib.hid k_v1
  clear hb1 b_bx1 b_bz1 k_v1
  clear H
  refine (at_good _ ⟨ep, ld, is, ks, rs, fw, ba⟩ i HN.out hi _ K1_v.out).mono ?_
  rintro e W2 ⟨iv, kv, rv, rfl, ho, hb⟩
  obtain ⟨gi, d1, gk, d3, gr, d5, rfl, rfl, rfl, hgi, hgk, hgr, hgi', hgk', hgr'⟩ := ho.rows (by have := HN.out.isr; have := HN.out.many; simp only at *; omega) (by have := HN.out.known; have := HN.out.many; simp only at *; omega) (by have := HN.out.many; simp only at *; omega)
  unfold partV
  simp only at *
  have HO := Lib.hid ho
  clear ho
  have hb2 : Below w.heap.size w W2 := below_then HB1.out hb
  have b_bx2 := B1_bx.out.below hb B1_bx.out.lt
  have b_bz2 := B1_bz.out.below hb B1_bz.out.lt
  have k_v2 := K1_v.out.below hb
  have hz2 := hb.size
  have HB2 := Lib.hid hb2
  have B2_bx := Lib.hid b_bx2
  have B2_bz := Lib.hid b_bz2
  have K2_v := Lib.hid k_v2
  clear hb2 b_bx2 b_bz2 k_v2
  clear B1_bx B1_bz HB1 K1_v
  have c_bx0 := B2_bx.out.cell 0
  have f_bx0 := B2_bx.out.frozen 0
  have c_bx1 := B2_bx.out.cell 1
  have f_bx1 := B2_bx.out.frozen 1
  have c_bx2 := B2_bx.out.cell 2
  have f_bx2 := B2_bx.out.frozen 2
  have c_bx3 := B2_bx.out.cell 3
  have f_bx3 := B2_bx.out.frozen 3
  have c_bx4 := B2_bx.out.cell 4
  have f_bx4 := B2_bx.out.frozen 4
  have c_bx5 := B2_bx.out.cell 5
  have f_bx5 := B2_bx.out.frozen 5
  have c_bx6 := B2_bx.out.cell 6
  have f_bx6 := B2_bx.out.frozen 6
  have l_bx := B2_bx.out.lt
  go_upto_region 2 with fail
  clear c_bx0 f_bx0 c_bx1 f_bx1 c_bx2 f_bx2 c_bx3 f_bx3 c_bx4 f_bx4 c_bx5 f_bx5 c_bx6 f_bx6 l_bx
  have hsz3 := HB2.out.size
  have hb3 : Below w.heap.size w (((((((W2.setCell ⟨w.heap.size, 0, none⟩ (.int .i64 ep)).setCell ⟨w.heap.size, 1, none⟩ (.int .i64 ld)).setCell ⟨w.heap.size, 2, none⟩ (.slice (some ⟨gi, 0, none⟩) is.length d1)).setCell ⟨w.heap.size, 3, none⟩ (.slice (some ⟨gk, 0, none⟩) ks.length d3)).setCell ⟨w.heap.size, 4, none⟩ (.slice (some ⟨gr, 0, none⟩) rs.length d5)).setCell ⟨w.heap.size, 5, none⟩ (.int .i64 fw)).setCell ⟨w.heap.size, 6, none⟩ (.int .i64 ba)) := (((((((HB2.out).setCell (by show w.heap.size ≤ w.heap.size; omega) _).setCell (by show w.heap.size ≤ w.heap.size; omega) _).setCell (by show w.heap.size ≤ w.heap.size; omega) _).setCell (by show w.heap.size ≤ w.heap.size; omega) _).setCell (by show w.heap.size ≤ w.heap.size; omega) _).setCell (by show w.heap.size ≤ w.heap.size; omega) _).setCell (by show w.heap.size ≤ w.heap.size; omega) _
  have b_bx3 : Blk (((((((W2.setCell ⟨w.heap.size, 0, none⟩ (.int .i64 ep)).setCell ⟨w.heap.size, 1, none⟩ (.int .i64 ld)).setCell ⟨w.heap.size, 2, none⟩ (.slice (some ⟨gi, 0, none⟩) is.length d1)).setCell ⟨w.heap.size, 3, none⟩ (.slice (some ⟨gk, 0, none⟩) ks.length d3)).setCell ⟨w.heap.size, 4, none⟩ (.slice (some ⟨gr, 0, none⟩) rs.length d5)).setCell ⟨w.heap.size, 5, none⟩ (.int .i64 fw)).setCell ⟨w.heap.size, 6, none⟩ (.int .i64 ba)) (w.heap.size) 26 #[.int .i64 ep, .int .i64 ld, .slice (some ⟨gi, 0, none⟩) is.length d1, .slice (some ⟨gk, 0, none⟩) ks.length d3, .slice (some ⟨gr, 0, none⟩) rs.length d5, .int .i64 fw, .int .i64 ba] := (((((((B2_bx.out).set_ 0 _).set_ 1 _).set_ 2 _).set_ 3 _).set_ 4 _).set_ 5 _).set_ 6 _
  have b_bz3 : Blk (((((((W2.setCell ⟨w.heap.size, 0, none⟩ (.int .i64 ep)).setCell ⟨w.heap.size, 1, none⟩ (.int .i64 ld)).setCell ⟨w.heap.size, 2, none⟩ (.slice (some ⟨gi, 0, none⟩) is.length d1)).setCell ⟨w.heap.size, 3, none⟩ (.slice (some ⟨gk, 0, none⟩) ks.length d3)).setCell ⟨w.heap.size, 4, none⟩ (.slice (some ⟨gr, 0, none⟩) rs.length d5)).setCell ⟨w.heap.size, 5, none⟩ (.int .i64 fw)).setCell ⟨w.heap.size, 6, none⟩ (.int .i64 ba)) (w.heap.size + 1) 26 #[.int .i64 0, .int .i64 0, .slice none 0 0, .slice none 0 0, .slice none 0 0, .int .i64 0, .int .i64 0] := (((((((B2_bz.out).far (p := ⟨w.heap.size, 0, none⟩) (by show w.heap.size + 1 ≠ w.heap.size; omega) _).far (p := ⟨w.heap.size, 1, none⟩) (by show w.heap.size + 1 ≠ w.heap.size; omega) _).far (p := ⟨w.heap.size, 2, none⟩) (by show w.heap.size + 1 ≠ w.heap.size; omega) _).far (p := ⟨w.heap.size, 3, none⟩) (by show w.heap.size + 1 ≠ w.heap.size; omega) _).far (p := ⟨w.heap.size, 4, none⟩) (by show w.heap.size + 1 ≠ w.heap.size; omega) _).far (p := ⟨w.heap.size, 5, none⟩) (by show w.heap.size + 1 ≠ w.heap.size; omega) _).far (p := ⟨w.heap.size, 6, none⟩) (by show w.heap.size + 1 ≠ w.heap.size; omega) _
  have k_own3 := (((((((HO.out).under (a := ⟨w.heap.size, 0, none⟩) (by (try dsimp only); omega) (.int .i64 ep)).under (a := ⟨w.heap.size, 1, none⟩) (by (try dsimp only); omega) (.int .i64 ld)).under (a := ⟨w.heap.size, 2, none⟩) (by (try dsimp only); omega) (.slice (some ⟨gi, 0, none⟩) is.length d1)).under (a := ⟨w.heap.size, 3, none⟩) (by (try dsimp only); omega) (.slice (some ⟨gk, 0, none⟩) ks.length d3)).under (a := ⟨w.heap.size, 4, none⟩) (by (try dsimp only); omega) (.slice (some ⟨gr, 0, none⟩) rs.length d5)).under (a := ⟨w.heap.size, 5, none⟩) (by (try dsimp only); omega) (.int .i64 fw)).under (a := ⟨w.heap.size, 6, none⟩) (by (try dsimp only); omega) (.int .i64 ba)
  have hz3 : W2.heap.size + 0 ≤ (((((((W2.setCell ⟨w.heap.size, 0, none⟩ (.int .i64 ep)).setCell ⟨w.heap.size, 1, none⟩ (.int .i64 ld)).setCell ⟨w.heap.size, 2, none⟩ (.slice (some ⟨gi, 0, none⟩) is.length d1)).setCell ⟨w.heap.size, 3, none⟩ (.slice (some ⟨gk, 0, none⟩) ks.length d3)).setCell ⟨w.heap.size, 4, none⟩ (.slice (some ⟨gr, 0, none⟩) rs.length d5)).setCell ⟨w.heap.size, 5, none⟩ (.int .i64 fw)).setCell ⟨w.heap.size, 6, none⟩ (.int .i64 ba)).heap.size := by first | omega | (simp; done) | (simp; omega)
  generalize ((((((W2.setCell ⟨w.heap.size, 0, none⟩ (.int .i64 ep)).setCell ⟨w.heap.size, 1, none⟩ (.int .i64 ld)).setCell ⟨w.heap.size, 2, none⟩ (.slice (some ⟨gi, 0, none⟩) is.length d1)).setCell ⟨w.heap.size, 3, none⟩ (.slice (some ⟨gk, 0, none⟩) ks.length d3)).setCell ⟨w.heap.size, 4, none⟩ (.slice (some ⟨gr, 0, none⟩) rs.length d5)).setCell ⟨w.heap.size, 5, none⟩ (.int .i64 fw)).setCell ⟨w.heap.size, 6, none⟩ (.int .i64 ba) = W3 at *
  have HB3 := Lib.hid hb3
  have B3_bx := Lib.hid b_bx3
  have B3_bz := Lib.hid b_bz3
  have K3_own := Lib.hid k_own3
  clear hb3 b_bx3 b_bz3 k_own3
  clear B2_bx B2_bz HB2 HO
  have c_bx0 := B3_bx.out.cell 0
  have c_bx1 := B3_bx.out.cell 1
  have c_bx2 := B3_bx.out.cell 2
  have c_bx3 := B3_bx.out.cell 3
  have c_bx4 := B3_bx.out.cell 4
  have c_bx5 := B3_bx.out.cell 5
  have c_bx6 := B3_bx.out.cell 6
  have l_bx := B3_bx.out.lt
  have c_bz0 := B3_bz.out.cell 0
  have f_bz0 := B3_bz.out.frozen 0
  have c_bz1 := B3_bz.out.cell 1
  have f_bz1 := B3_bz.out.frozen 1
  have c_bz2 := B3_bz.out.cell 2
  have f_bz2 := B3_bz.out.frozen 2
  have c_bz3 := B3_bz.out.cell 3
  have f_bz3 := B3_bz.out.frozen 3
  have c_bz4 := B3_bz.out.cell 4
  have f_bz4 := B3_bz.out.frozen 4
  have c_bz5 := B3_bz.out.cell 5
  have f_bz5 := B3_bz.out.frozen 5
  have c_bz6 := B3_bz.out.cell 6
  have f_bz6 := B3_bz.out.frozen 6
  have l_bz := B3_bz.out.lt
  obtain ⟨A7, c7, ⟨r0, r1, r2, r3⟩, ⟨rf0, rf1, rf2, rf3⟩, rby⟩ := K3_own.out.repAt i hi
  obtain ⟨s0, sf0⟩ := K3_own.out.isrAt i j2
  obtain ⟨t0, tf0⟩ := K3_own.out.knownAt i j3
  (try simp only at r0 r1 r2 r3 rby s0 t0)
  go_wp2_with fail
  clear c_bx0 c_bx1 c_bx2 c_bx3 c_bx4 c_bx5 c_bx6 l_bx c_bz0 f_bz0 c_bz1 f_bz1 c_bz2 f_bz2 c_bz3 f_bz3 c_bz4 f_bz4 c_bz5 f_bz5 c_bz6 f_bz6 l_bz r0 r1 r2 r3 rf0 rf1 rf2 rf3 rby s0 sf0 t0 tf0
  have hszF := HB3.out.size
  have hbF : Below w.heap.size w (((((((W3.setCell ⟨w.heap.size + 1, 0, none⟩ (.int .i64 ep)).setCell ⟨w.heap.size + 1, 1, none⟩ (.int .i64 ld)).setCell ⟨w.heap.size + 1, 2, none⟩ (.slice (some ⟨gi, 0, none⟩) is.length d1)).setCell ⟨w.heap.size + 1, 3, none⟩ (.slice (some ⟨gk, 0, none⟩) ks.length d3)).setCell ⟨w.heap.size + 1, 4, none⟩ (.slice (some ⟨gr, 0, none⟩) rs.length d5)).setCell ⟨w.heap.size + 1, 5, none⟩ (.int .i64 fw)).setCell ⟨w.heap.size + 1, 6, none⟩ (.int .i64 ba)) := (((((((HB3.out).setCell (by show w.heap.size ≤ w.heap.size + 1; omega) _).setCell (by show w.heap.size ≤ w.heap.size + 1; omega) _).setCell (by show w.heap.size ≤ w.heap.size + 1; omega) _).setCell (by show w.heap.size ≤ w.heap.size + 1; omega) _).setCell (by show w.heap.size ≤ w.heap.size + 1; omega) _).setCell (by show w.heap.size ≤ w.heap.size + 1; omega) _).setCell (by show w.heap.size ≤ w.heap.size + 1; omega) _
  have b_bxF : Blk (((((((W3.setCell ⟨w.heap.size + 1, 0, none⟩ (.int .i64 ep)).setCell ⟨w.heap.size + 1, 1, none⟩ (.int .i64 ld)).setCell ⟨w.heap.size + 1, 2, none⟩ (.slice (some ⟨gi, 0, none⟩) is.length d1)).setCell ⟨w.heap.size + 1, 3, none⟩ (.slice (some ⟨gk, 0, none⟩) ks.length d3)).setCell ⟨w.heap.size + 1, 4, none⟩ (.slice (some ⟨gr, 0, none⟩) rs.length d5)).setCell ⟨w.heap.size + 1, 5, none⟩ (.int .i64 fw)).setCell ⟨w.heap.size + 1, 6, none⟩ (.int .i64 ba)) (w.heap.size) 26 #[.int .i64 ep, .int .i64 ld, .slice (some ⟨gi, 0, none⟩) is.length d1, .slice (some ⟨gk, 0, none⟩) ks.length d3, .slice (some ⟨gr, 0, none⟩) rs.length d5, .int .i64 fw, .int .i64 ba] := (((((((B3_bx.out).far (p := ⟨w.heap.size + 1, 0, none⟩) (by show w.heap.size ≠ w.heap.size + 1; omega) _).far (p := ⟨w.heap.size + 1, 1, none⟩) (by show w.heap.size ≠ w.heap.size + 1; omega) _).far (p := ⟨w.heap.size + 1, 2, none⟩) (by show w.heap.size ≠ w.heap.size + 1; omega) _).far (p := ⟨w.heap.size + 1, 3, none⟩) (by show w.heap.size ≠ w.heap.size + 1; omega) _).far (p := ⟨w.heap.size + 1, 4, none⟩) (by show w.heap.size ≠ w.heap.size + 1; omega) _).far (p := ⟨w.heap.size + 1, 5, none⟩) (by show w.heap.size ≠ w.heap.size + 1; omega) _).far (p := ⟨w.heap.size + 1, 6, none⟩) (by show w.heap.size ≠ w.heap.size + 1; omega) _
  have b_bzF : Blk (((((((W3.setCell ⟨w.heap.size + 1, 0, none⟩ (.int .i64 ep)).setCell ⟨w.heap.size + 1, 1, none⟩ (.int .i64 ld)).setCell ⟨w.heap.size + 1, 2, none⟩ (.slice (some ⟨gi, 0, none⟩) is.length d1)).setCell ⟨w.heap.size + 1, 3, none⟩ (.slice (some ⟨gk, 0, none⟩) ks.length d3)).setCell ⟨w.heap.size + 1, 4, none⟩ (.slice (some ⟨gr, 0, none⟩) rs.length d5)).setCell ⟨w.heap.size + 1, 5, none⟩ (.int .i64 fw)).setCell ⟨w.heap.size + 1, 6, none⟩ (.int .i64 ba)) (w.heap.size + 1) 26 #[.int .i64 ep, .int .i64 ld, .slice (some ⟨gi, 0, none⟩) is.length d1, .slice (some ⟨gk, 0, none⟩) ks.length d3, .slice (some ⟨gr, 0, none⟩) rs.length d5, .int .i64 fw, .int .i64 ba] := (((((((B3_bz.out).set_ 0 _).set_ 1 _).set_ 2 _).set_ 3 _).set_ 4 _).set_ 5 _).set_ 6 _
  have k_ownF := (((((((K3_own.out).under (a := ⟨w.heap.size + 1, 0, none⟩) (by (try dsimp only); omega) (.int .i64 ep)).under (a := ⟨w.heap.size + 1, 1, none⟩) (by (try dsimp only); omega) (.int .i64 ld)).under (a := ⟨w.heap.size + 1, 2, none⟩) (by (try dsimp only); omega) (.slice (some ⟨gi, 0, none⟩) is.length d1)).under (a := ⟨w.heap.size + 1, 3, none⟩) (by (try dsimp only); omega) (.slice (some ⟨gk, 0, none⟩) ks.length d3)).under (a := ⟨w.heap.size + 1, 4, none⟩) (by (try dsimp only); omega) (.slice (some ⟨gr, 0, none⟩) rs.length d5)).under (a := ⟨w.heap.size + 1, 5, none⟩) (by (try dsimp only); omega) (.int .i64 fw)).under (a := ⟨w.heap.size + 1, 6, none⟩) (by (try dsimp only); omega) (.int .i64 ba)
  have y0 := b_bzF.cell 0
  have y1 := b_bzF.cell 1
  have y2 := b_bzF.cell 2
  have y3 := b_bzF.cell 3
  have y4 := b_bzF.cell 4
  have y5 := b_bzF.cell 5
  have y6 := b_bzF.cell 6
  exact bodyPost_ret (v := .tuple #[.agg #[.int .i64 ep, .int .i64 ld, .slice (some ⟨gi, 0, none⟩) is.length d1, .slice (some ⟨gk, 0, none⟩) ks.length d3, .slice (some ⟨gr, 0, none⟩) rs.length d5, .int .i64 fw, .int .i64 ba], .int .i64 0]) (by simp [results, Try.results88, go_sem, y0, y1, y2, y3, y4, y5, y6]) rfl (⟨_, _, _, rfl, k_ownF.more (by omega), hbF⟩)
theorem led_refuses {v : Value} {c : PartD} {r n : Int} {w : World} (h : Pv w v c) (hf : LedFault c r n) : Calls Try.prog 88 #[v, .int .i64 r] w (RefusesP n w) := by
  rcases hf with hf | ⟨h1, h2, h3, h4, rfl⟩
  · exact led0_bad v c r n hf w h
  · obtain ⟨i, rfl⟩ : ∃ i : Nat, r = i := ⟨r.toNat, by omega⟩
    rcases h4 with h4 | h4
    · exact led_none v c i h1 (by omega) h4 w h
    · exact led_same v c i h1 (by omega) h4 w h
set_option maxRecDepth 100000 in
set_option maxHeartbeats 4000000 in
theorem others_at (v : Value) (c : PartD) (r n : Int) (hf : AtFault c r n) (w : World) (h : Pv w v c) : Calls Try.prog 89 #[v, .int .i64 r] w fun e w' => e = .returned (.int .i64 n) ∧ Below w.heap.size w w' := by
  obtain ⟨xi, xk, xr, rfl, ix, kx, rx, hli, hlk, hlr⟩ := id h
  obtain ⟨A5, c5, rfl, hc5, -⟩ := rx.at_
  obtain ⟨A1, c1, rfl, hc1, -⟩ := ix.at_
  obtain ⟨A3, c3, rfl, hc3, -⟩ := kx.at_
  have H := Lib.hid h
  clear h ix kx rx
  unfold partV at *
  obtain ⟨ep, ld, is, ks, rs, fw, ba⟩ := c
  simp only at *
  have hn0 := hf.ne
  have n1 : (n == 0) = false := beq_eq_false_iff_ne.2 hn0
  have n2 : (n != 0) = true := by simpa using hn0
  have HF := Lib.hid hf
  clear hf hn0
  go_enter Try.func89, Try.ntmps89
  go_wp2_with fail
  have hb1 : Below w.heap.size w (w.alloc (.cells #[.int .i64 ep, .int .i64 ld, .slice A1 is.length c1, .slice A3 ks.length c3, .slice A5 rs.length c5, .int .i64 fw, .int .i64 ba] 26)) := (Below.refl _ _).alloc (by first | omega | (simp; done) | (simp; omega)) _
  have hal1 : Below w.heap.size w (w.alloc (.cells #[.int .i64 ep, .int .i64 ld, .slice A1 is.length c1, .slice A3 ks.length c3, .slice A5 rs.length c5, .int .i64 fw, .int .i64 ba] 26)) := (Below.refl _ _).alloc (by first | omega | (simp; done) | (simp; omega)) _
  have b_bx1 : Blk (w.alloc (.cells #[.int .i64 ep, .int .i64 ld, .slice A1 is.length c1, .slice A3 ks.length c3, .slice A5 rs.length c5, .int .i64 fw, .int .i64 ba] 26)) (w.heap.size) 26 #[.int .i64 ep, .int .i64 ld, .slice A1 is.length c1, .slice A3 ks.length c3, .slice A5 rs.length c5, .int .i64 fw, .int .i64 ba] := Blk.new_ _ 26 #[.int .i64 ep, .int .i64 ld, .slice A1 is.length c1, .slice A3 ks.length c3, .slice A5 rs.length c5, .int .i64 fw, .int .i64 ba] (by first | rfl | (simp; done) | (simp; omega))
  have k_v1 := H.out.below hal1
  have hz1 : w.heap.size + 1 ≤ (w.alloc (.cells #[.int .i64 ep, .int .i64 ld, .slice A1 is.length c1, .slice A3 ks.length c3, .slice A5 rs.length c5, .int .i64 fw, .int .i64 ba] 26)).heap.size := by first | omega | (simp; done) | (simp; omega)
  generalize w.alloc (.cells #[.int .i64 ep, .int .i64 ld, .slice A1 is.length c1, .slice A3 ks.length c3, .slice A5 rs.length c5, .int .i64 fw, .int .i64 ba] 26) = W1 at *
  have HB1 := Lib.hid hb1
  have B1_bx := Lib.hid b_bx1
  have K1_v := Lib.hid k_v1
  clear hb1 b_bx1 k_v1
  clear H
  refine (partFault_bad K1_v.out HF.out).mono ?_
  rintro e W2 ⟨rfl, hb⟩
  have hb2 : Below w.heap.size w W2 := below_then HB1.out hb
  have b_bx2 := B1_bx.out.below hb B1_bx.out.lt
  have k_v2 := K1_v.out.below hb
  have hz2 := hb.size
  have HB2 := Lib.hid hb2
  have B2_bx := Lib.hid b_bx2
  have K2_v := Lib.hid k_v2
  clear hb2 b_bx2 k_v2
  clear B1_bx HB1 K1_v
  go_wp2
  go_ret
  exact ⟨rfl, HB2.out⟩
set_option maxRecDepth 100000 in
set_option maxHeartbeats 4000000 in
theorem others_none (v : Value) (c : PartD) (i : Nat) (hn : PartOk c) (hi : i < c.reps.length) (hl : c.leader < 0) (w : World) (h : Pv w v c) : Calls Try.prog 89 #[v, .int .i64 i] w fun e w' => e = .returned (.int .i64 8) ∧ Below w.heap.size w w' := by
  have eqk := hn.known
  have eqi := hn.isr
  obtain ⟨xi, xk, xr, rfl, ix, kx, rx, hli, hlk, hlr⟩ := id h
  obtain ⟨A5, c5, rfl, hc5, -⟩ := rx.at_
  obtain ⟨A1, c1, rfl, hc1, -⟩ := ix.at_
  obtain ⟨A3, c3, rfl, hc3, -⟩ := kx.at_
  have H := Lib.hid h
  clear h ix kx rx
  unfold partV at *
  obtain ⟨ep, ld, is, ks, rs, fw, ba⟩ := c
  simp only at *
  have HN := Lib.hid hn
  have HSM := Lib.hid hn.small
  clear hn
  (try simp only at eqk eqi)
  have E1 := Lib.hid eqi
  have E2 := Lib.hid eqk
  have i0 : (0 : Int) ≤ (i : Int) := by omega
  have i1 : (i : Int) < (rs.length : Int) := Int.ofNat_lt.2 hi
  have i2 : (i : Int) < (is.length : Int) := by omega
  have i3 : (i : Int) < (ks.length : Int) := by omega
  have j2 : i < is.length := by omega
  have j3 : i < ks.length := by omega
  clear eqk eqi
  have y0 : decide (ld < 0) = true := decide_eq_true hl
  clear hl
  go_enter Try.func89, Try.ntmps89
  go_wp2_with fail
  have hb1 : Below w.heap.size w (w.alloc (.cells #[.int .i64 ep, .int .i64 ld, .slice A1 is.length c1, .slice A3 ks.length c3, .slice A5 rs.length c5, .int .i64 fw, .int .i64 ba] 26)) := (Below.refl _ _).alloc (by first | omega | (simp; done) | (simp; omega)) _
  have hal1 : Below w.heap.size w (w.alloc (.cells #[.int .i64 ep, .int .i64 ld, .slice A1 is.length c1, .slice A3 ks.length c3, .slice A5 rs.length c5, .int .i64 fw, .int .i64 ba] 26)) := (Below.refl _ _).alloc (by first | omega | (simp; done) | (simp; omega)) _
  have b_bx1 : Blk (w.alloc (.cells #[.int .i64 ep, .int .i64 ld, .slice A1 is.length c1, .slice A3 ks.length c3, .slice A5 rs.length c5, .int .i64 fw, .int .i64 ba] 26)) (w.heap.size) 26 #[.int .i64 ep, .int .i64 ld, .slice A1 is.length c1, .slice A3 ks.length c3, .slice A5 rs.length c5, .int .i64 fw, .int .i64 ba] := Blk.new_ _ 26 #[.int .i64 ep, .int .i64 ld, .slice A1 is.length c1, .slice A3 ks.length c3, .slice A5 rs.length c5, .int .i64 fw, .int .i64 ba] (by first | rfl | (simp; done) | (simp; omega))
  have k_v1 := H.out.below hal1
  have hz1 : w.heap.size + 1 ≤ (w.alloc (.cells #[.int .i64 ep, .int .i64 ld, .slice A1 is.length c1, .slice A3 ks.length c3, .slice A5 rs.length c5, .int .i64 fw, .int .i64 ba] 26)).heap.size := by first | omega | (simp; done) | (simp; omega)
  generalize w.alloc (.cells #[.int .i64 ep, .int .i64 ld, .slice A1 is.length c1, .slice A3 ks.length c3, .slice A5 rs.length c5, .int .i64 fw, .int .i64 ba] 26) = W1 at *
  have HB1 := Lib.hid hb1
  have B1_bx := Lib.hid b_bx1
  have K1_v := Lib.hid k_v1
  clear hb1 b_bx1 k_v1
  clear H
  refine (partFault_ok _ ⟨ep, ld, is, ks, rs, fw, ba⟩ i HN.out hi _ K1_v.out).mono ?_
  rintro e W2 ⟨rfl, hb⟩
  have hb2 : Below w.heap.size w W2 := below_then HB1.out hb
  have b_bx2 := B1_bx.out.below hb B1_bx.out.lt
  have k_v2 := K1_v.out.below hb
  have hz2 := hb.size
  have HB2 := Lib.hid hb2
  have B2_bx := Lib.hid b_bx2
  have K2_v := Lib.hid k_v2
  clear hb2 b_bx2 k_v2
  clear B1_bx HB1 K1_v
  have c_bx0 := B2_bx.out.cell 0
  have c_bx1 := B2_bx.out.cell 1
  have c_bx2 := B2_bx.out.cell 2
  have c_bx3 := B2_bx.out.cell 3
  have c_bx4 := B2_bx.out.cell 4
  have c_bx5 := B2_bx.out.cell 5
  have c_bx6 := B2_bx.out.cell 6
  have l_bx := B2_bx.out.lt
  go_wp2
  go_ret
  exact ⟨rfl, HB2.out⟩
set_option maxRecDepth 100000 in
set_option maxHeartbeats 4000000 in
theorem others_same (v : Value) (c : PartD) (i : Nat) (hn : PartOk c) (hi : i < c.reps.length) (hl : c.leader = i) (w : World) (h : Pv w v c) : Calls Try.prog 89 #[v, .int .i64 i] w fun e w' => e = .returned (.int .i64 8) ∧ Below w.heap.size w w' := by
  have eqk := hn.known
  have eqi := hn.isr
  obtain ⟨xi, xk, xr, rfl, ix, kx, rx, hli, hlk, hlr⟩ := id h
  obtain ⟨A5, c5, rfl, hc5, -⟩ := rx.at_
  obtain ⟨A1, c1, rfl, hc1, -⟩ := ix.at_
  obtain ⟨A3, c3, rfl, hc3, -⟩ := kx.at_
  have H := Lib.hid h
  clear h ix kx rx
  unfold partV at *
  obtain ⟨ep, ld, is, ks, rs, fw, ba⟩ := c
  simp only at *
  have HN := Lib.hid hn
  have HSM := Lib.hid hn.small
  clear hn
  (try simp only at eqk eqi)
  have E1 := Lib.hid eqi
  have E2 := Lib.hid eqk
  have i0 : (0 : Int) ≤ (i : Int) := by omega
  have i1 : (i : Int) < (rs.length : Int) := Int.ofNat_lt.2 hi
  have i2 : (i : Int) < (is.length : Int) := by omega
  have i3 : (i : Int) < (ks.length : Int) := by omega
  have j2 : i < is.length := by omega
  have j3 : i < ks.length := by omega
  clear eqk eqi
  have y0 : decide (ld < 0) = false := decide_eq_false (by omega)
  have y1 : (ld == (i : Int)) = true := beq_iff_eq.2 hl
  clear hl
  go_enter Try.func89, Try.ntmps89
  go_wp2_with fail
  have hb1 : Below w.heap.size w (w.alloc (.cells #[.int .i64 ep, .int .i64 ld, .slice A1 is.length c1, .slice A3 ks.length c3, .slice A5 rs.length c5, .int .i64 fw, .int .i64 ba] 26)) := (Below.refl _ _).alloc (by first | omega | (simp; done) | (simp; omega)) _
  have hal1 : Below w.heap.size w (w.alloc (.cells #[.int .i64 ep, .int .i64 ld, .slice A1 is.length c1, .slice A3 ks.length c3, .slice A5 rs.length c5, .int .i64 fw, .int .i64 ba] 26)) := (Below.refl _ _).alloc (by first | omega | (simp; done) | (simp; omega)) _
  have b_bx1 : Blk (w.alloc (.cells #[.int .i64 ep, .int .i64 ld, .slice A1 is.length c1, .slice A3 ks.length c3, .slice A5 rs.length c5, .int .i64 fw, .int .i64 ba] 26)) (w.heap.size) 26 #[.int .i64 ep, .int .i64 ld, .slice A1 is.length c1, .slice A3 ks.length c3, .slice A5 rs.length c5, .int .i64 fw, .int .i64 ba] := Blk.new_ _ 26 #[.int .i64 ep, .int .i64 ld, .slice A1 is.length c1, .slice A3 ks.length c3, .slice A5 rs.length c5, .int .i64 fw, .int .i64 ba] (by first | rfl | (simp; done) | (simp; omega))
  have k_v1 := H.out.below hal1
  have hz1 : w.heap.size + 1 ≤ (w.alloc (.cells #[.int .i64 ep, .int .i64 ld, .slice A1 is.length c1, .slice A3 ks.length c3, .slice A5 rs.length c5, .int .i64 fw, .int .i64 ba] 26)).heap.size := by first | omega | (simp; done) | (simp; omega)
  generalize w.alloc (.cells #[.int .i64 ep, .int .i64 ld, .slice A1 is.length c1, .slice A3 ks.length c3, .slice A5 rs.length c5, .int .i64 fw, .int .i64 ba] 26) = W1 at *
  have HB1 := Lib.hid hb1
  have B1_bx := Lib.hid b_bx1
  have K1_v := Lib.hid k_v1
  clear hb1 b_bx1 k_v1
  clear H
  refine (partFault_ok _ ⟨ep, ld, is, ks, rs, fw, ba⟩ i HN.out hi _ K1_v.out).mono ?_
  rintro e W2 ⟨rfl, hb⟩
  have hb2 : Below w.heap.size w W2 := below_then HB1.out hb
  have b_bx2 := B1_bx.out.below hb B1_bx.out.lt
  have k_v2 := K1_v.out.below hb
  have hz2 := hb.size
  have HB2 := Lib.hid hb2
  have B2_bx := Lib.hid b_bx2
  have K2_v := Lib.hid k_v2
  clear hb2 b_bx2 k_v2
  clear B1_bx HB1 K1_v
  have c_bx0 := B2_bx.out.cell 0
  have c_bx1 := B2_bx.out.cell 1
  have c_bx2 := B2_bx.out.cell 2
  have c_bx3 := B2_bx.out.cell 3
  have c_bx4 := B2_bx.out.cell 4
  have c_bx5 := B2_bx.out.cell 5
  have c_bx6 := B2_bx.out.cell 6
  have l_bx := B2_bx.out.lt
  go_wp2
  go_ret
  exact ⟨rfl, HB2.out⟩
set_option maxRecDepth 100000 in
set_option maxHeartbeats 4000000 in
theorem others_ok (v : Value) (c : PartD) (i : Nat) (hn : PartOk c) (hi : i < c.reps.length) (l : Nat) (hl : c.leader = l) (hll : l < c.reps.length) (hne : l ≠ i) (w : World) (h : Pv w v c) : Calls Try.prog 89 #[v, .int .i64 i] w fun e w' => e = .returned (.int .i64 0) ∧ Below w.heap.size w w' := by
  have eqk := hn.known
  have eqi := hn.isr
  obtain ⟨xi, xk, xr, rfl, ix, kx, rx, hli, hlk, hlr⟩ := id h
  obtain ⟨A5, c5, rfl, hc5, -⟩ := rx.at_
  obtain ⟨A1, c1, rfl, hc1, -⟩ := ix.at_
  obtain ⟨A3, c3, rfl, hc3, -⟩ := kx.at_
  have H := Lib.hid h
  clear h ix kx rx
  unfold partV at *
  obtain ⟨ep, ld, is, ks, rs, fw, ba⟩ := c
  simp only at *
  have HN := Lib.hid hn
  have HSM := Lib.hid hn.small
  clear hn
  (try simp only at eqk eqi)
  have E1 := Lib.hid eqi
  have E2 := Lib.hid eqk
  have i0 : (0 : Int) ≤ (i : Int) := by omega
  have i1 : (i : Int) < (rs.length : Int) := Int.ofNat_lt.2 hi
  have i2 : (i : Int) < (is.length : Int) := by omega
  have i3 : (i : Int) < (ks.length : Int) := by omega
  have j2 : i < is.length := by omega
  have j3 : i < ks.length := by omega
  clear eqk eqi
  have HL := Lib.hid hl
  have HNE := Lib.hid hne
  have y0 : decide (ld < 0) = false := decide_eq_false (by omega)
  have y1 : (ld == (i : Int)) = false := beq_eq_false_iff_ne.2 (by omega)
  have l0 : (0 : Int) ≤ ld := by omega
  have l1 : ld < (rs.length : Int) := by have : (l : Int) < (rs.length : Int) := Int.ofNat_lt.2 hll; omega
  clear hl
  go_enter Try.func89, Try.ntmps89
  go_wp2_with fail
  have hb1 : Below w.heap.size w (w.alloc (.cells #[.int .i64 ep, .int .i64 ld, .slice A1 is.length c1, .slice A3 ks.length c3, .slice A5 rs.length c5, .int .i64 fw, .int .i64 ba] 26)) := (Below.refl _ _).alloc (by first | omega | (simp; done) | (simp; omega)) _
  have hal1 : Below w.heap.size w (w.alloc (.cells #[.int .i64 ep, .int .i64 ld, .slice A1 is.length c1, .slice A3 ks.length c3, .slice A5 rs.length c5, .int .i64 fw, .int .i64 ba] 26)) := (Below.refl _ _).alloc (by first | omega | (simp; done) | (simp; omega)) _
  have b_bx1 : Blk (w.alloc (.cells #[.int .i64 ep, .int .i64 ld, .slice A1 is.length c1, .slice A3 ks.length c3, .slice A5 rs.length c5, .int .i64 fw, .int .i64 ba] 26)) (w.heap.size) 26 #[.int .i64 ep, .int .i64 ld, .slice A1 is.length c1, .slice A3 ks.length c3, .slice A5 rs.length c5, .int .i64 fw, .int .i64 ba] := Blk.new_ _ 26 #[.int .i64 ep, .int .i64 ld, .slice A1 is.length c1, .slice A3 ks.length c3, .slice A5 rs.length c5, .int .i64 fw, .int .i64 ba] (by first | rfl | (simp; done) | (simp; omega))
  have k_v1 := H.out.below hal1
  have hz1 : w.heap.size + 1 ≤ (w.alloc (.cells #[.int .i64 ep, .int .i64 ld, .slice A1 is.length c1, .slice A3 ks.length c3, .slice A5 rs.length c5, .int .i64 fw, .int .i64 ba] 26)).heap.size := by first | omega | (simp; done) | (simp; omega)
  generalize w.alloc (.cells #[.int .i64 ep, .int .i64 ld, .slice A1 is.length c1, .slice A3 ks.length c3, .slice A5 rs.length c5, .int .i64 fw, .int .i64 ba] 26) = W1 at *
  have HB1 := Lib.hid hb1
  have B1_bx := Lib.hid b_bx1
  have K1_v := Lib.hid k_v1
  clear hb1 b_bx1 k_v1
  clear H
  refine (partFault_ok _ ⟨ep, ld, is, ks, rs, fw, ba⟩ i HN.out hi _ K1_v.out).mono ?_
  rintro e W2 ⟨rfl, hb⟩
  have hb2 : Below w.heap.size w W2 := below_then HB1.out hb
  have b_bx2 := B1_bx.out.below hb B1_bx.out.lt
  have k_v2 := K1_v.out.below hb
  have hz2 := hb.size
  have HB2 := Lib.hid hb2
  have B2_bx := Lib.hid b_bx2
  have K2_v := Lib.hid k_v2
  clear hb2 b_bx2 k_v2
  clear B1_bx HB1 K1_v
  have c_bx0 := B2_bx.out.cell 0
  have c_bx1 := B2_bx.out.cell 1
  have c_bx2 := B2_bx.out.cell 2
  have c_bx3 := B2_bx.out.cell 3
  have c_bx4 := B2_bx.out.cell 4
  have c_bx5 := B2_bx.out.cell 5
  have c_bx6 := B2_bx.out.cell 6
  have l_bx := B2_bx.out.lt
  go_wp2
  go_ret
  exact ⟨rfl, HB2.out⟩
theorem others_bad {v : Value} {c : PartD} {r n : Int} {w : World} (h : Pv w v c) (hf : LedFault c r n) : Calls Try.prog 89 #[v, .int .i64 r] w fun e w' => e = .returned (.int .i64 n) ∧ Below w.heap.size w w' := by
  rcases hf with hf | ⟨h1, h2, h3, h4, rfl⟩
  · exact others_at v c r n hf w h
  · obtain ⟨i, rfl⟩ : ∃ i : Nat, r = i := ⟨r.toNat, by omega⟩
    rcases h4 with h4 | h4
    · exact others_none v c i h1 (by omega) h4 w h
    · exact others_same v c i h1 (by omega) h4 w h
end Go.Proofs.Ytpjjfnpdopdnkaa
