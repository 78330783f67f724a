/- part.Wipe, tailraceref.WipedOf. -/
import Derived.Test.YtpjjfnpdopdnkaaPartU
import Derived.Test.YtpjjfnpdopdnkaaPartV
import Derived.Deep.RegionHeld3
import Derived.Deep.DrawnRows
namespace Go.Proofs.Ytpjjfnpdopdnkaa
open Go.RowKit
attribute [local go_sem ↓] Go.wp_at_zero Go.wp_at_succ

abbrev wipedD (c : PartD) (i : Nat) : PartD := { c with isr := c.isr.set i false, reps := c.reps.set i ({ up := false, bytes := [], synced := 0, high := 0 } : RepD), known := c.known.set i 0 }
theorem PSm.wiped {c : PartD} (h : PSm c) (i : Nat) : PSm (wipedD c i) := by
  refine ⟨by simp only [List.length_set]; exact h.isr, by simp only [List.length_set]; exact h.known, by simp only [List.length_set]; exact h.reps, fun t ht => ?_⟩
  rcases mem_set_cases ht with rfl | ht
  · exact Nat.zero_le _
  · exact h.bytes t ht
theorem PO.wipe {base : Nat} {w : World} {c : PartD} {iv kv : Value} {gr cr : Nat} (h : PO base w c iv kv (.slice (some ⟨gr, 0, none⟩) c.reps.length cr)) (i : Nat) (hi : i < c.reps.length) : PO base ((((w.setCell ⟨gr, i * 4, none⟩ (.bool false)).setCell ⟨gr, i * 4 + 1, none⟩ (.slice none 0 0)).setCell ⟨gr, i * 4 + 2, none⟩ (.int .i64 0)).setCell ⟨gr, i * 4 + 3, none⟩ (.int .i64 0)) { c with reps := c.reps.set i ({ up := false, bytes := [], synced := 0, high := 0 } : RepD) } iv kv (.slice (some ⟨gr, 0, none⟩) c.reps.length cr) := by
  have h1 := h.setRep i 0 hi (.bool false) { c.reps[i] with up := false } (by decide) (fun _ => rfl) rfl
  have hl : ({ c with reps := c.reps.set i { c.reps[i] with up := false } } : PartD).reps.length = c.reps.length := by simp
  have e1 : Value.slice (some ⟨gr, 0, none⟩) c.reps.length cr = .slice (some ⟨gr, 0, none⟩) ({ c with reps := c.reps.set i { c.reps[i] with up := false } } : PartD).reps.length cr := by rw [hl]
  rw [e1] at h1
  have h2 := h1.setLog i (by rw [hl]; exact hi) (pv := .slice none 0 0) (l := []) 0 (World.ownsRow_nil _ _ _ _)
  simp only [List.set_set, List.getElem_set_self] at h2
  have hl2 : ({ c with reps := c.reps.set i { up := false, bytes := [], synced := 0, high := c.reps[i].high } } : PartD).reps.length = c.reps.length := by simp
  have e2 : Value.slice (some ⟨gr, 0, none⟩) (c.reps.set i { c.reps[i] with up := false }).length cr = .slice (some ⟨gr, 0, none⟩) ({ c with reps := c.reps.set i { up := false, bytes := [], synced := 0, high := c.reps[i].high } } : PartD).reps.length cr := by simp
  rw [e2] at h2
  have h3 := h2.setRep i 3 (by rw [hl2]; exact hi) (.int .i64 0) ({ up := false, bytes := [], synced := 0, high := 0 } : RepD) (by decide) (fun pv => by simp [rcells]) (by simp)
  simpa using h3
set_option maxRecDepth 100000 in
set_option maxHeartbeats 4000000 in
theorem wipe_bad (v : Value) (c : PartD) (r n : Int) (hf : AtFault c r n) (w : World) (h : Pv w v c) : Calls Try.prog 50 #[v, .int .i64 r] w (RefusesP n w) := by
  obtain ⟨xi, xk, xr, rfl, ix, kx, rx, hli, hlk, hlr⟩ := id h
  obtain ⟨A5, c5, rfl, hc5, -⟩ := rx.at_
  obtain ⟨A1, c1, rfl, hc1, -⟩ := ix.at_
  obtain ⟨A3, c3, rfl, hc3, -⟩ := kx.at_
  have H := Lib.hid h
  clear h ix kx rx
  unfold partV at *
  obtain ⟨ep, ld, is, ks, rs, fw, ba⟩ := c
  simp only at *
  have hn0 := hf.ne
  have n1 : (n == 0) = false := beq_eq_false_iff_ne.2 hn0
  have n2 : (n != 0) = true := by simpa using hn0
  have HF := Lib.hid hf
  clear hf hn0
  go_enter Try.func50, Try.ntmps50
  go_wp2_with fail
  have hb1 : Below w.heap.size w ((w.alloc (.cells #[.int .i64 ep, .int .i64 ld, .slice A1 is.length c1, .slice A3 ks.length c3, .slice A5 rs.length c5, .int .i64 fw, .int .i64 ba] 26)).alloc (.cells #[.int .i64 0, .int .i64 0, .slice none 0 0, .slice none 0 0, .slice none 0 0, .int .i64 0, .int .i64 0] 26)) := ((Below.refl _ _).alloc (by first | omega | (simp; done) | (simp; omega)) _).alloc (by first | omega | (simp; done) | (simp; omega)) _
  have hal1 : Below w.heap.size w ((w.alloc (.cells #[.int .i64 ep, .int .i64 ld, .slice A1 is.length c1, .slice A3 ks.length c3, .slice A5 rs.length c5, .int .i64 fw, .int .i64 ba] 26)).alloc (.cells #[.int .i64 0, .int .i64 0, .slice none 0 0, .slice none 0 0, .slice none 0 0, .int .i64 0, .int .i64 0] 26)) := ((Below.refl _ _).alloc (by first | omega | (simp; done) | (simp; omega)) _).alloc (by first | omega | (simp; done) | (simp; omega)) _
  have b_bx1 : Blk ((w.alloc (.cells #[.int .i64 ep, .int .i64 ld, .slice A1 is.length c1, .slice A3 ks.length c3, .slice A5 rs.length c5, .int .i64 fw, .int .i64 ba] 26)).alloc (.cells #[.int .i64 0, .int .i64 0, .slice none 0 0, .slice none 0 0, .slice none 0 0, .int .i64 0, .int .i64 0] 26)) (w.heap.size) 26 #[.int .i64 ep, .int .i64 ld, .slice A1 is.length c1, .slice A3 ks.length c3, .slice A5 rs.length c5, .int .i64 fw, .int .i64 ba] := (Blk.new_ _ 26 #[.int .i64 ep, .int .i64 ld, .slice A1 is.length c1, .slice A3 ks.length c3, .slice A5 rs.length c5, .int .i64 fw, .int .i64 ba] (by first | rfl | (simp; done) | (simp; omega))).alloc _
  have b_bz1 : Blk ((w.alloc (.cells #[.int .i64 ep, .int .i64 ld, .slice A1 is.length c1, .slice A3 ks.length c3, .slice A5 rs.length c5, .int .i64 fw, .int .i64 ba] 26)).alloc (.cells #[.int .i64 0, .int .i64 0, .slice none 0 0, .slice none 0 0, .slice none 0 0, .int .i64 0, .int .i64 0] 26)) (w.heap.size + 1) 26 #[.int .i64 0, .int .i64 0, .slice none 0 0, .slice none 0 0, .slice none 0 0, .int .i64 0, .int .i64 0] := Blk.new_ _ 26 #[.int .i64 0, .int .i64 0, .slice none 0 0, .slice none 0 0, .slice none 0 0, .int .i64 0, .int .i64 0] (by first | rfl | (simp; done) | (simp; omega))
  have k_v1 := H.out.below hal1
  have hz1 : w.heap.size + 2 ≤ ((w.alloc (.cells #[.int .i64 ep, .int .i64 ld, .slice A1 is.length c1, .slice A3 ks.length c3, .slice A5 rs.length c5, .int .i64 fw, .int .i64 ba] 26)).alloc (.cells #[.int .i64 0, .int .i64 0, .slice none 0 0, .slice none 0 0, .slice none 0 0, .int .i64 0, .int .i64 0] 26)).heap.size := by first | omega | (simp; done) | (simp; omega)
  generalize (w.alloc (.cells #[.int .i64 ep, .int .i64 ld, .slice A1 is.length c1, .slice A3 ks.length c3, .slice A5 rs.length c5, .int .i64 fw, .int .i64 ba] 26)).alloc (.cells #[.int .i64 0, .int .i64 0, .slice none 0 0, .slice none 0 0, .slice none 0 0, .int .i64 0, .int .i64 0] 26) = W1 at *
  have HB1 := Lib.hid hb1
  have B1_bx := Lib.hid b_bx1
  have B1_bz := Lib.hid b_bz1
  have K1_v := Lib.hid k_v1
  clear hb1 b_bx1 b_bz1 k_v1
  clear H
  refine (at_refuses K1_v.out HF.out).mono ?_
  rintro e W2 ⟨rfl, hb⟩
  have hb2 : Below w.heap.size w W2 := below_then HB1.out hb
  have b_bx2 := B1_bx.out.below hb B1_bx.out.lt
  have b_bz2 := B1_bz.out.below hb B1_bz.out.lt
  have k_v2 := K1_v.out.below hb
  have hz2 := hb.size
  have HB2 := Lib.hid hb2
  have B2_bx := Lib.hid b_bx2
  have B2_bz := Lib.hid b_bz2
  have K2_v := Lib.hid k_v2
  clear hb2 b_bx2 b_bz2 k_v2
  clear B1_bx B1_bz HB1 K1_v
  have c_bx0 := B2_bx.out.cell 0
  have f_bx0 := B2_bx.out.frozen 0
  have c_bx1 := B2_bx.out.cell 1
  have f_bx1 := B2_bx.out.frozen 1
  have c_bx2 := B2_bx.out.cell 2
  have f_bx2 := B2_bx.out.frozen 2
  have c_bx3 := B2_bx.out.cell 3
  have f_bx3 := B2_bx.out.frozen 3
  have c_bx4 := B2_bx.out.cell 4
  have f_bx4 := B2_bx.out.frozen 4
  have c_bx5 := B2_bx.out.cell 5
  have f_bx5 := B2_bx.out.frozen 5
  have c_bx6 := B2_bx.out.cell 6
  have f_bx6 := B2_bx.out.frozen 6
  have l_bx := B2_bx.out.lt
  have c_bz0 := B2_bz.out.cell 0
  have f_bz0 := B2_bz.out.frozen 0
  have c_bz1 := B2_bz.out.cell 1
  have f_bz1 := B2_bz.out.frozen 1
  have c_bz2 := B2_bz.out.cell 2
  have f_bz2 := B2_bz.out.frozen 2
  have c_bz3 := B2_bz.out.cell 3
  have f_bz3 := B2_bz.out.frozen 3
  have c_bz4 := B2_bz.out.cell 4
  have f_bz4 := B2_bz.out.frozen 4
  have c_bz5 := B2_bz.out.cell 5
  have f_bz5 := B2_bz.out.frozen 5
  have c_bz6 := B2_bz.out.cell 6
  have f_bz6 := B2_bz.out.frozen 6
  have l_bz := B2_bz.out.lt
  have hszE := HB2.out.size
  have hbE : Below w.heap.size w (((((((W2.setCell ⟨w.heap.size, 0, none⟩ (.int .i64 0)).setCell ⟨w.heap.size, 1, none⟩ (.int .i64 0)).setCell ⟨w.heap.size, 2, none⟩ (.slice none 0 0)).setCell ⟨w.heap.size, 3, none⟩ (.slice none 0 0)).setCell ⟨w.heap.size, 4, none⟩ (.slice none 0 0)).setCell ⟨w.heap.size, 5, none⟩ (.int .i64 0)).setCell ⟨w.heap.size, 6, none⟩ (.int .i64 0)) := (((((((HB2.out).setCell (by show w.heap.size ≤ w.heap.size; omega) _).setCell (by show w.heap.size ≤ w.heap.size; omega) _).setCell (by show w.heap.size ≤ w.heap.size; omega) _).setCell (by show w.heap.size ≤ w.heap.size; omega) _).setCell (by show w.heap.size ≤ w.heap.size; omega) _).setCell (by show w.heap.size ≤ w.heap.size; omega) _).setCell (by show w.heap.size ≤ w.heap.size; omega) _
  have b_bxE : Blk (((((((W2.setCell ⟨w.heap.size, 0, none⟩ (.int .i64 0)).setCell ⟨w.heap.size, 1, none⟩ (.int .i64 0)).setCell ⟨w.heap.size, 2, none⟩ (.slice none 0 0)).setCell ⟨w.heap.size, 3, none⟩ (.slice none 0 0)).setCell ⟨w.heap.size, 4, none⟩ (.slice none 0 0)).setCell ⟨w.heap.size, 5, none⟩ (.int .i64 0)).setCell ⟨w.heap.size, 6, none⟩ (.int .i64 0)) (w.heap.size) 26 #[.int .i64 0, .int .i64 0, .slice none 0 0, .slice none 0 0, .slice none 0 0, .int .i64 0, .int .i64 0] := (((((((B2_bx.out).set_ 0 _).set_ 1 _).set_ 2 _).set_ 3 _).set_ 4 _).set_ 5 _).set_ 6 _
  have b_bzE : Blk (((((((W2.setCell ⟨w.heap.size, 0, none⟩ (.int .i64 0)).setCell ⟨w.heap.size, 1, none⟩ (.int .i64 0)).setCell ⟨w.heap.size, 2, none⟩ (.slice none 0 0)).setCell ⟨w.heap.size, 3, none⟩ (.slice none 0 0)).setCell ⟨w.heap.size, 4, none⟩ (.slice none 0 0)).setCell ⟨w.heap.size, 5, none⟩ (.int .i64 0)).setCell ⟨w.heap.size, 6, none⟩ (.int .i64 0)) (w.heap.size + 1) 26 #[.int .i64 0, .int .i64 0, .slice none 0 0, .slice none 0 0, .slice none 0 0, .int .i64 0, .int .i64 0] := (((((((B2_bz.out).far (p := ⟨w.heap.size, 0, none⟩) (by show w.heap.size + 1 ≠ w.heap.size; omega) _).far (p := ⟨w.heap.size, 1, none⟩) (by show w.heap.size + 1 ≠ w.heap.size; omega) _).far (p := ⟨w.heap.size, 2, none⟩) (by show w.heap.size + 1 ≠ w.heap.size; omega) _).far (p := ⟨w.heap.size, 3, none⟩) (by show w.heap.size + 1 ≠ w.heap.size; omega) _).far (p := ⟨w.heap.size, 4, none⟩) (by show w.heap.size + 1 ≠ w.heap.size; omega) _).far (p := ⟨w.heap.size, 5, none⟩) (by show w.heap.size + 1 ≠ w.heap.size; omega) _).far (p := ⟨w.heap.size, 6, none⟩) (by show w.heap.size + 1 ≠ w.heap.size; omega) _
  have z0 := b_bzE.cell 0
  have zf0 := b_bzE.frozen 0
  have z1 := b_bzE.cell 1
  have zf1 := b_bzE.frozen 1
  have z2 := b_bzE.cell 2
  have zf2 := b_bzE.frozen 2
  have z3 := b_bzE.cell 3
  have zf3 := b_bzE.frozen 3
  have z4 := b_bzE.cell 4
  have zf4 := b_bzE.frozen 4
  have z5 := b_bzE.cell 5
  have zf5 := b_bzE.frozen 5
  have z6 := b_bzE.cell 6
  have zf6 := b_bzE.frozen 6
  have zl := b_bzE.lt
  clear b_bxE b_bzE hbE
  go_wp2_with fail
  clear c_bx0 f_bx0 c_bx1 f_bx1 c_bx2 f_bx2 c_bx3 f_bx3 c_bx4 f_bx4 c_bx5 f_bx5 c_bx6 f_bx6 l_bx c_bz0 f_bz0 c_bz1 f_bz1 c_bz2 f_bz2 c_bz3 f_bz3 c_bz4 f_bz4 c_bz5 f_bz5 c_bz6 f_bz6 l_bz
  have hszF := HB2.out.size
  have hbF : Below w.heap.size w ((((((((((((((W2.setCell ⟨w.heap.size, 0, none⟩ (.int .i64 0)).setCell ⟨w.heap.size, 1, none⟩ (.int .i64 0)).setCell ⟨w.heap.size, 2, none⟩ (.slice none 0 0)).setCell ⟨w.heap.size, 3, none⟩ (.slice none 0 0)).setCell ⟨w.heap.size, 4, none⟩ (.slice none 0 0)).setCell ⟨w.heap.size, 5, none⟩ (.int .i64 0)).setCell ⟨w.heap.size, 6, none⟩ (.int .i64 0)).setCell ⟨w.heap.size + 1, 0, none⟩ (.int .i64 0)).setCell ⟨w.heap.size + 1, 1, none⟩ (.int .i64 0)).setCell ⟨w.heap.size + 1, 2, none⟩ (.slice none 0 0)).setCell ⟨w.heap.size + 1, 3, none⟩ (.slice none 0 0)).setCell ⟨w.heap.size + 1, 4, none⟩ (.slice none 0 0)).setCell ⟨w.heap.size + 1, 5, none⟩ (.int .i64 0)).setCell ⟨w.heap.size + 1, 6, none⟩ (.int .i64 0)) := ((((((((((((((HB2.out).setCell (by show w.heap.size ≤ w.heap.size; omega) _).setCell (by show w.heap.size ≤ w.heap.size; omega) _).setCell (by show w.heap.size ≤ w.heap.size; omega) _).setCell (by show w.heap.size ≤ w.heap.size; omega) _).setCell (by show w.heap.size ≤ w.heap.size; omega) _).setCell (by show w.heap.size ≤ w.heap.size; omega) _).setCell (by show w.heap.size ≤ w.heap.size; omega) _).setCell (by show w.heap.size ≤ w.heap.size + 1; omega) _).setCell (by show w.heap.size ≤ w.heap.size + 1; omega) _).setCell (by show w.heap.size ≤ w.heap.size + 1; omega) _).setCell (by show w.heap.size ≤ w.heap.size + 1; omega) _).setCell (by show w.heap.size ≤ w.heap.size + 1; omega) _).setCell (by show w.heap.size ≤ w.heap.size + 1; omega) _).setCell (by show w.heap.size ≤ w.heap.size + 1; omega) _
  have b_bxF : Blk ((((((((((((((W2.setCell ⟨w.heap.size, 0, none⟩ (.int .i64 0)).setCell ⟨w.heap.size, 1, none⟩ (.int .i64 0)).setCell ⟨w.heap.size, 2, none⟩ (.slice none 0 0)).setCell ⟨w.heap.size, 3, none⟩ (.slice none 0 0)).setCell ⟨w.heap.size, 4, none⟩ (.slice none 0 0)).setCell ⟨w.heap.size, 5, none⟩ (.int .i64 0)).setCell ⟨w.heap.size, 6, none⟩ (.int .i64 0)).setCell ⟨w.heap.size + 1, 0, none⟩ (.int .i64 0)).setCell ⟨w.heap.size + 1, 1, none⟩ (.int .i64 0)).setCell ⟨w.heap.size + 1, 2, none⟩ (.slice none 0 0)).setCell ⟨w.heap.size + 1, 3, none⟩ (.slice none 0 0)).setCell ⟨w.heap.size + 1, 4, none⟩ (.slice none 0 0)).setCell ⟨w.heap.size + 1, 5, none⟩ (.int .i64 0)).setCell ⟨w.heap.size + 1, 6, none⟩ (.int .i64 0)) (w.heap.size) 26 #[.int .i64 0, .int .i64 0, .slice none 0 0, .slice none 0 0, .slice none 0 0, .int .i64 0, .int .i64 0] := ((((((((((((((B2_bx.out).set_ 0 _).set_ 1 _).set_ 2 _).set_ 3 _).set_ 4 _).set_ 5 _).set_ 6 _).far (p := ⟨w.heap.size + 1, 0, none⟩) (by show w.heap.size ≠ w.heap.size + 1; omega) _).far (p := ⟨w.heap.size + 1, 1, none⟩) (by show w.heap.size ≠ w.heap.size + 1; omega) _).far (p := ⟨w.heap.size + 1, 2, none⟩) (by show w.heap.size ≠ w.heap.size + 1; omega) _).far (p := ⟨w.heap.size + 1, 3, none⟩) (by show w.heap.size ≠ w.heap.size + 1; omega) _).far (p := ⟨w.heap.size + 1, 4, none⟩) (by show w.heap.size ≠ w.heap.size + 1; omega) _).far (p := ⟨w.heap.size + 1, 5, none⟩) (by show w.heap.size ≠ w.heap.size + 1; omega) _).far (p := ⟨w.heap.size + 1, 6, none⟩) (by show w.heap.size ≠ w.heap.size + 1; omega) _
  have b_bzF : Blk ((((((((((((((W2.setCell ⟨w.heap.size, 0, none⟩ (.int .i64 0)).setCell ⟨w.heap.size, 1, none⟩ (.int .i64 0)).setCell ⟨w.heap.size, 2, none⟩ (.slice none 0 0)).setCell ⟨w.heap.size, 3, none⟩ (.slice none 0 0)).setCell ⟨w.heap.size, 4, none⟩ (.slice none 0 0)).setCell ⟨w.heap.size, 5, none⟩ (.int .i64 0)).setCell ⟨w.heap.size, 6, none⟩ (.int .i64 0)).setCell ⟨w.heap.size + 1, 0, none⟩ (.int .i64 0)).setCell ⟨w.heap.size + 1, 1, none⟩ (.int .i64 0)).setCell ⟨w.heap.size + 1, 2, none⟩ (.slice none 0 0)).setCell ⟨w.heap.size + 1, 3, none⟩ (.slice none 0 0)).setCell ⟨w.heap.size + 1, 4, none⟩ (.slice none 0 0)).setCell ⟨w.heap.size + 1, 5, none⟩ (.int .i64 0)).setCell ⟨w.heap.size + 1, 6, none⟩ (.int .i64 0)) (w.heap.size + 1) 26 #[.int .i64 0, .int .i64 0, .slice none 0 0, .slice none 0 0, .slice none 0 0, .int .i64 0, .int .i64 0] := ((((((((((((((B2_bz.out).far (p := ⟨w.heap.size, 0, none⟩) (by show w.heap.size + 1 ≠ w.heap.size; omega) _).far (p := ⟨w.heap.size, 1, none⟩) (by show w.heap.size + 1 ≠ w.heap.size; omega) _).far (p := ⟨w.heap.size, 2, none⟩) (by show w.heap.size + 1 ≠ w.heap.size; omega) _).far (p := ⟨w.heap.size, 3, none⟩) (by show w.heap.size + 1 ≠ w.heap.size; omega) _).far (p := ⟨w.heap.size, 4, none⟩) (by show w.heap.size + 1 ≠ w.heap.size; omega) _).far (p := ⟨w.heap.size, 5, none⟩) (by show w.heap.size + 1 ≠ w.heap.size; omega) _).far (p := ⟨w.heap.size, 6, none⟩) (by show w.heap.size + 1 ≠ w.heap.size; omega) _).set_ 0 _).set_ 1 _).set_ 2 _).set_ 3 _).set_ 4 _).set_ 5 _).set_ 6 _
  have y0 := b_bzF.cell 0
  have y1 := b_bzF.cell 1
  have y2 := b_bzF.cell 2
  have y3 := b_bzF.cell 3
  have y4 := b_bzF.cell 4
  have y5 := b_bzF.cell 5
  have y6 := b_bzF.cell 6
  exact bodyPost_ret (v := .tuple #[.agg #[.int .i64 0, .int .i64 0, .slice none 0 0, .slice none 0 0, .slice none 0 0, .int .i64 0, .int .i64 0], .int .i64 n]) (by simp [results, Try.results50, go_sem, y0, y1, y2, y3, y4, y5, y6]) rfl (⟨rfl, hbF⟩)
set_option maxRecDepth 100000 in
set_option maxHeartbeats 4000000 in
theorem wipe_up (v : Value) (c : PartD) (i : Nat) (hn : PartOk c) (hi : i < c.reps.length) (hu : c.reps[i].up = true) (w : World) (h : Pv w v c) : Calls Try.prog 50 #[v, .int .i64 i] w (RefusesP 12 w) := by
  have eqk := hn.known
  have eqi := hn.isr
  obtain ⟨xi, xk, xr, rfl, ix, kx, rx, hli, hlk, hlr⟩ := id h
  obtain ⟨A5, c5, rfl, hc5, -⟩ := rx.at_
  obtain ⟨A1, c1, rfl, hc1, -⟩ := ix.at_
  obtain ⟨A3, c3, rfl, hc3, -⟩ := kx.at_
  have H := Lib.hid h
  clear h ix kx rx
  unfold partV at *
  obtain ⟨ep, ld, is, ks, rs, fw, ba⟩ := c
  simp only at *
  have HN := Lib.hid hn
  have HSM := Lib.hid hn.small
  clear hn
  (try simp only at eqk eqi)
  have E1 := Lib.hid eqi
  have E2 := Lib.hid eqk
  have i0 : (0 : Int) ≤ (i : Int) := by omega
  have i1 : (i : Int) < (rs.length : Int) := Int.ofNat_lt.2 hi
  have i2 : (i : Int) < (is.length : Int) := by omega
  have i3 : (i : Int) < (ks.length : Int) := by omega
  have j2 : i < is.length := by omega
  have j3 : i < ks.length := by omega
  clear eqk eqi
  have hup : rs[i].up = true := hu
  have HU := Lib.hid hup
  clear hu hup
  go_enter Try.func50, Try.ntmps50
  go_wp2_with fail
  have hb1 : Below w.heap.size w ((w.alloc (.cells #[.int .i64 ep, .int .i64 ld, .slice A1 is.length c1, .slice A3 ks.length c3, .slice A5 rs.length c5, .int .i64 fw, .int .i64 ba] 26)).alloc (.cells #[.int .i64 0, .int .i64 0, .slice none 0 0, .slice none 0 0, .slice none 0 0, .int .i64 0, .int .i64 0] 26)) := ((Below.refl _ _).alloc (by first | omega | (simp; done) | (simp; omega)) _).alloc (by first | omega | (simp; done) | (simp; omega)) _
  have hal1 : Below w.heap.size w ((w.alloc (.cells #[.int .i64 ep, .int .i64 ld, .slice A1 is.length c1, .slice A3 ks.length c3, .slice A5 rs.length c5, .int .i64 fw, .int .i64 ba] 26)).alloc (.cells #[.int .i64 0, .int .i64 0, .slice none 0 0, .slice none 0 0, .slice none 0 0, .int .i64 0, .int .i64 0] 26)) := ((Below.refl _ _).alloc (by first | omega | (simp; done) | (simp; omega)) _).alloc (by first | omega | (simp; done) | (simp; omega)) _
  have b_bx1 : Blk ((w.alloc (.cells #[.int .i64 ep, .int .i64 ld, .slice A1 is.length c1, .slice A3 ks.length c3, .slice A5 rs.length c5, .int .i64 fw, .int .i64 ba] 26)).alloc (.cells #[.int .i64 0, .int .i64 0, .slice none 0 0, .slice none 0 0, .slice none 0 0, .int .i64 0, .int .i64 0] 26)) (w.heap.size) 26 #[.int .i64 ep, .int .i64 ld, .slice A1 is.length c1, .slice A3 ks.length c3, .slice A5 rs.length c5, .int .i64 fw, .int .i64 ba] := (Blk.new_ _ 26 #[.int .i64 ep, .int .i64 ld, .slice A1 is.length c1, .slice A3 ks.length c3, .slice A5 rs.length c5, .int .i64 fw, .int .i64 ba] (by first | rfl | (simp; done) | (simp; omega))).alloc _
  have b_bz1 : Blk ((w.alloc (.cells #[.int .i64 ep, .int .i64 ld, .slice A1 is.length c1, .slice A3 ks.length c3, .slice A5 rs.length c5, .int .i64 fw, .int .i64 ba] 26)).alloc (.cells #[.int .i64 0, .int .i64 0, .slice none 0 0, .slice none 0 0, .slice none 0 0, .int .i64 0, .int .i64 0] 26)) (w.heap.size + 1) 26 #[.int .i64 0, .int .i64 0, .slice none 0 0, .slice none 0 0, .slice none 0 0, .int .i64 0, .int .i64 0] := Blk.new_ _ 26 #[.int .i64 0, .int .i64 0, .slice none 0 0, .slice none 0 0, .slice none 0 0, .int .i64 0, .int .i64 0] (by first | rfl | (simp; done) | (simp; omega))
  have k_v1 := H.out.below hal1
  have hz1 : w.heap.size + 2 ≤ ((w.alloc (.cells #[.int .i64 ep, .int .i64 ld, .slice A1 is.length c1, .slice A3 ks.length c3, .slice A5 rs.length c5, .int .i64 fw, .int .i64 ba] 26)).alloc (.cells #[.int .i64 0, .int .i64 0, .slice none 0 0, .slice none 0 0, .slice none 0 0, .int .i64 0, .int .i64 0] 26)).heap.size := by first | omega | (simp; done) | (simp; omega)
  generalize (w.alloc (.cells #[.int .i64 ep, .int .i64 ld, .slice A1 is.length c1, .slice A3 ks.length c3, .slice A5 rs.length c5, .int .i64 fw, .int .i64 ba] 26)).alloc (.cells #[.int .i64 0, .int .i64 0, .slice none 0 0, .slice none 0 0, .slice none 0 0, .int .i64 0, .int .i64 0] 26) = W1 at *
  have HB1 := Lib.hid hb1
  have B1_bx := Lib.hid b_bx1
  have B1_bz := Lib.hid b_bz1
  have K1_v := Lib.hid k_v1
  clear hb1 b_bx1 b_bz1 k_v1
  clear H
  refine (at_good _ ⟨ep, ld, is, ks, rs, fw, ba⟩ i HN.out hi _ K1_v.out).mono ?_
  rintro e W2 ⟨iv, kv, rv, rfl, ho, hb⟩
  obtain ⟨gi, d1, gk, d3, gr, d5, rfl, rfl, rfl, hgi, hgk, hgr, hgi', hgk', hgr'⟩ := ho.rows (by have := HN.out.isr; have := HN.out.many; simp only at *; omega) (by have := HN.out.known; have := HN.out.many; simp only at *; omega) (by have := HN.out.many; simp only at *; omega)
  unfold partV
  simp only at *
  have HO := Lib.hid ho
  clear ho
  have hb2 : Below w.heap.size w W2 := below_then HB1.out hb
  have b_bx2 := B1_bx.out.below hb B1_bx.out.lt
  have b_bz2 := B1_bz.out.below hb B1_bz.out.lt
  have k_v2 := K1_v.out.below hb
  have hz2 := hb.size
  have HB2 := Lib.hid hb2
  have B2_bx := Lib.hid b_bx2
  have B2_bz := Lib.hid b_bz2
  have K2_v := Lib.hid k_v2
  clear hb2 b_bx2 b_bz2 k_v2
  clear B1_bx B1_bz HB1 K1_v
  have c_bx0 := B2_bx.out.cell 0
  have f_bx0 := B2_bx.out.frozen 0
  have c_bx1 := B2_bx.out.cell 1
  have f_bx1 := B2_bx.out.frozen 1
  have c_bx2 := B2_bx.out.cell 2
  have f_bx2 := B2_bx.out.frozen 2
  have c_bx3 := B2_bx.out.cell 3
  have f_bx3 := B2_bx.out.frozen 3
  have c_bx4 := B2_bx.out.cell 4
  have f_bx4 := B2_bx.out.frozen 4
  have c_bx5 := B2_bx.out.cell 5
  have f_bx5 := B2_bx.out.frozen 5
  have c_bx6 := B2_bx.out.cell 6
  have f_bx6 := B2_bx.out.frozen 6
  have l_bx := B2_bx.out.lt
  go_upto_region 2 with fail
  clear c_bx0 f_bx0 c_bx1 f_bx1 c_bx2 f_bx2 c_bx3 f_bx3 c_bx4 f_bx4 c_bx5 f_bx5 c_bx6 f_bx6 l_bx
  have hsz3 := HB2.out.size
  have hb3 : Below w.heap.size w (((((((W2.setCell ⟨w.heap.size, 0, none⟩ (.int .i64 ep)).setCell ⟨w.heap.size, 1, none⟩ (.int .i64 ld)).setCell ⟨w.heap.size, 2, none⟩ (.slice (some ⟨gi, 0, none⟩) is.length d1)).setCell ⟨w.heap.size, 3, none⟩ (.slice (some ⟨gk, 0, none⟩) ks.length d3)).setCell ⟨w.heap.size, 4, none⟩ (.slice (some ⟨gr, 0, none⟩) rs.length d5)).setCell ⟨w.heap.size, 5, none⟩ (.int .i64 fw)).setCell ⟨w.heap.size, 6, none⟩ (.int .i64 ba)) := (((((((HB2.out).setCell (by show w.heap.size ≤ w.heap.size; omega) _).setCell (by show w.heap.size ≤ w.heap.size; omega) _).setCell (by show w.heap.size ≤ w.heap.size; omega) _).setCell (by show w.heap.size ≤ w.heap.size; omega) _).setCell (by show w.heap.size ≤ w.heap.size; omega) _).setCell (by show w.heap.size ≤ w.heap.size; omega) _).setCell (by show w.heap.size ≤ w.heap.size; omega) _
  have b_bx3 : Blk (((((((W2.setCell ⟨w.heap.size, 0, none⟩ (.int .i64 ep)).setCell ⟨w.heap.size, 1, none⟩ (.int .i64 ld)).setCell ⟨w.heap.size, 2, none⟩ (.slice (some ⟨gi, 0, none⟩) is.length d1)).setCell ⟨w.heap.size, 3, none⟩ (.slice (some ⟨gk, 0, none⟩) ks.length d3)).setCell ⟨w.heap.size, 4, none⟩ (.slice (some ⟨gr, 0, none⟩) rs.length d5)).setCell ⟨w.heap.size, 5, none⟩ (.int .i64 fw)).setCell ⟨w.heap.size, 6, none⟩ (.int .i64 ba)) (w.heap.size) 26 #[.int .i64 ep, .int .i64 ld, .slice (some ⟨gi, 0, none⟩) is.length d1, .slice (some ⟨gk, 0, none⟩) ks.length d3, .slice (some ⟨gr, 0, none⟩) rs.length d5, .int .i64 fw, .int .i64 ba] := (((((((B2_bx.out).set_ 0 _).set_ 1 _).set_ 2 _).set_ 3 _).set_ 4 _).set_ 5 _).set_ 6 _
  have b_bz3 : Blk (((((((W2.setCell ⟨w.heap.size, 0, none⟩ (.int .i64 ep)).setCell ⟨w.heap.size, 1, none⟩ (.int .i64 ld)).setCell ⟨w.heap.size, 2, none⟩ (.slice (some ⟨gi, 0, none⟩) is.length d1)).setCell ⟨w.heap.size, 3, none⟩ (.slice (some ⟨gk, 0, none⟩) ks.length d3)).setCell ⟨w.heap.size, 4, none⟩ (.slice (some ⟨gr, 0, none⟩) rs.length d5)).setCell ⟨w.heap.size, 5, none⟩ (.int .i64 fw)).setCell ⟨w.heap.size, 6, none⟩ (.int .i64 ba)) (w.heap.size + 1) 26 #[.int .i64 0, .int .i64 0, .slice none 0 0, .slice none 0 0, .slice none 0 0, .int .i64 0, .int .i64 0] := (((((((B2_bz.out).far (p := ⟨w.heap.size, 0, none⟩) (by show w.heap.size + 1 ≠ w.heap.size; omega) _).far (p := ⟨w.heap.size, 1, none⟩) (by show w.heap.size + 1 ≠ w.heap.size; omega) _).far (p := ⟨w.heap.size, 2, none⟩) (by show w.heap.size + 1 ≠ w.heap.size; omega) _).far (p := ⟨w.heap.size, 3, none⟩) (by show w.heap.size + 1 ≠ w.heap.size; omega) _).far (p := ⟨w.heap.size, 4, none⟩) (by show w.heap.size + 1 ≠ w.heap.size; omega) _).far (p := ⟨w.heap.size, 5, none⟩) (by show w.heap.size + 1 ≠ w.heap.size; omega) _).far (p := ⟨w.heap.size, 6, none⟩) (by show w.heap.size + 1 ≠ w.heap.size; omega) _
  have k_own3 := (((((((HO.out).under (a := ⟨w.heap.size, 0, none⟩) (by (try dsimp only); omega) (.int .i64 ep)).under (a := ⟨w.heap.size, 1, none⟩) (by (try dsimp only); omega) (.int .i64 ld)).under (a := ⟨w.heap.size, 2, none⟩) (by (try dsimp only); omega) (.slice (some ⟨gi, 0, none⟩) is.length d1)).under (a := ⟨w.heap.size, 3, none⟩) (by (try dsimp only); omega) (.slice (some ⟨gk, 0, none⟩) ks.length d3)).under (a := ⟨w.heap.size, 4, none⟩) (by (try dsimp only); omega) (.slice (some ⟨gr, 0, none⟩) rs.length d5)).under (a := ⟨w.heap.size, 5, none⟩) (by (try dsimp only); omega) (.int .i64 fw)).under (a := ⟨w.heap.size, 6, none⟩) (by (try dsimp only); omega) (.int .i64 ba)
  have hz3 : W2.heap.size + 0 ≤ (((((((W2.setCell ⟨w.heap.size, 0, none⟩ (.int .i64 ep)).setCell ⟨w.heap.size, 1, none⟩ (.int .i64 ld)).setCell ⟨w.heap.size, 2, none⟩ (.slice (some ⟨gi, 0, none⟩) is.length d1)).setCell ⟨w.heap.size, 3, none⟩ (.slice (some ⟨gk, 0, none⟩) ks.length d3)).setCell ⟨w.heap.size, 4, none⟩ (.slice (some ⟨gr, 0, none⟩) rs.length d5)).setCell ⟨w.heap.size, 5, none⟩ (.int .i64 fw)).setCell ⟨w.heap.size, 6, none⟩ (.int .i64 ba)).heap.size := by first | omega | (simp; done) | (simp; omega)
  generalize ((((((W2.setCell ⟨w.heap.size, 0, none⟩ (.int .i64 ep)).setCell ⟨w.heap.size, 1, none⟩ (.int .i64 ld)).setCell ⟨w.heap.size, 2, none⟩ (.slice (some ⟨gi, 0, none⟩) is.length d1)).setCell ⟨w.heap.size, 3, none⟩ (.slice (some ⟨gk, 0, none⟩) ks.length d3)).setCell ⟨w.heap.size, 4, none⟩ (.slice (some ⟨gr, 0, none⟩) rs.length d5)).setCell ⟨w.heap.size, 5, none⟩ (.int .i64 fw)).setCell ⟨w.heap.size, 6, none⟩ (.int .i64 ba) = W3 at *
  have HB3 := Lib.hid hb3
  have B3_bx := Lib.hid b_bx3
  have B3_bz := Lib.hid b_bz3
  have K3_own := Lib.hid k_own3
  clear hb3 b_bx3 b_bz3 k_own3
  clear B2_bx B2_bz HB2 HO
  have c_bx0 := B3_bx.out.cell 0
  have c_bx1 := B3_bx.out.cell 1
  have c_bx2 := B3_bx.out.cell 2
  have c_bx3 := B3_bx.out.cell 3
  have c_bx4 := B3_bx.out.cell 4
  have c_bx5 := B3_bx.out.cell 5
  have c_bx6 := B3_bx.out.cell 6
  have l_bx := B3_bx.out.lt
  have c_bz0 := B3_bz.out.cell 0
  have f_bz0 := B3_bz.out.frozen 0
  have c_bz1 := B3_bz.out.cell 1
  have f_bz1 := B3_bz.out.frozen 1
  have c_bz2 := B3_bz.out.cell 2
  have f_bz2 := B3_bz.out.frozen 2
  have c_bz3 := B3_bz.out.cell 3
  have f_bz3 := B3_bz.out.frozen 3
  have c_bz4 := B3_bz.out.cell 4
  have f_bz4 := B3_bz.out.frozen 4
  have c_bz5 := B3_bz.out.cell 5
  have f_bz5 := B3_bz.out.frozen 5
  have c_bz6 := B3_bz.out.cell 6
  have f_bz6 := B3_bz.out.frozen 6
  have l_bz := B3_bz.out.lt
  obtain ⟨A7, c7, ⟨r0, r1, r2, r3⟩, ⟨rf0, rf1, rf2, rf3⟩, rby⟩ := K3_own.out.repAt i hi
  obtain ⟨s0, sf0⟩ := K3_own.out.isrAt i j2
  obtain ⟨t0, tf0⟩ := K3_own.out.knownAt i j3
  (try simp only at r0 r1 r2 r3 rby s0 t0)
  rw [HU.out] at r0
  go_wp2_with fail
  clear c_bx0 c_bx1 c_bx2 c_bx3 c_bx4 c_bx5 c_bx6 l_bx c_bz0 f_bz0 c_bz1 f_bz1 c_bz2 f_bz2 c_bz3 f_bz3 c_bz4 f_bz4 c_bz5 f_bz5 c_bz6 f_bz6 l_bz r0 r1 r2 r3 rf0 rf1 rf2 rf3 rby s0 sf0 t0 tf0
  have hszF := HB3.out.size
  have hbF : Below w.heap.size w (((((((W3.setCell ⟨w.heap.size + 1, 0, none⟩ (.int .i64 0)).setCell ⟨w.heap.size + 1, 1, none⟩ (.int .i64 0)).setCell ⟨w.heap.size + 1, 2, none⟩ (.slice none 0 0)).setCell ⟨w.heap.size + 1, 3, none⟩ (.slice none 0 0)).setCell ⟨w.heap.size + 1, 4, none⟩ (.slice none 0 0)).setCell ⟨w.heap.size + 1, 5, none⟩ (.int .i64 0)).setCell ⟨w.heap.size + 1, 6, none⟩ (.int .i64 0)) := (((((((HB3.out).setCell (by show w.heap.size ≤ w.heap.size + 1; omega) _).setCell (by show w.heap.size ≤ w.heap.size + 1; omega) _).setCell (by show w.heap.size ≤ w.heap.size + 1; omega) _).setCell (by show w.heap.size ≤ w.heap.size + 1; omega) _).setCell (by show w.heap.size ≤ w.heap.size + 1; omega) _).setCell (by show w.heap.size ≤ w.heap.size + 1; omega) _).setCell (by show w.heap.size ≤ w.heap.size + 1; omega) _
  have b_bxF : Blk (((((((W3.setCell ⟨w.heap.size + 1, 0, none⟩ (.int .i64 0)).setCell ⟨w.heap.size + 1, 1, none⟩ (.int .i64 0)).setCell ⟨w.heap.size + 1, 2, none⟩ (.slice none 0 0)).setCell ⟨w.heap.size + 1, 3, none⟩ (.slice none 0 0)).setCell ⟨w.heap.size + 1, 4, none⟩ (.slice none 0 0)).setCell ⟨w.heap.size + 1, 5, none⟩ (.int .i64 0)).setCell ⟨w.heap.size + 1, 6, none⟩ (.int .i64 0)) (w.heap.size) 26 #[.int .i64 ep, .int .i64 ld, .slice (some ⟨gi, 0, none⟩) is.length d1, .slice (some ⟨gk, 0, none⟩) ks.length d3, .slice (some ⟨gr, 0, none⟩) rs.length d5, .int .i64 fw, .int .i64 ba] := (((((((B3_bx.out).far (p := ⟨w.heap.size + 1, 0, none⟩) (by show w.heap.size ≠ w.heap.size + 1; omega) _).far (p := ⟨w.heap.size + 1, 1, none⟩) (by show w.heap.size ≠ w.heap.size + 1; omega) _).far (p := ⟨w.heap.size + 1, 2, none⟩) (by show w.heap.size ≠ w.heap.size + 1; omega) _).far (p := ⟨w.heap.size + 1, 3, none⟩) (by show w.heap.size ≠ w.heap.size + 1; omega) _).far (p := ⟨w.heap.size + 1, 4, none⟩) (by show w.heap.size ≠ w.heap.size + 1; omega) _).far (p := ⟨w.heap.size + 1, 5, none⟩) (by show w.heap.size ≠ w.heap.size + 1; omega) _).far (p := ⟨w.heap.size + 1, 6, none⟩) (by show w.heap.size ≠ w.heap.size + 1; omega) _
  have b_bzF : Blk (((((((W3.setCell ⟨w.heap.size + 1, 0, none⟩ (.int .i64 0)).setCell ⟨w.heap.size + 1, 1, none⟩ (.int .i64 0)).setCell ⟨w.heap.size + 1, 2, none⟩ (.slice none 0 0)).setCell ⟨w.heap.size + 1, 3, none⟩ (.slice none 0 0)).setCell ⟨w.heap.size + 1, 4, none⟩ (.slice none 0 0)).setCell ⟨w.heap.size + 1, 5, none⟩ (.int .i64 0)).setCell ⟨w.heap.size + 1, 6, none⟩ (.int .i64 0)) (w.heap.size + 1) 26 #[.int .i64 0, .int .i64 0, .slice none 0 0, .slice none 0 0, .slice none 0 0, .int .i64 0, .int .i64 0] := (((((((B3_bz.out).set_ 0 _).set_ 1 _).set_ 2 _).set_ 3 _).set_ 4 _).set_ 5 _).set_ 6 _
  have y0 := b_bzF.cell 0
  have y1 := b_bzF.cell 1
  have y2 := b_bzF.cell 2
  have y3 := b_bzF.cell 3
  have y4 := b_bzF.cell 4
  have y5 := b_bzF.cell 5
  have y6 := b_bzF.cell 6
  exact bodyPost_ret (v := .tuple #[.agg #[.int .i64 0, .int .i64 0, .slice none 0 0, .slice none 0 0, .slice none 0 0, .int .i64 0, .int .i64 0], .int .i64 12]) (by simp [results, Try.results50, go_sem, y0, y1, y2, y3, y4, y5, y6]) rfl (⟨rfl, hbF⟩)
set_option maxRecDepth 100000 in
set_option maxHeartbeats 4000000 in
theorem wipe_last (v : Value) (c : PartD) (i : Nat) (hn : PartOk c) (hi : i < c.reps.length) (hu : c.reps[i].up = false) (hq : ¬ true ∈ c.isr.set i false) (w : World) (h : Pv w v c) : Calls Try.prog 50 #[v, .int .i64 i] w (RefusesP 8 w) := by
  have eqk := hn.known
  have eqi := hn.isr
  obtain ⟨xi, xk, xr, rfl, ix, kx, rx, hli, hlk, hlr⟩ := id h
  obtain ⟨A5, c5, rfl, hc5, -⟩ := rx.at_
  obtain ⟨A1, c1, rfl, hc1, -⟩ := ix.at_
  obtain ⟨A3, c3, rfl, hc3, -⟩ := kx.at_
  have H := Lib.hid h
  clear h ix kx rx
  unfold partV at *
  obtain ⟨ep, ld, is, ks, rs, fw, ba⟩ := c
  simp only at *
  have HN := Lib.hid hn
  have HSM := Lib.hid hn.small
  clear hn
  (try simp only at eqk eqi)
  have E1 := Lib.hid eqi
  have E2 := Lib.hid eqk
  have i0 : (0 : Int) ≤ (i : Int) := by omega
  have i1 : (i : Int) < (rs.length : Int) := Int.ofNat_lt.2 hi
  have i2 : (i : Int) < (is.length : Int) := by omega
  have i3 : (i : Int) < (ks.length : Int) := by omega
  have j2 : i < is.length := by omega
  have j3 : i < ks.length := by omega
  clear eqk eqi
  have hup : rs[i].up = false := hu
  have HU := Lib.hid hup
  clear hu hup
  have HQ := Lib.hid hq
  clear hq
  go_enter Try.func50, Try.ntmps50
  go_wp2_with fail
  have hb1 : Below w.heap.size w ((w.alloc (.cells #[.int .i64 ep, .int .i64 ld, .slice A1 is.length c1, .slice A3 ks.length c3, .slice A5 rs.length c5, .int .i64 fw, .int .i64 ba] 26)).alloc (.cells #[.int .i64 0, .int .i64 0, .slice none 0 0, .slice none 0 0, .slice none 0 0, .int .i64 0, .int .i64 0] 26)) := ((Below.refl _ _).alloc (by first | omega | (simp; done) | (simp; omega)) _).alloc (by first | omega | (simp; done) | (simp; omega)) _
  have hal1 : Below w.heap.size w ((w.alloc (.cells #[.int .i64 ep, .int .i64 ld, .slice A1 is.length c1, .slice A3 ks.length c3, .slice A5 rs.length c5, .int .i64 fw, .int .i64 ba] 26)).alloc (.cells #[.int .i64 0, .int .i64 0, .slice none 0 0, .slice none 0 0, .slice none 0 0, .int .i64 0, .int .i64 0] 26)) := ((Below.refl _ _).alloc (by first | omega | (simp; done) | (simp; omega)) _).alloc (by first | omega | (simp; done) | (simp; omega)) _
  have b_bx1 : Blk ((w.alloc (.cells #[.int .i64 ep, .int .i64 ld, .slice A1 is.length c1, .slice A3 ks.length c3, .slice A5 rs.length c5, .int .i64 fw, .int .i64 ba] 26)).alloc (.cells #[.int .i64 0, .int .i64 0, .slice none 0 0, .slice none 0 0, .slice none 0 0, .int .i64 0, .int .i64 0] 26)) (w.heap.size) 26 #[.int .i64 ep, .int .i64 ld, .slice A1 is.length c1, .slice A3 ks.length c3, .slice A5 rs.length c5, .int .i64 fw, .int .i64 ba] := (Blk.new_ _ 26 #[.int .i64 ep, .int .i64 ld, .slice A1 is.length c1, .slice A3 ks.length c3, .slice A5 rs.length c5, .int .i64 fw, .int .i64 ba] (by first | rfl | (simp; done) | (simp; omega))).alloc _
  have b_bz1 : Blk ((w.alloc (.cells #[.int .i64 ep, .int .i64 ld, .slice A1 is.length c1, .slice A3 ks.length c3, .slice A5 rs.length c5, .int .i64 fw, .int .i64 ba] 26)).alloc (.cells #[.int .i64 0, .int .i64 0, .slice none 0 0, .slice none 0 0, .slice none 0 0, .int .i64 0, .int .i64 0] 26)) (w.heap.size + 1) 26 #[.int .i64 0, .int .i64 0, .slice none 0 0, .slice none 0 0, .slice none 0 0, .int .i64 0, .int .i64 0] := Blk.new_ _ 26 #[.int .i64 0, .int .i64 0, .slice none 0 0, .slice none 0 0, .slice none 0 0, .int .i64 0, .int .i64 0] (by first | rfl | (simp; done) | (simp; omega))
  have k_v1 := H.out.below hal1
  have hz1 : w.heap.size + 2 ≤ ((w.alloc (.cells #[.int .i64 ep, .int .i64 ld, .slice A1 is.length c1, .slice A3 ks.length c3, .slice A5 rs.length c5, .int .i64 fw, .int .i64 ba] 26)).alloc (.cells #[.int .i64 0, .int .i64 0, .slice none 0 0, .slice none 0 0, .slice none 0 0, .int .i64 0, .int .i64 0] 26)).heap.size := by first | omega | (simp; done) | (simp; omega)
  generalize (w.alloc (.cells #[.int .i64 ep, .int .i64 ld, .slice A1 is.length c1, .slice A3 ks.length c3, .slice A5 rs.length c5, .int .i64 fw, .int .i64 ba] 26)).alloc (.cells #[.int .i64 0, .int .i64 0, .slice none 0 0, .slice none 0 0, .slice none 0 0, .int .i64 0, .int .i64 0] 26) = W1 at *
  have HB1 := Lib.hid hb1
  have B1_bx := Lib.hid b_bx1
  have B1_bz := Lib.hid b_bz1
  have K1_v := Lib.hid k_v1
  clear hb1 b_bx1 b_bz1 k_v1
  clear H
  refine (at_good _ ⟨ep, ld, is, ks, rs, fw, ba⟩ i HN.out hi _ K1_v.out).mono ?_
  rintro e W2 ⟨iv, kv, rv, rfl, ho, hb⟩
  obtain ⟨gi, d1, gk, d3, gr, d5, rfl, rfl, rfl, hgi, hgk, hgr, hgi', hgk', hgr'⟩ := ho.rows (by have := HN.out.isr; have := HN.out.many; simp only at *; omega) (by have := HN.out.known; have := HN.out.many; simp only at *; omega) (by have := HN.out.many; simp only at *; omega)
  unfold partV
  simp only at *
  have HO := Lib.hid ho
  clear ho
  have hb2 : Below w.heap.size w W2 := below_then HB1.out hb
  have b_bx2 := B1_bx.out.below hb B1_bx.out.lt
  have b_bz2 := B1_bz.out.below hb B1_bz.out.lt
  have k_v2 := K1_v.out.below hb
  have hz2 := hb.size
  have HB2 := Lib.hid hb2
  have B2_bx := Lib.hid b_bx2
  have B2_bz := Lib.hid b_bz2
  have K2_v := Lib.hid k_v2
  clear hb2 b_bx2 b_bz2 k_v2
  clear B1_bx B1_bz HB1 K1_v
  have c_bx0 := B2_bx.out.cell 0
  have f_bx0 := B2_bx.out.frozen 0
  have c_bx1 := B2_bx.out.cell 1
  have f_bx1 := B2_bx.out.frozen 1
  have c_bx2 := B2_bx.out.cell 2
  have f_bx2 := B2_bx.out.frozen 2
  have c_bx3 := B2_bx.out.cell 3
  have f_bx3 := B2_bx.out.frozen 3
  have c_bx4 := B2_bx.out.cell 4
  have f_bx4 := B2_bx.out.frozen 4
  have c_bx5 := B2_bx.out.cell 5
  have f_bx5 := B2_bx.out.frozen 5
  have c_bx6 := B2_bx.out.cell 6
  have f_bx6 := B2_bx.out.frozen 6
  have l_bx := B2_bx.out.lt
  go_upto_region 2 with fail
  clear c_bx0 f_bx0 c_bx1 f_bx1 c_bx2 f_bx2 c_bx3 f_bx3 c_bx4 f_bx4 c_bx5 f_bx5 c_bx6 f_bx6 l_bx
  have hsz3 := HB2.out.size
  have hb3 : Below w.heap.size w (((((((W2.setCell ⟨w.heap.size, 0, none⟩ (.int .i64 ep)).setCell ⟨w.heap.size, 1, none⟩ (.int .i64 ld)).setCell ⟨w.heap.size, 2, none⟩ (.slice (some ⟨gi, 0, none⟩) is.length d1)).setCell ⟨w.heap.size, 3, none⟩ (.slice (some ⟨gk, 0, none⟩) ks.length d3)).setCell ⟨w.heap.size, 4, none⟩ (.slice (some ⟨gr, 0, none⟩) rs.length d5)).setCell ⟨w.heap.size, 5, none⟩ (.int .i64 fw)).setCell ⟨w.heap.size, 6, none⟩ (.int .i64 ba)) := (((((((HB2.out).setCell (by show w.heap.size ≤ w.heap.size; omega) _).setCell (by show w.heap.size ≤ w.heap.size; omega) _).setCell (by show w.heap.size ≤ w.heap.size; omega) _).setCell (by show w.heap.size ≤ w.heap.size; omega) _).setCell (by show w.heap.size ≤ w.heap.size; omega) _).setCell (by show w.heap.size ≤ w.heap.size; omega) _).setCell (by show w.heap.size ≤ w.heap.size; omega) _
  have b_bx3 : Blk (((((((W2.setCell ⟨w.heap.size, 0, none⟩ (.int .i64 ep)).setCell ⟨w.heap.size, 1, none⟩ (.int .i64 ld)).setCell ⟨w.heap.size, 2, none⟩ (.slice (some ⟨gi, 0, none⟩) is.length d1)).setCell ⟨w.heap.size, 3, none⟩ (.slice (some ⟨gk, 0, none⟩) ks.length d3)).setCell ⟨w.heap.size, 4, none⟩ (.slice (some ⟨gr, 0, none⟩) rs.length d5)).setCell ⟨w.heap.size, 5, none⟩ (.int .i64 fw)).setCell ⟨w.heap.size, 6, none⟩ (.int .i64 ba)) (w.heap.size) 26 #[.int .i64 ep, .int .i64 ld, .slice (some ⟨gi, 0, none⟩) is.length d1, .slice (some ⟨gk, 0, none⟩) ks.length d3, .slice (some ⟨gr, 0, none⟩) rs.length d5, .int .i64 fw, .int .i64 ba] := (((((((B2_bx.out).set_ 0 _).set_ 1 _).set_ 2 _).set_ 3 _).set_ 4 _).set_ 5 _).set_ 6 _
  have b_bz3 : Blk (((((((W2.setCell ⟨w.heap.size, 0, none⟩ (.int .i64 ep)).setCell ⟨w.heap.size, 1, none⟩ (.int .i64 ld)).setCell ⟨w.heap.size, 2, none⟩ (.slice (some ⟨gi, 0, none⟩) is.length d1)).setCell ⟨w.heap.size, 3, none⟩ (.slice (some ⟨gk, 0, none⟩) ks.length d3)).setCell ⟨w.heap.size, 4, none⟩ (.slice (some ⟨gr, 0, none⟩) rs.length d5)).setCell ⟨w.heap.size, 5, none⟩ (.int .i64 fw)).setCell ⟨w.heap.size, 6, none⟩ (.int .i64 ba)) (w.heap.size + 1) 26 #[.int .i64 0, .int .i64 0, .slice none 0 0, .slice none 0 0, .slice none 0 0, .int .i64 0, .int .i64 0] := (((((((B2_bz.out).far (p := ⟨w.heap.size, 0, none⟩) (by show w.heap.size + 1 ≠ w.heap.size; omega) _).far (p := ⟨w.heap.size, 1, none⟩) (by show w.heap.size + 1 ≠ w.heap.size; omega) _).far (p := ⟨w.heap.size, 2, none⟩) (by show w.heap.size + 1 ≠ w.heap.size; omega) _).far (p := ⟨w.heap.size, 3, none⟩) (by show w.heap.size + 1 ≠ w.heap.size; omega) _).far (p := ⟨w.heap.size, 4, none⟩) (by show w.heap.size + 1 ≠ w.heap.size; omega) _).far (p := ⟨w.heap.size, 5, none⟩) (by show w.heap.size + 1 ≠ w.heap.size; omega) _).far (p := ⟨w.heap.size, 6, none⟩) (by show w.heap.size + 1 ≠ w.heap.size; omega) _
  have k_own3 := (((((((HO.out).under (a := ⟨w.heap.size, 0, none⟩) (by (try dsimp only); omega) (.int .i64 ep)).under (a := ⟨w.heap.size, 1, none⟩) (by (try dsimp only); omega) (.int .i64 ld)).under (a := ⟨w.heap.size, 2, none⟩) (by (try dsimp only); omega) (.slice (some ⟨gi, 0, none⟩) is.length d1)).under (a := ⟨w.heap.size, 3, none⟩) (by (try dsimp only); omega) (.slice (some ⟨gk, 0, none⟩) ks.length d3)).under (a := ⟨w.heap.size, 4, none⟩) (by (try dsimp only); omega) (.slice (some ⟨gr, 0, none⟩) rs.length d5)).under (a := ⟨w.heap.size, 5, none⟩) (by (try dsimp only); omega) (.int .i64 fw)).under (a := ⟨w.heap.size, 6, none⟩) (by (try dsimp only); omega) (.int .i64 ba)
  have hz3 : W2.heap.size + 0 ≤ (((((((W2.setCell ⟨w.heap.size, 0, none⟩ (.int .i64 ep)).setCell ⟨w.heap.size, 1, none⟩ (.int .i64 ld)).setCell ⟨w.heap.size, 2, none⟩ (.slice (some ⟨gi, 0, none⟩) is.length d1)).setCell ⟨w.heap.size, 3, none⟩ (.slice (some ⟨gk, 0, none⟩) ks.length d3)).setCell ⟨w.heap.size, 4, none⟩ (.slice (some ⟨gr, 0, none⟩) rs.length d5)).setCell ⟨w.heap.size, 5, none⟩ (.int .i64 fw)).setCell ⟨w.heap.size, 6, none⟩ (.int .i64 ba)).heap.size := by first | omega | (simp; done) | (simp; omega)
  generalize ((((((W2.setCell ⟨w.heap.size, 0, none⟩ (.int .i64 ep)).setCell ⟨w.heap.size, 1, none⟩ (.int .i64 ld)).setCell ⟨w.heap.size, 2, none⟩ (.slice (some ⟨gi, 0, none⟩) is.length d1)).setCell ⟨w.heap.size, 3, none⟩ (.slice (some ⟨gk, 0, none⟩) ks.length d3)).setCell ⟨w.heap.size, 4, none⟩ (.slice (some ⟨gr, 0, none⟩) rs.length d5)).setCell ⟨w.heap.size, 5, none⟩ (.int .i64 fw)).setCell ⟨w.heap.size, 6, none⟩ (.int .i64 ba) = W3 at *
  have HB3 := Lib.hid hb3
  have B3_bx := Lib.hid b_bx3
  have B3_bz := Lib.hid b_bz3
  have K3_own := Lib.hid k_own3
  clear hb3 b_bx3 b_bz3 k_own3
  clear B2_bx B2_bz HB2 HO
  have c_bx0 := B3_bx.out.cell 0
  have c_bx1 := B3_bx.out.cell 1
  have c_bx2 := B3_bx.out.cell 2
  have c_bx3 := B3_bx.out.cell 3
  have c_bx4 := B3_bx.out.cell 4
  have c_bx5 := B3_bx.out.cell 5
  have c_bx6 := B3_bx.out.cell 6
  have l_bx := B3_bx.out.lt
  have c_bz0 := B3_bz.out.cell 0
  have f_bz0 := B3_bz.out.frozen 0
  have c_bz1 := B3_bz.out.cell 1
  have f_bz1 := B3_bz.out.frozen 1
  have c_bz2 := B3_bz.out.cell 2
  have f_bz2 := B3_bz.out.frozen 2
  have c_bz3 := B3_bz.out.cell 3
  have f_bz3 := B3_bz.out.frozen 3
  have c_bz4 := B3_bz.out.cell 4
  have f_bz4 := B3_bz.out.frozen 4
  have c_bz5 := B3_bz.out.cell 5
  have f_bz5 := B3_bz.out.frozen 5
  have c_bz6 := B3_bz.out.cell 6
  have f_bz6 := B3_bz.out.frozen 6
  have l_bz := B3_bz.out.lt
  obtain ⟨A7, c7, ⟨r0, r1, r2, r3⟩, ⟨rf0, rf1, rf2, rf3⟩, rby⟩ := K3_own.out.repAt i hi
  obtain ⟨s0, sf0⟩ := K3_own.out.isrAt i j2
  obtain ⟨t0, tf0⟩ := K3_own.out.knownAt i j3
  (try simp only at r0 r1 r2 r3 rby s0 t0)
  rw [HU.out] at r0
  go_upto_region 7 with fail
  clear c_bx0 c_bx1 c_bx2 c_bx3 c_bx4 c_bx5 c_bx6 l_bx c_bz0 f_bz0 c_bz1 f_bz1 c_bz2 f_bz2 c_bz3 f_bz3 c_bz4 f_bz4 c_bz5 f_bz5 c_bz6 f_bz6 l_bz r0 r1 r2 r3 rf0 rf1 rf2 rf3 rby s0 sf0 t0 tf0
  have hsz4 := HB3.out.size
  have hb4 : Below w.heap.size w (W3.setCell ⟨gi, i, none⟩ (.bool false)) := (HB3.out).setCell (by show w.heap.size ≤ gi; omega) _
  have b_bx4 : Blk (W3.setCell ⟨gi, i, none⟩ (.bool false)) (w.heap.size) 26 #[.int .i64 ep, .int .i64 ld, .slice (some ⟨gi, 0, none⟩) is.length d1, .slice (some ⟨gk, 0, none⟩) ks.length d3, .slice (some ⟨gr, 0, none⟩) rs.length d5, .int .i64 fw, .int .i64 ba] := (B3_bx.out).far (p := ⟨gi, i, none⟩) (by show w.heap.size ≠ gi; omega) _
  have b_bz4 : Blk (W3.setCell ⟨gi, i, none⟩ (.bool false)) (w.heap.size + 1) 26 #[.int .i64 0, .int .i64 0, .slice none 0 0, .slice none 0 0, .slice none 0 0, .int .i64 0, .int .i64 0] := (B3_bz.out).far (p := ⟨gi, i, none⟩) (by show w.heap.size + 1 ≠ gi; omega) _
  have k_own4 := (K3_own.out).setIsr i false (Nat.lt_of_le_of_lt (Nat.zero_le _) j2)
  have hz4 : W3.heap.size + 0 ≤ (W3.setCell ⟨gi, i, none⟩ (.bool false)).heap.size := by first | omega | (simp; done) | (simp; omega)
  generalize W3.setCell ⟨gi, i, none⟩ (.bool false) = W4 at *
  have HB4 := Lib.hid hb4
  have B4_bx := Lib.hid b_bx4
  have B4_bz := Lib.hid b_bz4
  have K4_own := Lib.hid k_own4
  clear hb4 b_bx4 b_bz4 k_own4
  clear B3_bx B3_bz HB3 K3_own
  have c_bx0 := B4_bx.out.cell 0
  have c_bx1 := B4_bx.out.cell 1
  have c_bx2 := B4_bx.out.cell 2
  have c_bx3 := B4_bx.out.cell 3
  have c_bx4 := B4_bx.out.cell 4
  have c_bx5 := B4_bx.out.cell 5
  have c_bx6 := B4_bx.out.cell 6
  have l_bx := B4_bx.out.lt
  go_wp2_with fail
  clear c_bx0 c_bx1 c_bx2 c_bx3 c_bx4 c_bx5 c_bx6 l_bx
  have HBS := Lib.hid (show Bs W4 (.slice (some ⟨gi, 0, none⟩) is.length d1) (is.set i false) from Sl.of_own K4_own.out.isr)
  refine (contains_no (l := is.set i false) HBS.out (by simp only [List.length_set]; omega) HQ.out).mono ?_
  rintro e w9 ⟨rfl, rfl⟩
  have c_bz0 := B4_bz.out.cell 0
  have f_bz0 := B4_bz.out.frozen 0
  have c_bz1 := B4_bz.out.cell 1
  have f_bz1 := B4_bz.out.frozen 1
  have c_bz2 := B4_bz.out.cell 2
  have f_bz2 := B4_bz.out.frozen 2
  have c_bz3 := B4_bz.out.cell 3
  have f_bz3 := B4_bz.out.frozen 3
  have c_bz4 := B4_bz.out.cell 4
  have f_bz4 := B4_bz.out.frozen 4
  have c_bz5 := B4_bz.out.cell 5
  have f_bz5 := B4_bz.out.frozen 5
  have c_bz6 := B4_bz.out.cell 6
  have f_bz6 := B4_bz.out.frozen 6
  have l_bz := B4_bz.out.lt
  go_wp2_with fail
  clear c_bz0 f_bz0 c_bz1 f_bz1 c_bz2 f_bz2 c_bz3 f_bz3 c_bz4 f_bz4 c_bz5 f_bz5 c_bz6 f_bz6 l_bz
  have hszF := HB4.out.size
  have hbF : Below w.heap.size w (((((((W4.setCell ⟨w.heap.size + 1, 0, none⟩ (.int .i64 0)).setCell ⟨w.heap.size + 1, 1, none⟩ (.int .i64 0)).setCell ⟨w.heap.size + 1, 2, none⟩ (.slice none 0 0)).setCell ⟨w.heap.size + 1, 3, none⟩ (.slice none 0 0)).setCell ⟨w.heap.size + 1, 4, none⟩ (.slice none 0 0)).setCell ⟨w.heap.size + 1, 5, none⟩ (.int .i64 0)).setCell ⟨w.heap.size + 1, 6, none⟩ (.int .i64 0)) := (((((((HB4.out).setCell (by show w.heap.size ≤ w.heap.size + 1; omega) _).setCell (by show w.heap.size ≤ w.heap.size + 1; omega) _).setCell (by show w.heap.size ≤ w.heap.size + 1; omega) _).setCell (by show w.heap.size ≤ w.heap.size + 1; omega) _).setCell (by show w.heap.size ≤ w.heap.size + 1; omega) _).setCell (by show w.heap.size ≤ w.heap.size + 1; omega) _).setCell (by show w.heap.size ≤ w.heap.size + 1; omega) _
  have b_bxF : Blk (((((((W4.setCell ⟨w.heap.size + 1, 0, none⟩ (.int .i64 0)).setCell ⟨w.heap.size + 1, 1, none⟩ (.int .i64 0)).setCell ⟨w.heap.size + 1, 2, none⟩ (.slice none 0 0)).setCell ⟨w.heap.size + 1, 3, none⟩ (.slice none 0 0)).setCell ⟨w.heap.size + 1, 4, none⟩ (.slice none 0 0)).setCell ⟨w.heap.size + 1, 5, none⟩ (.int .i64 0)).setCell ⟨w.heap.size + 1, 6, none⟩ (.int .i64 0)) (w.heap.size) 26 #[.int .i64 ep, .int .i64 ld, .slice (some ⟨gi, 0, none⟩) is.length d1, .slice (some ⟨gk, 0, none⟩) ks.length d3, .slice (some ⟨gr, 0, none⟩) rs.length d5, .int .i64 fw, .int .i64 ba] := (((((((B4_bx.out).far (p := ⟨w.heap.size + 1, 0, none⟩) (by show w.heap.size ≠ w.heap.size + 1; omega) _).far (p := ⟨w.heap.size + 1, 1, none⟩) (by show w.heap.size ≠ w.heap.size + 1; omega) _).far (p := ⟨w.heap.size + 1, 2, none⟩) (by show w.heap.size ≠ w.heap.size + 1; omega) _).far (p := ⟨w.heap.size + 1, 3, none⟩) (by show w.heap.size ≠ w.heap.size + 1; omega) _).far (p := ⟨w.heap.size + 1, 4, none⟩) (by show w.heap.size ≠ w.heap.size + 1; omega) _).far (p := ⟨w.heap.size + 1, 5, none⟩) (by show w.heap.size ≠ w.heap.size + 1; omega) _).far (p := ⟨w.heap.size + 1, 6, none⟩) (by show w.heap.size ≠ w.heap.size + 1; omega) _
  have b_bzF : Blk (((((((W4.setCell ⟨w.heap.size + 1, 0, none⟩ (.int .i64 0)).setCell ⟨w.heap.size + 1, 1, none⟩ (.int .i64 0)).setCell ⟨w.heap.size + 1, 2, none⟩ (.slice none 0 0)).setCell ⟨w.heap.size + 1, 3, none⟩ (.slice none 0 0)).setCell ⟨w.heap.size + 1, 4, none⟩ (.slice none 0 0)).setCell ⟨w.heap.size + 1, 5, none⟩ (.int .i64 0)).setCell ⟨w.heap.size + 1, 6, none⟩ (.int .i64 0)) (w.heap.size + 1) 26 #[.int .i64 0, .int .i64 0, .slice none 0 0, .slice none 0 0, .slice none 0 0, .int .i64 0, .int .i64 0] := (((((((B4_bz.out).set_ 0 _).set_ 1 _).set_ 2 _).set_ 3 _).set_ 4 _).set_ 5 _).set_ 6 _
  have y0 := b_bzF.cell 0
  have y1 := b_bzF.cell 1
  have y2 := b_bzF.cell 2
  have y3 := b_bzF.cell 3
  have y4 := b_bzF.cell 4
  have y5 := b_bzF.cell 5
  have y6 := b_bzF.cell 6
  exact bodyPost_ret (v := .tuple #[.agg #[.int .i64 0, .int .i64 0, .slice none 0 0, .slice none 0 0, .slice none 0 0, .int .i64 0, .int .i64 0], .int .i64 8]) (by simp [results, Try.results50, go_sem, y0, y1, y2, y3, y4, y5, y6]) rfl (⟨rfl, hbF⟩)
set_option maxRecDepth 100000 in
set_option maxHeartbeats 4000000 in
theorem wipe_good (v : Value) (c : PartD) (i : Nat) (hn : PartOk c) (hi : i < c.reps.length) (hu : c.reps[i].up = false) (hq : true ∈ c.isr.set i false) (w : World) (h : Pv w v c) : Calls Try.prog 50 #[v, .int .i64 i] w (OwnsP { c with isr := c.isr.set i false, reps := c.reps.set i ({ up := false, bytes := [], synced := 0, high := 0 } : RepD), known := c.known.set i 0 } w) := by
  have eqk := hn.known
  have eqi := hn.isr
  obtain ⟨xi, xk, xr, rfl, ix, kx, rx, hli, hlk, hlr⟩ := id h
  obtain ⟨A5, c5, rfl, hc5, -⟩ := rx.at_
  obtain ⟨A1, c1, rfl, hc1, -⟩ := ix.at_
  obtain ⟨A3, c3, rfl, hc3, -⟩ := kx.at_
  have H := Lib.hid h
  clear h ix kx rx
  unfold partV at *
  obtain ⟨ep, ld, is, ks, rs, fw, ba⟩ := c
  simp only at *
  have HN := Lib.hid hn
  have HSM := Lib.hid hn.small
  clear hn
  (try simp only at eqk eqi)
  have E1 := Lib.hid eqi
  have E2 := Lib.hid eqk
  have i0 : (0 : Int) ≤ (i : Int) := by omega
  have i1 : (i : Int) < (rs.length : Int) := Int.ofNat_lt.2 hi
  have i2 : (i : Int) < (is.length : Int) := by omega
  have i3 : (i : Int) < (ks.length : Int) := by omega
  have j2 : i < is.length := by omega
  have j3 : i < ks.length := by omega
  clear eqk eqi
  have hup : rs[i].up = false := hu
  have HU := Lib.hid hup
  clear hu hup
  have HQ := Lib.hid hq
  clear hq
  go_enter Try.func50, Try.ntmps50
  go_wp2_with fail
  have hb1 : Below w.heap.size w ((w.alloc (.cells #[.int .i64 ep, .int .i64 ld, .slice A1 is.length c1, .slice A3 ks.length c3, .slice A5 rs.length c5, .int .i64 fw, .int .i64 ba] 26)).alloc (.cells #[.int .i64 0, .int .i64 0, .slice none 0 0, .slice none 0 0, .slice none 0 0, .int .i64 0, .int .i64 0] 26)) := ((Below.refl _ _).alloc (by first | omega | (simp; done) | (simp; omega)) _).alloc (by first | omega | (simp; done) | (simp; omega)) _
  have hal1 : Below w.heap.size w ((w.alloc (.cells #[.int .i64 ep, .int .i64 ld, .slice A1 is.length c1, .slice A3 ks.length c3, .slice A5 rs.length c5, .int .i64 fw, .int .i64 ba] 26)).alloc (.cells #[.int .i64 0, .int .i64 0, .slice none 0 0, .slice none 0 0, .slice none 0 0, .int .i64 0, .int .i64 0] 26)) := ((Below.refl _ _).alloc (by first | omega | (simp; done) | (simp; omega)) _).alloc (by first | omega | (simp; done) | (simp; omega)) _
  have b_bx1 : Blk ((w.alloc (.cells #[.int .i64 ep, .int .i64 ld, .slice A1 is.length c1, .slice A3 ks.length c3, .slice A5 rs.length c5, .int .i64 fw, .int .i64 ba] 26)).alloc (.cells #[.int .i64 0, .int .i64 0, .slice none 0 0, .slice none 0 0, .slice none 0 0, .int .i64 0, .int .i64 0] 26)) (w.heap.size) 26 #[.int .i64 ep, .int .i64 ld, .slice A1 is.length c1, .slice A3 ks.length c3, .slice A5 rs.length c5, .int .i64 fw, .int .i64 ba] := (Blk.new_ _ 26 #[.int .i64 ep, .int .i64 ld, .slice A1 is.length c1, .slice A3 ks.length c3, .slice A5 rs.length c5, .int .i64 fw, .int .i64 ba] (by first | rfl | (simp; done) | (simp; omega))).alloc _
  have b_bz1 : Blk ((w.alloc (.cells #[.int .i64 ep, .int .i64 ld, .slice A1 is.length c1, .slice A3 ks.length c3, .slice A5 rs.length c5, .int .i64 fw, .int .i64 ba] 26)).alloc (.cells #[.int .i64 0, .int .i64 0, .slice none 0 0, .slice none 0 0, .slice none 0 0, .int .i64 0, .int .i64 0] 26)) (w.heap.size + 1) 26 #[.int .i64 0, .int .i64 0, .slice none 0 0, .slice none 0 0, .slice none 0 0, .int .i64 0, .int .i64 0] := Blk.new_ _ 26 #[.int .i64 0, .int .i64 0, .slice none 0 0, .slice none 0 0, .slice none 0 0, .int .i64 0, .int .i64 0] (by first | rfl | (simp; done) | (simp; omega))
  have k_v1 := H.out.below hal1
  have hz1 : w.heap.size + 2 ≤ ((w.alloc (.cells #[.int .i64 ep, .int .i64 ld, .slice A1 is.length c1, .slice A3 ks.length c3, .slice A5 rs.length c5, .int .i64 fw, .int .i64 ba] 26)).alloc (.cells #[.int .i64 0, .int .i64 0, .slice none 0 0, .slice none 0 0, .slice none 0 0, .int .i64 0, .int .i64 0] 26)).heap.size := by first | omega | (simp; done) | (simp; omega)
  generalize (w.alloc (.cells #[.int .i64 ep, .int .i64 ld, .slice A1 is.length c1, .slice A3 ks.length c3, .slice A5 rs.length c5, .int .i64 fw, .int .i64 ba] 26)).alloc (.cells #[.int .i64 0, .int .i64 0, .slice none 0 0, .slice none 0 0, .slice none 0 0, .int .i64 0, .int .i64 0] 26) = W1 at *
  have HB1 := Lib.hid hb1
  have B1_bx := Lib.hid b_bx1
  have B1_bz := Lib.hid b_bz1
  have K1_v := Lib.hid k_v1
  clear hb1 b_bx1 b_bz1 k_v1
  clear H
  refine (at_good _ ⟨ep, ld, is, ks, rs, fw, ba⟩ i HN.out hi _ K1_v.out).mono ?_
  rintro e W2 ⟨iv, kv, rv, rfl, ho, hb⟩
  obtain ⟨gi, d1, gk, d3, gr, d5, rfl, rfl, rfl, hgi, hgk, hgr, hgi', hgk', hgr'⟩ := ho.rows (by have := HN.out.isr; have := HN.out.many; simp only at *; omega) (by have := HN.out.known; have := HN.out.many; simp only at *; omega) (by have := HN.out.many; simp only at *; omega)
  unfold partV
  simp only at *
  have HO := Lib.hid ho
  clear ho
  have hb2 : Below w.heap.size w W2 := below_then HB1.out hb
  have b_bx2 := B1_bx.out.below hb B1_bx.out.lt
  have b_bz2 := B1_bz.out.below hb B1_bz.out.lt
  have k_v2 := K1_v.out.below hb
  have hz2 := hb.size
  have HB2 := Lib.hid hb2
  have B2_bx := Lib.hid b_bx2
  have B2_bz := Lib.hid b_bz2
  have K2_v := Lib.hid k_v2
  clear hb2 b_bx2 b_bz2 k_v2
  clear B1_bx B1_bz HB1 K1_v
  have c_bx0 := B2_bx.out.cell 0
  have f_bx0 := B2_bx.out.frozen 0
  have c_bx1 := B2_bx.out.cell 1
  have f_bx1 := B2_bx.out.frozen 1
  have c_bx2 := B2_bx.out.cell 2
  have f_bx2 := B2_bx.out.frozen 2
  have c_bx3 := B2_bx.out.cell 3
  have f_bx3 := B2_bx.out.frozen 3
  have c_bx4 := B2_bx.out.cell 4
  have f_bx4 := B2_bx.out.frozen 4
  have c_bx5 := B2_bx.out.cell 5
  have f_bx5 := B2_bx.out.frozen 5
  have c_bx6 := B2_bx.out.cell 6
  have f_bx6 := B2_bx.out.frozen 6
  have l_bx := B2_bx.out.lt
  go_upto_region 2 with fail
  clear c_bx0 f_bx0 c_bx1 f_bx1 c_bx2 f_bx2 c_bx3 f_bx3 c_bx4 f_bx4 c_bx5 f_bx5 c_bx6 f_bx6 l_bx
  have hsz3 := HB2.out.size
  have hb3 : Below w.heap.size w (((((((W2.setCell ⟨w.heap.size, 0, none⟩ (.int .i64 ep)).setCell ⟨w.heap.size, 1, none⟩ (.int .i64 ld)).setCell ⟨w.heap.size, 2, none⟩ (.slice (some ⟨gi, 0, none⟩) is.length d1)).setCell ⟨w.heap.size, 3, none⟩ (.slice (some ⟨gk, 0, none⟩) ks.length d3)).setCell ⟨w.heap.size, 4, none⟩ (.slice (some ⟨gr, 0, none⟩) rs.length d5)).setCell ⟨w.heap.size, 5, none⟩ (.int .i64 fw)).setCell ⟨w.heap.size, 6, none⟩ (.int .i64 ba)) := (((((((HB2.out).setCell (by show w.heap.size ≤ w.heap.size; omega) _).setCell (by show w.heap.size ≤ w.heap.size; omega) _).setCell (by show w.heap.size ≤ w.heap.size; omega) _).setCell (by show w.heap.size ≤ w.heap.size; omega) _).setCell (by show w.heap.size ≤ w.heap.size; omega) _).setCell (by show w.heap.size ≤ w.heap.size; omega) _).setCell (by show w.heap.size ≤ w.heap.size; omega) _
  have b_bx3 : Blk (((((((W2.setCell ⟨w.heap.size, 0, none⟩ (.int .i64 ep)).setCell ⟨w.heap.size, 1, none⟩ (.int .i64 ld)).setCell ⟨w.heap.size, 2, none⟩ (.slice (some ⟨gi, 0, none⟩) is.length d1)).setCell ⟨w.heap.size, 3, none⟩ (.slice (some ⟨gk, 0, none⟩) ks.length d3)).setCell ⟨w.heap.size, 4, none⟩ (.slice (some ⟨gr, 0, none⟩) rs.length d5)).setCell ⟨w.heap.size, 5, none⟩ (.int .i64 fw)).setCell ⟨w.heap.size, 6, none⟩ (.int .i64 ba)) (w.heap.size) 26 #[.int .i64 ep, .int .i64 ld, .slice (some ⟨gi, 0, none⟩) is.length d1, .slice (some ⟨gk, 0, none⟩) ks.length d3, .slice (some ⟨gr, 0, none⟩) rs.length d5, .int .i64 fw, .int .i64 ba] := (((((((B2_bx.out).set_ 0 _).set_ 1 _).set_ 2 _).set_ 3 _).set_ 4 _).set_ 5 _).set_ 6 _
  have b_bz3 : Blk (((((((W2.setCell ⟨w.heap.size, 0, none⟩ (.int .i64 ep)).setCell ⟨w.heap.size, 1, none⟩ (.int .i64 ld)).setCell ⟨w.heap.size, 2, none⟩ (.slice (some ⟨gi, 0, none⟩) is.length d1)).setCell ⟨w.heap.size, 3, none⟩ (.slice (some ⟨gk, 0, none⟩) ks.length d3)).setCell ⟨w.heap.size, 4, none⟩ (.slice (some ⟨gr, 0, none⟩) rs.length d5)).setCell ⟨w.heap.size, 5, none⟩ (.int .i64 fw)).setCell ⟨w.heap.size, 6, none⟩ (.int .i64 ba)) (w.heap.size + 1) 26 #[.int .i64 0, .int .i64 0, .slice none 0 0, .slice none 0 0, .slice none 0 0, .int .i64 0, .int .i64 0] := (((((((B2_bz.out).far (p := ⟨w.heap.size, 0, none⟩) (by show w.heap.size + 1 ≠ w.heap.size; omega) _).far (p := ⟨w.heap.size, 1, none⟩) (by show w.heap.size + 1 ≠ w.heap.size; omega) _).far (p := ⟨w.heap.size, 2, none⟩) (by show w.heap.size + 1 ≠ w.heap.size; omega) _).far (p := ⟨w.heap.size, 3, none⟩) (by show w.heap.size + 1 ≠ w.heap.size; omega) _).far (p := ⟨w.heap.size, 4, none⟩) (by show w.heap.size + 1 ≠ w.heap.size; omega) _).far (p := ⟨w.heap.size, 5, none⟩) (by show w.heap.size + 1 ≠ w.heap.size; omega) _).far (p := ⟨w.heap.size, 6, none⟩) (by show w.heap.size + 1 ≠ w.heap.size; omega) _
  have k_own3 := (((((((HO.out).under (a := ⟨w.heap.size, 0, none⟩) (by (try dsimp only); omega) (.int .i64 ep)).under (a := ⟨w.heap.size, 1, none⟩) (by (try dsimp only); omega) (.int .i64 ld)).under (a := ⟨w.heap.size, 2, none⟩) (by (try dsimp only); omega) (.slice (some ⟨gi, 0, none⟩) is.length d1)).under (a := ⟨w.heap.size, 3, none⟩) (by (try dsimp only); omega) (.slice (some ⟨gk, 0, none⟩) ks.length d3)).under (a := ⟨w.heap.size, 4, none⟩) (by (try dsimp only); omega) (.slice (some ⟨gr, 0, none⟩) rs.length d5)).under (a := ⟨w.heap.size, 5, none⟩) (by (try dsimp only); omega) (.int .i64 fw)).under (a := ⟨w.heap.size, 6, none⟩) (by (try dsimp only); omega) (.int .i64 ba)
  have hz3 : W2.heap.size + 0 ≤ (((((((W2.setCell ⟨w.heap.size, 0, none⟩ (.int .i64 ep)).setCell ⟨w.heap.size, 1, none⟩ (.int .i64 ld)).setCell ⟨w.heap.size, 2, none⟩ (.slice (some ⟨gi, 0, none⟩) is.length d1)).setCell ⟨w.heap.size, 3, none⟩ (.slice (some ⟨gk, 0, none⟩) ks.length d3)).setCell ⟨w.heap.size, 4, none⟩ (.slice (some ⟨gr, 0, none⟩) rs.length d5)).setCell ⟨w.heap.size, 5, none⟩ (.int .i64 fw)).setCell ⟨w.heap.size, 6, none⟩ (.int .i64 ba)).heap.size := by first | omega | (simp; done) | (simp; omega)
  generalize ((((((W2.setCell ⟨w.heap.size, 0, none⟩ (.int .i64 ep)).setCell ⟨w.heap.size, 1, none⟩ (.int .i64 ld)).setCell ⟨w.heap.size, 2, none⟩ (.slice (some ⟨gi, 0, none⟩) is.length d1)).setCell ⟨w.heap.size, 3, none⟩ (.slice (some ⟨gk, 0, none⟩) ks.length d3)).setCell ⟨w.heap.size, 4, none⟩ (.slice (some ⟨gr, 0, none⟩) rs.length d5)).setCell ⟨w.heap.size, 5, none⟩ (.int .i64 fw)).setCell ⟨w.heap.size, 6, none⟩ (.int .i64 ba) = W3 at *
  have HB3 := Lib.hid hb3
  have B3_bx := Lib.hid b_bx3
  have B3_bz := Lib.hid b_bz3
  have K3_own := Lib.hid k_own3
  clear hb3 b_bx3 b_bz3 k_own3
  clear B2_bx B2_bz HB2 HO
  have c_bx0 := B3_bx.out.cell 0
  have c_bx1 := B3_bx.out.cell 1
  have c_bx2 := B3_bx.out.cell 2
  have c_bx3 := B3_bx.out.cell 3
  have c_bx4 := B3_bx.out.cell 4
  have c_bx5 := B3_bx.out.cell 5
  have c_bx6 := B3_bx.out.cell 6
  have l_bx := B3_bx.out.lt
  have c_bz0 := B3_bz.out.cell 0
  have f_bz0 := B3_bz.out.frozen 0
  have c_bz1 := B3_bz.out.cell 1
  have f_bz1 := B3_bz.out.frozen 1
  have c_bz2 := B3_bz.out.cell 2
  have f_bz2 := B3_bz.out.frozen 2
  have c_bz3 := B3_bz.out.cell 3
  have f_bz3 := B3_bz.out.frozen 3
  have c_bz4 := B3_bz.out.cell 4
  have f_bz4 := B3_bz.out.frozen 4
  have c_bz5 := B3_bz.out.cell 5
  have f_bz5 := B3_bz.out.frozen 5
  have c_bz6 := B3_bz.out.cell 6
  have f_bz6 := B3_bz.out.frozen 6
  have l_bz := B3_bz.out.lt
  obtain ⟨A7, c7, ⟨r0, r1, r2, r3⟩, ⟨rf0, rf1, rf2, rf3⟩, rby⟩ := K3_own.out.repAt i hi
  obtain ⟨s0, sf0⟩ := K3_own.out.isrAt i j2
  obtain ⟨t0, tf0⟩ := K3_own.out.knownAt i j3
  (try simp only at r0 r1 r2 r3 rby s0 t0)
  rw [HU.out] at r0
  go_upto_region 7 with fail
  clear c_bx0 c_bx1 c_bx2 c_bx3 c_bx4 c_bx5 c_bx6 l_bx c_bz0 f_bz0 c_bz1 f_bz1 c_bz2 f_bz2 c_bz3 f_bz3 c_bz4 f_bz4 c_bz5 f_bz5 c_bz6 f_bz6 l_bz r0 r1 r2 r3 rf0 rf1 rf2 rf3 rby s0 sf0 t0 tf0
  have hsz4 := HB3.out.size
  have hb4 : Below w.heap.size w (W3.setCell ⟨gi, i, none⟩ (.bool false)) := (HB3.out).setCell (by show w.heap.size ≤ gi; omega) _
  have b_bx4 : Blk (W3.setCell ⟨gi, i, none⟩ (.bool false)) (w.heap.size) 26 #[.int .i64 ep, .int .i64 ld, .slice (some ⟨gi, 0, none⟩) is.length d1, .slice (some ⟨gk, 0, none⟩) ks.length d3, .slice (some ⟨gr, 0, none⟩) rs.length d5, .int .i64 fw, .int .i64 ba] := (B3_bx.out).far (p := ⟨gi, i, none⟩) (by show w.heap.size ≠ gi; omega) _
  have b_bz4 : Blk (W3.setCell ⟨gi, i, none⟩ (.bool false)) (w.heap.size + 1) 26 #[.int .i64 0, .int .i64 0, .slice none 0 0, .slice none 0 0, .slice none 0 0, .int .i64 0, .int .i64 0] := (B3_bz.out).far (p := ⟨gi, i, none⟩) (by show w.heap.size + 1 ≠ gi; omega) _
  have k_own4 := (K3_own.out).setIsr i false (Nat.lt_of_le_of_lt (Nat.zero_le _) j2)
  have hz4 : W3.heap.size + 0 ≤ (W3.setCell ⟨gi, i, none⟩ (.bool false)).heap.size := by first | omega | (simp; done) | (simp; omega)
  generalize W3.setCell ⟨gi, i, none⟩ (.bool false) = W4 at *
  have HB4 := Lib.hid hb4
  have B4_bx := Lib.hid b_bx4
  have B4_bz := Lib.hid b_bz4
  have K4_own := Lib.hid k_own4
  clear hb4 b_bx4 b_bz4 k_own4
  clear B3_bx B3_bz HB3 K3_own
  have c_bx0 := B4_bx.out.cell 0
  have c_bx1 := B4_bx.out.cell 1
  have c_bx2 := B4_bx.out.cell 2
  have c_bx3 := B4_bx.out.cell 3
  have c_bx4 := B4_bx.out.cell 4
  have c_bx5 := B4_bx.out.cell 5
  have c_bx6 := B4_bx.out.cell 6
  have l_bx := B4_bx.out.lt
  go_wp2_with fail
  clear c_bx0 c_bx1 c_bx2 c_bx3 c_bx4 c_bx5 c_bx6 l_bx
  have HBS := Lib.hid (show Bs W4 (.slice (some ⟨gi, 0, none⟩) is.length d1) (is.set i false) from Sl.of_own K4_own.out.isr)
  refine (contains_yes (l := is.set i false) HBS.out (by simp only [List.length_set]; omega) HQ.out).mono ?_
  rintro e w9 ⟨rfl, rfl⟩
  have c_bx0 := B4_bx.out.cell 0
  have c_bx1 := B4_bx.out.cell 1
  have c_bx2 := B4_bx.out.cell 2
  have c_bx3 := B4_bx.out.cell 3
  have c_bx4 := B4_bx.out.cell 4
  have c_bx5 := B4_bx.out.cell 5
  have c_bx6 := B4_bx.out.cell 6
  have l_bx := B4_bx.out.lt
  go_wp2_with fail
  clear c_bx0 c_bx1 c_bx2 c_bx3 c_bx4 c_bx5 c_bx6 l_bx
  have c_bx3 := B4_bx.out.cell 3
  have c_bx4 := B4_bx.out.cell 4
  have l_bx := B4_bx.out.lt
  refine wp_region_held_drew (S := fun w0 => w0.cell? ⟨w.heap.size, 3, none⟩ = some (.slice (some ⟨gk, 0, none⟩) ks.length d3) ∧ w0.cell? ⟨w.heap.size, 4, none⟩ = some (.slice (some ⟨gr, 0, none⟩) rs.length d5)) (by kernel_rfl) ?_ (fun hHeld => ?_)
  · exact ⟨c_bx3, c_bx4⟩
  clear c_bx3 c_bx4 l_bx
  generalize hd : World.drew W4 = W5 at *
  have hb : Below W4.heap.size W4 W5 := by rw [← hd]; exact (Below.refl _ _).drew
  have hb5 : Below w.heap.size w W5 := below_then HB4.out hb
  have b_bx5 := B4_bx.out.below hb B4_bx.out.lt
  have b_bz5 := B4_bz.out.below hb B4_bz.out.lt
  have k_own5 := K4_own.out.keep hb
  have hz5 := hb.size
  have HB5 := Lib.hid hb5
  have B5_bx := Lib.hid b_bx5
  have B5_bz := Lib.hid b_bz5
  have K5_own := Lib.hid k_own5
  clear hb5 b_bx5 b_bz5 k_own5
  clear B4_bx B4_bz HB4 K4_own
  clear hd hb
  refine wpAnyH_take (i := 0) (v := ?_) rfl (by kernel_rfl) (by kernel_rfl) (by kernel_rfl) (fun _ _ _ h => h) (Or.inl ⟨by rfl, ?_⟩) (by assumption) ?_
  rotate_left
  · intro w0 hSw
    (try dsimp only at hSw)
    go_simp
    all_goals with_reducible rfl
  try simp only [Act.put, List.getElem_toArray, List.getElem_cons_zero, List.setIfInBounds_toArray, List.set_cons_zero, List.set_cons_succ]
  refine wpAnyH_take (i := 1) (v := ?_) rfl (by kernel_rfl) (by kernel_rfl) (by kernel_rfl) (fun _ _ _ h => h) (Or.inl ⟨by rfl, ?_⟩) (by assumption) ?_
  rotate_left
  · intro w0 hSw
    (try dsimp only at hSw)
    go_simp
    all_goals with_reducible rfl
  try simp only [Act.put, List.getElem_toArray, List.getElem_cons_zero, List.getElem_cons_succ, List.setIfInBounds_toArray, List.set_cons_zero, List.set_cons_succ]
  refine wpAnyH_take (i := 2) (v := ?_) rfl (by kernel_rfl) (by kernel_rfl) (by kernel_rfl) (fun _ _ _ h => h) (Or.inl ⟨by rfl, ?_⟩) (by assumption) ?_
  rotate_left
  · intro w0 hSw
    (try dsimp only at hSw)
    go_simp
    all_goals with_reducible rfl
  try simp only [Act.put, List.getElem_toArray, List.getElem_cons_zero, List.getElem_cons_succ, List.setIfInBounds_toArray, List.set_cons_zero, List.set_cons_succ]
  refine wpAnyH_take (i := 3) (v := ?_) rfl (by kernel_rfl) (by kernel_rfl) (by kernel_rfl) (fun _ _ _ h => h) (Or.inl ⟨by rfl, ?_⟩) (by assumption) ?_
  rotate_left
  · intro w0 hSw
    (try dsimp only at hSw)
    go_simp
    all_goals with_reducible rfl
  try simp only [Act.put, List.getElem_toArray, List.getElem_cons_zero, List.getElem_cons_succ, List.setIfInBounds_toArray, List.set_cons_zero, List.set_cons_succ]
  refine wpAnyH_take (i := 4) (v := ?_) rfl (by kernel_rfl) (by kernel_rfl) (by kernel_rfl) (fun _ _ _ h => h) (Or.inl ⟨by rfl, ?_⟩) (by assumption) ?_
  rotate_left
  · intro w0 hSw
    (try dsimp only at hSw)
    go_simp
    all_goals with_reducible rfl
  try simp only [Act.put, List.getElem_toArray, List.getElem_cons_zero, List.getElem_cons_succ, List.setIfInBounds_toArray, List.set_cons_zero, List.set_cons_succ]
  refine wpAnyH_take (i := 5) (v := ?_) rfl (by kernel_rfl) (by kernel_rfl) (by kernel_rfl) (fun _ _ _ h => h) (Or.inl ⟨by rfl, ?_⟩) (by assumption) ?_
  rotate_left
  · intro w0 hSw
    (try dsimp only at hSw)
    go_simp
    all_goals with_reducible rfl
  try simp only [Act.put, List.getElem_toArray, List.getElem_cons_zero, List.getElem_cons_succ, List.setIfInBounds_toArray, List.set_cons_zero, List.set_cons_succ]
  refine wpAnyH_take (i := 6) (v := ?_) rfl (by kernel_rfl) (by kernel_rfl) (by kernel_rfl) (fun _ _ _ h => h) (Or.inl ⟨by rfl, ?_⟩) (by assumption) ?_
  rotate_left
  · intro w0 hSw
    (try dsimp only at hSw)
    go_simp
    all_goals with_reducible rfl
  try simp only [Act.put, List.getElem_toArray, List.getElem_cons_zero, List.getElem_cons_succ, List.setIfInBounds_toArray, List.set_cons_zero, List.set_cons_succ]
  refine wpAnyH_take (i := 7) (v := ?_) rfl (by kernel_rfl) (by kernel_rfl) (by kernel_rfl) (fun _ _ _ h => h) (Or.inl ⟨by rfl, ?_⟩) (by assumption) ?_
  rotate_left
  · intro w0 hSw
    (try dsimp only at hSw)
    go_simp
    all_goals with_reducible rfl
  try simp only [Act.put, List.getElem_toArray, List.getElem_cons_zero, List.getElem_cons_succ, List.setIfInBounds_toArray, List.set_cons_zero, List.set_cons_succ]
  obtain ⟨A7, c7, ⟨r0, r1, r2, r3⟩, ⟨rf0, rf1, rf2, rf3⟩, -⟩ := K5_own.out.repAt i hi
  obtain ⟨t0, tf0⟩ := K5_own.out.knownAt i j3
  (try simp only at r0 r1 r2 r3 t0)
  refine wpAnyH_ready (rs := [8]) (by kernel_rfl) (by simp) (AllReadyH.cons rfl (fun K hK => ?_) AllReadyH.nil)
  go_simp
  refine hK.out _ _ ?_ (fun hHeld => ?_)
  · exact ⟨(((((B5_bx.out).far (p := ⟨gr, i * 4, none⟩) (by show w.heap.size ≠ gr; omega) _).far (p := ⟨gr, i * 4 + 1, none⟩) (by show w.heap.size ≠ gr; omega) _).far (p := ⟨gr, i * 4 + 2, none⟩) (by show w.heap.size ≠ gr; omega) _).far (p := ⟨gr, i * 4 + 3, none⟩) (by show w.heap.size ≠ gr; omega) _).cell 3, (((((B5_bx.out).far (p := ⟨gr, i * 4, none⟩) (by show w.heap.size ≠ gr; omega) _).far (p := ⟨gr, i * 4 + 1, none⟩) (by show w.heap.size ≠ gr; omega) _).far (p := ⟨gr, i * 4 + 2, none⟩) (by show w.heap.size ≠ gr; omega) _).far (p := ⟨gr, i * 4 + 3, none⟩) (by show w.heap.size ≠ gr; omega) _).cell 4⟩
  clear hK K
  have kw := K5_own.out.wipe i hi
  obtain ⟨t1, tf1⟩ := kw.knownAt i j3
  clear kw
  (try simp only at t1)
  refine wpAnyH_take (i := 9) (v := ?_) rfl (by kernel_rfl) (by kernel_rfl) (by kernel_rfl) (fun _ _ _ h => h) (Or.inl ⟨by rfl, ?_⟩) (by assumption) ?_
  rotate_left
  · intro w0 hSw
    (try dsimp only at hSw)
    go_simp
    all_goals with_reducible rfl
  try simp only [Act.put, List.getElem_toArray, List.getElem_cons_zero, List.getElem_cons_succ, List.setIfInBounds_toArray, List.set_cons_zero, List.set_cons_succ]
  refine wpAnyH_ready (rs := [10]) (by kernel_rfl) (by simp) (AllReadyH.cons rfl (fun K hK => ?_) AllReadyH.nil)
  go_simp
  refine hK.out _ _ ?_ (fun hHeld => ?_)
  · exact ⟨((((((B5_bx.out).far (p := ⟨gr, i * 4, none⟩) (by show w.heap.size ≠ gr; omega) _).far (p := ⟨gr, i * 4 + 1, none⟩) (by show w.heap.size ≠ gr; omega) _).far (p := ⟨gr, i * 4 + 2, none⟩) (by show w.heap.size ≠ gr; omega) _).far (p := ⟨gr, i * 4 + 3, none⟩) (by show w.heap.size ≠ gr; omega) _).far (p := ⟨gk, i, none⟩) (by show w.heap.size ≠ gk; omega) _).cell 3, ((((((B5_bx.out).far (p := ⟨gr, i * 4, none⟩) (by show w.heap.size ≠ gr; omega) _).far (p := ⟨gr, i * 4 + 1, none⟩) (by show w.heap.size ≠ gr; omega) _).far (p := ⟨gr, i * 4 + 2, none⟩) (by show w.heap.size ≠ gr; omega) _).far (p := ⟨gr, i * 4 + 3, none⟩) (by show w.heap.size ≠ gr; omega) _).far (p := ⟨gk, i, none⟩) (by show w.heap.size ≠ gk; omega) _).cell 4⟩
  clear hK K
  refine wpAnyH_done (by kernel_rfl) ?_ _
  clear r0 r1 r2 r3 rf0 rf1 rf2 rf3 t0 tf0 t1 tf1
  go_upto_region 10 with fail
  have hsz6 := HB5.out.size
  have hb6 : Below w.heap.size w (((((W5.setCell ⟨gr, i * 4, none⟩ (.bool false)).setCell ⟨gr, i * 4 + 1, none⟩ (.slice none 0 0)).setCell ⟨gr, i * 4 + 2, none⟩ (.int .i64 0)).setCell ⟨gr, i * 4 + 3, none⟩ (.int .i64 0)).setCell ⟨gk, i, none⟩ (.int .i64 0)) := (((((HB5.out).setCell (by show w.heap.size ≤ gr; omega) _).setCell (by show w.heap.size ≤ gr; omega) _).setCell (by show w.heap.size ≤ gr; omega) _).setCell (by show w.heap.size ≤ gr; omega) _).setCell (by show w.heap.size ≤ gk; omega) _
  have b_bx6 : Blk (((((W5.setCell ⟨gr, i * 4, none⟩ (.bool false)).setCell ⟨gr, i * 4 + 1, none⟩ (.slice none 0 0)).setCell ⟨gr, i * 4 + 2, none⟩ (.int .i64 0)).setCell ⟨gr, i * 4 + 3, none⟩ (.int .i64 0)).setCell ⟨gk, i, none⟩ (.int .i64 0)) (w.heap.size) 26 #[.int .i64 ep, .int .i64 ld, .slice (some ⟨gi, 0, none⟩) is.length d1, .slice (some ⟨gk, 0, none⟩) ks.length d3, .slice (some ⟨gr, 0, none⟩) rs.length d5, .int .i64 fw, .int .i64 ba] := (((((B5_bx.out).far (p := ⟨gr, i * 4, none⟩) (by show w.heap.size ≠ gr; omega) _).far (p := ⟨gr, i * 4 + 1, none⟩) (by show w.heap.size ≠ gr; omega) _).far (p := ⟨gr, i * 4 + 2, none⟩) (by show w.heap.size ≠ gr; omega) _).far (p := ⟨gr, i * 4 + 3, none⟩) (by show w.heap.size ≠ gr; omega) _).far (p := ⟨gk, i, none⟩) (by show w.heap.size ≠ gk; omega) _
  have b_bz6 : Blk (((((W5.setCell ⟨gr, i * 4, none⟩ (.bool false)).setCell ⟨gr, i * 4 + 1, none⟩ (.slice none 0 0)).setCell ⟨gr, i * 4 + 2, none⟩ (.int .i64 0)).setCell ⟨gr, i * 4 + 3, none⟩ (.int .i64 0)).setCell ⟨gk, i, none⟩ (.int .i64 0)) (w.heap.size + 1) 26 #[.int .i64 0, .int .i64 0, .slice none 0 0, .slice none 0 0, .slice none 0 0, .int .i64 0, .int .i64 0] := (((((B5_bz.out).far (p := ⟨gr, i * 4, none⟩) (by show w.heap.size + 1 ≠ gr; omega) _).far (p := ⟨gr, i * 4 + 1, none⟩) (by show w.heap.size + 1 ≠ gr; omega) _).far (p := ⟨gr, i * 4 + 2, none⟩) (by show w.heap.size + 1 ≠ gr; omega) _).far (p := ⟨gr, i * 4 + 3, none⟩) (by show w.heap.size + 1 ≠ gr; omega) _).far (p := ⟨gk, i, none⟩) (by show w.heap.size + 1 ≠ gk; omega) _
  have k_own6 := ((K5_own.out.wipe i hi).setKnown i 0 (Nat.lt_of_le_of_lt (Nat.zero_le _) j3))
  have hz6 : W5.heap.size + 0 ≤ (((((W5.setCell ⟨gr, i * 4, none⟩ (.bool false)).setCell ⟨gr, i * 4 + 1, none⟩ (.slice none 0 0)).setCell ⟨gr, i * 4 + 2, none⟩ (.int .i64 0)).setCell ⟨gr, i * 4 + 3, none⟩ (.int .i64 0)).setCell ⟨gk, i, none⟩ (.int .i64 0)).heap.size := by first | omega | (simp; done) | (simp; omega)
  generalize ((((W5.setCell ⟨gr, i * 4, none⟩ (.bool false)).setCell ⟨gr, i * 4 + 1, none⟩ (.slice none 0 0)).setCell ⟨gr, i * 4 + 2, none⟩ (.int .i64 0)).setCell ⟨gr, i * 4 + 3, none⟩ (.int .i64 0)).setCell ⟨gk, i, none⟩ (.int .i64 0) = W6 at *
  have HB6 := Lib.hid hb6
  have B6_bx := Lib.hid b_bx6
  have B6_bz := Lib.hid b_bz6
  have K6_own := Lib.hid k_own6
  clear hb6 b_bx6 b_bz6 k_own6
  clear B5_bx B5_bz HB5 K5_own
  have c_bx0 := B6_bx.out.cell 0
  have c_bx1 := B6_bx.out.cell 1
  have c_bx2 := B6_bx.out.cell 2
  have c_bx3 := B6_bx.out.cell 3
  have c_bx4 := B6_bx.out.cell 4
  have c_bx5 := B6_bx.out.cell 5
  have c_bx6 := B6_bx.out.cell 6
  have l_bx := B6_bx.out.lt
  have c_bz0 := B6_bz.out.cell 0
  have f_bz0 := B6_bz.out.frozen 0
  have c_bz1 := B6_bz.out.cell 1
  have f_bz1 := B6_bz.out.frozen 1
  have c_bz2 := B6_bz.out.cell 2
  have f_bz2 := B6_bz.out.frozen 2
  have c_bz3 := B6_bz.out.cell 3
  have f_bz3 := B6_bz.out.frozen 3
  have c_bz4 := B6_bz.out.cell 4
  have f_bz4 := B6_bz.out.frozen 4
  have c_bz5 := B6_bz.out.cell 5
  have f_bz5 := B6_bz.out.frozen 5
  have c_bz6 := B6_bz.out.cell 6
  have f_bz6 := B6_bz.out.frozen 6
  have l_bz := B6_bz.out.lt
  go_wp2_with fail
  clear c_bx0 c_bx1 c_bx2 c_bx3 c_bx4 c_bx5 c_bx6 l_bx c_bz0 f_bz0 c_bz1 f_bz1 c_bz2 f_bz2 c_bz3 f_bz3 c_bz4 f_bz4 c_bz5 f_bz5 c_bz6 f_bz6 l_bz
  have hszF := HB6.out.size
  have hbF : Below w.heap.size w (((((((W6.setCell ⟨w.heap.size + 1, 0, none⟩ (.int .i64 ep)).setCell ⟨w.heap.size + 1, 1, none⟩ (.int .i64 ld)).setCell ⟨w.heap.size + 1, 2, none⟩ (.slice (some ⟨gi, 0, none⟩) is.length d1)).setCell ⟨w.heap.size + 1, 3, none⟩ (.slice (some ⟨gk, 0, none⟩) ks.length d3)).setCell ⟨w.heap.size + 1, 4, none⟩ (.slice (some ⟨gr, 0, none⟩) rs.length d5)).setCell ⟨w.heap.size + 1, 5, none⟩ (.int .i64 fw)).setCell ⟨w.heap.size + 1, 6, none⟩ (.int .i64 ba)) := (((((((HB6.out).setCell (by show w.heap.size ≤ w.heap.size + 1; omega) _).setCell (by show w.heap.size ≤ w.heap.size + 1; omega) _).setCell (by show w.heap.size ≤ w.heap.size + 1; omega) _).setCell (by show w.heap.size ≤ w.heap.size + 1; omega) _).setCell (by show w.heap.size ≤ w.heap.size + 1; omega) _).setCell (by show w.heap.size ≤ w.heap.size + 1; omega) _).setCell (by show w.heap.size ≤ w.heap.size + 1; omega) _
  have b_bxF : Blk (((((((W6.setCell ⟨w.heap.size + 1, 0, none⟩ (.int .i64 ep)).setCell ⟨w.heap.size + 1, 1, none⟩ (.int .i64 ld)).setCell ⟨w.heap.size + 1, 2, none⟩ (.slice (some ⟨gi, 0, none⟩) is.length d1)).setCell ⟨w.heap.size + 1, 3, none⟩ (.slice (some ⟨gk, 0, none⟩) ks.length d3)).setCell ⟨w.heap.size + 1, 4, none⟩ (.slice (some ⟨gr, 0, none⟩) rs.length d5)).setCell ⟨w.heap.size + 1, 5, none⟩ (.int .i64 fw)).setCell ⟨w.heap.size + 1, 6, none⟩ (.int .i64 ba)) (w.heap.size) 26 #[.int .i64 ep, .int .i64 ld, .slice (some ⟨gi, 0, none⟩) is.length d1, .slice (some ⟨gk, 0, none⟩) ks.length d3, .slice (some ⟨gr, 0, none⟩) rs.length d5, .int .i64 fw, .int .i64 ba] := (((((((B6_bx.out).far (p := ⟨w.heap.size + 1, 0, none⟩) (by show w.heap.size ≠ w.heap.size + 1; omega) _).far (p := ⟨w.heap.size + 1, 1, none⟩) (by show w.heap.size ≠ w.heap.size + 1; omega) _).far (p := ⟨w.heap.size + 1, 2, none⟩) (by show w.heap.size ≠ w.heap.size + 1; omega) _).far (p := ⟨w.heap.size + 1, 3, none⟩) (by show w.heap.size ≠ w.heap.size + 1; omega) _).far (p := ⟨w.heap.size + 1, 4, none⟩) (by show w.heap.size ≠ w.heap.size + 1; omega) _).far (p := ⟨w.heap.size + 1, 5, none⟩) (by show w.heap.size ≠ w.heap.size + 1; omega) _).far (p := ⟨w.heap.size + 1, 6, none⟩) (by show w.heap.size ≠ w.heap.size + 1; omega) _
  have b_bzF : Blk (((((((W6.setCell ⟨w.heap.size + 1, 0, none⟩ (.int .i64 ep)).setCell ⟨w.heap.size + 1, 1, none⟩ (.int .i64 ld)).setCell ⟨w.heap.size + 1, 2, none⟩ (.slice (some ⟨gi, 0, none⟩) is.length d1)).setCell ⟨w.heap.size + 1, 3, none⟩ (.slice (some ⟨gk, 0, none⟩) ks.length d3)).setCell ⟨w.heap.size + 1, 4, none⟩ (.slice (some ⟨gr, 0, none⟩) rs.length d5)).setCell ⟨w.heap.size + 1, 5, none⟩ (.int .i64 fw)).setCell ⟨w.heap.size + 1, 6, none⟩ (.int .i64 ba)) (w.heap.size + 1) 26 #[.int .i64 ep, .int .i64 ld, .slice (some ⟨gi, 0, none⟩) is.length d1, .slice (some ⟨gk, 0, none⟩) ks.length d3, .slice (some ⟨gr, 0, none⟩) rs.length d5, .int .i64 fw, .int .i64 ba] := (((((((B6_bz.out).set_ 0 _).set_ 1 _).set_ 2 _).set_ 3 _).set_ 4 _).set_ 5 _).set_ 6 _
  have k_ownF := (((((((K6_own.out).under (a := ⟨w.heap.size + 1, 0, none⟩) (by (try dsimp only); omega) (.int .i64 ep)).under (a := ⟨w.heap.size + 1, 1, none⟩) (by (try dsimp only); omega) (.int .i64 ld)).under (a := ⟨w.heap.size + 1, 2, none⟩) (by (try dsimp only); omega) (.slice (some ⟨gi, 0, none⟩) is.length d1)).under (a := ⟨w.heap.size + 1, 3, none⟩) (by (try dsimp only); omega) (.slice (some ⟨gk, 0, none⟩) ks.length d3)).under (a := ⟨w.heap.size + 1, 4, none⟩) (by (try dsimp only); omega) (.slice (some ⟨gr, 0, none⟩) rs.length d5)).under (a := ⟨w.heap.size + 1, 5, none⟩) (by (try dsimp only); omega) (.int .i64 fw)).under (a := ⟨w.heap.size + 1, 6, none⟩) (by (try dsimp only); omega) (.int .i64 ba)
  have y0 := b_bzF.cell 0
  have y1 := b_bzF.cell 1
  have y2 := b_bzF.cell 2
  have y3 := b_bzF.cell 3
  have y4 := b_bzF.cell 4
  have y5 := b_bzF.cell 5
  have y6 := b_bzF.cell 6
  exact bodyPost_ret (v := .tuple #[.agg #[.int .i64 ep, .int .i64 ld, .slice (some ⟨gi, 0, none⟩) is.length d1, .slice (some ⟨gk, 0, none⟩) ks.length d3, .slice (some ⟨gr, 0, none⟩) rs.length d5, .int .i64 fw, .int .i64 ba], .int .i64 0]) (by simp [results, Try.results50, go_sem, y0, y1, y2, y3, y4, y5, y6]) rfl (⟨_, _, _, rfl, k_ownF.more (by omega), hbF⟩)
/-- of the first k flags one other than r's is up -/
def OthTo (l : List Bool) (r : Int) (k : Nat) (b : Bool) : Prop := b = true ↔ ∃ j : Nat, j < k ∧ (j : Int) ≠ r ∧ l[j]? = some true
theorem OthTo.step {l : List Bool} {r : Int} {k : Nat} {b : Bool} (h : OthTo l r k b) (hk : k < l.length) : OthTo l r (k + 1) (b || (decide ((k : Int) ≠ r) && l[k])) := by
  unfold OthTo at *
  rw [Bool.or_eq_true, h, Bool.and_eq_true, decide_eq_true_eq]
  constructor
  · rintro (⟨j, h1, h2, h3⟩ | ⟨h2, h3⟩)
    · exact ⟨j, by omega, h2, h3⟩
    · exact ⟨k, by omega, h2, by rw [List.getElem?_eq_getElem hk, h3]⟩
  · rintro ⟨j, h1, h2, h3⟩
    rcases Nat.lt_succ_iff_lt_or_eq.1 h1 with h' | rfl
    · exact Or.inl ⟨j, h', h2, h3⟩
    · rw [List.getElem?_eq_getElem hk] at h3
      exact Or.inr ⟨h2, by simpa using h3⟩
theorem OthTo.all {l : List Bool} {i : Nat} {b : Bool} (h : OthTo l i l.length b) : b = true ↔ true ∈ l.set i false := by
  unfold OthTo at h
  rw [h, List.mem_iff_getElem?]
  constructor
  · rintro ⟨j, h1, h2, h3⟩
    exact ⟨j, by rw [List.getElem?_set_ne (by omega)]; exact h3⟩
  · rintro ⟨j, h1⟩
    by_cases hj : i = j
    · subst hj
      rw [List.getElem?_set_self'] at h1
      cases hh : l[i]? <;> simp [hh] at h1
    · rw [List.getElem?_set_ne hj] at h1
      exact ⟨j, (List.getElem?_eq_some_iff.1 h1).1, by omega, h1⟩
set_option maxRecDepth 100000 in
set_option maxHeartbeats 4000000 in
theorem wipedOf_bad (v : Value) (c : PartD) (r n : Int) (hf : AtFault c r n) (w : World) (h : Pv w v c) : Calls Try.prog 51 #[v, .int .i64 r] w (RefusesP n w) := by
  obtain ⟨xi, xk, xr, rfl, ix, kx, rx, hli, hlk, hlr⟩ := id h
  obtain ⟨A5, c5, rfl, hc5, -⟩ := rx.at_
  obtain ⟨A1, c1, rfl, hc1, hx1⟩ := ix.at_
  obtain ⟨A3, c3, rfl, hc3, -⟩ := kx.at_
  have H := Lib.hid h
  clear h ix kx rx
  unfold partV at *
  obtain ⟨ep, ld, is, ks, rs, fw, ba⟩ := c
  simp only at *
  have HX := Lib.hid hx1
  clear hx1
  have hn0 := hf.ne
  have n1 : (n == 0) = false := beq_eq_false_iff_ne.2 hn0
  have n2 : (n != 0) = true := by simpa using hn0
  have HF := Lib.hid hf
  clear hf hn0
  go_enter Try.func51, Try.ntmps51
  go_wp2_with fail
  have hb1 : Below w.heap.size w ((w.alloc (.cells #[.int .i64 ep, .int .i64 ld, .slice A1 is.length c1, .slice A3 ks.length c3, .slice A5 rs.length c5, .int .i64 fw, .int .i64 ba] 26)).alloc (.cells #[.int .i64 0, .int .i64 0, .slice none 0 0, .slice none 0 0, .slice none 0 0, .int .i64 0, .int .i64 0] 26)) := ((Below.refl _ _).alloc (by first | omega | (simp; done) | (simp; omega)) _).alloc (by first | omega | (simp; done) | (simp; omega)) _
  have hal1 : Below w.heap.size w ((w.alloc (.cells #[.int .i64 ep, .int .i64 ld, .slice A1 is.length c1, .slice A3 ks.length c3, .slice A5 rs.length c5, .int .i64 fw, .int .i64 ba] 26)).alloc (.cells #[.int .i64 0, .int .i64 0, .slice none 0 0, .slice none 0 0, .slice none 0 0, .int .i64 0, .int .i64 0] 26)) := ((Below.refl _ _).alloc (by first | omega | (simp; done) | (simp; omega)) _).alloc (by first | omega | (simp; done) | (simp; omega)) _
  have b_bx1 : Blk ((w.alloc (.cells #[.int .i64 ep, .int .i64 ld, .slice A1 is.length c1, .slice A3 ks.length c3, .slice A5 rs.length c5, .int .i64 fw, .int .i64 ba] 26)).alloc (.cells #[.int .i64 0, .int .i64 0, .slice none 0 0, .slice none 0 0, .slice none 0 0, .int .i64 0, .int .i64 0] 26)) (w.heap.size) 26 #[.int .i64 ep, .int .i64 ld, .slice A1 is.length c1, .slice A3 ks.length c3, .slice A5 rs.length c5, .int .i64 fw, .int .i64 ba] := (Blk.new_ _ 26 #[.int .i64 ep, .int .i64 ld, .slice A1 is.length c1, .slice A3 ks.length c3, .slice A5 rs.length c5, .int .i64 fw, .int .i64 ba] (by first | rfl | (simp; done) | (simp; omega))).alloc _
  have b_bz1 : Blk ((w.alloc (.cells #[.int .i64 ep, .int .i64 ld, .slice A1 is.length c1, .slice A3 ks.length c3, .slice A5 rs.length c5, .int .i64 fw, .int .i64 ba] 26)).alloc (.cells #[.int .i64 0, .int .i64 0, .slice none 0 0, .slice none 0 0, .slice none 0 0, .int .i64 0, .int .i64 0] 26)) (w.heap.size + 1) 26 #[.int .i64 0, .int .i64 0, .slice none 0 0, .slice none 0 0, .slice none 0 0, .int .i64 0, .int .i64 0] := Blk.new_ _ 26 #[.int .i64 0, .int .i64 0, .slice none 0 0, .slice none 0 0, .slice none 0 0, .int .i64 0, .int .i64 0] (by first | rfl | (simp; done) | (simp; omega))
  have k_v1 := H.out.below hal1
  have hz1 : w.heap.size + 2 ≤ ((w.alloc (.cells #[.int .i64 ep, .int .i64 ld, .slice A1 is.length c1, .slice A3 ks.length c3, .slice A5 rs.length c5, .int .i64 fw, .int .i64 ba] 26)).alloc (.cells #[.int .i64 0, .int .i64 0, .slice none 0 0, .slice none 0 0, .slice none 0 0, .int .i64 0, .int .i64 0] 26)).heap.size := by first | omega | (simp; done) | (simp; omega)
  generalize (w.alloc (.cells #[.int .i64 ep, .int .i64 ld, .slice A1 is.length c1, .slice A3 ks.length c3, .slice A5 rs.length c5, .int .i64 fw, .int .i64 ba] 26)).alloc (.cells #[.int .i64 0, .int .i64 0, .slice none 0 0, .slice none 0 0, .slice none 0 0, .int .i64 0, .int .i64 0] 26) = W1 at *
  have HB1 := Lib.hid hb1
  have B1_bx := Lib.hid b_bx1
  have B1_bz := Lib.hid b_bz1
  have K1_v := Lib.hid k_v1
  clear hb1 b_bx1 b_bz1 k_v1
  clear H
  refine (partFault_bad K1_v.out HF.out).mono ?_
  rintro e W2 ⟨rfl, hb⟩
  have hb2 : Below w.heap.size w W2 := below_then HB1.out hb
  have b_bx2 := B1_bx.out.below hb B1_bx.out.lt
  have b_bz2 := B1_bz.out.below hb B1_bz.out.lt
  have k_v2 := K1_v.out.below hb
  have hz2 := hb.size
  have HB2 := Lib.hid hb2
  have B2_bx := Lib.hid b_bx2
  have B2_bz := Lib.hid b_bz2
  have K2_v := Lib.hid k_v2
  clear hb2 b_bx2 b_bz2 k_v2
  clear B1_bx B1_bz HB1 K1_v
  have c_bx0 := B2_bx.out.cell 0
  have c_bx1 := B2_bx.out.cell 1
  have c_bx2 := B2_bx.out.cell 2
  have c_bx3 := B2_bx.out.cell 3
  have c_bx4 := B2_bx.out.cell 4
  have c_bx5 := B2_bx.out.cell 5
  have c_bx6 := B2_bx.out.cell 6
  have l_bx := B2_bx.out.lt
  go_wp2_with fail
  go_loop [7, 8] (fun s x => ∃ (k : Nat) (b : Bool), k ≤ is.length ∧ s = .bool b ∧ x = .int .i64 k ∧ Hid (OthTo is r k b)) (fun _ x => is.length - (intOf x).toNat)
  case atStart => exact ⟨0, false, Nat.zero_le _, rfl, rfl, by constructor <;> (intro h; simp at h)⟩
  case round =>
    obtain ⟨k, s, hk, rfl, rfl, HS⟩ := hrel
    by_cases hlt : k < is.length
    · obtain ⟨b1, o1, hA1, hbX, hc1'⟩ := HX.out (Nat.lt_of_le_of_lt (Nat.zero_le _) hlt)
      cases hA1
      have X0 := (HB2.out.cell (p := ⟨b1, o1 + k, none⟩) hbX).trans (hc1' k hlt)
      have k0 : (0 : Int) ≤ (k : Int) := by omega
      have k1 : (k : Int) < (is.length : Int) := Int.ofNat_lt.2 hlt
      have HS' := Lib.hid (HS.out.step hlt)
      clear hc1'
      generalize is[k] = bk at *
      rcases s with _ | _
      · by_cases hkr : (k : Int) = r
        · have d1 : ((k : Int) != r) = false := by simp only [bne_eq_false_iff_eq]; exact hkr
          have d2 : decide ((k : Int) ≠ r) = false := decide_eq_false (fun h => h hkr)
          have HD := Lib.hid d2
          clear hkr d2
          go_wp2
          go_round
          case rel => exact ⟨k + 1, false, by omega, rfl, by go_num, by have h := HS'.out; rw [HD.out, Bool.false_and, Bool.false_or] at h; exact h⟩
          case measure => simp [intOf]; omega
        · have d1 : ((k : Int) != r) = true := by simp only [bne_iff_ne]; exact hkr
          have d2 : decide ((k : Int) ≠ r) = true := decide_eq_true hkr
          have HD := Lib.hid d2
          clear hkr d2
          go_wp2
          go_round
          case rel => exact ⟨k + 1, bk, by omega, rfl, by go_num, by have h := HS'.out; rw [HD.out, Bool.true_and, Bool.false_or] at h; exact h⟩
          case measure => simp [intOf]; omega
      · go_wp2
        go_round
        case rel => exact ⟨k + 1, true, by omega, rfl, by go_num, by have h := HS'.out; rw [Bool.true_or] at h; exact h⟩
        case measure => simp [intOf]; omega
    · obtain rfl : k = is.length := by omega
      clear hlt
      have c_bz0 := B2_bz.out.cell 0
      have f_bz0 := B2_bz.out.frozen 0
      have c_bz1 := B2_bz.out.cell 1
      have f_bz1 := B2_bz.out.frozen 1
      have c_bz2 := B2_bz.out.cell 2
      have f_bz2 := B2_bz.out.frozen 2
      have c_bz3 := B2_bz.out.cell 3
      have f_bz3 := B2_bz.out.frozen 3
      have c_bz4 := B2_bz.out.cell 4
      have f_bz4 := B2_bz.out.frozen 4
      have c_bz5 := B2_bz.out.cell 5
      have f_bz5 := B2_bz.out.frozen 5
      have c_bz6 := B2_bz.out.cell 6
      have f_bz6 := B2_bz.out.frozen 6
      have l_bz := B2_bz.out.lt
      go_wp2_with fail
      clear c_bx0 c_bx1 c_bx2 c_bx3 c_bx4 c_bx5 c_bx6 l_bx c_bz0 f_bz0 c_bz1 f_bz1 c_bz2 f_bz2 c_bz3 f_bz3 c_bz4 f_bz4 c_bz5 f_bz5 c_bz6 f_bz6 l_bz
      have hszF := HB2.out.size
      have hbF : Below w.heap.size w (((((((W2.setCell ⟨w.heap.size + 1, 0, none⟩ (.int .i64 0)).setCell ⟨w.heap.size + 1, 1, none⟩ (.int .i64 0)).setCell ⟨w.heap.size + 1, 2, none⟩ (.slice none 0 0)).setCell ⟨w.heap.size + 1, 3, none⟩ (.slice none 0 0)).setCell ⟨w.heap.size + 1, 4, none⟩ (.slice none 0 0)).setCell ⟨w.heap.size + 1, 5, none⟩ (.int .i64 0)).setCell ⟨w.heap.size + 1, 6, none⟩ (.int .i64 0)) := (((((((HB2.out).setCell (by show w.heap.size ≤ w.heap.size + 1; omega) _).setCell (by show w.heap.size ≤ w.heap.size + 1; omega) _).setCell (by show w.heap.size ≤ w.heap.size + 1; omega) _).setCell (by show w.heap.size ≤ w.heap.size + 1; omega) _).setCell (by show w.heap.size ≤ w.heap.size + 1; omega) _).setCell (by show w.heap.size ≤ w.heap.size + 1; omega) _).setCell (by show w.heap.size ≤ w.heap.size + 1; omega) _
      have b_bxF : Blk (((((((W2.setCell ⟨w.heap.size + 1, 0, none⟩ (.int .i64 0)).setCell ⟨w.heap.size + 1, 1, none⟩ (.int .i64 0)).setCell ⟨w.heap.size + 1, 2, none⟩ (.slice none 0 0)).setCell ⟨w.heap.size + 1, 3, none⟩ (.slice none 0 0)).setCell ⟨w.heap.size + 1, 4, none⟩ (.slice none 0 0)).setCell ⟨w.heap.size + 1, 5, none⟩ (.int .i64 0)).setCell ⟨w.heap.size + 1, 6, none⟩ (.int .i64 0)) (w.heap.size) 26 #[.int .i64 ep, .int .i64 ld, .slice A1 is.length c1, .slice A3 ks.length c3, .slice A5 rs.length c5, .int .i64 fw, .int .i64 ba] := (((((((B2_bx.out).far (p := ⟨w.heap.size + 1, 0, none⟩) (by show w.heap.size ≠ w.heap.size + 1; omega) _).far (p := ⟨w.heap.size + 1, 1, none⟩) (by show w.heap.size ≠ w.heap.size + 1; omega) _).far (p := ⟨w.heap.size + 1, 2, none⟩) (by show w.heap.size ≠ w.heap.size + 1; omega) _).far (p := ⟨w.heap.size + 1, 3, none⟩) (by show w.heap.size ≠ w.heap.size + 1; omega) _).far (p := ⟨w.heap.size + 1, 4, none⟩) (by show w.heap.size ≠ w.heap.size + 1; omega) _).far (p := ⟨w.heap.size + 1, 5, none⟩) (by show w.heap.size ≠ w.heap.size + 1; omega) _).far (p := ⟨w.heap.size + 1, 6, none⟩) (by show w.heap.size ≠ w.heap.size + 1; omega) _
      have b_bzF : Blk (((((((W2.setCell ⟨w.heap.size + 1, 0, none⟩ (.int .i64 0)).setCell ⟨w.heap.size + 1, 1, none⟩ (.int .i64 0)).setCell ⟨w.heap.size + 1, 2, none⟩ (.slice none 0 0)).setCell ⟨w.heap.size + 1, 3, none⟩ (.slice none 0 0)).setCell ⟨w.heap.size + 1, 4, none⟩ (.slice none 0 0)).setCell ⟨w.heap.size + 1, 5, none⟩ (.int .i64 0)).setCell ⟨w.heap.size + 1, 6, none⟩ (.int .i64 0)) (w.heap.size + 1) 26 #[.int .i64 0, .int .i64 0, .slice none 0 0, .slice none 0 0, .slice none 0 0, .int .i64 0, .int .i64 0] := (((((((B2_bz.out).set_ 0 _).set_ 1 _).set_ 2 _).set_ 3 _).set_ 4 _).set_ 5 _).set_ 6 _
      have y0 := b_bzF.cell 0
      have y1 := b_bzF.cell 1
      have y2 := b_bzF.cell 2
      have y3 := b_bzF.cell 3
      have y4 := b_bzF.cell 4
      have y5 := b_bzF.cell 5
      have y6 := b_bzF.cell 6
      exact bodyPost_ret (v := .tuple #[.agg #[.int .i64 0, .int .i64 0, .slice none 0 0, .slice none 0 0, .slice none 0 0, .int .i64 0, .int .i64 0], .int .i64 n]) (by simp [results, Try.results51, go_sem, y0, y1, y2, y3, y4, y5, y6]) rfl (⟨rfl, hbF⟩)
set_option maxRecDepth 100000 in
set_option maxHeartbeats 4000000 in
theorem wipedOf_up (v : Value) (c : PartD) (i : Nat) (hn : PartOk c) (hi : i < c.reps.length) (hu : c.reps[i].up = true) (w : World) (h : Pv w v c) : Calls Try.prog 51 #[v, .int .i64 i] w (RefusesP 12 w) := by
  have eqk := hn.known
  have eqi := hn.isr
  obtain ⟨xi, xk, xr, rfl, ix, kx, rx, hli, hlk, hlr⟩ := id h
  obtain ⟨A5, c5, rfl, hc5, hx5⟩ := rx.at_
  obtain ⟨A1, c1, rfl, hc1, hx1⟩ := ix.at_
  obtain ⟨A3, c3, rfl, hc3, hx3⟩ := kx.at_
  have H := Lib.hid h
  clear h ix kx rx
  unfold partV at *
  obtain ⟨ep, ld, is, ks, rs, fw, ba⟩ := c
  simp only at *
  have HN := Lib.hid hn
  have HSM := Lib.hid hn.small
  clear hn
  (try simp only at eqk eqi)
  have E1 := Lib.hid eqi
  have E2 := Lib.hid eqk
  have i0 : (0 : Int) ≤ (i : Int) := by omega
  have i1 : (i : Int) < (rs.length : Int) := Int.ofNat_lt.2 hi
  have i2 : (i : Int) < (is.length : Int) := by omega
  have i3 : (i : Int) < (ks.length : Int) := by omega
  have j2 : i < is.length := by omega
  have j3 : i < ks.length := by omega
  clear eqk eqi
  obtain ⟨b5, o5, rfl, hb5, hcell5⟩ := hx5 (Nat.lt_of_le_of_lt (Nat.zero_le _) hi)
  obtain ⟨pv, x0, x1, x2, x3, xb, xl⟩ := hcell5 i hi
  obtain ⟨b1, o1, rfl, hb1, hcell1⟩ := hx1 (by omega)
  have y0 := hcell1 i (by omega)
  obtain ⟨b3, o3, rfl, hb3, hcell3⟩ := hx3 (by omega)
  have u0 := hcell3 i (by omega)
  have HX := Lib.hid (show 0 < is.length → ∃ b off, (some ⟨b1, o1, none⟩ : Option Addr) = some ⟨b, off, none⟩ ∧ b < w.heap.size ∧ ∀ i (hi : i < is.length), w.cell? ⟨b, off + i, none⟩ = some (.bool is[i]) from fun _ => ⟨b1, o1, rfl, hb1, fun i hi => hcell1 i hi⟩)
  have XC := Lib.hid (And.intro x0 (And.intro x3 (And.intro y0 u0)))
  clear hcell5 hcell1 hcell3 x0 x1 x2 x3 xb xl y0 u0 hx1 hx3 hx5
  have hup : rs[i].up = true := hu
  have HU := Lib.hid hup
  clear hu hup
  go_enter Try.func51, Try.ntmps51
  go_wp2_with fail
  have hb1 : Below w.heap.size w ((w.alloc (.cells #[.int .i64 ep, .int .i64 ld, .slice (some ⟨b1, o1, none⟩) is.length c1, .slice (some ⟨b3, o3, none⟩) ks.length c3, .slice (some ⟨b5, o5, none⟩) rs.length c5, .int .i64 fw, .int .i64 ba] 26)).alloc (.cells #[.int .i64 0, .int .i64 0, .slice none 0 0, .slice none 0 0, .slice none 0 0, .int .i64 0, .int .i64 0] 26)) := ((Below.refl _ _).alloc (by first | omega | (simp; done) | (simp; omega)) _).alloc (by first | omega | (simp; done) | (simp; omega)) _
  have hal1 : Below w.heap.size w ((w.alloc (.cells #[.int .i64 ep, .int .i64 ld, .slice (some ⟨b1, o1, none⟩) is.length c1, .slice (some ⟨b3, o3, none⟩) ks.length c3, .slice (some ⟨b5, o5, none⟩) rs.length c5, .int .i64 fw, .int .i64 ba] 26)).alloc (.cells #[.int .i64 0, .int .i64 0, .slice none 0 0, .slice none 0 0, .slice none 0 0, .int .i64 0, .int .i64 0] 26)) := ((Below.refl _ _).alloc (by first | omega | (simp; done) | (simp; omega)) _).alloc (by first | omega | (simp; done) | (simp; omega)) _
  have b_bx1 : Blk ((w.alloc (.cells #[.int .i64 ep, .int .i64 ld, .slice (some ⟨b1, o1, none⟩) is.length c1, .slice (some ⟨b3, o3, none⟩) ks.length c3, .slice (some ⟨b5, o5, none⟩) rs.length c5, .int .i64 fw, .int .i64 ba] 26)).alloc (.cells #[.int .i64 0, .int .i64 0, .slice none 0 0, .slice none 0 0, .slice none 0 0, .int .i64 0, .int .i64 0] 26)) (w.heap.size) 26 #[.int .i64 ep, .int .i64 ld, .slice (some ⟨b1, o1, none⟩) is.length c1, .slice (some ⟨b3, o3, none⟩) ks.length c3, .slice (some ⟨b5, o5, none⟩) rs.length c5, .int .i64 fw, .int .i64 ba] := (Blk.new_ _ 26 #[.int .i64 ep, .int .i64 ld, .slice (some ⟨b1, o1, none⟩) is.length c1, .slice (some ⟨b3, o3, none⟩) ks.length c3, .slice (some ⟨b5, o5, none⟩) rs.length c5, .int .i64 fw, .int .i64 ba] (by first | rfl | (simp; done) | (simp; omega))).alloc _
  have b_bz1 : Blk ((w.alloc (.cells #[.int .i64 ep, .int .i64 ld, .slice (some ⟨b1, o1, none⟩) is.length c1, .slice (some ⟨b3, o3, none⟩) ks.length c3, .slice (some ⟨b5, o5, none⟩) rs.length c5, .int .i64 fw, .int .i64 ba] 26)).alloc (.cells #[.int .i64 0, .int .i64 0, .slice none 0 0, .slice none 0 0, .slice none 0 0, .int .i64 0, .int .i64 0] 26)) (w.heap.size + 1) 26 #[.int .i64 0, .int .i64 0, .slice none 0 0, .slice none 0 0, .slice none 0 0, .int .i64 0, .int .i64 0] := Blk.new_ _ 26 #[.int .i64 0, .int .i64 0, .slice none 0 0, .slice none 0 0, .slice none 0 0, .int .i64 0, .int .i64 0] (by first | rfl | (simp; done) | (simp; omega))
  have k_v1 := H.out.below hal1
  have hz1 : w.heap.size + 2 ≤ ((w.alloc (.cells #[.int .i64 ep, .int .i64 ld, .slice (some ⟨b1, o1, none⟩) is.length c1, .slice (some ⟨b3, o3, none⟩) ks.length c3, .slice (some ⟨b5, o5, none⟩) rs.length c5, .int .i64 fw, .int .i64 ba] 26)).alloc (.cells #[.int .i64 0, .int .i64 0, .slice none 0 0, .slice none 0 0, .slice none 0 0, .int .i64 0, .int .i64 0] 26)).heap.size := by first | omega | (simp; done) | (simp; omega)
  generalize (w.alloc (.cells #[.int .i64 ep, .int .i64 ld, .slice (some ⟨b1, o1, none⟩) is.length c1, .slice (some ⟨b3, o3, none⟩) ks.length c3, .slice (some ⟨b5, o5, none⟩) rs.length c5, .int .i64 fw, .int .i64 ba] 26)).alloc (.cells #[.int .i64 0, .int .i64 0, .slice none 0 0, .slice none 0 0, .slice none 0 0, .int .i64 0, .int .i64 0] 26) = W1 at *
  have HB1 := Lib.hid hb1
  have B1_bx := Lib.hid b_bx1
  have B1_bz := Lib.hid b_bz1
  have K1_v := Lib.hid k_v1
  clear hb1 b_bx1 b_bz1 k_v1
  clear H
  refine (partFault_ok _ ⟨ep, ld, is, ks, rs, fw, ba⟩ i HN.out hi _ K1_v.out).mono ?_
  rintro e W2 ⟨rfl, hb⟩
  have hb2 : Below w.heap.size w W2 := below_then HB1.out hb
  have b_bx2 := B1_bx.out.below hb B1_bx.out.lt
  have b_bz2 := B1_bz.out.below hb B1_bz.out.lt
  have k_v2 := K1_v.out.below hb
  have hz2 := hb.size
  have HB2 := Lib.hid hb2
  have B2_bx := Lib.hid b_bx2
  have B2_bz := Lib.hid b_bz2
  have K2_v := Lib.hid k_v2
  clear hb2 b_bx2 b_bz2 k_v2
  clear B1_bx B1_bz HB1 K1_v
  have c_bx0 := B2_bx.out.cell 0
  have c_bx1 := B2_bx.out.cell 1
  have c_bx2 := B2_bx.out.cell 2
  have c_bx3 := B2_bx.out.cell 3
  have c_bx4 := B2_bx.out.cell 4
  have c_bx5 := B2_bx.out.cell 5
  have c_bx6 := B2_bx.out.cell 6
  have l_bx := B2_bx.out.lt
  have v0 := (HB2.out.cell (p := ⟨b5, o5 + i * 4, none⟩) hb5).trans XC.out.1
  have v3 := (HB2.out.cell (p := ⟨b5, o5 + i * 4 + 3, none⟩) hb5).trans XC.out.2.1
  have v1 := (HB2.out.cell (p := ⟨b1, o1 + i, none⟩) hb1).trans XC.out.2.2.1
  have v2 := (HB2.out.cell (p := ⟨b3, o3 + i, none⟩) hb3).trans XC.out.2.2.2
  have vl5 := Nat.lt_of_lt_of_le hb5 HB2.out.size
  have vl1 := Nat.lt_of_lt_of_le hb1 HB2.out.size
  have vl3 := Nat.lt_of_lt_of_le hb3 HB2.out.size
  rw [HU.out] at v0
  go_wp2_with fail
  clear c_bx0 c_bx1 c_bx2 c_bx3 c_bx4 c_bx5 c_bx6 l_bx v0 v3 v1 v2 vl5 vl1 vl3
  have c_bx0 := B2_bx.out.cell 0
  have c_bx1 := B2_bx.out.cell 1
  have c_bx2 := B2_bx.out.cell 2
  have c_bx3 := B2_bx.out.cell 3
  have c_bx4 := B2_bx.out.cell 4
  have c_bx5 := B2_bx.out.cell 5
  have c_bx6 := B2_bx.out.cell 6
  have l_bx := B2_bx.out.lt
  go_loop [7, 8] (fun s x => ∃ (k : Nat) (b : Bool), k ≤ is.length ∧ s = .bool b ∧ x = .int .i64 k ∧ Hid (OthTo is (i : Int) k b)) (fun _ x => is.length - (intOf x).toNat)
  case atStart => exact ⟨0, false, Nat.zero_le _, rfl, rfl, by constructor <;> (intro h; simp at h)⟩
  case round =>
    obtain ⟨k, s, hk, rfl, rfl, HS⟩ := hrel
    by_cases hlt : k < is.length
    · obtain ⟨b1, o1, hA1, hbX, hc1'⟩ := HX.out (Nat.lt_of_le_of_lt (Nat.zero_le _) hlt)
      cases hA1
      have X0 := (HB2.out.cell (p := ⟨b1, o1 + k, none⟩) hbX).trans (hc1' k hlt)
      have k0 : (0 : Int) ≤ (k : Int) := by omega
      have k1 : (k : Int) < (is.length : Int) := Int.ofNat_lt.2 hlt
      have HS' := Lib.hid (HS.out.step hlt)
      clear hc1'
      generalize is[k] = bk at *
      rcases s with _ | _
      · by_cases hkr : (k : Int) = (i : Int)
        · have d1 : ((k : Int) != (i : Int)) = false := by simp only [bne_eq_false_iff_eq]; exact hkr
          have d2 : decide ((k : Int) ≠ (i : Int)) = false := decide_eq_false (fun h => h hkr)
          have HD := Lib.hid d2
          clear hkr d2
          go_wp2
          go_round
          case rel => exact ⟨k + 1, false, by omega, rfl, by go_num, by have h := HS'.out; rw [HD.out, Bool.false_and, Bool.false_or] at h; exact h⟩
          case measure => simp [intOf]; omega
        · have d1 : ((k : Int) != (i : Int)) = true := by simp only [bne_iff_ne]; exact hkr
          have d2 : decide ((k : Int) ≠ (i : Int)) = true := decide_eq_true hkr
          have HD := Lib.hid d2
          clear hkr d2
          go_wp2
          go_round
          case rel => exact ⟨k + 1, bk, by omega, rfl, by go_num, by have h := HS'.out; rw [HD.out, Bool.true_and, Bool.false_or] at h; exact h⟩
          case measure => simp [intOf]; omega
      · go_wp2
        go_round
        case rel => exact ⟨k + 1, true, by omega, rfl, by go_num, by have h := HS'.out; rw [Bool.true_or] at h; exact h⟩
        case measure => simp [intOf]; omega
    · obtain rfl : k = is.length := by omega
      clear hlt
      have c_bz0 := B2_bz.out.cell 0
      have f_bz0 := B2_bz.out.frozen 0
      have c_bz1 := B2_bz.out.cell 1
      have f_bz1 := B2_bz.out.frozen 1
      have c_bz2 := B2_bz.out.cell 2
      have f_bz2 := B2_bz.out.frozen 2
      have c_bz3 := B2_bz.out.cell 3
      have f_bz3 := B2_bz.out.frozen 3
      have c_bz4 := B2_bz.out.cell 4
      have f_bz4 := B2_bz.out.frozen 4
      have c_bz5 := B2_bz.out.cell 5
      have f_bz5 := B2_bz.out.frozen 5
      have c_bz6 := B2_bz.out.cell 6
      have f_bz6 := B2_bz.out.frozen 6
      have l_bz := B2_bz.out.lt
      go_wp2_with fail
      clear c_bx0 c_bx1 c_bx2 c_bx3 c_bx4 c_bx5 c_bx6 l_bx c_bz0 f_bz0 c_bz1 f_bz1 c_bz2 f_bz2 c_bz3 f_bz3 c_bz4 f_bz4 c_bz5 f_bz5 c_bz6 f_bz6 l_bz
      have hszF := HB2.out.size
      have hbF : Below w.heap.size w (((((((W2.setCell ⟨w.heap.size + 1, 0, none⟩ (.int .i64 0)).setCell ⟨w.heap.size + 1, 1, none⟩ (.int .i64 0)).setCell ⟨w.heap.size + 1, 2, none⟩ (.slice none 0 0)).setCell ⟨w.heap.size + 1, 3, none⟩ (.slice none 0 0)).setCell ⟨w.heap.size + 1, 4, none⟩ (.slice none 0 0)).setCell ⟨w.heap.size + 1, 5, none⟩ (.int .i64 0)).setCell ⟨w.heap.size + 1, 6, none⟩ (.int .i64 0)) := (((((((HB2.out).setCell (by show w.heap.size ≤ w.heap.size + 1; omega) _).setCell (by show w.heap.size ≤ w.heap.size + 1; omega) _).setCell (by show w.heap.size ≤ w.heap.size + 1; omega) _).setCell (by show w.heap.size ≤ w.heap.size + 1; omega) _).setCell (by show w.heap.size ≤ w.heap.size + 1; omega) _).setCell (by show w.heap.size ≤ w.heap.size + 1; omega) _).setCell (by show w.heap.size ≤ w.heap.size + 1; omega) _
      have b_bxF : Blk (((((((W2.setCell ⟨w.heap.size + 1, 0, none⟩ (.int .i64 0)).setCell ⟨w.heap.size + 1, 1, none⟩ (.int .i64 0)).setCell ⟨w.heap.size + 1, 2, none⟩ (.slice none 0 0)).setCell ⟨w.heap.size + 1, 3, none⟩ (.slice none 0 0)).setCell ⟨w.heap.size + 1, 4, none⟩ (.slice none 0 0)).setCell ⟨w.heap.size + 1, 5, none⟩ (.int .i64 0)).setCell ⟨w.heap.size + 1, 6, none⟩ (.int .i64 0)) (w.heap.size) 26 #[.int .i64 ep, .int .i64 ld, .slice (some ⟨b1, o1, none⟩) is.length c1, .slice (some ⟨b3, o3, none⟩) ks.length c3, .slice (some ⟨b5, o5, none⟩) rs.length c5, .int .i64 fw, .int .i64 ba] := (((((((B2_bx.out).far (p := ⟨w.heap.size + 1, 0, none⟩) (by show w.heap.size ≠ w.heap.size + 1; omega) _).far (p := ⟨w.heap.size + 1, 1, none⟩) (by show w.heap.size ≠ w.heap.size + 1; omega) _).far (p := ⟨w.heap.size + 1, 2, none⟩) (by show w.heap.size ≠ w.heap.size + 1; omega) _).far (p := ⟨w.heap.size + 1, 3, none⟩) (by show w.heap.size ≠ w.heap.size + 1; omega) _).far (p := ⟨w.heap.size + 1, 4, none⟩) (by show w.heap.size ≠ w.heap.size + 1; omega) _).far (p := ⟨w.heap.size + 1, 5, none⟩) (by show w.heap.size ≠ w.heap.size + 1; omega) _).far (p := ⟨w.heap.size + 1, 6, none⟩) (by show w.heap.size ≠ w.heap.size + 1; omega) _
      have b_bzF : Blk (((((((W2.setCell ⟨w.heap.size + 1, 0, none⟩ (.int .i64 0)).setCell ⟨w.heap.size + 1, 1, none⟩ (.int .i64 0)).setCell ⟨w.heap.size + 1, 2, none⟩ (.slice none 0 0)).setCell ⟨w.heap.size + 1, 3, none⟩ (.slice none 0 0)).setCell ⟨w.heap.size + 1, 4, none⟩ (.slice none 0 0)).setCell ⟨w.heap.size + 1, 5, none⟩ (.int .i64 0)).setCell ⟨w.heap.size + 1, 6, none⟩ (.int .i64 0)) (w.heap.size + 1) 26 #[.int .i64 0, .int .i64 0, .slice none 0 0, .slice none 0 0, .slice none 0 0, .int .i64 0, .int .i64 0] := (((((((B2_bz.out).set_ 0 _).set_ 1 _).set_ 2 _).set_ 3 _).set_ 4 _).set_ 5 _).set_ 6 _
      have y0 := b_bzF.cell 0
      have y1 := b_bzF.cell 1
      have y2 := b_bzF.cell 2
      have y3 := b_bzF.cell 3
      have y4 := b_bzF.cell 4
      have y5 := b_bzF.cell 5
      have y6 := b_bzF.cell 6
      exact bodyPost_ret (v := .tuple #[.agg #[.int .i64 0, .int .i64 0, .slice none 0 0, .slice none 0 0, .slice none 0 0, .int .i64 0, .int .i64 0], .int .i64 12]) (by simp [results, Try.results51, go_sem, y0, y1, y2, y3, y4, y5, y6]) rfl (⟨rfl, hbF⟩)
set_option maxRecDepth 100000 in
set_option maxHeartbeats 4000000 in
theorem wipedOf_last (v : Value) (c : PartD) (i : Nat) (hn : PartOk c) (hi : i < c.reps.length) (hu : c.reps[i].up = false) (hq : ¬ true ∈ c.isr.set i false) (w : World) (h : Pv w v c) : Calls Try.prog 51 #[v, .int .i64 i] w (RefusesP 8 w) := by
  have eqk := hn.known
  have eqi := hn.isr
  obtain ⟨xi, xk, xr, rfl, ix, kx, rx, hli, hlk, hlr⟩ := id h
  obtain ⟨A5, c5, rfl, hc5, hx5⟩ := rx.at_
  obtain ⟨A1, c1, rfl, hc1, hx1⟩ := ix.at_
  obtain ⟨A3, c3, rfl, hc3, hx3⟩ := kx.at_
  have H := Lib.hid h
  clear h ix kx rx
  unfold partV at *
  obtain ⟨ep, ld, is, ks, rs, fw, ba⟩ := c
  simp only at *
  have HN := Lib.hid hn
  have HSM := Lib.hid hn.small
  clear hn
  (try simp only at eqk eqi)
  have E1 := Lib.hid eqi
  have E2 := Lib.hid eqk
  have i0 : (0 : Int) ≤ (i : Int) := by omega
  have i1 : (i : Int) < (rs.length : Int) := Int.ofNat_lt.2 hi
  have i2 : (i : Int) < (is.length : Int) := by omega
  have i3 : (i : Int) < (ks.length : Int) := by omega
  have j2 : i < is.length := by omega
  have j3 : i < ks.length := by omega
  clear eqk eqi
  obtain ⟨b5, o5, rfl, hb5, hcell5⟩ := hx5 (Nat.lt_of_le_of_lt (Nat.zero_le _) hi)
  obtain ⟨pv, x0, x1, x2, x3, xb, xl⟩ := hcell5 i hi
  obtain ⟨b1, o1, rfl, hb1, hcell1⟩ := hx1 (by omega)
  have y0 := hcell1 i (by omega)
  obtain ⟨b3, o3, rfl, hb3, hcell3⟩ := hx3 (by omega)
  have u0 := hcell3 i (by omega)
  have HX := Lib.hid (show 0 < is.length → ∃ b off, (some ⟨b1, o1, none⟩ : Option Addr) = some ⟨b, off, none⟩ ∧ b < w.heap.size ∧ ∀ i (hi : i < is.length), w.cell? ⟨b, off + i, none⟩ = some (.bool is[i]) from fun _ => ⟨b1, o1, rfl, hb1, fun i hi => hcell1 i hi⟩)
  have XC := Lib.hid (And.intro x0 (And.intro x3 (And.intro y0 u0)))
  clear hcell5 hcell1 hcell3 x0 x1 x2 x3 xb xl y0 u0 hx1 hx3 hx5
  have hup : rs[i].up = false := hu
  have HU := Lib.hid hup
  clear hu hup
  have HQ := Lib.hid hq
  clear hq
  go_enter Try.func51, Try.ntmps51
  go_wp2_with fail
  have hb1 : Below w.heap.size w ((w.alloc (.cells #[.int .i64 ep, .int .i64 ld, .slice (some ⟨b1, o1, none⟩) is.length c1, .slice (some ⟨b3, o3, none⟩) ks.length c3, .slice (some ⟨b5, o5, none⟩) rs.length c5, .int .i64 fw, .int .i64 ba] 26)).alloc (.cells #[.int .i64 0, .int .i64 0, .slice none 0 0, .slice none 0 0, .slice none 0 0, .int .i64 0, .int .i64 0] 26)) := ((Below.refl _ _).alloc (by first | omega | (simp; done) | (simp; omega)) _).alloc (by first | omega | (simp; done) | (simp; omega)) _
  have hal1 : Below w.heap.size w ((w.alloc (.cells #[.int .i64 ep, .int .i64 ld, .slice (some ⟨b1, o1, none⟩) is.length c1, .slice (some ⟨b3, o3, none⟩) ks.length c3, .slice (some ⟨b5, o5, none⟩) rs.length c5, .int .i64 fw, .int .i64 ba] 26)).alloc (.cells #[.int .i64 0, .int .i64 0, .slice none 0 0, .slice none 0 0, .slice none 0 0, .int .i64 0, .int .i64 0] 26)) := ((Below.refl _ _).alloc (by first | omega | (simp; done) | (simp; omega)) _).alloc (by first | omega | (simp; done) | (simp; omega)) _
  have b_bx1 : Blk ((w.alloc (.cells #[.int .i64 ep, .int .i64 ld, .slice (some ⟨b1, o1, none⟩) is.length c1, .slice (some ⟨b3, o3, none⟩) ks.length c3, .slice (some ⟨b5, o5, none⟩) rs.length c5, .int .i64 fw, .int .i64 ba] 26)).alloc (.cells #[.int .i64 0, .int .i64 0, .slice none 0 0, .slice none 0 0, .slice none 0 0, .int .i64 0, .int .i64 0] 26)) (w.heap.size) 26 #[.int .i64 ep, .int .i64 ld, .slice (some ⟨b1, o1, none⟩) is.length c1, .slice (some ⟨b3, o3, none⟩) ks.length c3, .slice (some ⟨b5, o5, none⟩) rs.length c5, .int .i64 fw, .int .i64 ba] := (Blk.new_ _ 26 #[.int .i64 ep, .int .i64 ld, .slice (some ⟨b1, o1, none⟩) is.length c1, .slice (some ⟨b3, o3, none⟩) ks.length c3, .slice (some ⟨b5, o5, none⟩) rs.length c5, .int .i64 fw, .int .i64 ba] (by first | rfl | (simp; done) | (simp; omega))).alloc _
  have b_bz1 : Blk ((w.alloc (.cells #[.int .i64 ep, .int .i64 ld, .slice (some ⟨b1, o1, none⟩) is.length c1, .slice (some ⟨b3, o3, none⟩) ks.length c3, .slice (some ⟨b5, o5, none⟩) rs.length c5, .int .i64 fw, .int .i64 ba] 26)).alloc (.cells #[.int .i64 0, .int .i64 0, .slice none 0 0, .slice none 0 0, .slice none 0 0, .int .i64 0, .int .i64 0] 26)) (w.heap.size + 1) 26 #[.int .i64 0, .int .i64 0, .slice none 0 0, .slice none 0 0, .slice none 0 0, .int .i64 0, .int .i64 0] := Blk.new_ _ 26 #[.int .i64 0, .int .i64 0, .slice none 0 0, .slice none 0 0, .slice none 0 0, .int .i64 0, .int .i64 0] (by first | rfl | (simp; done) | (simp; omega))
  have k_v1 := H.out.below hal1
  have hz1 : w.heap.size + 2 ≤ ((w.alloc (.cells #[.int .i64 ep, .int .i64 ld, .slice (some ⟨b1, o1, none⟩) is.length c1, .slice (some ⟨b3, o3, none⟩) ks.length c3, .slice (some ⟨b5, o5, none⟩) rs.length c5, .int .i64 fw, .int .i64 ba] 26)).alloc (.cells #[.int .i64 0, .int .i64 0, .slice none 0 0, .slice none 0 0, .slice none 0 0, .int .i64 0, .int .i64 0] 26)).heap.size := by first | omega | (simp; done) | (simp; omega)
  generalize (w.alloc (.cells #[.int .i64 ep, .int .i64 ld, .slice (some ⟨b1, o1, none⟩) is.length c1, .slice (some ⟨b3, o3, none⟩) ks.length c3, .slice (some ⟨b5, o5, none⟩) rs.length c5, .int .i64 fw, .int .i64 ba] 26)).alloc (.cells #[.int .i64 0, .int .i64 0, .slice none 0 0, .slice none 0 0, .slice none 0 0, .int .i64 0, .int .i64 0] 26) = W1 at *
  have HB1 := Lib.hid hb1
  have B1_bx := Lib.hid b_bx1
  have B1_bz := Lib.hid b_bz1
  have K1_v := Lib.hid k_v1
  clear hb1 b_bx1 b_bz1 k_v1
  clear H
  refine (partFault_ok _ ⟨ep, ld, is, ks, rs, fw, ba⟩ i HN.out hi _ K1_v.out).mono ?_
  rintro e W2 ⟨rfl, hb⟩
  have hb2 : Below w.heap.size w W2 := below_then HB1.out hb
  have b_bx2 := B1_bx.out.below hb B1_bx.out.lt
  have b_bz2 := B1_bz.out.below hb B1_bz.out.lt
  have k_v2 := K1_v.out.below hb
  have hz2 := hb.size
  have HB2 := Lib.hid hb2
  have B2_bx := Lib.hid b_bx2
  have B2_bz := Lib.hid b_bz2
  have K2_v := Lib.hid k_v2
  clear hb2 b_bx2 b_bz2 k_v2
  clear B1_bx B1_bz HB1 K1_v
  have c_bx0 := B2_bx.out.cell 0
  have c_bx1 := B2_bx.out.cell 1
  have c_bx2 := B2_bx.out.cell 2
  have c_bx3 := B2_bx.out.cell 3
  have c_bx4 := B2_bx.out.cell 4
  have c_bx5 := B2_bx.out.cell 5
  have c_bx6 := B2_bx.out.cell 6
  have l_bx := B2_bx.out.lt
  have v0 := (HB2.out.cell (p := ⟨b5, o5 + i * 4, none⟩) hb5).trans XC.out.1
  have v3 := (HB2.out.cell (p := ⟨b5, o5 + i * 4 + 3, none⟩) hb5).trans XC.out.2.1
  have v1 := (HB2.out.cell (p := ⟨b1, o1 + i, none⟩) hb1).trans XC.out.2.2.1
  have v2 := (HB2.out.cell (p := ⟨b3, o3 + i, none⟩) hb3).trans XC.out.2.2.2
  have vl5 := Nat.lt_of_lt_of_le hb5 HB2.out.size
  have vl1 := Nat.lt_of_lt_of_le hb1 HB2.out.size
  have vl3 := Nat.lt_of_lt_of_le hb3 HB2.out.size
  rw [HU.out] at v0
  go_wp2_with fail
  clear c_bx0 c_bx1 c_bx2 c_bx3 c_bx4 c_bx5 c_bx6 l_bx v0 v3 v1 v2 vl5 vl1 vl3
  have c_bx0 := B2_bx.out.cell 0
  have c_bx1 := B2_bx.out.cell 1
  have c_bx2 := B2_bx.out.cell 2
  have c_bx3 := B2_bx.out.cell 3
  have c_bx4 := B2_bx.out.cell 4
  have c_bx5 := B2_bx.out.cell 5
  have c_bx6 := B2_bx.out.cell 6
  have l_bx := B2_bx.out.lt
  go_loop [7, 8] (fun s x => ∃ (k : Nat) (b : Bool), k ≤ is.length ∧ s = .bool b ∧ x = .int .i64 k ∧ Hid (OthTo is (i : Int) k b)) (fun _ x => is.length - (intOf x).toNat)
  case atStart => exact ⟨0, false, Nat.zero_le _, rfl, rfl, by constructor <;> (intro h; simp at h)⟩
  case round =>
    obtain ⟨k, s, hk, rfl, rfl, HS⟩ := hrel
    by_cases hlt : k < is.length
    · obtain ⟨b1, o1, hA1, hbX, hc1'⟩ := HX.out (Nat.lt_of_le_of_lt (Nat.zero_le _) hlt)
      cases hA1
      have X0 := (HB2.out.cell (p := ⟨b1, o1 + k, none⟩) hbX).trans (hc1' k hlt)
      have k0 : (0 : Int) ≤ (k : Int) := by omega
      have k1 : (k : Int) < (is.length : Int) := Int.ofNat_lt.2 hlt
      have HS' := Lib.hid (HS.out.step hlt)
      clear hc1'
      generalize is[k] = bk at *
      rcases s with _ | _
      · by_cases hkr : (k : Int) = (i : Int)
        · have d1 : ((k : Int) != (i : Int)) = false := by simp only [bne_eq_false_iff_eq]; exact hkr
          have d2 : decide ((k : Int) ≠ (i : Int)) = false := decide_eq_false (fun h => h hkr)
          have HD := Lib.hid d2
          clear hkr d2
          go_wp2
          go_round
          case rel => exact ⟨k + 1, false, by omega, rfl, by go_num, by have h := HS'.out; rw [HD.out, Bool.false_and, Bool.false_or] at h; exact h⟩
          case measure => simp [intOf]; omega
        · have d1 : ((k : Int) != (i : Int)) = true := by simp only [bne_iff_ne]; exact hkr
          have d2 : decide ((k : Int) ≠ (i : Int)) = true := decide_eq_true hkr
          have HD := Lib.hid d2
          clear hkr d2
          go_wp2
          go_round
          case rel => exact ⟨k + 1, bk, by omega, rfl, by go_num, by have h := HS'.out; rw [HD.out, Bool.true_and, Bool.false_or] at h; exact h⟩
          case measure => simp [intOf]; omega
      · go_wp2
        go_round
        case rel => exact ⟨k + 1, true, by omega, rfl, by go_num, by have h := HS'.out; rw [Bool.true_or] at h; exact h⟩
        case measure => simp [intOf]; omega
    · obtain rfl : k = is.length := by omega
      clear hlt
      obtain rfl : s = false := by
        rcases s with _ | _
        · rfl
        · exact absurd (HS.out.all.1 rfl) HQ.out
      have c_bz0 := B2_bz.out.cell 0
      have f_bz0 := B2_bz.out.frozen 0
      have c_bz1 := B2_bz.out.cell 1
      have f_bz1 := B2_bz.out.frozen 1
      have c_bz2 := B2_bz.out.cell 2
      have f_bz2 := B2_bz.out.frozen 2
      have c_bz3 := B2_bz.out.cell 3
      have f_bz3 := B2_bz.out.frozen 3
      have c_bz4 := B2_bz.out.cell 4
      have f_bz4 := B2_bz.out.frozen 4
      have c_bz5 := B2_bz.out.cell 5
      have f_bz5 := B2_bz.out.frozen 5
      have c_bz6 := B2_bz.out.cell 6
      have f_bz6 := B2_bz.out.frozen 6
      have l_bz := B2_bz.out.lt
      go_wp2_with fail
      clear c_bx0 c_bx1 c_bx2 c_bx3 c_bx4 c_bx5 c_bx6 l_bx c_bz0 f_bz0 c_bz1 f_bz1 c_bz2 f_bz2 c_bz3 f_bz3 c_bz4 f_bz4 c_bz5 f_bz5 c_bz6 f_bz6 l_bz
      have hszF := HB2.out.size
      have hbF : Below w.heap.size w (((((((W2.setCell ⟨w.heap.size + 1, 0, none⟩ (.int .i64 0)).setCell ⟨w.heap.size + 1, 1, none⟩ (.int .i64 0)).setCell ⟨w.heap.size + 1, 2, none⟩ (.slice none 0 0)).setCell ⟨w.heap.size + 1, 3, none⟩ (.slice none 0 0)).setCell ⟨w.heap.size + 1, 4, none⟩ (.slice none 0 0)).setCell ⟨w.heap.size + 1, 5, none⟩ (.int .i64 0)).setCell ⟨w.heap.size + 1, 6, none⟩ (.int .i64 0)) := (((((((HB2.out).setCell (by show w.heap.size ≤ w.heap.size + 1; omega) _).setCell (by show w.heap.size ≤ w.heap.size + 1; omega) _).setCell (by show w.heap.size ≤ w.heap.size + 1; omega) _).setCell (by show w.heap.size ≤ w.heap.size + 1; omega) _).setCell (by show w.heap.size ≤ w.heap.size + 1; omega) _).setCell (by show w.heap.size ≤ w.heap.size + 1; omega) _).setCell (by show w.heap.size ≤ w.heap.size + 1; omega) _
      have b_bxF : Blk (((((((W2.setCell ⟨w.heap.size + 1, 0, none⟩ (.int .i64 0)).setCell ⟨w.heap.size + 1, 1, none⟩ (.int .i64 0)).setCell ⟨w.heap.size + 1, 2, none⟩ (.slice none 0 0)).setCell ⟨w.heap.size + 1, 3, none⟩ (.slice none 0 0)).setCell ⟨w.heap.size + 1, 4, none⟩ (.slice none 0 0)).setCell ⟨w.heap.size + 1, 5, none⟩ (.int .i64 0)).setCell ⟨w.heap.size + 1, 6, none⟩ (.int .i64 0)) (w.heap.size) 26 #[.int .i64 ep, .int .i64 ld, .slice (some ⟨b1, o1, none⟩) is.length c1, .slice (some ⟨b3, o3, none⟩) ks.length c3, .slice (some ⟨b5, o5, none⟩) rs.length c5, .int .i64 fw, .int .i64 ba] := (((((((B2_bx.out).far (p := ⟨w.heap.size + 1, 0, none⟩) (by show w.heap.size ≠ w.heap.size + 1; omega) _).far (p := ⟨w.heap.size + 1, 1, none⟩) (by show w.heap.size ≠ w.heap.size + 1; omega) _).far (p := ⟨w.heap.size + 1, 2, none⟩) (by show w.heap.size ≠ w.heap.size + 1; omega) _).far (p := ⟨w.heap.size + 1, 3, none⟩) (by show w.heap.size ≠ w.heap.size + 1; omega) _).far (p := ⟨w.heap.size + 1, 4, none⟩) (by show w.heap.size ≠ w.heap.size + 1; omega) _).far (p := ⟨w.heap.size + 1, 5, none⟩) (by show w.heap.size ≠ w.heap.size + 1; omega) _).far (p := ⟨w.heap.size + 1, 6, none⟩) (by show w.heap.size ≠ w.heap.size + 1; omega) _
      have b_bzF : Blk (((((((W2.setCell ⟨w.heap.size + 1, 0, none⟩ (.int .i64 0)).setCell ⟨w.heap.size + 1, 1, none⟩ (.int .i64 0)).setCell ⟨w.heap.size + 1, 2, none⟩ (.slice none 0 0)).setCell ⟨w.heap.size + 1, 3, none⟩ (.slice none 0 0)).setCell ⟨w.heap.size + 1, 4, none⟩ (.slice none 0 0)).setCell ⟨w.heap.size + 1, 5, none⟩ (.int .i64 0)).setCell ⟨w.heap.size + 1, 6, none⟩ (.int .i64 0)) (w.heap.size + 1) 26 #[.int .i64 0, .int .i64 0, .slice none 0 0, .slice none 0 0, .slice none 0 0, .int .i64 0, .int .i64 0] := (((((((B2_bz.out).set_ 0 _).set_ 1 _).set_ 2 _).set_ 3 _).set_ 4 _).set_ 5 _).set_ 6 _
      have y0 := b_bzF.cell 0
      have y1 := b_bzF.cell 1
      have y2 := b_bzF.cell 2
      have y3 := b_bzF.cell 3
      have y4 := b_bzF.cell 4
      have y5 := b_bzF.cell 5
      have y6 := b_bzF.cell 6
      exact bodyPost_ret (v := .tuple #[.agg #[.int .i64 0, .int .i64 0, .slice none 0 0, .slice none 0 0, .slice none 0 0, .int .i64 0, .int .i64 0], .int .i64 8]) (by simp [results, Try.results51, go_sem, y0, y1, y2, y3, y4, y5, y6]) rfl (⟨rfl, hbF⟩)
set_option maxRecDepth 100000 in
set_option maxHeartbeats 4000000 in
theorem wipedOf_good (v : Value) (c : PartD) (i : Nat) (hn : PartOk c) (hi : i < c.reps.length) (hu : c.reps[i].up = false) (hq : true ∈ c.isr.set i false) (w : World) (h : Pv w v c) : Calls Try.prog 51 #[v, .int .i64 i] w (OwnsP { c with isr := c.isr.set i false, reps := c.reps.set i ({ up := false, bytes := [], synced := 0, high := 0 } : RepD), known := c.known.set i 0 } w) := by
  have eqk := hn.known
  have eqi := hn.isr
  obtain ⟨xi, xk, xr, rfl, ix, kx, rx, hli, hlk, hlr⟩ := id h
  obtain ⟨A5, c5, rfl, hc5, hx5⟩ := rx.at_
  obtain ⟨A1, c1, rfl, hc1, hx1⟩ := ix.at_
  obtain ⟨A3, c3, rfl, hc3, hx3⟩ := kx.at_
  have H := Lib.hid h
  clear h ix kx rx
  unfold partV at *
  obtain ⟨ep, ld, is, ks, rs, fw, ba⟩ := c
  simp only at *
  have HN := Lib.hid hn
  have HSM := Lib.hid hn.small
  clear hn
  (try simp only at eqk eqi)
  have E1 := Lib.hid eqi
  have E2 := Lib.hid eqk
  have i0 : (0 : Int) ≤ (i : Int) := by omega
  have i1 : (i : Int) < (rs.length : Int) := Int.ofNat_lt.2 hi
  have i2 : (i : Int) < (is.length : Int) := by omega
  have i3 : (i : Int) < (ks.length : Int) := by omega
  have j2 : i < is.length := by omega
  have j3 : i < ks.length := by omega
  clear eqk eqi
  obtain ⟨b5, o5, rfl, hb5, hcell5⟩ := hx5 (Nat.lt_of_le_of_lt (Nat.zero_le _) hi)
  obtain ⟨pv, x0, x1, x2, x3, xb, xl⟩ := hcell5 i hi
  obtain ⟨b1, o1, rfl, hb1, hcell1⟩ := hx1 (by omega)
  have y0 := hcell1 i (by omega)
  obtain ⟨b3, o3, rfl, hb3, hcell3⟩ := hx3 (by omega)
  have u0 := hcell3 i (by omega)
  have HX := Lib.hid (show 0 < is.length → ∃ b off, (some ⟨b1, o1, none⟩ : Option Addr) = some ⟨b, off, none⟩ ∧ b < w.heap.size ∧ ∀ i (hi : i < is.length), w.cell? ⟨b, off + i, none⟩ = some (.bool is[i]) from fun _ => ⟨b1, o1, rfl, hb1, fun i hi => hcell1 i hi⟩)
  have XC := Lib.hid (And.intro x0 (And.intro x3 (And.intro y0 u0)))
  clear hcell5 hcell1 hcell3 x0 x1 x2 x3 xb xl y0 u0 hx1 hx3 hx5
  have hup : rs[i].up = false := hu
  have HU := Lib.hid hup
  clear hu hup
  have HQ := Lib.hid hq
  clear hq
  go_enter Try.func51, Try.ntmps51
  go_wp2_with fail
  have hb1 : Below w.heap.size w ((w.alloc (.cells #[.int .i64 ep, .int .i64 ld, .slice (some ⟨b1, o1, none⟩) is.length c1, .slice (some ⟨b3, o3, none⟩) ks.length c3, .slice (some ⟨b5, o5, none⟩) rs.length c5, .int .i64 fw, .int .i64 ba] 26)).alloc (.cells #[.int .i64 0, .int .i64 0, .slice none 0 0, .slice none 0 0, .slice none 0 0, .int .i64 0, .int .i64 0] 26)) := ((Below.refl _ _).alloc (by first | omega | (simp; done) | (simp; omega)) _).alloc (by first | omega | (simp; done) | (simp; omega)) _
  have hal1 : Below w.heap.size w ((w.alloc (.cells #[.int .i64 ep, .int .i64 ld, .slice (some ⟨b1, o1, none⟩) is.length c1, .slice (some ⟨b3, o3, none⟩) ks.length c3, .slice (some ⟨b5, o5, none⟩) rs.length c5, .int .i64 fw, .int .i64 ba] 26)).alloc (.cells #[.int .i64 0, .int .i64 0, .slice none 0 0, .slice none 0 0, .slice none 0 0, .int .i64 0, .int .i64 0] 26)) := ((Below.refl _ _).alloc (by first | omega | (simp; done) | (simp; omega)) _).alloc (by first | omega | (simp; done) | (simp; omega)) _
  have b_bx1 : Blk ((w.alloc (.cells #[.int .i64 ep, .int .i64 ld, .slice (some ⟨b1, o1, none⟩) is.length c1, .slice (some ⟨b3, o3, none⟩) ks.length c3, .slice (some ⟨b5, o5, none⟩) rs.length c5, .int .i64 fw, .int .i64 ba] 26)).alloc (.cells #[.int .i64 0, .int .i64 0, .slice none 0 0, .slice none 0 0, .slice none 0 0, .int .i64 0, .int .i64 0] 26)) (w.heap.size) 26 #[.int .i64 ep, .int .i64 ld, .slice (some ⟨b1, o1, none⟩) is.length c1, .slice (some ⟨b3, o3, none⟩) ks.length c3, .slice (some ⟨b5, o5, none⟩) rs.length c5, .int .i64 fw, .int .i64 ba] := (Blk.new_ _ 26 #[.int .i64 ep, .int .i64 ld, .slice (some ⟨b1, o1, none⟩) is.length c1, .slice (some ⟨b3, o3, none⟩) ks.length c3, .slice (some ⟨b5, o5, none⟩) rs.length c5, .int .i64 fw, .int .i64 ba] (by first | rfl | (simp; done) | (simp; omega))).alloc _
  have b_bz1 : Blk ((w.alloc (.cells #[.int .i64 ep, .int .i64 ld, .slice (some ⟨b1, o1, none⟩) is.length c1, .slice (some ⟨b3, o3, none⟩) ks.length c3, .slice (some ⟨b5, o5, none⟩) rs.length c5, .int .i64 fw, .int .i64 ba] 26)).alloc (.cells #[.int .i64 0, .int .i64 0, .slice none 0 0, .slice none 0 0, .slice none 0 0, .int .i64 0, .int .i64 0] 26)) (w.heap.size + 1) 26 #[.int .i64 0, .int .i64 0, .slice none 0 0, .slice none 0 0, .slice none 0 0, .int .i64 0, .int .i64 0] := Blk.new_ _ 26 #[.int .i64 0, .int .i64 0, .slice none 0 0, .slice none 0 0, .slice none 0 0, .int .i64 0, .int .i64 0] (by first | rfl | (simp; done) | (simp; omega))
  have k_v1 := H.out.below hal1
  have hz1 : w.heap.size + 2 ≤ ((w.alloc (.cells #[.int .i64 ep, .int .i64 ld, .slice (some ⟨b1, o1, none⟩) is.length c1, .slice (some ⟨b3, o3, none⟩) ks.length c3, .slice (some ⟨b5, o5, none⟩) rs.length c5, .int .i64 fw, .int .i64 ba] 26)).alloc (.cells #[.int .i64 0, .int .i64 0, .slice none 0 0, .slice none 0 0, .slice none 0 0, .int .i64 0, .int .i64 0] 26)).heap.size := by first | omega | (simp; done) | (simp; omega)
  generalize (w.alloc (.cells #[.int .i64 ep, .int .i64 ld, .slice (some ⟨b1, o1, none⟩) is.length c1, .slice (some ⟨b3, o3, none⟩) ks.length c3, .slice (some ⟨b5, o5, none⟩) rs.length c5, .int .i64 fw, .int .i64 ba] 26)).alloc (.cells #[.int .i64 0, .int .i64 0, .slice none 0 0, .slice none 0 0, .slice none 0 0, .int .i64 0, .int .i64 0] 26) = W1 at *
  have HB1 := Lib.hid hb1
  have B1_bx := Lib.hid b_bx1
  have B1_bz := Lib.hid b_bz1
  have K1_v := Lib.hid k_v1
  clear hb1 b_bx1 b_bz1 k_v1
  clear H
  refine (partFault_ok _ ⟨ep, ld, is, ks, rs, fw, ba⟩ i HN.out hi _ K1_v.out).mono ?_
  rintro e W2 ⟨rfl, hb⟩
  have hb2 : Below w.heap.size w W2 := below_then HB1.out hb
  have b_bx2 := B1_bx.out.below hb B1_bx.out.lt
  have b_bz2 := B1_bz.out.below hb B1_bz.out.lt
  have k_v2 := K1_v.out.below hb
  have hz2 := hb.size
  have HB2 := Lib.hid hb2
  have B2_bx := Lib.hid b_bx2
  have B2_bz := Lib.hid b_bz2
  have K2_v := Lib.hid k_v2
  clear hb2 b_bx2 b_bz2 k_v2
  clear B1_bx B1_bz HB1 K1_v
  have c_bx0 := B2_bx.out.cell 0
  have c_bx1 := B2_bx.out.cell 1
  have c_bx2 := B2_bx.out.cell 2
  have c_bx3 := B2_bx.out.cell 3
  have c_bx4 := B2_bx.out.cell 4
  have c_bx5 := B2_bx.out.cell 5
  have c_bx6 := B2_bx.out.cell 6
  have l_bx := B2_bx.out.lt
  have v0 := (HB2.out.cell (p := ⟨b5, o5 + i * 4, none⟩) hb5).trans XC.out.1
  have v3 := (HB2.out.cell (p := ⟨b5, o5 + i * 4 + 3, none⟩) hb5).trans XC.out.2.1
  have v1 := (HB2.out.cell (p := ⟨b1, o1 + i, none⟩) hb1).trans XC.out.2.2.1
  have v2 := (HB2.out.cell (p := ⟨b3, o3 + i, none⟩) hb3).trans XC.out.2.2.2
  have vl5 := Nat.lt_of_lt_of_le hb5 HB2.out.size
  have vl1 := Nat.lt_of_lt_of_le hb1 HB2.out.size
  have vl3 := Nat.lt_of_lt_of_le hb3 HB2.out.size
  rw [HU.out] at v0
  go_wp2_with fail
  clear c_bx0 c_bx1 c_bx2 c_bx3 c_bx4 c_bx5 c_bx6 l_bx v0 v3 v1 v2 vl5 vl1 vl3
  have c_bx0 := B2_bx.out.cell 0
  have c_bx1 := B2_bx.out.cell 1
  have c_bx2 := B2_bx.out.cell 2
  have c_bx3 := B2_bx.out.cell 3
  have c_bx4 := B2_bx.out.cell 4
  have c_bx5 := B2_bx.out.cell 5
  have c_bx6 := B2_bx.out.cell 6
  have l_bx := B2_bx.out.lt
  go_loop [7, 8] (fun s x => ∃ (k : Nat) (b : Bool), k ≤ is.length ∧ s = .bool b ∧ x = .int .i64 k ∧ Hid (OthTo is (i : Int) k b)) (fun _ x => is.length - (intOf x).toNat)
  case atStart => exact ⟨0, false, Nat.zero_le _, rfl, rfl, by constructor <;> (intro h; simp at h)⟩
  case round =>
    obtain ⟨k, s, hk, rfl, rfl, HS⟩ := hrel
    by_cases hlt : k < is.length
    · obtain ⟨b1, o1, hA1, hbX, hc1'⟩ := HX.out (Nat.lt_of_le_of_lt (Nat.zero_le _) hlt)
      cases hA1
      have X0 := (HB2.out.cell (p := ⟨b1, o1 + k, none⟩) hbX).trans (hc1' k hlt)
      have k0 : (0 : Int) ≤ (k : Int) := by omega
      have k1 : (k : Int) < (is.length : Int) := Int.ofNat_lt.2 hlt
      have HS' := Lib.hid (HS.out.step hlt)
      clear hc1'
      generalize is[k] = bk at *
      rcases s with _ | _
      · by_cases hkr : (k : Int) = (i : Int)
        · have d1 : ((k : Int) != (i : Int)) = false := by simp only [bne_eq_false_iff_eq]; exact hkr
          have d2 : decide ((k : Int) ≠ (i : Int)) = false := decide_eq_false (fun h => h hkr)
          have HD := Lib.hid d2
          clear hkr d2
          go_wp2
          go_round
          case rel => exact ⟨k + 1, false, by omega, rfl, by go_num, by have h := HS'.out; rw [HD.out, Bool.false_and, Bool.false_or] at h; exact h⟩
          case measure => simp [intOf]; omega
        · have d1 : ((k : Int) != (i : Int)) = true := by simp only [bne_iff_ne]; exact hkr
          have d2 : decide ((k : Int) ≠ (i : Int)) = true := decide_eq_true hkr
          have HD := Lib.hid d2
          clear hkr d2
          go_wp2
          go_round
          case rel => exact ⟨k + 1, bk, by omega, rfl, by go_num, by have h := HS'.out; rw [HD.out, Bool.true_and, Bool.false_or] at h; exact h⟩
          case measure => simp [intOf]; omega
      · go_wp2
        go_round
        case rel => exact ⟨k + 1, true, by omega, rfl, by go_num, by have h := HS'.out; rw [Bool.true_or] at h; exact h⟩
        case measure => simp [intOf]; omega
    · obtain rfl : k = is.length := by omega
      clear hlt
      obtain rfl : s = true := HS.out.all.2 HQ.out
      go_wp2_with fail
      clear c_bx0 c_bx1 c_bx2 c_bx3 c_bx4 c_bx5 c_bx6 l_bx
      refine (refPartCopy_ok (c := ⟨ep, ld, is, ks, rs, fw, ba⟩) (K2_v.out) HSM.out).mono ?_
      rintro e W3 ⟨iv, kv, rv, rfl, ho, hb⟩
      obtain ⟨gi, d1, gk, d3, gr, d5, rfl, rfl, rfl, hgi, hgk, hgr, hgi', hgk', hgr'⟩ := ho.rows (by have := HN.out.isr; have := HN.out.many; simp only at *; omega) (by have := HN.out.known; have := HN.out.many; simp only at *; omega) (by have := HN.out.many; simp only at *; omega)
      unfold partV
      simp only at *
      have HO := Lib.hid ho
      clear ho
      have hb3 : Below w.heap.size w W3 := below_then HB2.out hb
      have b_bx3 := B2_bx.out.below hb B2_bx.out.lt
      have b_bz3 := B2_bz.out.below hb B2_bz.out.lt
      have k_v3 := K2_v.out.below hb
      have hz3 := hb.size
      have HB3 := Lib.hid hb3
      have B3_bx := Lib.hid b_bx3
      have B3_bz := Lib.hid b_bz3
      have K3_v := Lib.hid k_v3
      clear hb3 b_bx3 b_bz3 k_v3
      clear B2_bx B2_bz HB2 K2_v
      go_upto_region 14 with fail
      have hsz4 := HB3.out.size
      have hb4 : Below w.heap.size w (W3.alloc (.cells #[.int .i64 ep, .int .i64 ld, .slice (some ⟨gi, 0, none⟩) is.length d1, .slice (some ⟨gk, 0, none⟩) ks.length d3, .slice (some ⟨gr, 0, none⟩) rs.length d5, .int .i64 fw, .int .i64 ba] 26)) := (HB3.out).alloc (by first | omega | (simp; done) | (simp; omega)) _
      have hal4 : Below W3.heap.size W3 (W3.alloc (.cells #[.int .i64 ep, .int .i64 ld, .slice (some ⟨gi, 0, none⟩) is.length d1, .slice (some ⟨gk, 0, none⟩) ks.length d3, .slice (some ⟨gr, 0, none⟩) rs.length d5, .int .i64 fw, .int .i64 ba] 26)) := (Below.refl _ _).alloc (by first | omega | (simp; done) | (simp; omega)) _
      have b_bx4 : Blk (W3.alloc (.cells #[.int .i64 ep, .int .i64 ld, .slice (some ⟨gi, 0, none⟩) is.length d1, .slice (some ⟨gk, 0, none⟩) ks.length d3, .slice (some ⟨gr, 0, none⟩) rs.length d5, .int .i64 fw, .int .i64 ba] 26)) (w.heap.size) 26 #[.int .i64 ep, .int .i64 ld, .slice (some ⟨b1, o1, none⟩) is.length c1, .slice (some ⟨b3, o3, none⟩) ks.length c3, .slice (some ⟨b5, o5, none⟩) rs.length c5, .int .i64 fw, .int .i64 ba] := (B3_bx.out).alloc _
      have b_bz4 : Blk (W3.alloc (.cells #[.int .i64 ep, .int .i64 ld, .slice (some ⟨gi, 0, none⟩) is.length d1, .slice (some ⟨gk, 0, none⟩) ks.length d3, .slice (some ⟨gr, 0, none⟩) rs.length d5, .int .i64 fw, .int .i64 ba] 26)) (w.heap.size + 1) 26 #[.int .i64 0, .int .i64 0, .slice none 0 0, .slice none 0 0, .slice none 0 0, .int .i64 0, .int .i64 0] := (B3_bz.out).alloc _
      have b_out4 : Blk (W3.alloc (.cells #[.int .i64 ep, .int .i64 ld, .slice (some ⟨gi, 0, none⟩) is.length d1, .slice (some ⟨gk, 0, none⟩) ks.length d3, .slice (some ⟨gr, 0, none⟩) rs.length d5, .int .i64 fw, .int .i64 ba] 26)) (W3.heap.size) 26 #[.int .i64 ep, .int .i64 ld, .slice (some ⟨gi, 0, none⟩) is.length d1, .slice (some ⟨gk, 0, none⟩) ks.length d3, .slice (some ⟨gr, 0, none⟩) rs.length d5, .int .i64 fw, .int .i64 ba] := Blk.new_ _ 26 #[.int .i64 ep, .int .i64 ld, .slice (some ⟨gi, 0, none⟩) is.length d1, .slice (some ⟨gk, 0, none⟩) ks.length d3, .slice (some ⟨gr, 0, none⟩) rs.length d5, .int .i64 fw, .int .i64 ba] (by first | rfl | (simp; done) | (simp; omega))
      have k_own4 := (HO.out).alloc (.cells #[.int .i64 ep, .int .i64 ld, .slice (some ⟨gi, 0, none⟩) is.length d1, .slice (some ⟨gk, 0, none⟩) ks.length d3, .slice (some ⟨gr, 0, none⟩) rs.length d5, .int .i64 fw, .int .i64 ba] 26)
      have hz4 : W3.heap.size + 1 ≤ (W3.alloc (.cells #[.int .i64 ep, .int .i64 ld, .slice (some ⟨gi, 0, none⟩) is.length d1, .slice (some ⟨gk, 0, none⟩) ks.length d3, .slice (some ⟨gr, 0, none⟩) rs.length d5, .int .i64 fw, .int .i64 ba] 26)).heap.size := by first | omega | (simp; done) | (simp; omega)
      generalize W3.alloc (.cells #[.int .i64 ep, .int .i64 ld, .slice (some ⟨gi, 0, none⟩) is.length d1, .slice (some ⟨gk, 0, none⟩) ks.length d3, .slice (some ⟨gr, 0, none⟩) rs.length d5, .int .i64 fw, .int .i64 ba] 26) = W4 at *
      have HB4 := Lib.hid hb4
      have B4_bx := Lib.hid b_bx4
      have B4_bz := Lib.hid b_bz4
      have B4_out := Lib.hid b_out4
      have K4_own := Lib.hid k_own4
      clear hb4 b_bx4 b_bz4 b_out4 k_own4
      clear B3_bx B3_bz HB3 HO
      have c_out0 := B4_out.out.cell 0
      have f_out0 := B4_out.out.frozen 0
      have c_out1 := B4_out.out.cell 1
      have f_out1 := B4_out.out.frozen 1
      have c_out2 := B4_out.out.cell 2
      have f_out2 := B4_out.out.frozen 2
      have c_out3 := B4_out.out.cell 3
      have f_out3 := B4_out.out.frozen 3
      have c_out4 := B4_out.out.cell 4
      have f_out4 := B4_out.out.frozen 4
      have c_out5 := B4_out.out.cell 5
      have f_out5 := B4_out.out.frozen 5
      have c_out6 := B4_out.out.cell 6
      have f_out6 := B4_out.out.frozen 6
      have l_out := B4_out.out.lt
      obtain ⟨A7, c7, ⟨r0, r1, r2, r3⟩, ⟨rf0, rf1, rf2, rf3⟩, rby⟩ := K4_own.out.repAt i hi
      obtain ⟨s0, sf0⟩ := K4_own.out.isrAt i j2
      obtain ⟨t0, tf0⟩ := K4_own.out.knownAt i j3
      (try simp only at r0 r1 r2 r3 rby s0 t0)
      go_upto_region 15 with fail
      clear c_out0 f_out0 c_out1 f_out1 c_out2 f_out2 c_out3 f_out3 c_out4 f_out4 c_out5 f_out5 c_out6 f_out6 l_out r0 r1 r2 r3 rf0 rf1 rf2 rf3 rby s0 sf0 t0 tf0
      have hsz5 := HB4.out.size
      have hb5 : Below w.heap.size w ((((W4.setCell ⟨gr, i * 4, none⟩ (.bool false)).setCell ⟨gr, i * 4 + 1, none⟩ (.slice none 0 0)).setCell ⟨gr, i * 4 + 2, none⟩ (.int .i64 0)).setCell ⟨gr, i * 4 + 3, none⟩ (.int .i64 0)) := ((((HB4.out).setCell (by show w.heap.size ≤ gr; omega) _).setCell (by show w.heap.size ≤ gr; omega) _).setCell (by show w.heap.size ≤ gr; omega) _).setCell (by show w.heap.size ≤ gr; omega) _
      have b_bx5 : Blk ((((W4.setCell ⟨gr, i * 4, none⟩ (.bool false)).setCell ⟨gr, i * 4 + 1, none⟩ (.slice none 0 0)).setCell ⟨gr, i * 4 + 2, none⟩ (.int .i64 0)).setCell ⟨gr, i * 4 + 3, none⟩ (.int .i64 0)) (w.heap.size) 26 #[.int .i64 ep, .int .i64 ld, .slice (some ⟨b1, o1, none⟩) is.length c1, .slice (some ⟨b3, o3, none⟩) ks.length c3, .slice (some ⟨b5, o5, none⟩) rs.length c5, .int .i64 fw, .int .i64 ba] := ((((B4_bx.out).far (p := ⟨gr, i * 4, none⟩) (by show w.heap.size ≠ gr; omega) _).far (p := ⟨gr, i * 4 + 1, none⟩) (by show w.heap.size ≠ gr; omega) _).far (p := ⟨gr, i * 4 + 2, none⟩) (by show w.heap.size ≠ gr; omega) _).far (p := ⟨gr, i * 4 + 3, none⟩) (by show w.heap.size ≠ gr; omega) _
      have b_bz5 : Blk ((((W4.setCell ⟨gr, i * 4, none⟩ (.bool false)).setCell ⟨gr, i * 4 + 1, none⟩ (.slice none 0 0)).setCell ⟨gr, i * 4 + 2, none⟩ (.int .i64 0)).setCell ⟨gr, i * 4 + 3, none⟩ (.int .i64 0)) (w.heap.size + 1) 26 #[.int .i64 0, .int .i64 0, .slice none 0 0, .slice none 0 0, .slice none 0 0, .int .i64 0, .int .i64 0] := ((((B4_bz.out).far (p := ⟨gr, i * 4, none⟩) (by show w.heap.size + 1 ≠ gr; omega) _).far (p := ⟨gr, i * 4 + 1, none⟩) (by show w.heap.size + 1 ≠ gr; omega) _).far (p := ⟨gr, i * 4 + 2, none⟩) (by show w.heap.size + 1 ≠ gr; omega) _).far (p := ⟨gr, i * 4 + 3, none⟩) (by show w.heap.size + 1 ≠ gr; omega) _
      have b_out5 : Blk ((((W4.setCell ⟨gr, i * 4, none⟩ (.bool false)).setCell ⟨gr, i * 4 + 1, none⟩ (.slice none 0 0)).setCell ⟨gr, i * 4 + 2, none⟩ (.int .i64 0)).setCell ⟨gr, i * 4 + 3, none⟩ (.int .i64 0)) (W3.heap.size) 26 #[.int .i64 ep, .int .i64 ld, .slice (some ⟨gi, 0, none⟩) is.length d1, .slice (some ⟨gk, 0, none⟩) ks.length d3, .slice (some ⟨gr, 0, none⟩) rs.length d5, .int .i64 fw, .int .i64 ba] := ((((B4_out.out).far (p := ⟨gr, i * 4, none⟩) (by show W3.heap.size ≠ gr; omega) _).far (p := ⟨gr, i * 4 + 1, none⟩) (by show W3.heap.size ≠ gr; omega) _).far (p := ⟨gr, i * 4 + 2, none⟩) (by show W3.heap.size ≠ gr; omega) _).far (p := ⟨gr, i * 4 + 3, none⟩) (by show W3.heap.size ≠ gr; omega) _
      have k_own5 := (K4_own.out.wipe i hi)
      have hz5 : W4.heap.size + 0 ≤ ((((W4.setCell ⟨gr, i * 4, none⟩ (.bool false)).setCell ⟨gr, i * 4 + 1, none⟩ (.slice none 0 0)).setCell ⟨gr, i * 4 + 2, none⟩ (.int .i64 0)).setCell ⟨gr, i * 4 + 3, none⟩ (.int .i64 0)).heap.size := by first | omega | (simp; done) | (simp; omega)
      generalize (((W4.setCell ⟨gr, i * 4, none⟩ (.bool false)).setCell ⟨gr, i * 4 + 1, none⟩ (.slice none 0 0)).setCell ⟨gr, i * 4 + 2, none⟩ (.int .i64 0)).setCell ⟨gr, i * 4 + 3, none⟩ (.int .i64 0) = W5 at *
      have HB5 := Lib.hid hb5
      have B5_bx := Lib.hid b_bx5
      have B5_bz := Lib.hid b_bz5
      have B5_out := Lib.hid b_out5
      have K5_own := Lib.hid k_own5
      clear hb5 b_bx5 b_bz5 b_out5 k_own5
      clear B4_bx B4_bz B4_out HB4 K4_own
      have c_out0 := B5_out.out.cell 0
      have c_out1 := B5_out.out.cell 1
      have c_out2 := B5_out.out.cell 2
      have c_out3 := B5_out.out.cell 3
      have c_out4 := B5_out.out.cell 4
      have c_out5 := B5_out.out.cell 5
      have c_out6 := B5_out.out.cell 6
      have l_out := B5_out.out.lt
      obtain ⟨t0, tf0⟩ := K5_own.out.knownAt i j3
      (try simp only at t0)
      go_upto_region 16 with fail
      clear c_out0 c_out1 c_out2 c_out3 c_out4 c_out5 c_out6 l_out t0 tf0
      have hsz6 := HB5.out.size
      have hb6 : Below w.heap.size w (W5.setCell ⟨gk, i, none⟩ (.int .i64 0)) := (HB5.out).setCell (by show w.heap.size ≤ gk; omega) _
      have b_bx6 : Blk (W5.setCell ⟨gk, i, none⟩ (.int .i64 0)) (w.heap.size) 26 #[.int .i64 ep, .int .i64 ld, .slice (some ⟨b1, o1, none⟩) is.length c1, .slice (some ⟨b3, o3, none⟩) ks.length c3, .slice (some ⟨b5, o5, none⟩) rs.length c5, .int .i64 fw, .int .i64 ba] := (B5_bx.out).far (p := ⟨gk, i, none⟩) (by show w.heap.size ≠ gk; omega) _
      have b_bz6 : Blk (W5.setCell ⟨gk, i, none⟩ (.int .i64 0)) (w.heap.size + 1) 26 #[.int .i64 0, .int .i64 0, .slice none 0 0, .slice none 0 0, .slice none 0 0, .int .i64 0, .int .i64 0] := (B5_bz.out).far (p := ⟨gk, i, none⟩) (by show w.heap.size + 1 ≠ gk; omega) _
      have b_out6 : Blk (W5.setCell ⟨gk, i, none⟩ (.int .i64 0)) (W3.heap.size) 26 #[.int .i64 ep, .int .i64 ld, .slice (some ⟨gi, 0, none⟩) is.length d1, .slice (some ⟨gk, 0, none⟩) ks.length d3, .slice (some ⟨gr, 0, none⟩) rs.length d5, .int .i64 fw, .int .i64 ba] := (B5_out.out).far (p := ⟨gk, i, none⟩) (by show W3.heap.size ≠ gk; omega) _
      have k_own6 := (K5_own.out).setKnown i 0 (Nat.lt_of_le_of_lt (Nat.zero_le _) j3)
      have hz6 : W5.heap.size + 0 ≤ (W5.setCell ⟨gk, i, none⟩ (.int .i64 0)).heap.size := by first | omega | (simp; done) | (simp; omega)
      generalize W5.setCell ⟨gk, i, none⟩ (.int .i64 0) = W6 at *
      have HB6 := Lib.hid hb6
      have B6_bx := Lib.hid b_bx6
      have B6_bz := Lib.hid b_bz6
      have B6_out := Lib.hid b_out6
      have K6_own := Lib.hid k_own6
      clear hb6 b_bx6 b_bz6 b_out6 k_own6
      clear B5_bx B5_bz B5_out HB5 K5_own
      have c_out0 := B6_out.out.cell 0
      have c_out1 := B6_out.out.cell 1
      have c_out2 := B6_out.out.cell 2
      have c_out3 := B6_out.out.cell 3
      have c_out4 := B6_out.out.cell 4
      have c_out5 := B6_out.out.cell 5
      have c_out6 := B6_out.out.cell 6
      have l_out := B6_out.out.lt
      obtain ⟨s0, sf0⟩ := K6_own.out.isrAt i j2
      (try simp only at s0)
      go_upto_region 17 with fail
      clear c_out0 c_out1 c_out2 c_out3 c_out4 c_out5 c_out6 l_out s0 sf0
      have hsz7 := HB6.out.size
      have hb7 : Below w.heap.size w (W6.setCell ⟨gi, i, none⟩ (.bool false)) := (HB6.out).setCell (by show w.heap.size ≤ gi; omega) _
      have b_bx7 : Blk (W6.setCell ⟨gi, i, none⟩ (.bool false)) (w.heap.size) 26 #[.int .i64 ep, .int .i64 ld, .slice (some ⟨b1, o1, none⟩) is.length c1, .slice (some ⟨b3, o3, none⟩) ks.length c3, .slice (some ⟨b5, o5, none⟩) rs.length c5, .int .i64 fw, .int .i64 ba] := (B6_bx.out).far (p := ⟨gi, i, none⟩) (by show w.heap.size ≠ gi; omega) _
      have b_bz7 : Blk (W6.setCell ⟨gi, i, none⟩ (.bool false)) (w.heap.size + 1) 26 #[.int .i64 0, .int .i64 0, .slice none 0 0, .slice none 0 0, .slice none 0 0, .int .i64 0, .int .i64 0] := (B6_bz.out).far (p := ⟨gi, i, none⟩) (by show w.heap.size + 1 ≠ gi; omega) _
      have b_out7 : Blk (W6.setCell ⟨gi, i, none⟩ (.bool false)) (W3.heap.size) 26 #[.int .i64 ep, .int .i64 ld, .slice (some ⟨gi, 0, none⟩) is.length d1, .slice (some ⟨gk, 0, none⟩) ks.length d3, .slice (some ⟨gr, 0, none⟩) rs.length d5, .int .i64 fw, .int .i64 ba] := (B6_out.out).far (p := ⟨gi, i, none⟩) (by show W3.heap.size ≠ gi; omega) _
      have k_own7 := (K6_own.out).setIsr i false (Nat.lt_of_le_of_lt (Nat.zero_le _) j2)
      have hz7 : W6.heap.size + 0 ≤ (W6.setCell ⟨gi, i, none⟩ (.bool false)).heap.size := by first | omega | (simp; done) | (simp; omega)
      generalize W6.setCell ⟨gi, i, none⟩ (.bool false) = W7 at *
      have HB7 := Lib.hid hb7
      have B7_bx := Lib.hid b_bx7
      have B7_bz := Lib.hid b_bz7
      have B7_out := Lib.hid b_out7
      have K7_own := Lib.hid k_own7
      clear hb7 b_bx7 b_bz7 b_out7 k_own7
      clear B6_bx B6_bz B6_out HB6 K6_own
      have c_out0 := B7_out.out.cell 0
      have c_out1 := B7_out.out.cell 1
      have c_out2 := B7_out.out.cell 2
      have c_out3 := B7_out.out.cell 3
      have c_out4 := B7_out.out.cell 4
      have c_out5 := B7_out.out.cell 5
      have c_out6 := B7_out.out.cell 6
      have l_out := B7_out.out.lt
      have c_bz0 := B7_bz.out.cell 0
      have f_bz0 := B7_bz.out.frozen 0
      have c_bz1 := B7_bz.out.cell 1
      have f_bz1 := B7_bz.out.frozen 1
      have c_bz2 := B7_bz.out.cell 2
      have f_bz2 := B7_bz.out.frozen 2
      have c_bz3 := B7_bz.out.cell 3
      have f_bz3 := B7_bz.out.frozen 3
      have c_bz4 := B7_bz.out.cell 4
      have f_bz4 := B7_bz.out.frozen 4
      have c_bz5 := B7_bz.out.cell 5
      have f_bz5 := B7_bz.out.frozen 5
      have c_bz6 := B7_bz.out.cell 6
      have f_bz6 := B7_bz.out.frozen 6
      have l_bz := B7_bz.out.lt
      go_wp2_with fail
      clear c_out0 c_out1 c_out2 c_out3 c_out4 c_out5 c_out6 l_out c_bz0 f_bz0 c_bz1 f_bz1 c_bz2 f_bz2 c_bz3 f_bz3 c_bz4 f_bz4 c_bz5 f_bz5 c_bz6 f_bz6 l_bz
      have hszF := HB7.out.size
      have hbF : Below w.heap.size w (((((((W7.setCell ⟨w.heap.size + 1, 0, none⟩ (.int .i64 ep)).setCell ⟨w.heap.size + 1, 1, none⟩ (.int .i64 ld)).setCell ⟨w.heap.size + 1, 2, none⟩ (.slice (some ⟨gi, 0, none⟩) is.length d1)).setCell ⟨w.heap.size + 1, 3, none⟩ (.slice (some ⟨gk, 0, none⟩) ks.length d3)).setCell ⟨w.heap.size + 1, 4, none⟩ (.slice (some ⟨gr, 0, none⟩) rs.length d5)).setCell ⟨w.heap.size + 1, 5, none⟩ (.int .i64 fw)).setCell ⟨w.heap.size + 1, 6, none⟩ (.int .i64 ba)) := (((((((HB7.out).setCell (by show w.heap.size ≤ w.heap.size + 1; omega) _).setCell (by show w.heap.size ≤ w.heap.size + 1; omega) _).setCell (by show w.heap.size ≤ w.heap.size + 1; omega) _).setCell (by show w.heap.size ≤ w.heap.size + 1; omega) _).setCell (by show w.heap.size ≤ w.heap.size + 1; omega) _).setCell (by show w.heap.size ≤ w.heap.size + 1; omega) _).setCell (by show w.heap.size ≤ w.heap.size + 1; omega) _
      have b_bxF : Blk (((((((W7.setCell ⟨w.heap.size + 1, 0, none⟩ (.int .i64 ep)).setCell ⟨w.heap.size + 1, 1, none⟩ (.int .i64 ld)).setCell ⟨w.heap.size + 1, 2, none⟩ (.slice (some ⟨gi, 0, none⟩) is.length d1)).setCell ⟨w.heap.size + 1, 3, none⟩ (.slice (some ⟨gk, 0, none⟩) ks.length d3)).setCell ⟨w.heap.size + 1, 4, none⟩ (.slice (some ⟨gr, 0, none⟩) rs.length d5)).setCell ⟨w.heap.size + 1, 5, none⟩ (.int .i64 fw)).setCell ⟨w.heap.size + 1, 6, none⟩ (.int .i64 ba)) (w.heap.size) 26 #[.int .i64 ep, .int .i64 ld, .slice (some ⟨b1, o1, none⟩) is.length c1, .slice (some ⟨b3, o3, none⟩) ks.length c3, .slice (some ⟨b5, o5, none⟩) rs.length c5, .int .i64 fw, .int .i64 ba] := (((((((B7_bx.out).far (p := ⟨w.heap.size + 1, 0, none⟩) (by show w.heap.size ≠ w.heap.size + 1; omega) _).far (p := ⟨w.heap.size + 1, 1, none⟩) (by show w.heap.size ≠ w.heap.size + 1; omega) _).far (p := ⟨w.heap.size + 1, 2, none⟩) (by show w.heap.size ≠ w.heap.size + 1; omega) _).far (p := ⟨w.heap.size + 1, 3, none⟩) (by show w.heap.size ≠ w.heap.size + 1; omega) _).far (p := ⟨w.heap.size + 1, 4, none⟩) (by show w.heap.size ≠ w.heap.size + 1; omega) _).far (p := ⟨w.heap.size + 1, 5, none⟩) (by show w.heap.size ≠ w.heap.size + 1; omega) _).far (p := ⟨w.heap.size + 1, 6, none⟩) (by show w.heap.size ≠ w.heap.size + 1; omega) _
      have b_bzF : Blk (((((((W7.setCell ⟨w.heap.size + 1, 0, none⟩ (.int .i64 ep)).setCell ⟨w.heap.size + 1, 1, none⟩ (.int .i64 ld)).setCell ⟨w.heap.size + 1, 2, none⟩ (.slice (some ⟨gi, 0, none⟩) is.length d1)).setCell ⟨w.heap.size + 1, 3, none⟩ (.slice (some ⟨gk, 0, none⟩) ks.length d3)).setCell ⟨w.heap.size + 1, 4, none⟩ (.slice (some ⟨gr, 0, none⟩) rs.length d5)).setCell ⟨w.heap.size + 1, 5, none⟩ (.int .i64 fw)).setCell ⟨w.heap.size + 1, 6, none⟩ (.int .i64 ba)) (w.heap.size + 1) 26 #[.int .i64 ep, .int .i64 ld, .slice (some ⟨gi, 0, none⟩) is.length d1, .slice (some ⟨gk, 0, none⟩) ks.length d3, .slice (some ⟨gr, 0, none⟩) rs.length d5, .int .i64 fw, .int .i64 ba] := (((((((B7_bz.out).set_ 0 _).set_ 1 _).set_ 2 _).set_ 3 _).set_ 4 _).set_ 5 _).set_ 6 _
      have b_outF : Blk (((((((W7.setCell ⟨w.heap.size + 1, 0, none⟩ (.int .i64 ep)).setCell ⟨w.heap.size + 1, 1, none⟩ (.int .i64 ld)).setCell ⟨w.heap.size + 1, 2, none⟩ (.slice (some ⟨gi, 0, none⟩) is.length d1)).setCell ⟨w.heap.size + 1, 3, none⟩ (.slice (some ⟨gk, 0, none⟩) ks.length d3)).setCell ⟨w.heap.size + 1, 4, none⟩ (.slice (some ⟨gr, 0, none⟩) rs.length d5)).setCell ⟨w.heap.size + 1, 5, none⟩ (.int .i64 fw)).setCell ⟨w.heap.size + 1, 6, none⟩ (.int .i64 ba)) (W3.heap.size) 26 #[.int .i64 ep, .int .i64 ld, .slice (some ⟨gi, 0, none⟩) is.length d1, .slice (some ⟨gk, 0, none⟩) ks.length d3, .slice (some ⟨gr, 0, none⟩) rs.length d5, .int .i64 fw, .int .i64 ba] := (((((((B7_out.out).far (p := ⟨w.heap.size + 1, 0, none⟩) (by show W3.heap.size ≠ w.heap.size + 1; omega) _).far (p := ⟨w.heap.size + 1, 1, none⟩) (by show W3.heap.size ≠ w.heap.size + 1; omega) _).far (p := ⟨w.heap.size + 1, 2, none⟩) (by show W3.heap.size ≠ w.heap.size + 1; omega) _).far (p := ⟨w.heap.size + 1, 3, none⟩) (by show W3.heap.size ≠ w.heap.size + 1; omega) _).far (p := ⟨w.heap.size + 1, 4, none⟩) (by show W3.heap.size ≠ w.heap.size + 1; omega) _).far (p := ⟨w.heap.size + 1, 5, none⟩) (by show W3.heap.size ≠ w.heap.size + 1; omega) _).far (p := ⟨w.heap.size + 1, 6, none⟩) (by show W3.heap.size ≠ w.heap.size + 1; omega) _
      have k_ownF := (((((((K7_own.out).under (a := ⟨w.heap.size + 1, 0, none⟩) (by (try dsimp only); omega) (.int .i64 ep)).under (a := ⟨w.heap.size + 1, 1, none⟩) (by (try dsimp only); omega) (.int .i64 ld)).under (a := ⟨w.heap.size + 1, 2, none⟩) (by (try dsimp only); omega) (.slice (some ⟨gi, 0, none⟩) is.length d1)).under (a := ⟨w.heap.size + 1, 3, none⟩) (by (try dsimp only); omega) (.slice (some ⟨gk, 0, none⟩) ks.length d3)).under (a := ⟨w.heap.size + 1, 4, none⟩) (by (try dsimp only); omega) (.slice (some ⟨gr, 0, none⟩) rs.length d5)).under (a := ⟨w.heap.size + 1, 5, none⟩) (by (try dsimp only); omega) (.int .i64 fw)).under (a := ⟨w.heap.size + 1, 6, none⟩) (by (try dsimp only); omega) (.int .i64 ba)
      have y0 := b_bzF.cell 0
      have y1 := b_bzF.cell 1
      have y2 := b_bzF.cell 2
      have y3 := b_bzF.cell 3
      have y4 := b_bzF.cell 4
      have y5 := b_bzF.cell 5
      have y6 := b_bzF.cell 6
      exact bodyPost_ret (v := .tuple #[.agg #[.int .i64 ep, .int .i64 ld, .slice (some ⟨gi, 0, none⟩) is.length d1, .slice (some ⟨gk, 0, none⟩) ks.length d3, .slice (some ⟨gr, 0, none⟩) rs.length d5, .int .i64 fw, .int .i64 ba], .int .i64 0]) (by simp [results, Try.results51, go_sem, y0, y1, y2, y3, y4, y5, y6]) rfl (⟨_, _, _, rfl, k_ownF.more (by omega), hbF⟩)
end Go.Proofs.Ytpjjfnpdopdnkaa
