/- Parts of a proof, merged: PmPutR. No condition. -/
import Derived.Test.YtpjjfnpdopdnkaaPq11
import Derived.Test.YtpjjfnpdopdnkaaPq13
namespace Go.Proofs.Ytpjjfnpdopdnkaa
open Go.RowKit
attribute [local go_sem ↓] Go.wp_at_zero Go.wp_at_succ

set_option maxRecDepth 100000 in
set_option maxHeartbeats 4000000 in
theorem putOf_state (v : Value) (c : PartD) (x : Ent) (hn : ¬ PartOk c) (w : World) (h : Pv w v c) : Calls Try.prog 68 #[v, .agg #[.int .i64 x.ep, .int .i64 x.pid, .int .i64 x.ver, .int .i64 x.seq, .int .i64 x.kind, .bool x.txn, .string x.text]] w (PRes3 zeroP 0 12 w) := by
  obtain ⟨xi, xk, xr, rfl, ix, kx, rx, hli, hlk, hlr⟩ := id h
  obtain ⟨A5, c5, rfl, hc5, -⟩ := rx.at_
  obtain ⟨A1, c1, rfl, hc1, -⟩ := ix.at_
  obtain ⟨A3, c3, rfl, hc3, -⟩ := kx.at_
  have H := Lib.hid h
  clear h ix kx rx
  unfold partV at *
  obtain ⟨ep, ld, is, ks, rs, fw, ba⟩ := c
  simp only at *
  obtain ⟨xe, pid, ver, seq, kind, txn, text⟩ := x
  simp only at *
  have HN := Lib.hid hn
  clear hn
  go_enter Try.func68, Try.ntmps68
  go_wp2_with fail
  obtain ⟨W1, e_W1⟩ : ∃ W : World, ((w.alloc (.cells #[.int .i64 ep, .int .i64 ld, .slice A1 is.length c1, .slice A3 ks.length c3, .slice A5 rs.length c5, .int .i64 fw, .int .i64 ba] 26)).alloc (.cells #[.int .i64 xe, .int .i64 pid, .int .i64 ver, .int .i64 seq, .int .i64 kind, .bool txn, .string text] 55)).alloc (.cells #[.int .i64 0, .int .i64 0, .slice none 0 0, .slice none 0 0, .slice none 0 0, .int .i64 0, .int .i64 0] 26) = W := ⟨_, rfl⟩
  have hb1 : Below w.heap.size w W1 := by rw [← e_W1]; exact (((Below.refl _ _).alloc (by first | omega | (simp; done) | (simp; omega)) _).alloc (by first | omega | (simp; done) | (simp; omega)) _).alloc (by first | omega | (simp; done) | (simp; omega)) _
  have hal1 : Below w.heap.size w W1 := by rw [← e_W1]; exact (((Below.refl _ _).alloc (by first | omega | (simp; done) | (simp; omega)) _).alloc (by first | omega | (simp; done) | (simp; omega)) _).alloc (by first | omega | (simp; done) | (simp; omega)) _
  have b_bx1 : Blk W1 (w.heap.size) 26 #[.int .i64 ep, .int .i64 ld, .slice A1 is.length c1, .slice A3 ks.length c3, .slice A5 rs.length c5, .int .i64 fw, .int .i64 ba] := by rw [← e_W1]; exact ((Blk.new_ _ 26 #[.int .i64 ep, .int .i64 ld, .slice A1 is.length c1, .slice A3 ks.length c3, .slice A5 rs.length c5, .int .i64 fw, .int .i64 ba] (by first | rfl | (simp; done) | (simp; omega))).alloc _).alloc _
  have b_be1 : Blk W1 (w.heap.size + 1) 55 #[.int .i64 xe, .int .i64 pid, .int .i64 ver, .int .i64 seq, .int .i64 kind, .bool txn, .string text] := by rw [← e_W1]; exact (Blk.new_ _ 55 #[.int .i64 xe, .int .i64 pid, .int .i64 ver, .int .i64 seq, .int .i64 kind, .bool txn, .string text] (by first | rfl | (simp; done) | (simp; omega))).alloc _
  have b_bz1 : Blk W1 (w.heap.size + 1 + 1) 26 #[.int .i64 0, .int .i64 0, .slice none 0 0, .slice none 0 0, .slice none 0 0, .int .i64 0, .int .i64 0] := by rw [← e_W1]; exact Blk.new_ _ 26 #[.int .i64 0, .int .i64 0, .slice none 0 0, .slice none 0 0, .slice none 0 0, .int .i64 0, .int .i64 0] (by first | rfl | (simp; done) | (simp; omega))
  have k_v1 := H.out.below hal1
  have hz1 : w.heap.size + 3 ≤ W1.heap.size := by rw [← e_W1]; (first | omega | (simp; done) | (simp; omega))
  try rw [e_W1] at k_v1
  rw [e_W1]
  clear e_W1
  have HB1 := Lib.hid hb1
  have B1_bx := Lib.hid b_bx1
  have B1_be := Lib.hid b_be1
  have B1_bz := Lib.hid b_bz1
  have K1_v := Lib.hid k_v1
  clear hb1 b_bx1 b_be1 b_bz1 k_v1
  clear H
  refine (partMay_any _ ⟨ep, ld, is, ks, rs, fw, ba⟩ _ K1_v.out).mono ?_
  rintro e W2 hA
  obtain ⟨rfl, hb⟩ := hA.no HN.out
  have hb2 : Below w.heap.size w W2 := below_then HB1.out hb
  have b_bx2 := B1_bx.out.below hb B1_bx.out.lt
  have b_be2 := B1_be.out.below hb B1_be.out.lt
  have b_bz2 := B1_bz.out.below hb B1_bz.out.lt
  have k_v2 := K1_v.out.below hb
  have hz2 := hb.size
  have HB2 := Lib.hid hb2
  have B2_bx := Lib.hid b_bx2
  have B2_be := Lib.hid b_be2
  have B2_bz := Lib.hid b_bz2
  have K2_v := Lib.hid k_v2
  clear hb2 b_bx2 b_be2 b_bz2 k_v2
  clear B1_bx B1_be B1_bz HB1 K1_v
  have c_bx0 := B2_bx.out.cell 0
  have c_bx1 := B2_bx.out.cell 1
  have c_bx2 := B2_bx.out.cell 2
  have c_bx3 := B2_bx.out.cell 3
  have c_bx4 := B2_bx.out.cell 4
  have c_bx5 := B2_bx.out.cell 5
  have c_bx6 := B2_bx.out.cell 6
  have l_bx := B2_bx.out.lt
  have c_bz0 := B2_bz.out.cell 0
  have f_bz0 := B2_bz.out.frozen 0
  have c_bz1 := B2_bz.out.cell 1
  have f_bz1 := B2_bz.out.frozen 1
  have c_bz2 := B2_bz.out.cell 2
  have f_bz2 := B2_bz.out.frozen 2
  have c_bz3 := B2_bz.out.cell 3
  have f_bz3 := B2_bz.out.frozen 3
  have c_bz4 := B2_bz.out.cell 4
  have f_bz4 := B2_bz.out.frozen 4
  have c_bz5 := B2_bz.out.cell 5
  have f_bz5 := B2_bz.out.frozen 5
  have c_bz6 := B2_bz.out.cell 6
  have f_bz6 := B2_bz.out.frozen 6
  have l_bz := B2_bz.out.lt
  go_wp2_with fail
  clear c_bx0 c_bx1 c_bx2 c_bx3 c_bx4 c_bx5 c_bx6 l_bx c_bz0 f_bz0 c_bz1 f_bz1 c_bz2 f_bz2 c_bz3 f_bz3 c_bz4 f_bz4 c_bz5 f_bz5 c_bz6 f_bz6 l_bz
  have hszF := HB2.out.size
  have hbF : Below w.heap.size w (((((((W2.setCell ⟨w.heap.size + 1 + 1, 0, none⟩ (.int .i64 0)).setCell ⟨w.heap.size + 1 + 1, 1, none⟩ (.int .i64 0)).setCell ⟨w.heap.size + 1 + 1, 2, none⟩ (.slice none 0 0)).setCell ⟨w.heap.size + 1 + 1, 3, none⟩ (.slice none 0 0)).setCell ⟨w.heap.size + 1 + 1, 4, none⟩ (.slice none 0 0)).setCell ⟨w.heap.size + 1 + 1, 5, none⟩ (.int .i64 0)).setCell ⟨w.heap.size + 1 + 1, 6, none⟩ (.int .i64 0)) := (((((((HB2.out).setCell (by show w.heap.size ≤ w.heap.size + 1 + 1; omega) _).setCell (by show w.heap.size ≤ w.heap.size + 1 + 1; omega) _).setCell (by show w.heap.size ≤ w.heap.size + 1 + 1; omega) _).setCell (by show w.heap.size ≤ w.heap.size + 1 + 1; omega) _).setCell (by show w.heap.size ≤ w.heap.size + 1 + 1; omega) _).setCell (by show w.heap.size ≤ w.heap.size + 1 + 1; omega) _).setCell (by show w.heap.size ≤ w.heap.size + 1 + 1; omega) _
  have b_bxF : Blk (((((((W2.setCell ⟨w.heap.size + 1 + 1, 0, none⟩ (.int .i64 0)).setCell ⟨w.heap.size + 1 + 1, 1, none⟩ (.int .i64 0)).setCell ⟨w.heap.size + 1 + 1, 2, none⟩ (.slice none 0 0)).setCell ⟨w.heap.size + 1 + 1, 3, none⟩ (.slice none 0 0)).setCell ⟨w.heap.size + 1 + 1, 4, none⟩ (.slice none 0 0)).setCell ⟨w.heap.size + 1 + 1, 5, none⟩ (.int .i64 0)).setCell ⟨w.heap.size + 1 + 1, 6, none⟩ (.int .i64 0)) (w.heap.size) 26 #[.int .i64 ep, .int .i64 ld, .slice A1 is.length c1, .slice A3 ks.length c3, .slice A5 rs.length c5, .int .i64 fw, .int .i64 ba] := (((((((B2_bx.out).far (p := ⟨w.heap.size + 1 + 1, 0, none⟩) (by show w.heap.size ≠ w.heap.size + 1 + 1; omega) _).far (p := ⟨w.heap.size + 1 + 1, 1, none⟩) (by show w.heap.size ≠ w.heap.size + 1 + 1; omega) _).far (p := ⟨w.heap.size + 1 + 1, 2, none⟩) (by show w.heap.size ≠ w.heap.size + 1 + 1; omega) _).far (p := ⟨w.heap.size + 1 + 1, 3, none⟩) (by show w.heap.size ≠ w.heap.size + 1 + 1; omega) _).far (p := ⟨w.heap.size + 1 + 1, 4, none⟩) (by show w.heap.size ≠ w.heap.size + 1 + 1; omega) _).far (p := ⟨w.heap.size + 1 + 1, 5, none⟩) (by show w.heap.size ≠ w.heap.size + 1 + 1; omega) _).far (p := ⟨w.heap.size + 1 + 1, 6, none⟩) (by show w.heap.size ≠ w.heap.size + 1 + 1; omega) _
  have b_beF : Blk (((((((W2.setCell ⟨w.heap.size + 1 + 1, 0, none⟩ (.int .i64 0)).setCell ⟨w.heap.size + 1 + 1, 1, none⟩ (.int .i64 0)).setCell ⟨w.heap.size + 1 + 1, 2, none⟩ (.slice none 0 0)).setCell ⟨w.heap.size + 1 + 1, 3, none⟩ (.slice none 0 0)).setCell ⟨w.heap.size + 1 + 1, 4, none⟩ (.slice none 0 0)).setCell ⟨w.heap.size + 1 + 1, 5, none⟩ (.int .i64 0)).setCell ⟨w.heap.size + 1 + 1, 6, none⟩ (.int .i64 0)) (w.heap.size + 1) 55 #[.int .i64 xe, .int .i64 pid, .int .i64 ver, .int .i64 seq, .int .i64 kind, .bool txn, .string text] := (((((((B2_be.out).far (p := ⟨w.heap.size + 1 + 1, 0, none⟩) (by show w.heap.size + 1 ≠ w.heap.size + 1 + 1; omega) _).far (p := ⟨w.heap.size + 1 + 1, 1, none⟩) (by show w.heap.size + 1 ≠ w.heap.size + 1 + 1; omega) _).far (p := ⟨w.heap.size + 1 + 1, 2, none⟩) (by show w.heap.size + 1 ≠ w.heap.size + 1 + 1; omega) _).far (p := ⟨w.heap.size + 1 + 1, 3, none⟩) (by show w.heap.size + 1 ≠ w.heap.size + 1 + 1; omega) _).far (p := ⟨w.heap.size + 1 + 1, 4, none⟩) (by show w.heap.size + 1 ≠ w.heap.size + 1 + 1; omega) _).far (p := ⟨w.heap.size + 1 + 1, 5, none⟩) (by show w.heap.size + 1 ≠ w.heap.size + 1 + 1; omega) _).far (p := ⟨w.heap.size + 1 + 1, 6, none⟩) (by show w.heap.size + 1 ≠ w.heap.size + 1 + 1; omega) _
  have b_bzF : Blk (((((((W2.setCell ⟨w.heap.size + 1 + 1, 0, none⟩ (.int .i64 0)).setCell ⟨w.heap.size + 1 + 1, 1, none⟩ (.int .i64 0)).setCell ⟨w.heap.size + 1 + 1, 2, none⟩ (.slice none 0 0)).setCell ⟨w.heap.size + 1 + 1, 3, none⟩ (.slice none 0 0)).setCell ⟨w.heap.size + 1 + 1, 4, none⟩ (.slice none 0 0)).setCell ⟨w.heap.size + 1 + 1, 5, none⟩ (.int .i64 0)).setCell ⟨w.heap.size + 1 + 1, 6, none⟩ (.int .i64 0)) (w.heap.size + 1 + 1) 26 #[.int .i64 0, .int .i64 0, .slice none 0 0, .slice none 0 0, .slice none 0 0, .int .i64 0, .int .i64 0] := (((((((B2_bz.out).set_ 0 _).set_ 1 _).set_ 2 _).set_ 3 _).set_ 4 _).set_ 5 _).set_ 6 _
  have y0 := b_bzF.cell 0
  have y1 := b_bzF.cell 1
  have y2 := b_bzF.cell 2
  have y3 := b_bzF.cell 3
  have y4 := b_bzF.cell 4
  have y5 := b_bzF.cell 5
  have y6 := b_bzF.cell 6
  exact bodyPost_ret (v := .tuple #[.agg #[.int .i64 0, .int .i64 0, .slice none 0 0, .slice none 0 0, .slice none 0 0, .int .i64 0, .int .i64 0], .int .i64 0, .int .i64 12]) (by simp [results, Try.results68, go_sem, y0, y1, y2, y3, y4, y5, y6]) rfl (⟨_, rfl, pv_zero _, hbF⟩)
set_option maxRecDepth 100000 in
set_option maxHeartbeats 4000000 in
theorem putOf_none (v : Value) (c : PartD) (x : Ent) (hn : PartOk c) (hl : c.leader < 0) (w : World) (h : Pv w v c) : Calls Try.prog 68 #[v, .agg #[.int .i64 x.ep, .int .i64 x.pid, .int .i64 x.ver, .int .i64 x.seq, .int .i64 x.kind, .bool x.txn, .string x.text]] w (PRes3 zeroP 0 8 w) := by
  obtain ⟨xi, xk, xr, rfl, ix, kx, rx, hli, hlk, hlr⟩ := id h
  obtain ⟨A5, c5, rfl, hc5, -⟩ := rx.at_
  obtain ⟨A1, c1, rfl, hc1, -⟩ := ix.at_
  obtain ⟨A3, c3, rfl, hc3, -⟩ := kx.at_
  have H := Lib.hid h
  clear h ix kx rx
  unfold partV at *
  obtain ⟨ep, ld, is, ks, rs, fw, ba⟩ := c
  simp only at *
  obtain ⟨xe, pid, ver, seq, kind, txn, text⟩ := x
  simp only at *
  have HN := Lib.hid hn
  have y0 : decide (ld < 0) = true := decide_eq_true hl
  clear hn hl
  go_enter Try.func68, Try.ntmps68
  go_wp2_with fail
  obtain ⟨W1, e_W1⟩ : ∃ W : World, ((w.alloc (.cells #[.int .i64 ep, .int .i64 ld, .slice A1 is.length c1, .slice A3 ks.length c3, .slice A5 rs.length c5, .int .i64 fw, .int .i64 ba] 26)).alloc (.cells #[.int .i64 xe, .int .i64 pid, .int .i64 ver, .int .i64 seq, .int .i64 kind, .bool txn, .string text] 55)).alloc (.cells #[.int .i64 0, .int .i64 0, .slice none 0 0, .slice none 0 0, .slice none 0 0, .int .i64 0, .int .i64 0] 26) = W := ⟨_, rfl⟩
  have hb1 : Below w.heap.size w W1 := by rw [← e_W1]; exact (((Below.refl _ _).alloc (by first | omega | (simp; done) | (simp; omega)) _).alloc (by first | omega | (simp; done) | (simp; omega)) _).alloc (by first | omega | (simp; done) | (simp; omega)) _
  have hal1 : Below w.heap.size w W1 := by rw [← e_W1]; exact (((Below.refl _ _).alloc (by first | omega | (simp; done) | (simp; omega)) _).alloc (by first | omega | (simp; done) | (simp; omega)) _).alloc (by first | omega | (simp; done) | (simp; omega)) _
  have b_bx1 : Blk W1 (w.heap.size) 26 #[.int .i64 ep, .int .i64 ld, .slice A1 is.length c1, .slice A3 ks.length c3, .slice A5 rs.length c5, .int .i64 fw, .int .i64 ba] := by rw [← e_W1]; exact ((Blk.new_ _ 26 #[.int .i64 ep, .int .i64 ld, .slice A1 is.length c1, .slice A3 ks.length c3, .slice A5 rs.length c5, .int .i64 fw, .int .i64 ba] (by first | rfl | (simp; done) | (simp; omega))).alloc _).alloc _
  have b_be1 : Blk W1 (w.heap.size + 1) 55 #[.int .i64 xe, .int .i64 pid, .int .i64 ver, .int .i64 seq, .int .i64 kind, .bool txn, .string text] := by rw [← e_W1]; exact (Blk.new_ _ 55 #[.int .i64 xe, .int .i64 pid, .int .i64 ver, .int .i64 seq, .int .i64 kind, .bool txn, .string text] (by first | rfl | (simp; done) | (simp; omega))).alloc _
  have b_bz1 : Blk W1 (w.heap.size + 1 + 1) 26 #[.int .i64 0, .int .i64 0, .slice none 0 0, .slice none 0 0, .slice none 0 0, .int .i64 0, .int .i64 0] := by rw [← e_W1]; exact Blk.new_ _ 26 #[.int .i64 0, .int .i64 0, .slice none 0 0, .slice none 0 0, .slice none 0 0, .int .i64 0, .int .i64 0] (by first | rfl | (simp; done) | (simp; omega))
  have k_v1 := H.out.below hal1
  have hz1 : w.heap.size + 3 ≤ W1.heap.size := by rw [← e_W1]; (first | omega | (simp; done) | (simp; omega))
  try rw [e_W1] at k_v1
  rw [e_W1]
  clear e_W1
  have HB1 := Lib.hid hb1
  have B1_bx := Lib.hid b_bx1
  have B1_be := Lib.hid b_be1
  have B1_bz := Lib.hid b_bz1
  have K1_v := Lib.hid k_v1
  clear hb1 b_bx1 b_be1 b_bz1 k_v1
  clear H
  refine (partMay_any _ ⟨ep, ld, is, ks, rs, fw, ba⟩ _ K1_v.out).mono ?_
  rintro e W2 hA
  obtain ⟨rfl, hb⟩ := hA.yes HN.out
  have hb2 : Below w.heap.size w W2 := below_then HB1.out hb
  have b_bx2 := B1_bx.out.below hb B1_bx.out.lt
  have b_be2 := B1_be.out.below hb B1_be.out.lt
  have b_bz2 := B1_bz.out.below hb B1_bz.out.lt
  have k_v2 := K1_v.out.below hb
  have hz2 := hb.size
  have HB2 := Lib.hid hb2
  have B2_bx := Lib.hid b_bx2
  have B2_be := Lib.hid b_be2
  have B2_bz := Lib.hid b_bz2
  have K2_v := Lib.hid k_v2
  clear hb2 b_bx2 b_be2 b_bz2 k_v2
  clear B1_bx B1_be B1_bz HB1 K1_v
  have c_bx0 := B2_bx.out.cell 0
  have c_bx1 := B2_bx.out.cell 1
  have c_bx2 := B2_bx.out.cell 2
  have c_bx3 := B2_bx.out.cell 3
  have c_bx4 := B2_bx.out.cell 4
  have c_bx5 := B2_bx.out.cell 5
  have c_bx6 := B2_bx.out.cell 6
  have l_bx := B2_bx.out.lt
  have c_bz0 := B2_bz.out.cell 0
  have f_bz0 := B2_bz.out.frozen 0
  have c_bz1 := B2_bz.out.cell 1
  have f_bz1 := B2_bz.out.frozen 1
  have c_bz2 := B2_bz.out.cell 2
  have f_bz2 := B2_bz.out.frozen 2
  have c_bz3 := B2_bz.out.cell 3
  have f_bz3 := B2_bz.out.frozen 3
  have c_bz4 := B2_bz.out.cell 4
  have f_bz4 := B2_bz.out.frozen 4
  have c_bz5 := B2_bz.out.cell 5
  have f_bz5 := B2_bz.out.frozen 5
  have c_bz6 := B2_bz.out.cell 6
  have f_bz6 := B2_bz.out.frozen 6
  have l_bz := B2_bz.out.lt
  go_wp2_with fail
  clear c_bx0 c_bx1 c_bx2 c_bx3 c_bx4 c_bx5 c_bx6 l_bx c_bz0 f_bz0 c_bz1 f_bz1 c_bz2 f_bz2 c_bz3 f_bz3 c_bz4 f_bz4 c_bz5 f_bz5 c_bz6 f_bz6 l_bz
  have hszF := HB2.out.size
  have hbF : Below w.heap.size w (((((((W2.setCell ⟨w.heap.size + 1 + 1, 0, none⟩ (.int .i64 0)).setCell ⟨w.heap.size + 1 + 1, 1, none⟩ (.int .i64 0)).setCell ⟨w.heap.size + 1 + 1, 2, none⟩ (.slice none 0 0)).setCell ⟨w.heap.size + 1 + 1, 3, none⟩ (.slice none 0 0)).setCell ⟨w.heap.size + 1 + 1, 4, none⟩ (.slice none 0 0)).setCell ⟨w.heap.size + 1 + 1, 5, none⟩ (.int .i64 0)).setCell ⟨w.heap.size + 1 + 1, 6, none⟩ (.int .i64 0)) := (((((((HB2.out).setCell (by show w.heap.size ≤ w.heap.size + 1 + 1; omega) _).setCell (by show w.heap.size ≤ w.heap.size + 1 + 1; omega) _).setCell (by show w.heap.size ≤ w.heap.size + 1 + 1; omega) _).setCell (by show w.heap.size ≤ w.heap.size + 1 + 1; omega) _).setCell (by show w.heap.size ≤ w.heap.size + 1 + 1; omega) _).setCell (by show w.heap.size ≤ w.heap.size + 1 + 1; omega) _).setCell (by show w.heap.size ≤ w.heap.size + 1 + 1; omega) _
  have b_bxF : Blk (((((((W2.setCell ⟨w.heap.size + 1 + 1, 0, none⟩ (.int .i64 0)).setCell ⟨w.heap.size + 1 + 1, 1, none⟩ (.int .i64 0)).setCell ⟨w.heap.size + 1 + 1, 2, none⟩ (.slice none 0 0)).setCell ⟨w.heap.size + 1 + 1, 3, none⟩ (.slice none 0 0)).setCell ⟨w.heap.size + 1 + 1, 4, none⟩ (.slice none 0 0)).setCell ⟨w.heap.size + 1 + 1, 5, none⟩ (.int .i64 0)).setCell ⟨w.heap.size + 1 + 1, 6, none⟩ (.int .i64 0)) (w.heap.size) 26 #[.int .i64 ep, .int .i64 ld, .slice A1 is.length c1, .slice A3 ks.length c3, .slice A5 rs.length c5, .int .i64 fw, .int .i64 ba] := (((((((B2_bx.out).far (p := ⟨w.heap.size + 1 + 1, 0, none⟩) (by show w.heap.size ≠ w.heap.size + 1 + 1; omega) _).far (p := ⟨w.heap.size + 1 + 1, 1, none⟩) (by show w.heap.size ≠ w.heap.size + 1 + 1; omega) _).far (p := ⟨w.heap.size + 1 + 1, 2, none⟩) (by show w.heap.size ≠ w.heap.size + 1 + 1; omega) _).far (p := ⟨w.heap.size + 1 + 1, 3, none⟩) (by show w.heap.size ≠ w.heap.size + 1 + 1; omega) _).far (p := ⟨w.heap.size + 1 + 1, 4, none⟩) (by show w.heap.size ≠ w.heap.size + 1 + 1; omega) _).far (p := ⟨w.heap.size + 1 + 1, 5, none⟩) (by show w.heap.size ≠ w.heap.size + 1 + 1; omega) _).far (p := ⟨w.heap.size + 1 + 1, 6, none⟩) (by show w.heap.size ≠ w.heap.size + 1 + 1; omega) _
  have b_beF : Blk (((((((W2.setCell ⟨w.heap.size + 1 + 1, 0, none⟩ (.int .i64 0)).setCell ⟨w.heap.size + 1 + 1, 1, none⟩ (.int .i64 0)).setCell ⟨w.heap.size + 1 + 1, 2, none⟩ (.slice none 0 0)).setCell ⟨w.heap.size + 1 + 1, 3, none⟩ (.slice none 0 0)).setCell ⟨w.heap.size + 1 + 1, 4, none⟩ (.slice none 0 0)).setCell ⟨w.heap.size + 1 + 1, 5, none⟩ (.int .i64 0)).setCell ⟨w.heap.size + 1 + 1, 6, none⟩ (.int .i64 0)) (w.heap.size + 1) 55 #[.int .i64 xe, .int .i64 pid, .int .i64 ver, .int .i64 seq, .int .i64 kind, .bool txn, .string text] := (((((((B2_be.out).far (p := ⟨w.heap.size + 1 + 1, 0, none⟩) (by show w.heap.size + 1 ≠ w.heap.size + 1 + 1; omega) _).far (p := ⟨w.heap.size + 1 + 1, 1, none⟩) (by show w.heap.size + 1 ≠ w.heap.size + 1 + 1; omega) _).far (p := ⟨w.heap.size + 1 + 1, 2, none⟩) (by show w.heap.size + 1 ≠ w.heap.size + 1 + 1; omega) _).far (p := ⟨w.heap.size + 1 + 1, 3, none⟩) (by show w.heap.size + 1 ≠ w.heap.size + 1 + 1; omega) _).far (p := ⟨w.heap.size + 1 + 1, 4, none⟩) (by show w.heap.size + 1 ≠ w.heap.size + 1 + 1; omega) _).far (p := ⟨w.heap.size + 1 + 1, 5, none⟩) (by show w.heap.size + 1 ≠ w.heap.size + 1 + 1; omega) _).far (p := ⟨w.heap.size + 1 + 1, 6, none⟩) (by show w.heap.size + 1 ≠ w.heap.size + 1 + 1; omega) _
  have b_bzF : Blk (((((((W2.setCell ⟨w.heap.size + 1 + 1, 0, none⟩ (.int .i64 0)).setCell ⟨w.heap.size + 1 + 1, 1, none⟩ (.int .i64 0)).setCell ⟨w.heap.size + 1 + 1, 2, none⟩ (.slice none 0 0)).setCell ⟨w.heap.size + 1 + 1, 3, none⟩ (.slice none 0 0)).setCell ⟨w.heap.size + 1 + 1, 4, none⟩ (.slice none 0 0)).setCell ⟨w.heap.size + 1 + 1, 5, none⟩ (.int .i64 0)).setCell ⟨w.heap.size + 1 + 1, 6, none⟩ (.int .i64 0)) (w.heap.size + 1 + 1) 26 #[.int .i64 0, .int .i64 0, .slice none 0 0, .slice none 0 0, .slice none 0 0, .int .i64 0, .int .i64 0] := (((((((B2_bz.out).set_ 0 _).set_ 1 _).set_ 2 _).set_ 3 _).set_ 4 _).set_ 5 _).set_ 6 _
  have y0 := b_bzF.cell 0
  have y1 := b_bzF.cell 1
  have y2 := b_bzF.cell 2
  have y3 := b_bzF.cell 3
  have y4 := b_bzF.cell 4
  have y5 := b_bzF.cell 5
  have y6 := b_bzF.cell 6
  exact bodyPost_ret (v := .tuple #[.agg #[.int .i64 0, .int .i64 0, .slice none 0 0, .slice none 0 0, .slice none 0 0, .int .i64 0, .int .i64 0], .int .i64 0, .int .i64 8]) (by simp [results, Try.results68, go_sem, y0, y1, y2, y3, y4, y5, y6]) rfl (⟨_, rfl, pv_zero _, hbF⟩)
set_option maxRecDepth 100000 in
set_option maxHeartbeats 4000000 in
theorem putOf_ent (v : Value) (c : PartD) (x : Ent) (hn : PartOk c) (l : Nat) (hl : c.leader = l) (hll : l < c.reps.length) {es : List Ent} {j : Nat} (hlog : LogIs c.reps[l].log es j) {fc : Int} (hfc : entryFault c.epoch x.pid x.ver x.seq x.kind x.txn x.text.size = fc) (hne : fc ≠ 0) (w : World) (h : Pv w v c) : Calls Try.prog 68 #[v, .agg #[.int .i64 x.ep, .int .i64 x.pid, .int .i64 x.ver, .int .i64 x.seq, .int .i64 x.kind, .bool x.txn, .string x.text]] w (PRes3 zeroP 0 fc w) := by
  obtain ⟨xi, xk, xr, rfl, ix, kx, rx, hli, hlk, hlr⟩ := id h
  obtain ⟨A5, c5, rfl, hc5, hx5⟩ := rx.at_
  obtain ⟨A1, c1, rfl, hc1, hx1⟩ := ix.at_
  obtain ⟨A3, c3, rfl, hc3, -⟩ := kx.at_
  have H := Lib.hid h
  have HV0 := Lib.hid h
  clear h ix kx rx
  unfold partV at *
  obtain ⟨ep, ld, is, ks, rs, fw, ba⟩ := c
  simp only at *
  obtain ⟨xe, pid, ver, seq, kind, txn, text⟩ := x
  simp only at *
  obtain rfl : ld = (l : Int) := hl
  have eqi := hn.isr
  have E1 := Lib.hid eqi
  have rl5 : rs.length ≤ 5 := hn.many.2
  have rl0 : 0 < rs.length := Nat.lt_of_le_of_lt (Nat.zero_le _) hll
  have il0 : 0 < is.length := by have h9 := eqi; (try simp only at h9); omega
  obtain ⟨b5, o5, rfl, hb5, hcell5⟩ := hx5 rl0
  obtain ⟨b1, o1, rfl, hb1, hcell1⟩ := hx1 il0
  obtain ⟨pv, -, x1, x2, -, xb, -⟩ := hcell5 l hll
  obtain ⟨A8, c8, rfl, -, -⟩ := xb.at_
  have XC := Lib.hid (And.intro x1 (And.intro x2 xb))
  have HC5 := Lib.hid hcell5
  have HC1 := Lib.hid hcell1
  have HN := Lib.hid hn
  have HSM := Lib.hid hn.small
  have HLG := Lib.hid hlog
  have hel : es.length ≤ 400 := hlog.many
  have y0 : decide ((l : Int) < 0) = false := decide_eq_false (by omega)
  have l0 : (0 : Int) ≤ (l : Int) := by omega
  have l1 : (l : Int) < (rs.length : Int) := Int.ofNat_lt.2 hll
  clear hn hlog eqi hx1 hx5 hcell5 hcell1 x1 x2 xb
  have HFC := Lib.hid hfc
  have y1 : (fc != 0) = true := by simpa using hne
  clear hfc hne
  go_enter Try.func68, Try.ntmps68
  go_wp2_with fail
  obtain ⟨W1, e_W1⟩ : ∃ W : World, ((w.alloc (.cells #[.int .i64 ep, .int .i64 l, .slice (some ⟨b1, o1, none⟩) is.length c1, .slice A3 ks.length c3, .slice (some ⟨b5, o5, none⟩) rs.length c5, .int .i64 fw, .int .i64 ba] 26)).alloc (.cells #[.int .i64 xe, .int .i64 pid, .int .i64 ver, .int .i64 seq, .int .i64 kind, .bool txn, .string text] 55)).alloc (.cells #[.int .i64 0, .int .i64 0, .slice none 0 0, .slice none 0 0, .slice none 0 0, .int .i64 0, .int .i64 0] 26) = W := ⟨_, rfl⟩
  have hb1 : Below w.heap.size w W1 := by rw [← e_W1]; exact (((Below.refl _ _).alloc (by first | omega | (simp; done) | (simp; omega)) _).alloc (by first | omega | (simp; done) | (simp; omega)) _).alloc (by first | omega | (simp; done) | (simp; omega)) _
  have hal1 : Below w.heap.size w W1 := by rw [← e_W1]; exact (((Below.refl _ _).alloc (by first | omega | (simp; done) | (simp; omega)) _).alloc (by first | omega | (simp; done) | (simp; omega)) _).alloc (by first | omega | (simp; done) | (simp; omega)) _
  have b_bx1 : Blk W1 (w.heap.size) 26 #[.int .i64 ep, .int .i64 l, .slice (some ⟨b1, o1, none⟩) is.length c1, .slice A3 ks.length c3, .slice (some ⟨b5, o5, none⟩) rs.length c5, .int .i64 fw, .int .i64 ba] := by rw [← e_W1]; exact ((Blk.new_ _ 26 #[.int .i64 ep, .int .i64 l, .slice (some ⟨b1, o1, none⟩) is.length c1, .slice A3 ks.length c3, .slice (some ⟨b5, o5, none⟩) rs.length c5, .int .i64 fw, .int .i64 ba] (by first | rfl | (simp; done) | (simp; omega))).alloc _).alloc _
  have b_be1 : Blk W1 (w.heap.size + 1) 55 #[.int .i64 xe, .int .i64 pid, .int .i64 ver, .int .i64 seq, .int .i64 kind, .bool txn, .string text] := by rw [← e_W1]; exact (Blk.new_ _ 55 #[.int .i64 xe, .int .i64 pid, .int .i64 ver, .int .i64 seq, .int .i64 kind, .bool txn, .string text] (by first | rfl | (simp; done) | (simp; omega))).alloc _
  have b_bz1 : Blk W1 (w.heap.size + 1 + 1) 26 #[.int .i64 0, .int .i64 0, .slice none 0 0, .slice none 0 0, .slice none 0 0, .int .i64 0, .int .i64 0] := by rw [← e_W1]; exact Blk.new_ _ 26 #[.int .i64 0, .int .i64 0, .slice none 0 0, .slice none 0 0, .slice none 0 0, .int .i64 0, .int .i64 0] (by first | rfl | (simp; done) | (simp; omega))
  have k_v1 := H.out.below hal1
  have hz1 : w.heap.size + 3 ≤ W1.heap.size := by rw [← e_W1]; (first | omega | (simp; done) | (simp; omega))
  try rw [e_W1] at k_v1
  rw [e_W1]
  clear e_W1
  have HB1 := Lib.hid hb1
  have B1_bx := Lib.hid b_bx1
  have B1_be := Lib.hid b_be1
  have B1_bz := Lib.hid b_bz1
  have K1_v := Lib.hid k_v1
  clear hb1 b_bx1 b_be1 b_bz1 k_v1
  clear H
  refine (partMay_any _ ⟨ep, (l : Int), is, ks, rs, fw, ba⟩ _ K1_v.out).mono ?_
  rintro e W2 hA
  obtain ⟨rfl, hb⟩ := hA.yes HN.out
  have hb2 : Below w.heap.size w W2 := below_then HB1.out hb
  have b_bx2 := B1_bx.out.below hb B1_bx.out.lt
  have b_be2 := B1_be.out.below hb B1_be.out.lt
  have b_bz2 := B1_bz.out.below hb B1_bz.out.lt
  have k_v2 := K1_v.out.below hb
  have hz2 := hb.size
  have HB2 := Lib.hid hb2
  have B2_bx := Lib.hid b_bx2
  have B2_be := Lib.hid b_be2
  have B2_bz := Lib.hid b_bz2
  have K2_v := Lib.hid k_v2
  clear hb2 b_bx2 b_be2 b_bz2 k_v2
  clear B1_bx B1_be B1_bz HB1 K1_v
  have c_bx0 := B2_bx.out.cell 0
  have c_bx1 := B2_bx.out.cell 1
  have c_bx2 := B2_bx.out.cell 2
  have c_bx3 := B2_bx.out.cell 3
  have c_bx4 := B2_bx.out.cell 4
  have c_bx5 := B2_bx.out.cell 5
  have c_bx6 := B2_bx.out.cell 6
  have l_bx := B2_bx.out.lt
  go_wp2_with fail
  clear c_bx0 c_bx1 c_bx2 c_bx3 c_bx4 c_bx5 c_bx6 l_bx
  refine (refPartCopy_ok (c := ⟨ep, (l : Int), is, ks, rs, fw, ba⟩) K2_v.out HSM.out).mono ?_
  rintro e W3 ⟨iv, kv, rv, rfl, ho, hb⟩
  obtain ⟨gi, d1, gk, d3, gr, d5, rfl, rfl, rfl, hgi, hgk, hgr, hgi', hgk', hgr'⟩ := ho.rows (by have := HN.out.isr; have := HN.out.many; simp only at *; omega) (by have := HN.out.known; have := HN.out.many; simp only at *; omega) (by have := HN.out.many; simp only at *; omega)
  unfold partV
  simp only at *
  have HO := Lib.hid ho
  clear ho
  have hb3 : Below w.heap.size w W3 := below_then HB2.out hb
  have b_bx3 := B2_bx.out.below hb B2_bx.out.lt
  have b_be3 := B2_be.out.below hb B2_be.out.lt
  have b_bz3 := B2_bz.out.below hb B2_bz.out.lt
  have k_v3 := K2_v.out.below hb
  have hz3 := hb.size
  have HB3 := Lib.hid hb3
  have B3_bx := Lib.hid b_bx3
  have B3_be := Lib.hid b_be3
  have B3_bz := Lib.hid b_bz3
  have K3_v := Lib.hid k_v3
  clear hb3 b_bx3 b_be3 b_bz3 k_v3
  clear B2_bx B2_be B2_bz HB2 K2_v
  go_upto_region 6 with fail
  have hsz4 := HB3.out.size
  obtain ⟨W4, e_W4⟩ : ∃ W : World, W3.alloc (.cells #[.int .i64 ep, .int .i64 l, .slice (some ⟨gi, 0, none⟩) is.length d1, .slice (some ⟨gk, 0, none⟩) ks.length d3, .slice (some ⟨gr, 0, none⟩) rs.length d5, .int .i64 fw, .int .i64 ba] 26) = W := ⟨_, rfl⟩
  have hb4 : Below w.heap.size w W4 := by rw [← e_W4]; exact (HB3.out).alloc (by first | omega | (simp; done) | (simp; omega)) _
  have hal4 : Below W3.heap.size W3 W4 := by rw [← e_W4]; exact (Below.refl _ _).alloc (by first | omega | (simp; done) | (simp; omega)) _
  have b_bx4 : Blk W4 (w.heap.size) 26 #[.int .i64 ep, .int .i64 l, .slice (some ⟨b1, o1, none⟩) is.length c1, .slice A3 ks.length c3, .slice (some ⟨b5, o5, none⟩) rs.length c5, .int .i64 fw, .int .i64 ba] := by rw [← e_W4]; exact (B3_bx.out).alloc _
  have b_be4 : Blk W4 (w.heap.size + 1) 55 #[.int .i64 xe, .int .i64 pid, .int .i64 ver, .int .i64 seq, .int .i64 kind, .bool txn, .string text] := by rw [← e_W4]; exact (B3_be.out).alloc _
  have b_bz4 : Blk W4 (w.heap.size + 1 + 1) 26 #[.int .i64 0, .int .i64 0, .slice none 0 0, .slice none 0 0, .slice none 0 0, .int .i64 0, .int .i64 0] := by rw [← e_W4]; exact (B3_bz.out).alloc _
  have b_out4 : Blk W4 (W3.heap.size) 26 #[.int .i64 ep, .int .i64 l, .slice (some ⟨gi, 0, none⟩) is.length d1, .slice (some ⟨gk, 0, none⟩) ks.length d3, .slice (some ⟨gr, 0, none⟩) rs.length d5, .int .i64 fw, .int .i64 ba] := by rw [← e_W4]; exact Blk.new_ _ 26 #[.int .i64 ep, .int .i64 l, .slice (some ⟨gi, 0, none⟩) is.length d1, .slice (some ⟨gk, 0, none⟩) ks.length d3, .slice (some ⟨gr, 0, none⟩) rs.length d5, .int .i64 fw, .int .i64 ba] (by first | rfl | (simp; done) | (simp; omega))
  have k_own4 := (HO.out).alloc (.cells #[.int .i64 ep, .int .i64 l, .slice (some ⟨gi, 0, none⟩) is.length d1, .slice (some ⟨gk, 0, none⟩) ks.length d3, .slice (some ⟨gr, 0, none⟩) rs.length d5, .int .i64 fw, .int .i64 ba] 26)
  have hz4 : W3.heap.size + 1 ≤ W4.heap.size := by rw [← e_W4]; (first | omega | (simp; done) | (simp; omega))
  try rw [e_W4] at k_own4
  rw [e_W4]
  clear e_W4
  have HB4 := Lib.hid hb4
  have B4_bx := Lib.hid b_bx4
  have B4_be := Lib.hid b_be4
  have B4_bz := Lib.hid b_bz4
  have B4_out := Lib.hid b_out4
  have K4_own := Lib.hid k_own4
  clear hb4 b_bx4 b_be4 b_bz4 b_out4 k_own4
  clear B3_bx B3_be B3_bz HB3 HO
  have c_bx0 := B4_bx.out.cell 0
  have c_bx1 := B4_bx.out.cell 1
  have c_bx2 := B4_bx.out.cell 2
  have c_bx3 := B4_bx.out.cell 3
  have c_bx4 := B4_bx.out.cell 4
  have c_bx5 := B4_bx.out.cell 5
  have c_bx6 := B4_bx.out.cell 6
  have l_bx := B4_bx.out.lt
  go_wp2_with fail
  clear c_bx0 c_bx1 c_bx2 c_bx3 c_bx4 c_bx5 c_bx6 l_bx
  refine (logOf_any _ ⟨ep, (l : Int), is, ks, rs, fw, ba⟩ l _ (HV0.out.below HB4.out) hll HLG.out).mono ?_
  rintro e W5 ⟨v5, rfl, hp5, hb⟩
  obtain ⟨A9, c9, rfl, hc9⟩ := (Sl.of_own hp5).form
  have HEN := Lib.hid (EnO.mk hp5)
  clear hp5
  have hb5 : Below w.heap.size w W5 := below_then HB4.out hb
  have b_bx5 := B4_bx.out.below hb B4_bx.out.lt
  have b_be5 := B4_be.out.below hb B4_be.out.lt
  have b_bz5 := B4_bz.out.below hb B4_bz.out.lt
  have b_out5 := B4_out.out.below hb B4_out.out.lt
  have k_own5 := K4_own.out.keep hb
  have hz5 := hb.size
  have HB5 := Lib.hid hb5
  have B5_bx := Lib.hid b_bx5
  have B5_be := Lib.hid b_be5
  have B5_bz := Lib.hid b_bz5
  have B5_out := Lib.hid b_out5
  have K5_own := Lib.hid k_own5
  clear hb5 b_bx5 b_be5 b_bz5 b_out5 k_own5
  clear B4_bx B4_be B4_bz B4_out HB4 K4_own
  have c_bx0 := B5_bx.out.cell 0
  have c_bx1 := B5_bx.out.cell 1
  have c_bx2 := B5_bx.out.cell 2
  have c_bx3 := B5_bx.out.cell 3
  have c_bx4 := B5_bx.out.cell 4
  have c_bx5 := B5_bx.out.cell 5
  have c_bx6 := B5_bx.out.cell 6
  have l_bx := B5_bx.out.lt
  have c_be0 := B5_be.out.cell 0
  have f_be0 := B5_be.out.frozen 0
  have l_be := B5_be.out.lt
  go_upto_region 8 with fail
  clear c_bx0 c_bx1 c_bx2 c_bx3 c_bx4 c_bx5 c_bx6 l_bx c_be0 f_be0 l_be
  have hsz6 := HB5.out.size
  obtain ⟨W6, e_W6⟩ : ∃ W : World, W5.setCell ⟨w.heap.size + 1, 0, none⟩ (.int .i64 ep) = W := ⟨_, rfl⟩
  have hb6 : Below w.heap.size w W6 := by rw [← e_W6]; exact (HB5.out).setCell (by show w.heap.size ≤ w.heap.size + 1; omega) _
  have b_bx6 : Blk W6 (w.heap.size) 26 #[.int .i64 ep, .int .i64 l, .slice (some ⟨b1, o1, none⟩) is.length c1, .slice A3 ks.length c3, .slice (some ⟨b5, o5, none⟩) rs.length c5, .int .i64 fw, .int .i64 ba] := by rw [← e_W6]; exact (B5_bx.out).far (p := ⟨w.heap.size + 1, 0, none⟩) (by show w.heap.size ≠ w.heap.size + 1; omega) _
  have b_be6 : Blk W6 (w.heap.size + 1) 55 #[.int .i64 ep, .int .i64 pid, .int .i64 ver, .int .i64 seq, .int .i64 kind, .bool txn, .string text] := by rw [← e_W6]; exact (B5_be.out).set_ 0 _
  have b_bz6 : Blk W6 (w.heap.size + 1 + 1) 26 #[.int .i64 0, .int .i64 0, .slice none 0 0, .slice none 0 0, .slice none 0 0, .int .i64 0, .int .i64 0] := by rw [← e_W6]; exact (B5_bz.out).far (p := ⟨w.heap.size + 1, 0, none⟩) (by show w.heap.size + 1 + 1 ≠ w.heap.size + 1; omega) _
  have b_out6 : Blk W6 (W3.heap.size) 26 #[.int .i64 ep, .int .i64 l, .slice (some ⟨gi, 0, none⟩) is.length d1, .slice (some ⟨gk, 0, none⟩) ks.length d3, .slice (some ⟨gr, 0, none⟩) rs.length d5, .int .i64 fw, .int .i64 ba] := by rw [← e_W6]; exact (B5_out.out).far (p := ⟨w.heap.size + 1, 0, none⟩) (by show W3.heap.size ≠ w.heap.size + 1; omega) _
  have k_own6 := (K5_own.out).under (a := ⟨w.heap.size + 1, 0, none⟩) (by (try dsimp only); omega) (.int .i64 ep)
  have k_en6 := (HEN.out).under (a := ⟨w.heap.size + 1, 0, none⟩) (by (try dsimp only); omega) (.int .i64 ep)
  have hz6 : W5.heap.size + 0 ≤ W6.heap.size := by rw [← e_W6]; (first | omega | (simp; done) | (simp; omega))
  try rw [e_W6] at k_own6
  try rw [e_W6] at k_en6
  rw [e_W6]
  clear e_W6
  have HB6 := Lib.hid hb6
  have B6_bx := Lib.hid b_bx6
  have B6_be := Lib.hid b_be6
  have B6_bz := Lib.hid b_bz6
  have B6_out := Lib.hid b_out6
  have K6_own := Lib.hid k_own6
  have K6_en := Lib.hid k_en6
  clear hb6 b_bx6 b_be6 b_bz6 b_out6 k_own6 k_en6
  clear B5_bx B5_be B5_bz B5_out HB5 K5_own HEN
  have c_be0 := B6_be.out.cell 0
  have c_be1 := B6_be.out.cell 1
  have c_be2 := B6_be.out.cell 2
  have c_be3 := B6_be.out.cell 3
  have c_be4 := B6_be.out.cell 4
  have c_be5 := B6_be.out.cell 5
  have c_be6 := B6_be.out.cell 6
  have l_be := B6_be.out.lt
  go_wp2_with fail
  clear c_be0 c_be1 c_be2 c_be3 c_be4 c_be5 c_be6 l_be
  refine (EntryFault_any ep pid ver seq kind txn text _).mono ?_
  rintro e W7 ⟨rfl, hb⟩
  rw [HFC.out]
  have hb7 : Below w.heap.size w W7 := below_then HB6.out hb
  have b_bx7 := B6_bx.out.below hb B6_bx.out.lt
  have b_be7 := B6_be.out.below hb B6_be.out.lt
  have b_bz7 := B6_bz.out.below hb B6_bz.out.lt
  have b_out7 := B6_out.out.below hb B6_out.out.lt
  have k_own7 := K6_own.out.keep hb
  have k_en7 := K6_en.out.keep hb
  have hz7 := hb.size
  have HB7 := Lib.hid hb7
  have B7_bx := Lib.hid b_bx7
  have B7_be := Lib.hid b_be7
  have B7_bz := Lib.hid b_bz7
  have B7_out := Lib.hid b_out7
  have K7_own := Lib.hid k_own7
  have K7_en := Lib.hid k_en7
  clear hb7 b_bx7 b_be7 b_bz7 b_out7 k_own7 k_en7
  clear B6_bx B6_be B6_bz B6_out HB6 K6_own K6_en
  have c_bz0 := B7_bz.out.cell 0
  have f_bz0 := B7_bz.out.frozen 0
  have c_bz1 := B7_bz.out.cell 1
  have f_bz1 := B7_bz.out.frozen 1
  have c_bz2 := B7_bz.out.cell 2
  have f_bz2 := B7_bz.out.frozen 2
  have c_bz3 := B7_bz.out.cell 3
  have f_bz3 := B7_bz.out.frozen 3
  have c_bz4 := B7_bz.out.cell 4
  have f_bz4 := B7_bz.out.frozen 4
  have c_bz5 := B7_bz.out.cell 5
  have f_bz5 := B7_bz.out.frozen 5
  have c_bz6 := B7_bz.out.cell 6
  have f_bz6 := B7_bz.out.frozen 6
  have l_bz := B7_bz.out.lt
  go_wp2_with fail
  clear c_bz0 f_bz0 c_bz1 f_bz1 c_bz2 f_bz2 c_bz3 f_bz3 c_bz4 f_bz4 c_bz5 f_bz5 c_bz6 f_bz6 l_bz
  have hszF := HB7.out.size
  have hbF : Below w.heap.size w (((((((W7.setCell ⟨w.heap.size + 1 + 1, 0, none⟩ (.int .i64 0)).setCell ⟨w.heap.size + 1 + 1, 1, none⟩ (.int .i64 0)).setCell ⟨w.heap.size + 1 + 1, 2, none⟩ (.slice none 0 0)).setCell ⟨w.heap.size + 1 + 1, 3, none⟩ (.slice none 0 0)).setCell ⟨w.heap.size + 1 + 1, 4, none⟩ (.slice none 0 0)).setCell ⟨w.heap.size + 1 + 1, 5, none⟩ (.int .i64 0)).setCell ⟨w.heap.size + 1 + 1, 6, none⟩ (.int .i64 0)) := (((((((HB7.out).setCell (by show w.heap.size ≤ w.heap.size + 1 + 1; omega) _).setCell (by show w.heap.size ≤ w.heap.size + 1 + 1; omega) _).setCell (by show w.heap.size ≤ w.heap.size + 1 + 1; omega) _).setCell (by show w.heap.size ≤ w.heap.size + 1 + 1; omega) _).setCell (by show w.heap.size ≤ w.heap.size + 1 + 1; omega) _).setCell (by show w.heap.size ≤ w.heap.size + 1 + 1; omega) _).setCell (by show w.heap.size ≤ w.heap.size + 1 + 1; omega) _
  have b_bxF : Blk (((((((W7.setCell ⟨w.heap.size + 1 + 1, 0, none⟩ (.int .i64 0)).setCell ⟨w.heap.size + 1 + 1, 1, none⟩ (.int .i64 0)).setCell ⟨w.heap.size + 1 + 1, 2, none⟩ (.slice none 0 0)).setCell ⟨w.heap.size + 1 + 1, 3, none⟩ (.slice none 0 0)).setCell ⟨w.heap.size + 1 + 1, 4, none⟩ (.slice none 0 0)).setCell ⟨w.heap.size + 1 + 1, 5, none⟩ (.int .i64 0)).setCell ⟨w.heap.size + 1 + 1, 6, none⟩ (.int .i64 0)) (w.heap.size) 26 #[.int .i64 ep, .int .i64 l, .slice (some ⟨b1, o1, none⟩) is.length c1, .slice A3 ks.length c3, .slice (some ⟨b5, o5, none⟩) rs.length c5, .int .i64 fw, .int .i64 ba] := (((((((B7_bx.out).far (p := ⟨w.heap.size + 1 + 1, 0, none⟩) (by show w.heap.size ≠ w.heap.size + 1 + 1; omega) _).far (p := ⟨w.heap.size + 1 + 1, 1, none⟩) (by show w.heap.size ≠ w.heap.size + 1 + 1; omega) _).far (p := ⟨w.heap.size + 1 + 1, 2, none⟩) (by show w.heap.size ≠ w.heap.size + 1 + 1; omega) _).far (p := ⟨w.heap.size + 1 + 1, 3, none⟩) (by show w.heap.size ≠ w.heap.size + 1 + 1; omega) _).far (p := ⟨w.heap.size + 1 + 1, 4, none⟩) (by show w.heap.size ≠ w.heap.size + 1 + 1; omega) _).far (p := ⟨w.heap.size + 1 + 1, 5, none⟩) (by show w.heap.size ≠ w.heap.size + 1 + 1; omega) _).far (p := ⟨w.heap.size + 1 + 1, 6, none⟩) (by show w.heap.size ≠ w.heap.size + 1 + 1; omega) _
  have b_beF : Blk (((((((W7.setCell ⟨w.heap.size + 1 + 1, 0, none⟩ (.int .i64 0)).setCell ⟨w.heap.size + 1 + 1, 1, none⟩ (.int .i64 0)).setCell ⟨w.heap.size + 1 + 1, 2, none⟩ (.slice none 0 0)).setCell ⟨w.heap.size + 1 + 1, 3, none⟩ (.slice none 0 0)).setCell ⟨w.heap.size + 1 + 1, 4, none⟩ (.slice none 0 0)).setCell ⟨w.heap.size + 1 + 1, 5, none⟩ (.int .i64 0)).setCell ⟨w.heap.size + 1 + 1, 6, none⟩ (.int .i64 0)) (w.heap.size + 1) 55 #[.int .i64 ep, .int .i64 pid, .int .i64 ver, .int .i64 seq, .int .i64 kind, .bool txn, .string text] := (((((((B7_be.out).far (p := ⟨w.heap.size + 1 + 1, 0, none⟩) (by show w.heap.size + 1 ≠ w.heap.size + 1 + 1; omega) _).far (p := ⟨w.heap.size + 1 + 1, 1, none⟩) (by show w.heap.size + 1 ≠ w.heap.size + 1 + 1; omega) _).far (p := ⟨w.heap.size + 1 + 1, 2, none⟩) (by show w.heap.size + 1 ≠ w.heap.size + 1 + 1; omega) _).far (p := ⟨w.heap.size + 1 + 1, 3, none⟩) (by show w.heap.size + 1 ≠ w.heap.size + 1 + 1; omega) _).far (p := ⟨w.heap.size + 1 + 1, 4, none⟩) (by show w.heap.size + 1 ≠ w.heap.size + 1 + 1; omega) _).far (p := ⟨w.heap.size + 1 + 1, 5, none⟩) (by show w.heap.size + 1 ≠ w.heap.size + 1 + 1; omega) _).far (p := ⟨w.heap.size + 1 + 1, 6, none⟩) (by show w.heap.size + 1 ≠ w.heap.size + 1 + 1; omega) _
  have b_bzF : Blk (((((((W7.setCell ⟨w.heap.size + 1 + 1, 0, none⟩ (.int .i64 0)).setCell ⟨w.heap.size + 1 + 1, 1, none⟩ (.int .i64 0)).setCell ⟨w.heap.size + 1 + 1, 2, none⟩ (.slice none 0 0)).setCell ⟨w.heap.size + 1 + 1, 3, none⟩ (.slice none 0 0)).setCell ⟨w.heap.size + 1 + 1, 4, none⟩ (.slice none 0 0)).setCell ⟨w.heap.size + 1 + 1, 5, none⟩ (.int .i64 0)).setCell ⟨w.heap.size + 1 + 1, 6, none⟩ (.int .i64 0)) (w.heap.size + 1 + 1) 26 #[.int .i64 0, .int .i64 0, .slice none 0 0, .slice none 0 0, .slice none 0 0, .int .i64 0, .int .i64 0] := (((((((B7_bz.out).set_ 0 _).set_ 1 _).set_ 2 _).set_ 3 _).set_ 4 _).set_ 5 _).set_ 6 _
  have b_outF : Blk (((((((W7.setCell ⟨w.heap.size + 1 + 1, 0, none⟩ (.int .i64 0)).setCell ⟨w.heap.size + 1 + 1, 1, none⟩ (.int .i64 0)).setCell ⟨w.heap.size + 1 + 1, 2, none⟩ (.slice none 0 0)).setCell ⟨w.heap.size + 1 + 1, 3, none⟩ (.slice none 0 0)).setCell ⟨w.heap.size + 1 + 1, 4, none⟩ (.slice none 0 0)).setCell ⟨w.heap.size + 1 + 1, 5, none⟩ (.int .i64 0)).setCell ⟨w.heap.size + 1 + 1, 6, none⟩ (.int .i64 0)) (W3.heap.size) 26 #[.int .i64 ep, .int .i64 l, .slice (some ⟨gi, 0, none⟩) is.length d1, .slice (some ⟨gk, 0, none⟩) ks.length d3, .slice (some ⟨gr, 0, none⟩) rs.length d5, .int .i64 fw, .int .i64 ba] := (((((((B7_out.out).far (p := ⟨w.heap.size + 1 + 1, 0, none⟩) (by show W3.heap.size ≠ w.heap.size + 1 + 1; omega) _).far (p := ⟨w.heap.size + 1 + 1, 1, none⟩) (by show W3.heap.size ≠ w.heap.size + 1 + 1; omega) _).far (p := ⟨w.heap.size + 1 + 1, 2, none⟩) (by show W3.heap.size ≠ w.heap.size + 1 + 1; omega) _).far (p := ⟨w.heap.size + 1 + 1, 3, none⟩) (by show W3.heap.size ≠ w.heap.size + 1 + 1; omega) _).far (p := ⟨w.heap.size + 1 + 1, 4, none⟩) (by show W3.heap.size ≠ w.heap.size + 1 + 1; omega) _).far (p := ⟨w.heap.size + 1 + 1, 5, none⟩) (by show W3.heap.size ≠ w.heap.size + 1 + 1; omega) _).far (p := ⟨w.heap.size + 1 + 1, 6, none⟩) (by show W3.heap.size ≠ w.heap.size + 1 + 1; omega) _
  have y0 := b_bzF.cell 0
  have y1 := b_bzF.cell 1
  have y2 := b_bzF.cell 2
  have y3 := b_bzF.cell 3
  have y4 := b_bzF.cell 4
  have y5 := b_bzF.cell 5
  have y6 := b_bzF.cell 6
  exact bodyPost_ret (v := .tuple #[.agg #[.int .i64 0, .int .i64 0, .slice none 0 0, .slice none 0 0, .slice none 0 0, .int .i64 0, .int .i64 0], .int .i64 0, .int .i64 fc]) (by simp [results, Try.results68, go_sem, y0, y1, y2, y3, y4, y5, y6]) rfl (⟨_, rfl, pv_zero _, hbF⟩)
set_option maxRecDepth 100000 in
set_option maxHeartbeats 4000000 in
theorem putOf_view (v : Value) (c : PartD) (x : Ent) (hn : PartOk c) (l : Nat) (hl : c.leader = l) (hll : l < c.reps.length) {es : List Ent} {j : Nat} (hlog : LogIs c.reps[l].log es j) {n cd : Int} (hvc : ∀ (v : Value) (w : World), Es w v es → Calls Try.prog 98 #[v, .agg #[.int .i64 c.epoch, .int .i64 x.pid, .int .i64 x.ver, .int .i64 x.seq, .int .i64 x.kind, .bool x.txn, .string x.text]] w fun e w' => e = .returned (.tuple #[.int .i64 n, .int .i64 cd]) ∧ Below w.heap.size w w') (hfc : entryFault c.epoch x.pid x.ver x.seq x.kind x.txn x.text.size = 0) (hcd : cd ≠ 0) (w : World) (h : Pv w v c) : Calls Try.prog 68 #[v, .agg #[.int .i64 x.ep, .int .i64 x.pid, .int .i64 x.ver, .int .i64 x.seq, .int .i64 x.kind, .bool x.txn, .string x.text]] w (PRes3 zeroP 0 cd w) := by
  obtain ⟨xi, xk, xr, rfl, ix, kx, rx, hli, hlk, hlr⟩ := id h
  obtain ⟨A5, c5, rfl, hc5, hx5⟩ := rx.at_
  obtain ⟨A1, c1, rfl, hc1, hx1⟩ := ix.at_
  obtain ⟨A3, c3, rfl, hc3, -⟩ := kx.at_
  have H := Lib.hid h
  have HV0 := Lib.hid h
  clear h ix kx rx
  unfold partV at *
  obtain ⟨ep, ld, is, ks, rs, fw, ba⟩ := c
  simp only at *
  obtain ⟨xe, pid, ver, seq, kind, txn, text⟩ := x
  simp only at *
  obtain rfl : ld = (l : Int) := hl
  have eqi := hn.isr
  have E1 := Lib.hid eqi
  have rl5 : rs.length ≤ 5 := hn.many.2
  have rl0 : 0 < rs.length := Nat.lt_of_le_of_lt (Nat.zero_le _) hll
  have il0 : 0 < is.length := by have h9 := eqi; (try simp only at h9); omega
  obtain ⟨b5, o5, rfl, hb5, hcell5⟩ := hx5 rl0
  obtain ⟨b1, o1, rfl, hb1, hcell1⟩ := hx1 il0
  obtain ⟨pv, -, x1, x2, -, xb, -⟩ := hcell5 l hll
  obtain ⟨A8, c8, rfl, -, -⟩ := xb.at_
  have XC := Lib.hid (And.intro x1 (And.intro x2 xb))
  have HC5 := Lib.hid hcell5
  have HC1 := Lib.hid hcell1
  have HN := Lib.hid hn
  have HSM := Lib.hid hn.small
  have HLG := Lib.hid hlog
  have hel : es.length ≤ 400 := hlog.many
  have y0 : decide ((l : Int) < 0) = false := decide_eq_false (by omega)
  have l0 : (0 : Int) ≤ (l : Int) := by omega
  have l1 : (l : Int) < (rs.length : Int) := Int.ofNat_lt.2 hll
  clear hn hlog eqi hx1 hx5 hcell5 hcell1 x1 x2 xb
  have HFC := Lib.hid hfc
  have HVC := Lib.hid hvc
  clear hfc hvc
  have y2 : (cd != 0) = true := by simpa using hcd
  clear hcd
  go_enter Try.func68, Try.ntmps68
  go_wp2_with fail
  obtain ⟨W1, e_W1⟩ : ∃ W : World, ((w.alloc (.cells #[.int .i64 ep, .int .i64 l, .slice (some ⟨b1, o1, none⟩) is.length c1, .slice A3 ks.length c3, .slice (some ⟨b5, o5, none⟩) rs.length c5, .int .i64 fw, .int .i64 ba] 26)).alloc (.cells #[.int .i64 xe, .int .i64 pid, .int .i64 ver, .int .i64 seq, .int .i64 kind, .bool txn, .string text] 55)).alloc (.cells #[.int .i64 0, .int .i64 0, .slice none 0 0, .slice none 0 0, .slice none 0 0, .int .i64 0, .int .i64 0] 26) = W := ⟨_, rfl⟩
  have hb1 : Below w.heap.size w W1 := by rw [← e_W1]; exact (((Below.refl _ _).alloc (by first | omega | (simp; done) | (simp; omega)) _).alloc (by first | omega | (simp; done) | (simp; omega)) _).alloc (by first | omega | (simp; done) | (simp; omega)) _
  have hal1 : Below w.heap.size w W1 := by rw [← e_W1]; exact (((Below.refl _ _).alloc (by first | omega | (simp; done) | (simp; omega)) _).alloc (by first | omega | (simp; done) | (simp; omega)) _).alloc (by first | omega | (simp; done) | (simp; omega)) _
  have b_bx1 : Blk W1 (w.heap.size) 26 #[.int .i64 ep, .int .i64 l, .slice (some ⟨b1, o1, none⟩) is.length c1, .slice A3 ks.length c3, .slice (some ⟨b5, o5, none⟩) rs.length c5, .int .i64 fw, .int .i64 ba] := by rw [← e_W1]; exact ((Blk.new_ _ 26 #[.int .i64 ep, .int .i64 l, .slice (some ⟨b1, o1, none⟩) is.length c1, .slice A3 ks.length c3, .slice (some ⟨b5, o5, none⟩) rs.length c5, .int .i64 fw, .int .i64 ba] (by first | rfl | (simp; done) | (simp; omega))).alloc _).alloc _
  have b_be1 : Blk W1 (w.heap.size + 1) 55 #[.int .i64 xe, .int .i64 pid, .int .i64 ver, .int .i64 seq, .int .i64 kind, .bool txn, .string text] := by rw [← e_W1]; exact (Blk.new_ _ 55 #[.int .i64 xe, .int .i64 pid, .int .i64 ver, .int .i64 seq, .int .i64 kind, .bool txn, .string text] (by first | rfl | (simp; done) | (simp; omega))).alloc _
  have b_bz1 : Blk W1 (w.heap.size + 1 + 1) 26 #[.int .i64 0, .int .i64 0, .slice none 0 0, .slice none 0 0, .slice none 0 0, .int .i64 0, .int .i64 0] := by rw [← e_W1]; exact Blk.new_ _ 26 #[.int .i64 0, .int .i64 0, .slice none 0 0, .slice none 0 0, .slice none 0 0, .int .i64 0, .int .i64 0] (by first | rfl | (simp; done) | (simp; omega))
  have k_v1 := H.out.below hal1
  have hz1 : w.heap.size + 3 ≤ W1.heap.size := by rw [← e_W1]; (first | omega | (simp; done) | (simp; omega))
  try rw [e_W1] at k_v1
  rw [e_W1]
  clear e_W1
  have HB1 := Lib.hid hb1
  have B1_bx := Lib.hid b_bx1
  have B1_be := Lib.hid b_be1
  have B1_bz := Lib.hid b_bz1
  have K1_v := Lib.hid k_v1
  clear hb1 b_bx1 b_be1 b_bz1 k_v1
  clear H
  refine (partMay_any _ ⟨ep, (l : Int), is, ks, rs, fw, ba⟩ _ K1_v.out).mono ?_
  rintro e W2 hA
  obtain ⟨rfl, hb⟩ := hA.yes HN.out
  have hb2 : Below w.heap.size w W2 := below_then HB1.out hb
  have b_bx2 := B1_bx.out.below hb B1_bx.out.lt
  have b_be2 := B1_be.out.below hb B1_be.out.lt
  have b_bz2 := B1_bz.out.below hb B1_bz.out.lt
  have k_v2 := K1_v.out.below hb
  have hz2 := hb.size
  have HB2 := Lib.hid hb2
  have B2_bx := Lib.hid b_bx2
  have B2_be := Lib.hid b_be2
  have B2_bz := Lib.hid b_bz2
  have K2_v := Lib.hid k_v2
  clear hb2 b_bx2 b_be2 b_bz2 k_v2
  clear B1_bx B1_be B1_bz HB1 K1_v
  have c_bx0 := B2_bx.out.cell 0
  have c_bx1 := B2_bx.out.cell 1
  have c_bx2 := B2_bx.out.cell 2
  have c_bx3 := B2_bx.out.cell 3
  have c_bx4 := B2_bx.out.cell 4
  have c_bx5 := B2_bx.out.cell 5
  have c_bx6 := B2_bx.out.cell 6
  have l_bx := B2_bx.out.lt
  go_wp2_with fail
  clear c_bx0 c_bx1 c_bx2 c_bx3 c_bx4 c_bx5 c_bx6 l_bx
  refine (refPartCopy_ok (c := ⟨ep, (l : Int), is, ks, rs, fw, ba⟩) K2_v.out HSM.out).mono ?_
  rintro e W3 ⟨iv, kv, rv, rfl, ho, hb⟩
  obtain ⟨gi, d1, gk, d3, gr, d5, rfl, rfl, rfl, hgi, hgk, hgr, hgi', hgk', hgr'⟩ := ho.rows (by have := HN.out.isr; have := HN.out.many; simp only at *; omega) (by have := HN.out.known; have := HN.out.many; simp only at *; omega) (by have := HN.out.many; simp only at *; omega)
  unfold partV
  simp only at *
  have HO := Lib.hid ho
  clear ho
  have hb3 : Below w.heap.size w W3 := below_then HB2.out hb
  have b_bx3 := B2_bx.out.below hb B2_bx.out.lt
  have b_be3 := B2_be.out.below hb B2_be.out.lt
  have b_bz3 := B2_bz.out.below hb B2_bz.out.lt
  have k_v3 := K2_v.out.below hb
  have hz3 := hb.size
  have HB3 := Lib.hid hb3
  have B3_bx := Lib.hid b_bx3
  have B3_be := Lib.hid b_be3
  have B3_bz := Lib.hid b_bz3
  have K3_v := Lib.hid k_v3
  clear hb3 b_bx3 b_be3 b_bz3 k_v3
  clear B2_bx B2_be B2_bz HB2 K2_v
  go_upto_region 6 with fail
  have hsz4 := HB3.out.size
  obtain ⟨W4, e_W4⟩ : ∃ W : World, W3.alloc (.cells #[.int .i64 ep, .int .i64 l, .slice (some ⟨gi, 0, none⟩) is.length d1, .slice (some ⟨gk, 0, none⟩) ks.length d3, .slice (some ⟨gr, 0, none⟩) rs.length d5, .int .i64 fw, .int .i64 ba] 26) = W := ⟨_, rfl⟩
  have hb4 : Below w.heap.size w W4 := by rw [← e_W4]; exact (HB3.out).alloc (by first | omega | (simp; done) | (simp; omega)) _
  have hal4 : Below W3.heap.size W3 W4 := by rw [← e_W4]; exact (Below.refl _ _).alloc (by first | omega | (simp; done) | (simp; omega)) _
  have b_bx4 : Blk W4 (w.heap.size) 26 #[.int .i64 ep, .int .i64 l, .slice (some ⟨b1, o1, none⟩) is.length c1, .slice A3 ks.length c3, .slice (some ⟨b5, o5, none⟩) rs.length c5, .int .i64 fw, .int .i64 ba] := by rw [← e_W4]; exact (B3_bx.out).alloc _
  have b_be4 : Blk W4 (w.heap.size + 1) 55 #[.int .i64 xe, .int .i64 pid, .int .i64 ver, .int .i64 seq, .int .i64 kind, .bool txn, .string text] := by rw [← e_W4]; exact (B3_be.out).alloc _
  have b_bz4 : Blk W4 (w.heap.size + 1 + 1) 26 #[.int .i64 0, .int .i64 0, .slice none 0 0, .slice none 0 0, .slice none 0 0, .int .i64 0, .int .i64 0] := by rw [← e_W4]; exact (B3_bz.out).alloc _
  have b_out4 : Blk W4 (W3.heap.size) 26 #[.int .i64 ep, .int .i64 l, .slice (some ⟨gi, 0, none⟩) is.length d1, .slice (some ⟨gk, 0, none⟩) ks.length d3, .slice (some ⟨gr, 0, none⟩) rs.length d5, .int .i64 fw, .int .i64 ba] := by rw [← e_W4]; exact Blk.new_ _ 26 #[.int .i64 ep, .int .i64 l, .slice (some ⟨gi, 0, none⟩) is.length d1, .slice (some ⟨gk, 0, none⟩) ks.length d3, .slice (some ⟨gr, 0, none⟩) rs.length d5, .int .i64 fw, .int .i64 ba] (by first | rfl | (simp; done) | (simp; omega))
  have k_own4 := (HO.out).alloc (.cells #[.int .i64 ep, .int .i64 l, .slice (some ⟨gi, 0, none⟩) is.length d1, .slice (some ⟨gk, 0, none⟩) ks.length d3, .slice (some ⟨gr, 0, none⟩) rs.length d5, .int .i64 fw, .int .i64 ba] 26)
  have hz4 : W3.heap.size + 1 ≤ W4.heap.size := by rw [← e_W4]; (first | omega | (simp; done) | (simp; omega))
  try rw [e_W4] at k_own4
  rw [e_W4]
  clear e_W4
  have HB4 := Lib.hid hb4
  have B4_bx := Lib.hid b_bx4
  have B4_be := Lib.hid b_be4
  have B4_bz := Lib.hid b_bz4
  have B4_out := Lib.hid b_out4
  have K4_own := Lib.hid k_own4
  clear hb4 b_bx4 b_be4 b_bz4 b_out4 k_own4
  clear B3_bx B3_be B3_bz HB3 HO
  have c_bx0 := B4_bx.out.cell 0
  have c_bx1 := B4_bx.out.cell 1
  have c_bx2 := B4_bx.out.cell 2
  have c_bx3 := B4_bx.out.cell 3
  have c_bx4 := B4_bx.out.cell 4
  have c_bx5 := B4_bx.out.cell 5
  have c_bx6 := B4_bx.out.cell 6
  have l_bx := B4_bx.out.lt
  go_wp2_with fail
  clear c_bx0 c_bx1 c_bx2 c_bx3 c_bx4 c_bx5 c_bx6 l_bx
  refine (logOf_any _ ⟨ep, (l : Int), is, ks, rs, fw, ba⟩ l _ (HV0.out.below HB4.out) hll HLG.out).mono ?_
  rintro e W5 ⟨v5, rfl, hp5, hb⟩
  obtain ⟨A9, c9, rfl, hc9⟩ := (Sl.of_own hp5).form
  have HEN := Lib.hid (EnO.mk hp5)
  clear hp5
  have hb5 : Below w.heap.size w W5 := below_then HB4.out hb
  have b_bx5 := B4_bx.out.below hb B4_bx.out.lt
  have b_be5 := B4_be.out.below hb B4_be.out.lt
  have b_bz5 := B4_bz.out.below hb B4_bz.out.lt
  have b_out5 := B4_out.out.below hb B4_out.out.lt
  have k_own5 := K4_own.out.keep hb
  have hz5 := hb.size
  have HB5 := Lib.hid hb5
  have B5_bx := Lib.hid b_bx5
  have B5_be := Lib.hid b_be5
  have B5_bz := Lib.hid b_bz5
  have B5_out := Lib.hid b_out5
  have K5_own := Lib.hid k_own5
  clear hb5 b_bx5 b_be5 b_bz5 b_out5 k_own5
  clear B4_bx B4_be B4_bz B4_out HB4 K4_own
  have c_bx0 := B5_bx.out.cell 0
  have c_bx1 := B5_bx.out.cell 1
  have c_bx2 := B5_bx.out.cell 2
  have c_bx3 := B5_bx.out.cell 3
  have c_bx4 := B5_bx.out.cell 4
  have c_bx5 := B5_bx.out.cell 5
  have c_bx6 := B5_bx.out.cell 6
  have l_bx := B5_bx.out.lt
  have c_be0 := B5_be.out.cell 0
  have f_be0 := B5_be.out.frozen 0
  have l_be := B5_be.out.lt
  go_upto_region 8 with fail
  clear c_bx0 c_bx1 c_bx2 c_bx3 c_bx4 c_bx5 c_bx6 l_bx c_be0 f_be0 l_be
  have hsz6 := HB5.out.size
  obtain ⟨W6, e_W6⟩ : ∃ W : World, W5.setCell ⟨w.heap.size + 1, 0, none⟩ (.int .i64 ep) = W := ⟨_, rfl⟩
  have hb6 : Below w.heap.size w W6 := by rw [← e_W6]; exact (HB5.out).setCell (by show w.heap.size ≤ w.heap.size + 1; omega) _
  have b_bx6 : Blk W6 (w.heap.size) 26 #[.int .i64 ep, .int .i64 l, .slice (some ⟨b1, o1, none⟩) is.length c1, .slice A3 ks.length c3, .slice (some ⟨b5, o5, none⟩) rs.length c5, .int .i64 fw, .int .i64 ba] := by rw [← e_W6]; exact (B5_bx.out).far (p := ⟨w.heap.size + 1, 0, none⟩) (by show w.heap.size ≠ w.heap.size + 1; omega) _
  have b_be6 : Blk W6 (w.heap.size + 1) 55 #[.int .i64 ep, .int .i64 pid, .int .i64 ver, .int .i64 seq, .int .i64 kind, .bool txn, .string text] := by rw [← e_W6]; exact (B5_be.out).set_ 0 _
  have b_bz6 : Blk W6 (w.heap.size + 1 + 1) 26 #[.int .i64 0, .int .i64 0, .slice none 0 0, .slice none 0 0, .slice none 0 0, .int .i64 0, .int .i64 0] := by rw [← e_W6]; exact (B5_bz.out).far (p := ⟨w.heap.size + 1, 0, none⟩) (by show w.heap.size + 1 + 1 ≠ w.heap.size + 1; omega) _
  have b_out6 : Blk W6 (W3.heap.size) 26 #[.int .i64 ep, .int .i64 l, .slice (some ⟨gi, 0, none⟩) is.length d1, .slice (some ⟨gk, 0, none⟩) ks.length d3, .slice (some ⟨gr, 0, none⟩) rs.length d5, .int .i64 fw, .int .i64 ba] := by rw [← e_W6]; exact (B5_out.out).far (p := ⟨w.heap.size + 1, 0, none⟩) (by show W3.heap.size ≠ w.heap.size + 1; omega) _
  have k_own6 := (K5_own.out).under (a := ⟨w.heap.size + 1, 0, none⟩) (by (try dsimp only); omega) (.int .i64 ep)
  have k_en6 := (HEN.out).under (a := ⟨w.heap.size + 1, 0, none⟩) (by (try dsimp only); omega) (.int .i64 ep)
  have hz6 : W5.heap.size + 0 ≤ W6.heap.size := by rw [← e_W6]; (first | omega | (simp; done) | (simp; omega))
  try rw [e_W6] at k_own6
  try rw [e_W6] at k_en6
  rw [e_W6]
  clear e_W6
  have HB6 := Lib.hid hb6
  have B6_bx := Lib.hid b_bx6
  have B6_be := Lib.hid b_be6
  have B6_bz := Lib.hid b_bz6
  have B6_out := Lib.hid b_out6
  have K6_own := Lib.hid k_own6
  have K6_en := Lib.hid k_en6
  clear hb6 b_bx6 b_be6 b_bz6 b_out6 k_own6 k_en6
  clear B5_bx B5_be B5_bz B5_out HB5 K5_own HEN
  have c_be0 := B6_be.out.cell 0
  have c_be1 := B6_be.out.cell 1
  have c_be2 := B6_be.out.cell 2
  have c_be3 := B6_be.out.cell 3
  have c_be4 := B6_be.out.cell 4
  have c_be5 := B6_be.out.cell 5
  have c_be6 := B6_be.out.cell 6
  have l_be := B6_be.out.lt
  go_wp2_with fail
  clear c_be0 c_be1 c_be2 c_be3 c_be4 c_be5 c_be6 l_be
  refine (EntryFault_any ep pid ver seq kind txn text _).mono ?_
  rintro e W7 ⟨rfl, hb⟩
  rw [HFC.out]
  have hb7 : Below w.heap.size w W7 := below_then HB6.out hb
  have b_bx7 := B6_bx.out.below hb B6_bx.out.lt
  have b_be7 := B6_be.out.below hb B6_be.out.lt
  have b_bz7 := B6_bz.out.below hb B6_bz.out.lt
  have b_out7 := B6_out.out.below hb B6_out.out.lt
  have k_own7 := K6_own.out.keep hb
  have k_en7 := K6_en.out.keep hb
  have hz7 := hb.size
  have HB7 := Lib.hid hb7
  have B7_bx := Lib.hid b_bx7
  have B7_be := Lib.hid b_be7
  have B7_bz := Lib.hid b_bz7
  have B7_out := Lib.hid b_out7
  have K7_own := Lib.hid k_own7
  have K7_en := Lib.hid k_en7
  clear hb7 b_bx7 b_be7 b_bz7 b_out7 k_own7 k_en7
  clear B6_bx B6_be B6_bz B6_out HB6 K6_own K6_en
  have c_be0 := B7_be.out.cell 0
  have c_be1 := B7_be.out.cell 1
  have c_be2 := B7_be.out.cell 2
  have c_be3 := B7_be.out.cell 3
  have c_be4 := B7_be.out.cell 4
  have c_be5 := B7_be.out.cell 5
  have c_be6 := B7_be.out.cell 6
  have l_be := B7_be.out.lt
  go_wp2_with fail
  clear c_be0 c_be1 c_be2 c_be3 c_be4 c_be5 c_be6 l_be
  refine (HVC.out _ _ K7_en.out.es).mono ?_
  rintro e W8 ⟨rfl, hb⟩
  have hb8 : Below w.heap.size w W8 := below_then HB7.out hb
  have b_bx8 := B7_bx.out.below hb B7_bx.out.lt
  have b_be8 := B7_be.out.below hb B7_be.out.lt
  have b_bz8 := B7_bz.out.below hb B7_bz.out.lt
  have b_out8 := B7_out.out.below hb B7_out.out.lt
  have k_own8 := K7_own.out.keep hb
  have k_en8 := K7_en.out.keep hb
  have hz8 := hb.size
  have HB8 := Lib.hid hb8
  have B8_bx := Lib.hid b_bx8
  have B8_be := Lib.hid b_be8
  have B8_bz := Lib.hid b_bz8
  have B8_out := Lib.hid b_out8
  have K8_own := Lib.hid k_own8
  have K8_en := Lib.hid k_en8
  clear hb8 b_bx8 b_be8 b_bz8 b_out8 k_own8 k_en8
  clear B7_bx B7_be B7_bz B7_out HB7 K7_own K7_en
  have c_bz0 := B8_bz.out.cell 0
  have f_bz0 := B8_bz.out.frozen 0
  have c_bz1 := B8_bz.out.cell 1
  have f_bz1 := B8_bz.out.frozen 1
  have c_bz2 := B8_bz.out.cell 2
  have f_bz2 := B8_bz.out.frozen 2
  have c_bz3 := B8_bz.out.cell 3
  have f_bz3 := B8_bz.out.frozen 3
  have c_bz4 := B8_bz.out.cell 4
  have f_bz4 := B8_bz.out.frozen 4
  have c_bz5 := B8_bz.out.cell 5
  have f_bz5 := B8_bz.out.frozen 5
  have c_bz6 := B8_bz.out.cell 6
  have f_bz6 := B8_bz.out.frozen 6
  have l_bz := B8_bz.out.lt
  go_wp2_with fail
  clear c_bz0 f_bz0 c_bz1 f_bz1 c_bz2 f_bz2 c_bz3 f_bz3 c_bz4 f_bz4 c_bz5 f_bz5 c_bz6 f_bz6 l_bz
  have hszF := HB8.out.size
  have hbF : Below w.heap.size w (((((((W8.setCell ⟨w.heap.size + 1 + 1, 0, none⟩ (.int .i64 0)).setCell ⟨w.heap.size + 1 + 1, 1, none⟩ (.int .i64 0)).setCell ⟨w.heap.size + 1 + 1, 2, none⟩ (.slice none 0 0)).setCell ⟨w.heap.size + 1 + 1, 3, none⟩ (.slice none 0 0)).setCell ⟨w.heap.size + 1 + 1, 4, none⟩ (.slice none 0 0)).setCell ⟨w.heap.size + 1 + 1, 5, none⟩ (.int .i64 0)).setCell ⟨w.heap.size + 1 + 1, 6, none⟩ (.int .i64 0)) := (((((((HB8.out).setCell (by show w.heap.size ≤ w.heap.size + 1 + 1; omega) _).setCell (by show w.heap.size ≤ w.heap.size + 1 + 1; omega) _).setCell (by show w.heap.size ≤ w.heap.size + 1 + 1; omega) _).setCell (by show w.heap.size ≤ w.heap.size + 1 + 1; omega) _).setCell (by show w.heap.size ≤ w.heap.size + 1 + 1; omega) _).setCell (by show w.heap.size ≤ w.heap.size + 1 + 1; omega) _).setCell (by show w.heap.size ≤ w.heap.size + 1 + 1; omega) _
  have b_bxF : Blk (((((((W8.setCell ⟨w.heap.size + 1 + 1, 0, none⟩ (.int .i64 0)).setCell ⟨w.heap.size + 1 + 1, 1, none⟩ (.int .i64 0)).setCell ⟨w.heap.size + 1 + 1, 2, none⟩ (.slice none 0 0)).setCell ⟨w.heap.size + 1 + 1, 3, none⟩ (.slice none 0 0)).setCell ⟨w.heap.size + 1 + 1, 4, none⟩ (.slice none 0 0)).setCell ⟨w.heap.size + 1 + 1, 5, none⟩ (.int .i64 0)).setCell ⟨w.heap.size + 1 + 1, 6, none⟩ (.int .i64 0)) (w.heap.size) 26 #[.int .i64 ep, .int .i64 l, .slice (some ⟨b1, o1, none⟩) is.length c1, .slice A3 ks.length c3, .slice (some ⟨b5, o5, none⟩) rs.length c5, .int .i64 fw, .int .i64 ba] := (((((((B8_bx.out).far (p := ⟨w.heap.size + 1 + 1, 0, none⟩) (by show w.heap.size ≠ w.heap.size + 1 + 1; omega) _).far (p := ⟨w.heap.size + 1 + 1, 1, none⟩) (by show w.heap.size ≠ w.heap.size + 1 + 1; omega) _).far (p := ⟨w.heap.size + 1 + 1, 2, none⟩) (by show w.heap.size ≠ w.heap.size + 1 + 1; omega) _).far (p := ⟨w.heap.size + 1 + 1, 3, none⟩) (by show w.heap.size ≠ w.heap.size + 1 + 1; omega) _).far (p := ⟨w.heap.size + 1 + 1, 4, none⟩) (by show w.heap.size ≠ w.heap.size + 1 + 1; omega) _).far (p := ⟨w.heap.size + 1 + 1, 5, none⟩) (by show w.heap.size ≠ w.heap.size + 1 + 1; omega) _).far (p := ⟨w.heap.size + 1 + 1, 6, none⟩) (by show w.heap.size ≠ w.heap.size + 1 + 1; omega) _
  have b_beF : Blk (((((((W8.setCell ⟨w.heap.size + 1 + 1, 0, none⟩ (.int .i64 0)).setCell ⟨w.heap.size + 1 + 1, 1, none⟩ (.int .i64 0)).setCell ⟨w.heap.size + 1 + 1, 2, none⟩ (.slice none 0 0)).setCell ⟨w.heap.size + 1 + 1, 3, none⟩ (.slice none 0 0)).setCell ⟨w.heap.size + 1 + 1, 4, none⟩ (.slice none 0 0)).setCell ⟨w.heap.size + 1 + 1, 5, none⟩ (.int .i64 0)).setCell ⟨w.heap.size + 1 + 1, 6, none⟩ (.int .i64 0)) (w.heap.size + 1) 55 #[.int .i64 ep, .int .i64 pid, .int .i64 ver, .int .i64 seq, .int .i64 kind, .bool txn, .string text] := (((((((B8_be.out).far (p := ⟨w.heap.size + 1 + 1, 0, none⟩) (by show w.heap.size + 1 ≠ w.heap.size + 1 + 1; omega) _).far (p := ⟨w.heap.size + 1 + 1, 1, none⟩) (by show w.heap.size + 1 ≠ w.heap.size + 1 + 1; omega) _).far (p := ⟨w.heap.size + 1 + 1, 2, none⟩) (by show w.heap.size + 1 ≠ w.heap.size + 1 + 1; omega) _).far (p := ⟨w.heap.size + 1 + 1, 3, none⟩) (by show w.heap.size + 1 ≠ w.heap.size + 1 + 1; omega) _).far (p := ⟨w.heap.size + 1 + 1, 4, none⟩) (by show w.heap.size + 1 ≠ w.heap.size + 1 + 1; omega) _).far (p := ⟨w.heap.size + 1 + 1, 5, none⟩) (by show w.heap.size + 1 ≠ w.heap.size + 1 + 1; omega) _).far (p := ⟨w.heap.size + 1 + 1, 6, none⟩) (by show w.heap.size + 1 ≠ w.heap.size + 1 + 1; omega) _
  have b_bzF : Blk (((((((W8.setCell ⟨w.heap.size + 1 + 1, 0, none⟩ (.int .i64 0)).setCell ⟨w.heap.size + 1 + 1, 1, none⟩ (.int .i64 0)).setCell ⟨w.heap.size + 1 + 1, 2, none⟩ (.slice none 0 0)).setCell ⟨w.heap.size + 1 + 1, 3, none⟩ (.slice none 0 0)).setCell ⟨w.heap.size + 1 + 1, 4, none⟩ (.slice none 0 0)).setCell ⟨w.heap.size + 1 + 1, 5, none⟩ (.int .i64 0)).setCell ⟨w.heap.size + 1 + 1, 6, none⟩ (.int .i64 0)) (w.heap.size + 1 + 1) 26 #[.int .i64 0, .int .i64 0, .slice none 0 0, .slice none 0 0, .slice none 0 0, .int .i64 0, .int .i64 0] := (((((((B8_bz.out).set_ 0 _).set_ 1 _).set_ 2 _).set_ 3 _).set_ 4 _).set_ 5 _).set_ 6 _
  have b_outF : Blk (((((((W8.setCell ⟨w.heap.size + 1 + 1, 0, none⟩ (.int .i64 0)).setCell ⟨w.heap.size + 1 + 1, 1, none⟩ (.int .i64 0)).setCell ⟨w.heap.size + 1 + 1, 2, none⟩ (.slice none 0 0)).setCell ⟨w.heap.size + 1 + 1, 3, none⟩ (.slice none 0 0)).setCell ⟨w.heap.size + 1 + 1, 4, none⟩ (.slice none 0 0)).setCell ⟨w.heap.size + 1 + 1, 5, none⟩ (.int .i64 0)).setCell ⟨w.heap.size + 1 + 1, 6, none⟩ (.int .i64 0)) (W3.heap.size) 26 #[.int .i64 ep, .int .i64 l, .slice (some ⟨gi, 0, none⟩) is.length d1, .slice (some ⟨gk, 0, none⟩) ks.length d3, .slice (some ⟨gr, 0, none⟩) rs.length d5, .int .i64 fw, .int .i64 ba] := (((((((B8_out.out).far (p := ⟨w.heap.size + 1 + 1, 0, none⟩) (by show W3.heap.size ≠ w.heap.size + 1 + 1; omega) _).far (p := ⟨w.heap.size + 1 + 1, 1, none⟩) (by show W3.heap.size ≠ w.heap.size + 1 + 1; omega) _).far (p := ⟨w.heap.size + 1 + 1, 2, none⟩) (by show W3.heap.size ≠ w.heap.size + 1 + 1; omega) _).far (p := ⟨w.heap.size + 1 + 1, 3, none⟩) (by show W3.heap.size ≠ w.heap.size + 1 + 1; omega) _).far (p := ⟨w.heap.size + 1 + 1, 4, none⟩) (by show W3.heap.size ≠ w.heap.size + 1 + 1; omega) _).far (p := ⟨w.heap.size + 1 + 1, 5, none⟩) (by show W3.heap.size ≠ w.heap.size + 1 + 1; omega) _).far (p := ⟨w.heap.size + 1 + 1, 6, none⟩) (by show W3.heap.size ≠ w.heap.size + 1 + 1; omega) _
  have y0 := b_bzF.cell 0
  have y1 := b_bzF.cell 1
  have y2 := b_bzF.cell 2
  have y3 := b_bzF.cell 3
  have y4 := b_bzF.cell 4
  have y5 := b_bzF.cell 5
  have y6 := b_bzF.cell 6
  exact bodyPost_ret (v := .tuple #[.agg #[.int .i64 0, .int .i64 0, .slice none 0 0, .slice none 0 0, .slice none 0 0, .int .i64 0, .int .i64 0], .int .i64 0, .int .i64 cd]) (by simp [results, Try.results68, go_sem, y0, y1, y2, y3, y4, y5, y6]) rfl (⟨_, rfl, pv_zero _, hbF⟩)
set_option maxRecDepth 100000 in
set_option maxHeartbeats 4000000 in
theorem putOf_there (v : Value) (c : PartD) (x : Ent) (hn : PartOk c) (l : Nat) (hl : c.leader = l) (hll : l < c.reps.length) {es : List Ent} {j : Nat} (hlog : LogIs c.reps[l].log es j) {n cd : Int} (hvc : ∀ (v : Value) (w : World), Es w v es → Calls Try.prog 98 #[v, .agg #[.int .i64 c.epoch, .int .i64 x.pid, .int .i64 x.ver, .int .i64 x.seq, .int .i64 x.kind, .bool x.txn, .string x.text]] w fun e w' => e = .returned (.tuple #[.int .i64 n, .int .i64 cd]) ∧ Below w.heap.size w w') (hfc : entryFault c.epoch x.pid x.ver x.seq x.kind x.txn x.text.size = 0) (hcd : cd = 0) (hn0 : 0 ≤ n) (w : World) (h : Pv w v c) : Calls Try.prog 68 #[v, .agg #[.int .i64 x.ep, .int .i64 x.pid, .int .i64 x.ver, .int .i64 x.seq, .int .i64 x.kind, .bool x.txn, .string x.text]] w (PRes3 c n 0 w) := by
  obtain ⟨xi, xk, xr, rfl, ix, kx, rx, hli, hlk, hlr⟩ := id h
  obtain ⟨A5, c5, rfl, hc5, hx5⟩ := rx.at_
  obtain ⟨A1, c1, rfl, hc1, hx1⟩ := ix.at_
  obtain ⟨A3, c3, rfl, hc3, -⟩ := kx.at_
  have H := Lib.hid h
  have HV0 := Lib.hid h
  clear h ix kx rx
  unfold partV at *
  obtain ⟨ep, ld, is, ks, rs, fw, ba⟩ := c
  simp only at *
  obtain ⟨xe, pid, ver, seq, kind, txn, text⟩ := x
  simp only at *
  obtain rfl : ld = (l : Int) := hl
  have eqi := hn.isr
  have E1 := Lib.hid eqi
  have rl5 : rs.length ≤ 5 := hn.many.2
  have rl0 : 0 < rs.length := Nat.lt_of_le_of_lt (Nat.zero_le _) hll
  have il0 : 0 < is.length := by have h9 := eqi; (try simp only at h9); omega
  obtain ⟨b5, o5, rfl, hb5, hcell5⟩ := hx5 rl0
  obtain ⟨b1, o1, rfl, hb1, hcell1⟩ := hx1 il0
  obtain ⟨pv, -, x1, x2, -, xb, -⟩ := hcell5 l hll
  obtain ⟨A8, c8, rfl, -, -⟩ := xb.at_
  have XC := Lib.hid (And.intro x1 (And.intro x2 xb))
  have HC5 := Lib.hid hcell5
  have HC1 := Lib.hid hcell1
  have HN := Lib.hid hn
  have HSM := Lib.hid hn.small
  have HLG := Lib.hid hlog
  have hel : es.length ≤ 400 := hlog.many
  have y0 : decide ((l : Int) < 0) = false := decide_eq_false (by omega)
  have l0 : (0 : Int) ≤ (l : Int) := by omega
  have l1 : (l : Int) < (rs.length : Int) := Int.ofNat_lt.2 hll
  clear hn hlog eqi hx1 hx5 hcell5 hcell1 x1 x2 xb
  have HFC := Lib.hid hfc
  have HVC := Lib.hid hvc
  clear hfc hvc
  have y2 : (cd != 0) = false := by simpa using hcd
  have y3 : decide (0 ≤ n) = true := decide_eq_true hn0
  clear hcd hn0
  go_enter Try.func68, Try.ntmps68
  go_wp2_with fail
  obtain ⟨W1, e_W1⟩ : ∃ W : World, ((w.alloc (.cells #[.int .i64 ep, .int .i64 l, .slice (some ⟨b1, o1, none⟩) is.length c1, .slice A3 ks.length c3, .slice (some ⟨b5, o5, none⟩) rs.length c5, .int .i64 fw, .int .i64 ba] 26)).alloc (.cells #[.int .i64 xe, .int .i64 pid, .int .i64 ver, .int .i64 seq, .int .i64 kind, .bool txn, .string text] 55)).alloc (.cells #[.int .i64 0, .int .i64 0, .slice none 0 0, .slice none 0 0, .slice none 0 0, .int .i64 0, .int .i64 0] 26) = W := ⟨_, rfl⟩
  have hb1 : Below w.heap.size w W1 := by rw [← e_W1]; exact (((Below.refl _ _).alloc (by first | omega | (simp; done) | (simp; omega)) _).alloc (by first | omega | (simp; done) | (simp; omega)) _).alloc (by first | omega | (simp; done) | (simp; omega)) _
  have hal1 : Below w.heap.size w W1 := by rw [← e_W1]; exact (((Below.refl _ _).alloc (by first | omega | (simp; done) | (simp; omega)) _).alloc (by first | omega | (simp; done) | (simp; omega)) _).alloc (by first | omega | (simp; done) | (simp; omega)) _
  have b_bx1 : Blk W1 (w.heap.size) 26 #[.int .i64 ep, .int .i64 l, .slice (some ⟨b1, o1, none⟩) is.length c1, .slice A3 ks.length c3, .slice (some ⟨b5, o5, none⟩) rs.length c5, .int .i64 fw, .int .i64 ba] := by rw [← e_W1]; exact ((Blk.new_ _ 26 #[.int .i64 ep, .int .i64 l, .slice (some ⟨b1, o1, none⟩) is.length c1, .slice A3 ks.length c3, .slice (some ⟨b5, o5, none⟩) rs.length c5, .int .i64 fw, .int .i64 ba] (by first | rfl | (simp; done) | (simp; omega))).alloc _).alloc _
  have b_be1 : Blk W1 (w.heap.size + 1) 55 #[.int .i64 xe, .int .i64 pid, .int .i64 ver, .int .i64 seq, .int .i64 kind, .bool txn, .string text] := by rw [← e_W1]; exact (Blk.new_ _ 55 #[.int .i64 xe, .int .i64 pid, .int .i64 ver, .int .i64 seq, .int .i64 kind, .bool txn, .string text] (by first | rfl | (simp; done) | (simp; omega))).alloc _
  have b_bz1 : Blk W1 (w.heap.size + 1 + 1) 26 #[.int .i64 0, .int .i64 0, .slice none 0 0, .slice none 0 0, .slice none 0 0, .int .i64 0, .int .i64 0] := by rw [← e_W1]; exact Blk.new_ _ 26 #[.int .i64 0, .int .i64 0, .slice none 0 0, .slice none 0 0, .slice none 0 0, .int .i64 0, .int .i64 0] (by first | rfl | (simp; done) | (simp; omega))
  have k_v1 := H.out.below hal1
  have hz1 : w.heap.size + 3 ≤ W1.heap.size := by rw [← e_W1]; (first | omega | (simp; done) | (simp; omega))
  try rw [e_W1] at k_v1
  rw [e_W1]
  clear e_W1
  have HB1 := Lib.hid hb1
  have B1_bx := Lib.hid b_bx1
  have B1_be := Lib.hid b_be1
  have B1_bz := Lib.hid b_bz1
  have K1_v := Lib.hid k_v1
  clear hb1 b_bx1 b_be1 b_bz1 k_v1
  clear H
  refine (partMay_any _ ⟨ep, (l : Int), is, ks, rs, fw, ba⟩ _ K1_v.out).mono ?_
  rintro e W2 hA
  obtain ⟨rfl, hb⟩ := hA.yes HN.out
  have hb2 : Below w.heap.size w W2 := below_then HB1.out hb
  have b_bx2 := B1_bx.out.below hb B1_bx.out.lt
  have b_be2 := B1_be.out.below hb B1_be.out.lt
  have b_bz2 := B1_bz.out.below hb B1_bz.out.lt
  have k_v2 := K1_v.out.below hb
  have hz2 := hb.size
  have HB2 := Lib.hid hb2
  have B2_bx := Lib.hid b_bx2
  have B2_be := Lib.hid b_be2
  have B2_bz := Lib.hid b_bz2
  have K2_v := Lib.hid k_v2
  clear hb2 b_bx2 b_be2 b_bz2 k_v2
  clear B1_bx B1_be B1_bz HB1 K1_v
  have c_bx0 := B2_bx.out.cell 0
  have c_bx1 := B2_bx.out.cell 1
  have c_bx2 := B2_bx.out.cell 2
  have c_bx3 := B2_bx.out.cell 3
  have c_bx4 := B2_bx.out.cell 4
  have c_bx5 := B2_bx.out.cell 5
  have c_bx6 := B2_bx.out.cell 6
  have l_bx := B2_bx.out.lt
  go_wp2_with fail
  clear c_bx0 c_bx1 c_bx2 c_bx3 c_bx4 c_bx5 c_bx6 l_bx
  refine (refPartCopy_ok (c := ⟨ep, (l : Int), is, ks, rs, fw, ba⟩) K2_v.out HSM.out).mono ?_
  rintro e W3 ⟨iv, kv, rv, rfl, ho, hb⟩
  obtain ⟨gi, d1, gk, d3, gr, d5, rfl, rfl, rfl, hgi, hgk, hgr, hgi', hgk', hgr'⟩ := ho.rows (by have := HN.out.isr; have := HN.out.many; simp only at *; omega) (by have := HN.out.known; have := HN.out.many; simp only at *; omega) (by have := HN.out.many; simp only at *; omega)
  unfold partV
  simp only at *
  have HO := Lib.hid ho
  clear ho
  have hb3 : Below w.heap.size w W3 := below_then HB2.out hb
  have b_bx3 := B2_bx.out.below hb B2_bx.out.lt
  have b_be3 := B2_be.out.below hb B2_be.out.lt
  have b_bz3 := B2_bz.out.below hb B2_bz.out.lt
  have k_v3 := K2_v.out.below hb
  have hz3 := hb.size
  have HB3 := Lib.hid hb3
  have B3_bx := Lib.hid b_bx3
  have B3_be := Lib.hid b_be3
  have B3_bz := Lib.hid b_bz3
  have K3_v := Lib.hid k_v3
  clear hb3 b_bx3 b_be3 b_bz3 k_v3
  clear B2_bx B2_be B2_bz HB2 K2_v
  go_upto_region 6 with fail
  have hsz4 := HB3.out.size
  obtain ⟨W4, e_W4⟩ : ∃ W : World, W3.alloc (.cells #[.int .i64 ep, .int .i64 l, .slice (some ⟨gi, 0, none⟩) is.length d1, .slice (some ⟨gk, 0, none⟩) ks.length d3, .slice (some ⟨gr, 0, none⟩) rs.length d5, .int .i64 fw, .int .i64 ba] 26) = W := ⟨_, rfl⟩
  have hb4 : Below w.heap.size w W4 := by rw [← e_W4]; exact (HB3.out).alloc (by first | omega | (simp; done) | (simp; omega)) _
  have hal4 : Below W3.heap.size W3 W4 := by rw [← e_W4]; exact (Below.refl _ _).alloc (by first | omega | (simp; done) | (simp; omega)) _
  have b_bx4 : Blk W4 (w.heap.size) 26 #[.int .i64 ep, .int .i64 l, .slice (some ⟨b1, o1, none⟩) is.length c1, .slice A3 ks.length c3, .slice (some ⟨b5, o5, none⟩) rs.length c5, .int .i64 fw, .int .i64 ba] := by rw [← e_W4]; exact (B3_bx.out).alloc _
  have b_be4 : Blk W4 (w.heap.size + 1) 55 #[.int .i64 xe, .int .i64 pid, .int .i64 ver, .int .i64 seq, .int .i64 kind, .bool txn, .string text] := by rw [← e_W4]; exact (B3_be.out).alloc _
  have b_bz4 : Blk W4 (w.heap.size + 1 + 1) 26 #[.int .i64 0, .int .i64 0, .slice none 0 0, .slice none 0 0, .slice none 0 0, .int .i64 0, .int .i64 0] := by rw [← e_W4]; exact (B3_bz.out).alloc _
  have b_out4 : Blk W4 (W3.heap.size) 26 #[.int .i64 ep, .int .i64 l, .slice (some ⟨gi, 0, none⟩) is.length d1, .slice (some ⟨gk, 0, none⟩) ks.length d3, .slice (some ⟨gr, 0, none⟩) rs.length d5, .int .i64 fw, .int .i64 ba] := by rw [← e_W4]; exact Blk.new_ _ 26 #[.int .i64 ep, .int .i64 l, .slice (some ⟨gi, 0, none⟩) is.length d1, .slice (some ⟨gk, 0, none⟩) ks.length d3, .slice (some ⟨gr, 0, none⟩) rs.length d5, .int .i64 fw, .int .i64 ba] (by first | rfl | (simp; done) | (simp; omega))
  have k_own4 := (HO.out).alloc (.cells #[.int .i64 ep, .int .i64 l, .slice (some ⟨gi, 0, none⟩) is.length d1, .slice (some ⟨gk, 0, none⟩) ks.length d3, .slice (some ⟨gr, 0, none⟩) rs.length d5, .int .i64 fw, .int .i64 ba] 26)
  have hz4 : W3.heap.size + 1 ≤ W4.heap.size := by rw [← e_W4]; (first | omega | (simp; done) | (simp; omega))
  try rw [e_W4] at k_own4
  rw [e_W4]
  clear e_W4
  have HB4 := Lib.hid hb4
  have B4_bx := Lib.hid b_bx4
  have B4_be := Lib.hid b_be4
  have B4_bz := Lib.hid b_bz4
  have B4_out := Lib.hid b_out4
  have K4_own := Lib.hid k_own4
  clear hb4 b_bx4 b_be4 b_bz4 b_out4 k_own4
  clear B3_bx B3_be B3_bz HB3 HO
  have c_bx0 := B4_bx.out.cell 0
  have c_bx1 := B4_bx.out.cell 1
  have c_bx2 := B4_bx.out.cell 2
  have c_bx3 := B4_bx.out.cell 3
  have c_bx4 := B4_bx.out.cell 4
  have c_bx5 := B4_bx.out.cell 5
  have c_bx6 := B4_bx.out.cell 6
  have l_bx := B4_bx.out.lt
  go_wp2_with fail
  clear c_bx0 c_bx1 c_bx2 c_bx3 c_bx4 c_bx5 c_bx6 l_bx
  refine (logOf_any _ ⟨ep, (l : Int), is, ks, rs, fw, ba⟩ l _ (HV0.out.below HB4.out) hll HLG.out).mono ?_
  rintro e W5 ⟨v5, rfl, hp5, hb⟩
  obtain ⟨A9, c9, rfl, hc9⟩ := (Sl.of_own hp5).form
  have HEN := Lib.hid (EnO.mk hp5)
  clear hp5
  have hb5 : Below w.heap.size w W5 := below_then HB4.out hb
  have b_bx5 := B4_bx.out.below hb B4_bx.out.lt
  have b_be5 := B4_be.out.below hb B4_be.out.lt
  have b_bz5 := B4_bz.out.below hb B4_bz.out.lt
  have b_out5 := B4_out.out.below hb B4_out.out.lt
  have k_own5 := K4_own.out.keep hb
  have hz5 := hb.size
  have HB5 := Lib.hid hb5
  have B5_bx := Lib.hid b_bx5
  have B5_be := Lib.hid b_be5
  have B5_bz := Lib.hid b_bz5
  have B5_out := Lib.hid b_out5
  have K5_own := Lib.hid k_own5
  clear hb5 b_bx5 b_be5 b_bz5 b_out5 k_own5
  clear B4_bx B4_be B4_bz B4_out HB4 K4_own
  have c_bx0 := B5_bx.out.cell 0
  have c_bx1 := B5_bx.out.cell 1
  have c_bx2 := B5_bx.out.cell 2
  have c_bx3 := B5_bx.out.cell 3
  have c_bx4 := B5_bx.out.cell 4
  have c_bx5 := B5_bx.out.cell 5
  have c_bx6 := B5_bx.out.cell 6
  have l_bx := B5_bx.out.lt
  have c_be0 := B5_be.out.cell 0
  have f_be0 := B5_be.out.frozen 0
  have l_be := B5_be.out.lt
  go_upto_region 8 with fail
  clear c_bx0 c_bx1 c_bx2 c_bx3 c_bx4 c_bx5 c_bx6 l_bx c_be0 f_be0 l_be
  have hsz6 := HB5.out.size
  obtain ⟨W6, e_W6⟩ : ∃ W : World, W5.setCell ⟨w.heap.size + 1, 0, none⟩ (.int .i64 ep) = W := ⟨_, rfl⟩
  have hb6 : Below w.heap.size w W6 := by rw [← e_W6]; exact (HB5.out).setCell (by show w.heap.size ≤ w.heap.size + 1; omega) _
  have b_bx6 : Blk W6 (w.heap.size) 26 #[.int .i64 ep, .int .i64 l, .slice (some ⟨b1, o1, none⟩) is.length c1, .slice A3 ks.length c3, .slice (some ⟨b5, o5, none⟩) rs.length c5, .int .i64 fw, .int .i64 ba] := by rw [← e_W6]; exact (B5_bx.out).far (p := ⟨w.heap.size + 1, 0, none⟩) (by show w.heap.size ≠ w.heap.size + 1; omega) _
  have b_be6 : Blk W6 (w.heap.size + 1) 55 #[.int .i64 ep, .int .i64 pid, .int .i64 ver, .int .i64 seq, .int .i64 kind, .bool txn, .string text] := by rw [← e_W6]; exact (B5_be.out).set_ 0 _
  have b_bz6 : Blk W6 (w.heap.size + 1 + 1) 26 #[.int .i64 0, .int .i64 0, .slice none 0 0, .slice none 0 0, .slice none 0 0, .int .i64 0, .int .i64 0] := by rw [← e_W6]; exact (B5_bz.out).far (p := ⟨w.heap.size + 1, 0, none⟩) (by show w.heap.size + 1 + 1 ≠ w.heap.size + 1; omega) _
  have b_out6 : Blk W6 (W3.heap.size) 26 #[.int .i64 ep, .int .i64 l, .slice (some ⟨gi, 0, none⟩) is.length d1, .slice (some ⟨gk, 0, none⟩) ks.length d3, .slice (some ⟨gr, 0, none⟩) rs.length d5, .int .i64 fw, .int .i64 ba] := by rw [← e_W6]; exact (B5_out.out).far (p := ⟨w.heap.size + 1, 0, none⟩) (by show W3.heap.size ≠ w.heap.size + 1; omega) _
  have k_own6 := (K5_own.out).under (a := ⟨w.heap.size + 1, 0, none⟩) (by (try dsimp only); omega) (.int .i64 ep)
  have k_en6 := (HEN.out).under (a := ⟨w.heap.size + 1, 0, none⟩) (by (try dsimp only); omega) (.int .i64 ep)
  have hz6 : W5.heap.size + 0 ≤ W6.heap.size := by rw [← e_W6]; (first | omega | (simp; done) | (simp; omega))
  try rw [e_W6] at k_own6
  try rw [e_W6] at k_en6
  rw [e_W6]
  clear e_W6
  have HB6 := Lib.hid hb6
  have B6_bx := Lib.hid b_bx6
  have B6_be := Lib.hid b_be6
  have B6_bz := Lib.hid b_bz6
  have B6_out := Lib.hid b_out6
  have K6_own := Lib.hid k_own6
  have K6_en := Lib.hid k_en6
  clear hb6 b_bx6 b_be6 b_bz6 b_out6 k_own6 k_en6
  clear B5_bx B5_be B5_bz B5_out HB5 K5_own HEN
  have c_be0 := B6_be.out.cell 0
  have c_be1 := B6_be.out.cell 1
  have c_be2 := B6_be.out.cell 2
  have c_be3 := B6_be.out.cell 3
  have c_be4 := B6_be.out.cell 4
  have c_be5 := B6_be.out.cell 5
  have c_be6 := B6_be.out.cell 6
  have l_be := B6_be.out.lt
  go_wp2_with fail
  clear c_be0 c_be1 c_be2 c_be3 c_be4 c_be5 c_be6 l_be
  refine (EntryFault_any ep pid ver seq kind txn text _).mono ?_
  rintro e W7 ⟨rfl, hb⟩
  rw [HFC.out]
  have hb7 : Below w.heap.size w W7 := below_then HB6.out hb
  have b_bx7 := B6_bx.out.below hb B6_bx.out.lt
  have b_be7 := B6_be.out.below hb B6_be.out.lt
  have b_bz7 := B6_bz.out.below hb B6_bz.out.lt
  have b_out7 := B6_out.out.below hb B6_out.out.lt
  have k_own7 := K6_own.out.keep hb
  have k_en7 := K6_en.out.keep hb
  have hz7 := hb.size
  have HB7 := Lib.hid hb7
  have B7_bx := Lib.hid b_bx7
  have B7_be := Lib.hid b_be7
  have B7_bz := Lib.hid b_bz7
  have B7_out := Lib.hid b_out7
  have K7_own := Lib.hid k_own7
  have K7_en := Lib.hid k_en7
  clear hb7 b_bx7 b_be7 b_bz7 b_out7 k_own7 k_en7
  clear B6_bx B6_be B6_bz B6_out HB6 K6_own K6_en
  have c_be0 := B7_be.out.cell 0
  have c_be1 := B7_be.out.cell 1
  have c_be2 := B7_be.out.cell 2
  have c_be3 := B7_be.out.cell 3
  have c_be4 := B7_be.out.cell 4
  have c_be5 := B7_be.out.cell 5
  have c_be6 := B7_be.out.cell 6
  have l_be := B7_be.out.lt
  go_wp2_with fail
  clear c_be0 c_be1 c_be2 c_be3 c_be4 c_be5 c_be6 l_be
  refine (HVC.out _ _ K7_en.out.es).mono ?_
  rintro e W8 ⟨rfl, hb⟩
  have hb8 : Below w.heap.size w W8 := below_then HB7.out hb
  have b_bx8 := B7_bx.out.below hb B7_bx.out.lt
  have b_be8 := B7_be.out.below hb B7_be.out.lt
  have b_bz8 := B7_bz.out.below hb B7_bz.out.lt
  have b_out8 := B7_out.out.below hb B7_out.out.lt
  have k_own8 := K7_own.out.keep hb
  have k_en8 := K7_en.out.keep hb
  have hz8 := hb.size
  have HB8 := Lib.hid hb8
  have B8_bx := Lib.hid b_bx8
  have B8_be := Lib.hid b_be8
  have B8_bz := Lib.hid b_bz8
  have B8_out := Lib.hid b_out8
  have K8_own := Lib.hid k_own8
  have K8_en := Lib.hid k_en8
  clear hb8 b_bx8 b_be8 b_bz8 b_out8 k_own8 k_en8
  clear B7_bx B7_be B7_bz B7_out HB7 K7_own K7_en
  have c_out0 := B8_out.out.cell 0
  have c_out1 := B8_out.out.cell 1
  have c_out2 := B8_out.out.cell 2
  have c_out3 := B8_out.out.cell 3
  have c_out4 := B8_out.out.cell 4
  have c_out5 := B8_out.out.cell 5
  have c_out6 := B8_out.out.cell 6
  have l_out := B8_out.out.lt
  have c_bz0 := B8_bz.out.cell 0
  have f_bz0 := B8_bz.out.frozen 0
  have c_bz1 := B8_bz.out.cell 1
  have f_bz1 := B8_bz.out.frozen 1
  have c_bz2 := B8_bz.out.cell 2
  have f_bz2 := B8_bz.out.frozen 2
  have c_bz3 := B8_bz.out.cell 3
  have f_bz3 := B8_bz.out.frozen 3
  have c_bz4 := B8_bz.out.cell 4
  have f_bz4 := B8_bz.out.frozen 4
  have c_bz5 := B8_bz.out.cell 5
  have f_bz5 := B8_bz.out.frozen 5
  have c_bz6 := B8_bz.out.cell 6
  have f_bz6 := B8_bz.out.frozen 6
  have l_bz := B8_bz.out.lt
  go_wp2_with fail
  clear c_out0 c_out1 c_out2 c_out3 c_out4 c_out5 c_out6 l_out c_bz0 f_bz0 c_bz1 f_bz1 c_bz2 f_bz2 c_bz3 f_bz3 c_bz4 f_bz4 c_bz5 f_bz5 c_bz6 f_bz6 l_bz
  have hszF := HB8.out.size
  have hbF : Below w.heap.size w (((((((W8.setCell ⟨w.heap.size + 1 + 1, 0, none⟩ (.int .i64 ep)).setCell ⟨w.heap.size + 1 + 1, 1, none⟩ (.int .i64 l)).setCell ⟨w.heap.size + 1 + 1, 2, none⟩ (.slice (some ⟨gi, 0, none⟩) is.length d1)).setCell ⟨w.heap.size + 1 + 1, 3, none⟩ (.slice (some ⟨gk, 0, none⟩) ks.length d3)).setCell ⟨w.heap.size + 1 + 1, 4, none⟩ (.slice (some ⟨gr, 0, none⟩) rs.length d5)).setCell ⟨w.heap.size + 1 + 1, 5, none⟩ (.int .i64 fw)).setCell ⟨w.heap.size + 1 + 1, 6, none⟩ (.int .i64 ba)) := (((((((HB8.out).setCell (by show w.heap.size ≤ w.heap.size + 1 + 1; omega) _).setCell (by show w.heap.size ≤ w.heap.size + 1 + 1; omega) _).setCell (by show w.heap.size ≤ w.heap.size + 1 + 1; omega) _).setCell (by show w.heap.size ≤ w.heap.size + 1 + 1; omega) _).setCell (by show w.heap.size ≤ w.heap.size + 1 + 1; omega) _).setCell (by show w.heap.size ≤ w.heap.size + 1 + 1; omega) _).setCell (by show w.heap.size ≤ w.heap.size + 1 + 1; omega) _
  have b_bxF : Blk (((((((W8.setCell ⟨w.heap.size + 1 + 1, 0, none⟩ (.int .i64 ep)).setCell ⟨w.heap.size + 1 + 1, 1, none⟩ (.int .i64 l)).setCell ⟨w.heap.size + 1 + 1, 2, none⟩ (.slice (some ⟨gi, 0, none⟩) is.length d1)).setCell ⟨w.heap.size + 1 + 1, 3, none⟩ (.slice (some ⟨gk, 0, none⟩) ks.length d3)).setCell ⟨w.heap.size + 1 + 1, 4, none⟩ (.slice (some ⟨gr, 0, none⟩) rs.length d5)).setCell ⟨w.heap.size + 1 + 1, 5, none⟩ (.int .i64 fw)).setCell ⟨w.heap.size + 1 + 1, 6, none⟩ (.int .i64 ba)) (w.heap.size) 26 #[.int .i64 ep, .int .i64 l, .slice (some ⟨b1, o1, none⟩) is.length c1, .slice A3 ks.length c3, .slice (some ⟨b5, o5, none⟩) rs.length c5, .int .i64 fw, .int .i64 ba] := (((((((B8_bx.out).far (p := ⟨w.heap.size + 1 + 1, 0, none⟩) (by show w.heap.size ≠ w.heap.size + 1 + 1; omega) _).far (p := ⟨w.heap.size + 1 + 1, 1, none⟩) (by show w.heap.size ≠ w.heap.size + 1 + 1; omega) _).far (p := ⟨w.heap.size + 1 + 1, 2, none⟩) (by show w.heap.size ≠ w.heap.size + 1 + 1; omega) _).far (p := ⟨w.heap.size + 1 + 1, 3, none⟩) (by show w.heap.size ≠ w.heap.size + 1 + 1; omega) _).far (p := ⟨w.heap.size + 1 + 1, 4, none⟩) (by show w.heap.size ≠ w.heap.size + 1 + 1; omega) _).far (p := ⟨w.heap.size + 1 + 1, 5, none⟩) (by show w.heap.size ≠ w.heap.size + 1 + 1; omega) _).far (p := ⟨w.heap.size + 1 + 1, 6, none⟩) (by show w.heap.size ≠ w.heap.size + 1 + 1; omega) _
  have b_beF : Blk (((((((W8.setCell ⟨w.heap.size + 1 + 1, 0, none⟩ (.int .i64 ep)).setCell ⟨w.heap.size + 1 + 1, 1, none⟩ (.int .i64 l)).setCell ⟨w.heap.size + 1 + 1, 2, none⟩ (.slice (some ⟨gi, 0, none⟩) is.length d1)).setCell ⟨w.heap.size + 1 + 1, 3, none⟩ (.slice (some ⟨gk, 0, none⟩) ks.length d3)).setCell ⟨w.heap.size + 1 + 1, 4, none⟩ (.slice (some ⟨gr, 0, none⟩) rs.length d5)).setCell ⟨w.heap.size + 1 + 1, 5, none⟩ (.int .i64 fw)).setCell ⟨w.heap.size + 1 + 1, 6, none⟩ (.int .i64 ba)) (w.heap.size + 1) 55 #[.int .i64 ep, .int .i64 pid, .int .i64 ver, .int .i64 seq, .int .i64 kind, .bool txn, .string text] := (((((((B8_be.out).far (p := ⟨w.heap.size + 1 + 1, 0, none⟩) (by show w.heap.size + 1 ≠ w.heap.size + 1 + 1; omega) _).far (p := ⟨w.heap.size + 1 + 1, 1, none⟩) (by show w.heap.size + 1 ≠ w.heap.size + 1 + 1; omega) _).far (p := ⟨w.heap.size + 1 + 1, 2, none⟩) (by show w.heap.size + 1 ≠ w.heap.size + 1 + 1; omega) _).far (p := ⟨w.heap.size + 1 + 1, 3, none⟩) (by show w.heap.size + 1 ≠ w.heap.size + 1 + 1; omega) _).far (p := ⟨w.heap.size + 1 + 1, 4, none⟩) (by show w.heap.size + 1 ≠ w.heap.size + 1 + 1; omega) _).far (p := ⟨w.heap.size + 1 + 1, 5, none⟩) (by show w.heap.size + 1 ≠ w.heap.size + 1 + 1; omega) _).far (p := ⟨w.heap.size + 1 + 1, 6, none⟩) (by show w.heap.size + 1 ≠ w.heap.size + 1 + 1; omega) _
  have b_bzF : Blk (((((((W8.setCell ⟨w.heap.size + 1 + 1, 0, none⟩ (.int .i64 ep)).setCell ⟨w.heap.size + 1 + 1, 1, none⟩ (.int .i64 l)).setCell ⟨w.heap.size + 1 + 1, 2, none⟩ (.slice (some ⟨gi, 0, none⟩) is.length d1)).setCell ⟨w.heap.size + 1 + 1, 3, none⟩ (.slice (some ⟨gk, 0, none⟩) ks.length d3)).setCell ⟨w.heap.size + 1 + 1, 4, none⟩ (.slice (some ⟨gr, 0, none⟩) rs.length d5)).setCell ⟨w.heap.size + 1 + 1, 5, none⟩ (.int .i64 fw)).setCell ⟨w.heap.size + 1 + 1, 6, none⟩ (.int .i64 ba)) (w.heap.size + 1 + 1) 26 #[.int .i64 ep, .int .i64 l, .slice (some ⟨gi, 0, none⟩) is.length d1, .slice (some ⟨gk, 0, none⟩) ks.length d3, .slice (some ⟨gr, 0, none⟩) rs.length d5, .int .i64 fw, .int .i64 ba] := (((((((B8_bz.out).set_ 0 _).set_ 1 _).set_ 2 _).set_ 3 _).set_ 4 _).set_ 5 _).set_ 6 _
  have b_outF : Blk (((((((W8.setCell ⟨w.heap.size + 1 + 1, 0, none⟩ (.int .i64 ep)).setCell ⟨w.heap.size + 1 + 1, 1, none⟩ (.int .i64 l)).setCell ⟨w.heap.size + 1 + 1, 2, none⟩ (.slice (some ⟨gi, 0, none⟩) is.length d1)).setCell ⟨w.heap.size + 1 + 1, 3, none⟩ (.slice (some ⟨gk, 0, none⟩) ks.length d3)).setCell ⟨w.heap.size + 1 + 1, 4, none⟩ (.slice (some ⟨gr, 0, none⟩) rs.length d5)).setCell ⟨w.heap.size + 1 + 1, 5, none⟩ (.int .i64 fw)).setCell ⟨w.heap.size + 1 + 1, 6, none⟩ (.int .i64 ba)) (W3.heap.size) 26 #[.int .i64 ep, .int .i64 l, .slice (some ⟨gi, 0, none⟩) is.length d1, .slice (some ⟨gk, 0, none⟩) ks.length d3, .slice (some ⟨gr, 0, none⟩) rs.length d5, .int .i64 fw, .int .i64 ba] := (((((((B8_out.out).far (p := ⟨w.heap.size + 1 + 1, 0, none⟩) (by show W3.heap.size ≠ w.heap.size + 1 + 1; omega) _).far (p := ⟨w.heap.size + 1 + 1, 1, none⟩) (by show W3.heap.size ≠ w.heap.size + 1 + 1; omega) _).far (p := ⟨w.heap.size + 1 + 1, 2, none⟩) (by show W3.heap.size ≠ w.heap.size + 1 + 1; omega) _).far (p := ⟨w.heap.size + 1 + 1, 3, none⟩) (by show W3.heap.size ≠ w.heap.size + 1 + 1; omega) _).far (p := ⟨w.heap.size + 1 + 1, 4, none⟩) (by show W3.heap.size ≠ w.heap.size + 1 + 1; omega) _).far (p := ⟨w.heap.size + 1 + 1, 5, none⟩) (by show W3.heap.size ≠ w.heap.size + 1 + 1; omega) _).far (p := ⟨w.heap.size + 1 + 1, 6, none⟩) (by show W3.heap.size ≠ w.heap.size + 1 + 1; omega) _
  have k_ownF := (((((((K8_own.out).under (a := ⟨w.heap.size + 1 + 1, 0, none⟩) (by (try dsimp only); omega) (.int .i64 ep)).under (a := ⟨w.heap.size + 1 + 1, 1, none⟩) (by (try dsimp only); omega) (.int .i64 l)).under (a := ⟨w.heap.size + 1 + 1, 2, none⟩) (by (try dsimp only); omega) (.slice (some ⟨gi, 0, none⟩) is.length d1)).under (a := ⟨w.heap.size + 1 + 1, 3, none⟩) (by (try dsimp only); omega) (.slice (some ⟨gk, 0, none⟩) ks.length d3)).under (a := ⟨w.heap.size + 1 + 1, 4, none⟩) (by (try dsimp only); omega) (.slice (some ⟨gr, 0, none⟩) rs.length d5)).under (a := ⟨w.heap.size + 1 + 1, 5, none⟩) (by (try dsimp only); omega) (.int .i64 fw)).under (a := ⟨w.heap.size + 1 + 1, 6, none⟩) (by (try dsimp only); omega) (.int .i64 ba)
  have k_enF := (((((((K8_en.out).under (a := ⟨w.heap.size + 1 + 1, 0, none⟩) (by (try dsimp only); omega) (.int .i64 ep)).under (a := ⟨w.heap.size + 1 + 1, 1, none⟩) (by (try dsimp only); omega) (.int .i64 l)).under (a := ⟨w.heap.size + 1 + 1, 2, none⟩) (by (try dsimp only); omega) (.slice (some ⟨gi, 0, none⟩) is.length d1)).under (a := ⟨w.heap.size + 1 + 1, 3, none⟩) (by (try dsimp only); omega) (.slice (some ⟨gk, 0, none⟩) ks.length d3)).under (a := ⟨w.heap.size + 1 + 1, 4, none⟩) (by (try dsimp only); omega) (.slice (some ⟨gr, 0, none⟩) rs.length d5)).under (a := ⟨w.heap.size + 1 + 1, 5, none⟩) (by (try dsimp only); omega) (.int .i64 fw)).under (a := ⟨w.heap.size + 1 + 1, 6, none⟩) (by (try dsimp only); omega) (.int .i64 ba)
  have y0 := b_bzF.cell 0
  have y1 := b_bzF.cell 1
  have y2 := b_bzF.cell 2
  have y3 := b_bzF.cell 3
  have y4 := b_bzF.cell 4
  have y5 := b_bzF.cell 5
  have y6 := b_bzF.cell 6
  exact bodyPost_ret (v := .tuple #[.agg #[.int .i64 ep, .int .i64 l, .slice (some ⟨gi, 0, none⟩) is.length d1, .slice (some ⟨gk, 0, none⟩) ks.length d3, .slice (some ⟨gr, 0, none⟩) rs.length d5, .int .i64 fw, .int .i64 ba], .int .i64 n, .int .i64 0]) (by simp [results, Try.results68, go_sem, y0, y1, y2, y3, y4, y5, y6]) rfl (⟨_, rfl, k_ownF.pv HSM.out, hbF⟩)
set_option maxRecDepth 100000 in
set_option maxHeartbeats 4000000 in
theorem putOf_few (v : Value) (c : PartD) (x : Ent) (hn : PartOk c) (l : Nat) (hl : c.leader = l) (hll : l < c.reps.length) {es : List Ent} {j : Nat} (hlog : LogIs c.reps[l].log es j) {n cd : Int} (hvc : ∀ (v : Value) (w : World), Es w v es → Calls Try.prog 98 #[v, .agg #[.int .i64 c.epoch, .int .i64 x.pid, .int .i64 x.ver, .int .i64 x.seq, .int .i64 x.kind, .bool x.txn, .string x.text]] w fun e w' => e = .returned (.tuple #[.int .i64 n, .int .i64 cd]) ∧ Below w.heap.size w w') (hfc : entryFault c.epoch x.pid x.ver x.seq x.kind x.txn x.text.size = 0) (hcd : cd = 0) (hn0 : ¬ 0 ≤ n) (hfw : (upCnt c.isr c.reps c.isr.length : Int) < c.few) (w : World) (h : Pv w v c) : Calls Try.prog 68 #[v, .agg #[.int .i64 x.ep, .int .i64 x.pid, .int .i64 x.ver, .int .i64 x.seq, .int .i64 x.kind, .bool x.txn, .string x.text]] w (PRes3 zeroP 0 9 w) := by
  obtain ⟨xi, xk, xr, rfl, ix, kx, rx, hli, hlk, hlr⟩ := id h
  obtain ⟨A5, c5, rfl, hc5, hx5⟩ := rx.at_
  obtain ⟨A1, c1, rfl, hc1, hx1⟩ := ix.at_
  obtain ⟨A3, c3, rfl, hc3, -⟩ := kx.at_
  have H := Lib.hid h
  have HV0 := Lib.hid h
  clear h ix kx rx
  unfold partV at *
  obtain ⟨ep, ld, is, ks, rs, fw, ba⟩ := c
  simp only at *
  obtain ⟨xe, pid, ver, seq, kind, txn, text⟩ := x
  simp only at *
  obtain rfl : ld = (l : Int) := hl
  have eqi := hn.isr
  have E1 := Lib.hid eqi
  have rl5 : rs.length ≤ 5 := hn.many.2
  have rl0 : 0 < rs.length := Nat.lt_of_le_of_lt (Nat.zero_le _) hll
  have il0 : 0 < is.length := by have h9 := eqi; (try simp only at h9); omega
  obtain ⟨b5, o5, rfl, hb5, hcell5⟩ := hx5 rl0
  obtain ⟨b1, o1, rfl, hb1, hcell1⟩ := hx1 il0
  obtain ⟨pv, -, x1, x2, -, xb, -⟩ := hcell5 l hll
  obtain ⟨A8, c8, rfl, -, -⟩ := xb.at_
  have XC := Lib.hid (And.intro x1 (And.intro x2 xb))
  have HC5 := Lib.hid hcell5
  have HC1 := Lib.hid hcell1
  have HN := Lib.hid hn
  have HSM := Lib.hid hn.small
  have HLG := Lib.hid hlog
  have hel : es.length ≤ 400 := hlog.many
  have y0 : decide ((l : Int) < 0) = false := decide_eq_false (by omega)
  have l0 : (0 : Int) ≤ (l : Int) := by omega
  have l1 : (l : Int) < (rs.length : Int) := Int.ofNat_lt.2 hll
  clear hn hlog eqi hx1 hx5 hcell5 hcell1 x1 x2 xb
  have HFC := Lib.hid hfc
  have HVC := Lib.hid hvc
  clear hfc hvc
  have y2 : (cd != 0) = false := by simpa using hcd
  have y3 : decide (0 ≤ n) = false := decide_eq_false hn0
  clear hcd hn0
  have y4 : decide ((upCnt is rs is.length : Int) < fw) = true := decide_eq_true hfw
  clear hfw
  go_enter Try.func68, Try.ntmps68
  go_wp2_with fail
  obtain ⟨W1, e_W1⟩ : ∃ W : World, ((w.alloc (.cells #[.int .i64 ep, .int .i64 l, .slice (some ⟨b1, o1, none⟩) is.length c1, .slice A3 ks.length c3, .slice (some ⟨b5, o5, none⟩) rs.length c5, .int .i64 fw, .int .i64 ba] 26)).alloc (.cells #[.int .i64 xe, .int .i64 pid, .int .i64 ver, .int .i64 seq, .int .i64 kind, .bool txn, .string text] 55)).alloc (.cells #[.int .i64 0, .int .i64 0, .slice none 0 0, .slice none 0 0, .slice none 0 0, .int .i64 0, .int .i64 0] 26) = W := ⟨_, rfl⟩
  have hb1 : Below w.heap.size w W1 := by rw [← e_W1]; exact (((Below.refl _ _).alloc (by first | omega | (simp; done) | (simp; omega)) _).alloc (by first | omega | (simp; done) | (simp; omega)) _).alloc (by first | omega | (simp; done) | (simp; omega)) _
  have hal1 : Below w.heap.size w W1 := by rw [← e_W1]; exact (((Below.refl _ _).alloc (by first | omega | (simp; done) | (simp; omega)) _).alloc (by first | omega | (simp; done) | (simp; omega)) _).alloc (by first | omega | (simp; done) | (simp; omega)) _
  have b_bx1 : Blk W1 (w.heap.size) 26 #[.int .i64 ep, .int .i64 l, .slice (some ⟨b1, o1, none⟩) is.length c1, .slice A3 ks.length c3, .slice (some ⟨b5, o5, none⟩) rs.length c5, .int .i64 fw, .int .i64 ba] := by rw [← e_W1]; exact ((Blk.new_ _ 26 #[.int .i64 ep, .int .i64 l, .slice (some ⟨b1, o1, none⟩) is.length c1, .slice A3 ks.length c3, .slice (some ⟨b5, o5, none⟩) rs.length c5, .int .i64 fw, .int .i64 ba] (by first | rfl | (simp; done) | (simp; omega))).alloc _).alloc _
  have b_be1 : Blk W1 (w.heap.size + 1) 55 #[.int .i64 xe, .int .i64 pid, .int .i64 ver, .int .i64 seq, .int .i64 kind, .bool txn, .string text] := by rw [← e_W1]; exact (Blk.new_ _ 55 #[.int .i64 xe, .int .i64 pid, .int .i64 ver, .int .i64 seq, .int .i64 kind, .bool txn, .string text] (by first | rfl | (simp; done) | (simp; omega))).alloc _
  have b_bz1 : Blk W1 (w.heap.size + 1 + 1) 26 #[.int .i64 0, .int .i64 0, .slice none 0 0, .slice none 0 0, .slice none 0 0, .int .i64 0, .int .i64 0] := by rw [← e_W1]; exact Blk.new_ _ 26 #[.int .i64 0, .int .i64 0, .slice none 0 0, .slice none 0 0, .slice none 0 0, .int .i64 0, .int .i64 0] (by first | rfl | (simp; done) | (simp; omega))
  have k_v1 := H.out.below hal1
  have hz1 : w.heap.size + 3 ≤ W1.heap.size := by rw [← e_W1]; (first | omega | (simp; done) | (simp; omega))
  try rw [e_W1] at k_v1
  rw [e_W1]
  clear e_W1
  have HB1 := Lib.hid hb1
  have B1_bx := Lib.hid b_bx1
  have B1_be := Lib.hid b_be1
  have B1_bz := Lib.hid b_bz1
  have K1_v := Lib.hid k_v1
  clear hb1 b_bx1 b_be1 b_bz1 k_v1
  clear H
  refine (partMay_any _ ⟨ep, (l : Int), is, ks, rs, fw, ba⟩ _ K1_v.out).mono ?_
  rintro e W2 hA
  obtain ⟨rfl, hb⟩ := hA.yes HN.out
  have hb2 : Below w.heap.size w W2 := below_then HB1.out hb
  have b_bx2 := B1_bx.out.below hb B1_bx.out.lt
  have b_be2 := B1_be.out.below hb B1_be.out.lt
  have b_bz2 := B1_bz.out.below hb B1_bz.out.lt
  have k_v2 := K1_v.out.below hb
  have hz2 := hb.size
  have HB2 := Lib.hid hb2
  have B2_bx := Lib.hid b_bx2
  have B2_be := Lib.hid b_be2
  have B2_bz := Lib.hid b_bz2
  have K2_v := Lib.hid k_v2
  clear hb2 b_bx2 b_be2 b_bz2 k_v2
  clear B1_bx B1_be B1_bz HB1 K1_v
  have c_bx0 := B2_bx.out.cell 0
  have c_bx1 := B2_bx.out.cell 1
  have c_bx2 := B2_bx.out.cell 2
  have c_bx3 := B2_bx.out.cell 3
  have c_bx4 := B2_bx.out.cell 4
  have c_bx5 := B2_bx.out.cell 5
  have c_bx6 := B2_bx.out.cell 6
  have l_bx := B2_bx.out.lt
  go_wp2_with fail
  clear c_bx0 c_bx1 c_bx2 c_bx3 c_bx4 c_bx5 c_bx6 l_bx
  refine (refPartCopy_ok (c := ⟨ep, (l : Int), is, ks, rs, fw, ba⟩) K2_v.out HSM.out).mono ?_
  rintro e W3 ⟨iv, kv, rv, rfl, ho, hb⟩
  obtain ⟨gi, d1, gk, d3, gr, d5, rfl, rfl, rfl, hgi, hgk, hgr, hgi', hgk', hgr'⟩ := ho.rows (by have := HN.out.isr; have := HN.out.many; simp only at *; omega) (by have := HN.out.known; have := HN.out.many; simp only at *; omega) (by have := HN.out.many; simp only at *; omega)
  unfold partV
  simp only at *
  have HO := Lib.hid ho
  clear ho
  have hb3 : Below w.heap.size w W3 := below_then HB2.out hb
  have b_bx3 := B2_bx.out.below hb B2_bx.out.lt
  have b_be3 := B2_be.out.below hb B2_be.out.lt
  have b_bz3 := B2_bz.out.below hb B2_bz.out.lt
  have k_v3 := K2_v.out.below hb
  have hz3 := hb.size
  have HB3 := Lib.hid hb3
  have B3_bx := Lib.hid b_bx3
  have B3_be := Lib.hid b_be3
  have B3_bz := Lib.hid b_bz3
  have K3_v := Lib.hid k_v3
  clear hb3 b_bx3 b_be3 b_bz3 k_v3
  clear B2_bx B2_be B2_bz HB2 K2_v
  go_upto_region 6 with fail
  have hsz4 := HB3.out.size
  obtain ⟨W4, e_W4⟩ : ∃ W : World, W3.alloc (.cells #[.int .i64 ep, .int .i64 l, .slice (some ⟨gi, 0, none⟩) is.length d1, .slice (some ⟨gk, 0, none⟩) ks.length d3, .slice (some ⟨gr, 0, none⟩) rs.length d5, .int .i64 fw, .int .i64 ba] 26) = W := ⟨_, rfl⟩
  have hb4 : Below w.heap.size w W4 := by rw [← e_W4]; exact (HB3.out).alloc (by first | omega | (simp; done) | (simp; omega)) _
  have hal4 : Below W3.heap.size W3 W4 := by rw [← e_W4]; exact (Below.refl _ _).alloc (by first | omega | (simp; done) | (simp; omega)) _
  have b_bx4 : Blk W4 (w.heap.size) 26 #[.int .i64 ep, .int .i64 l, .slice (some ⟨b1, o1, none⟩) is.length c1, .slice A3 ks.length c3, .slice (some ⟨b5, o5, none⟩) rs.length c5, .int .i64 fw, .int .i64 ba] := by rw [← e_W4]; exact (B3_bx.out).alloc _
  have b_be4 : Blk W4 (w.heap.size + 1) 55 #[.int .i64 xe, .int .i64 pid, .int .i64 ver, .int .i64 seq, .int .i64 kind, .bool txn, .string text] := by rw [← e_W4]; exact (B3_be.out).alloc _
  have b_bz4 : Blk W4 (w.heap.size + 1 + 1) 26 #[.int .i64 0, .int .i64 0, .slice none 0 0, .slice none 0 0, .slice none 0 0, .int .i64 0, .int .i64 0] := by rw [← e_W4]; exact (B3_bz.out).alloc _
  have b_out4 : Blk W4 (W3.heap.size) 26 #[.int .i64 ep, .int .i64 l, .slice (some ⟨gi, 0, none⟩) is.length d1, .slice (some ⟨gk, 0, none⟩) ks.length d3, .slice (some ⟨gr, 0, none⟩) rs.length d5, .int .i64 fw, .int .i64 ba] := by rw [← e_W4]; exact Blk.new_ _ 26 #[.int .i64 ep, .int .i64 l, .slice (some ⟨gi, 0, none⟩) is.length d1, .slice (some ⟨gk, 0, none⟩) ks.length d3, .slice (some ⟨gr, 0, none⟩) rs.length d5, .int .i64 fw, .int .i64 ba] (by first | rfl | (simp; done) | (simp; omega))
  have k_own4 := (HO.out).alloc (.cells #[.int .i64 ep, .int .i64 l, .slice (some ⟨gi, 0, none⟩) is.length d1, .slice (some ⟨gk, 0, none⟩) ks.length d3, .slice (some ⟨gr, 0, none⟩) rs.length d5, .int .i64 fw, .int .i64 ba] 26)
  have hz4 : W3.heap.size + 1 ≤ W4.heap.size := by rw [← e_W4]; (first | omega | (simp; done) | (simp; omega))
  try rw [e_W4] at k_own4
  rw [e_W4]
  clear e_W4
  have HB4 := Lib.hid hb4
  have B4_bx := Lib.hid b_bx4
  have B4_be := Lib.hid b_be4
  have B4_bz := Lib.hid b_bz4
  have B4_out := Lib.hid b_out4
  have K4_own := Lib.hid k_own4
  clear hb4 b_bx4 b_be4 b_bz4 b_out4 k_own4
  clear B3_bx B3_be B3_bz HB3 HO
  have c_bx0 := B4_bx.out.cell 0
  have c_bx1 := B4_bx.out.cell 1
  have c_bx2 := B4_bx.out.cell 2
  have c_bx3 := B4_bx.out.cell 3
  have c_bx4 := B4_bx.out.cell 4
  have c_bx5 := B4_bx.out.cell 5
  have c_bx6 := B4_bx.out.cell 6
  have l_bx := B4_bx.out.lt
  go_wp2_with fail
  clear c_bx0 c_bx1 c_bx2 c_bx3 c_bx4 c_bx5 c_bx6 l_bx
  refine (logOf_any _ ⟨ep, (l : Int), is, ks, rs, fw, ba⟩ l _ (HV0.out.below HB4.out) hll HLG.out).mono ?_
  rintro e W5 ⟨v5, rfl, hp5, hb⟩
  obtain ⟨A9, c9, rfl, hc9⟩ := (Sl.of_own hp5).form
  have HEN := Lib.hid (EnO.mk hp5)
  clear hp5
  have hb5 : Below w.heap.size w W5 := below_then HB4.out hb
  have b_bx5 := B4_bx.out.below hb B4_bx.out.lt
  have b_be5 := B4_be.out.below hb B4_be.out.lt
  have b_bz5 := B4_bz.out.below hb B4_bz.out.lt
  have b_out5 := B4_out.out.below hb B4_out.out.lt
  have k_own5 := K4_own.out.keep hb
  have hz5 := hb.size
  have HB5 := Lib.hid hb5
  have B5_bx := Lib.hid b_bx5
  have B5_be := Lib.hid b_be5
  have B5_bz := Lib.hid b_bz5
  have B5_out := Lib.hid b_out5
  have K5_own := Lib.hid k_own5
  clear hb5 b_bx5 b_be5 b_bz5 b_out5 k_own5
  clear B4_bx B4_be B4_bz B4_out HB4 K4_own
  have c_bx0 := B5_bx.out.cell 0
  have c_bx1 := B5_bx.out.cell 1
  have c_bx2 := B5_bx.out.cell 2
  have c_bx3 := B5_bx.out.cell 3
  have c_bx4 := B5_bx.out.cell 4
  have c_bx5 := B5_bx.out.cell 5
  have c_bx6 := B5_bx.out.cell 6
  have l_bx := B5_bx.out.lt
  have c_be0 := B5_be.out.cell 0
  have f_be0 := B5_be.out.frozen 0
  have l_be := B5_be.out.lt
  go_upto_region 8 with fail
  clear c_bx0 c_bx1 c_bx2 c_bx3 c_bx4 c_bx5 c_bx6 l_bx c_be0 f_be0 l_be
  have hsz6 := HB5.out.size
  obtain ⟨W6, e_W6⟩ : ∃ W : World, W5.setCell ⟨w.heap.size + 1, 0, none⟩ (.int .i64 ep) = W := ⟨_, rfl⟩
  have hb6 : Below w.heap.size w W6 := by rw [← e_W6]; exact (HB5.out).setCell (by show w.heap.size ≤ w.heap.size + 1; omega) _
  have b_bx6 : Blk W6 (w.heap.size) 26 #[.int .i64 ep, .int .i64 l, .slice (some ⟨b1, o1, none⟩) is.length c1, .slice A3 ks.length c3, .slice (some ⟨b5, o5, none⟩) rs.length c5, .int .i64 fw, .int .i64 ba] := by rw [← e_W6]; exact (B5_bx.out).far (p := ⟨w.heap.size + 1, 0, none⟩) (by show w.heap.size ≠ w.heap.size + 1; omega) _
  have b_be6 : Blk W6 (w.heap.size + 1) 55 #[.int .i64 ep, .int .i64 pid, .int .i64 ver, .int .i64 seq, .int .i64 kind, .bool txn, .string text] := by rw [← e_W6]; exact (B5_be.out).set_ 0 _
  have b_bz6 : Blk W6 (w.heap.size + 1 + 1) 26 #[.int .i64 0, .int .i64 0, .slice none 0 0, .slice none 0 0, .slice none 0 0, .int .i64 0, .int .i64 0] := by rw [← e_W6]; exact (B5_bz.out).far (p := ⟨w.heap.size + 1, 0, none⟩) (by show w.heap.size + 1 + 1 ≠ w.heap.size + 1; omega) _
  have b_out6 : Blk W6 (W3.heap.size) 26 #[.int .i64 ep, .int .i64 l, .slice (some ⟨gi, 0, none⟩) is.length d1, .slice (some ⟨gk, 0, none⟩) ks.length d3, .slice (some ⟨gr, 0, none⟩) rs.length d5, .int .i64 fw, .int .i64 ba] := by rw [← e_W6]; exact (B5_out.out).far (p := ⟨w.heap.size + 1, 0, none⟩) (by show W3.heap.size ≠ w.heap.size + 1; omega) _
  have k_own6 := (K5_own.out).under (a := ⟨w.heap.size + 1, 0, none⟩) (by (try dsimp only); omega) (.int .i64 ep)
  have k_en6 := (HEN.out).under (a := ⟨w.heap.size + 1, 0, none⟩) (by (try dsimp only); omega) (.int .i64 ep)
  have hz6 : W5.heap.size + 0 ≤ W6.heap.size := by rw [← e_W6]; (first | omega | (simp; done) | (simp; omega))
  try rw [e_W6] at k_own6
  try rw [e_W6] at k_en6
  rw [e_W6]
  clear e_W6
  have HB6 := Lib.hid hb6
  have B6_bx := Lib.hid b_bx6
  have B6_be := Lib.hid b_be6
  have B6_bz := Lib.hid b_bz6
  have B6_out := Lib.hid b_out6
  have K6_own := Lib.hid k_own6
  have K6_en := Lib.hid k_en6
  clear hb6 b_bx6 b_be6 b_bz6 b_out6 k_own6 k_en6
  clear B5_bx B5_be B5_bz B5_out HB5 K5_own HEN
  have c_be0 := B6_be.out.cell 0
  have c_be1 := B6_be.out.cell 1
  have c_be2 := B6_be.out.cell 2
  have c_be3 := B6_be.out.cell 3
  have c_be4 := B6_be.out.cell 4
  have c_be5 := B6_be.out.cell 5
  have c_be6 := B6_be.out.cell 6
  have l_be := B6_be.out.lt
  go_wp2_with fail
  clear c_be0 c_be1 c_be2 c_be3 c_be4 c_be5 c_be6 l_be
  refine (EntryFault_any ep pid ver seq kind txn text _).mono ?_
  rintro e W7 ⟨rfl, hb⟩
  rw [HFC.out]
  have hb7 : Below w.heap.size w W7 := below_then HB6.out hb
  have b_bx7 := B6_bx.out.below hb B6_bx.out.lt
  have b_be7 := B6_be.out.below hb B6_be.out.lt
  have b_bz7 := B6_bz.out.below hb B6_bz.out.lt
  have b_out7 := B6_out.out.below hb B6_out.out.lt
  have k_own7 := K6_own.out.keep hb
  have k_en7 := K6_en.out.keep hb
  have hz7 := hb.size
  have HB7 := Lib.hid hb7
  have B7_bx := Lib.hid b_bx7
  have B7_be := Lib.hid b_be7
  have B7_bz := Lib.hid b_bz7
  have B7_out := Lib.hid b_out7
  have K7_own := Lib.hid k_own7
  have K7_en := Lib.hid k_en7
  clear hb7 b_bx7 b_be7 b_bz7 b_out7 k_own7 k_en7
  clear B6_bx B6_be B6_bz B6_out HB6 K6_own K6_en
  have c_be0 := B7_be.out.cell 0
  have c_be1 := B7_be.out.cell 1
  have c_be2 := B7_be.out.cell 2
  have c_be3 := B7_be.out.cell 3
  have c_be4 := B7_be.out.cell 4
  have c_be5 := B7_be.out.cell 5
  have c_be6 := B7_be.out.cell 6
  have l_be := B7_be.out.lt
  go_wp2_with fail
  clear c_be0 c_be1 c_be2 c_be3 c_be4 c_be5 c_be6 l_be
  refine (HVC.out _ _ K7_en.out.es).mono ?_
  rintro e W8 ⟨rfl, hb⟩
  have hb8 : Below w.heap.size w W8 := below_then HB7.out hb
  have b_bx8 := B7_bx.out.below hb B7_bx.out.lt
  have b_be8 := B7_be.out.below hb B7_be.out.lt
  have b_bz8 := B7_bz.out.below hb B7_bz.out.lt
  have b_out8 := B7_out.out.below hb B7_out.out.lt
  have k_own8 := K7_own.out.keep hb
  have k_en8 := K7_en.out.keep hb
  have hz8 := hb.size
  have HB8 := Lib.hid hb8
  have B8_bx := Lib.hid b_bx8
  have B8_be := Lib.hid b_be8
  have B8_bz := Lib.hid b_bz8
  have B8_out := Lib.hid b_out8
  have K8_own := Lib.hid k_own8
  have K8_en := Lib.hid k_en8
  clear hb8 b_bx8 b_be8 b_bz8 b_out8 k_own8 k_en8
  clear B7_bx B7_be B7_bz B7_out HB7 K7_own K7_en
  have c_bx0 := B8_bx.out.cell 0
  have c_bx1 := B8_bx.out.cell 1
  have c_bx2 := B8_bx.out.cell 2
  have c_bx3 := B8_bx.out.cell 3
  have c_bx4 := B8_bx.out.cell 4
  have c_bx5 := B8_bx.out.cell 5
  have c_bx6 := B8_bx.out.cell 6
  have l_bx := B8_bx.out.lt
  go_wp2_with fail
  go_loop [11, 12] (fun s y => ∃ k : Nat, k ≤ is.length ∧ s = .int .i64 (upCnt is rs k : Nat) ∧ y = .int .i64 k) (fun _ y => is.length - (intOf y).toNat)
  case atStart => exact ⟨0, Nat.zero_le _, rfl, rfl⟩
  case round =>
    obtain ⟨k, hk, rfl, rfl⟩ := hrel
    by_cases hlt : k < is.length
    · have hlr : k < rs.length := by have h9 := E1.out; (try simp only at h9); omega
      obtain ⟨-, g0, -, -, -, -, -⟩ := HC5.out k hlr
      have g1 := HC1.out k hlt
      have G0 := (HB8.out.cell (p := ⟨b5, o5 + k * 4, none⟩) hb5).trans g0
      have G1 := (HB8.out.cell (p := ⟨b1, o1 + k, none⟩) hb1).trans g1
      have hst := upCnt_step hlt hlr
      have hcl := upCnt_le is rs k
      have HST := Lib.hid hst
      clear hst g0 g1
      have k0 : (0 : Int) ≤ (k : Int) := by omega
      have k1 : (k : Int) < (rs.length : Int) := Int.ofNat_lt.2 hlr
      have k2 : (k : Int) < (is.length : Int) := Int.ofNat_lt.2 hlt
      generalize upCnt is rs k = u at *
      generalize is[k] = bi at *
      generalize rs[k] = t at *
      obtain ⟨tu, tb, ts, th⟩ := t
      simp only at *
      rcases bi with _ | _ <;> rcases tu with _ | _
      all_goals
        have hs9 := HST.out
        simp only [Bool.false_and, Bool.true_and, Bool.false_eq_true, if_false, if_true, Nat.add_zero] at hs9
        have HS9 := Lib.hid hs9
        clear hs9 HST
        go_wp2
        go_round
        case rel => exact ⟨k + 1, by omega, by first | (rw [HS9.out]; done) | (rw [HS9.out]; go_num), by go_num⟩
        case measure => simp [intOf]; omega
    · obtain rfl : k = is.length := by omega
      clear hlt
      have c_bx0 := B8_bx.out.cell 0
      have c_bx1 := B8_bx.out.cell 1
      have c_bx2 := B8_bx.out.cell 2
      have c_bx3 := B8_bx.out.cell 3
      have c_bx4 := B8_bx.out.cell 4
      have c_bx5 := B8_bx.out.cell 5
      have c_bx6 := B8_bx.out.cell 6
      have l_bx := B8_bx.out.lt
      have c_bz0 := B8_bz.out.cell 0
      have f_bz0 := B8_bz.out.frozen 0
      have c_bz1 := B8_bz.out.cell 1
      have f_bz1 := B8_bz.out.frozen 1
      have c_bz2 := B8_bz.out.cell 2
      have f_bz2 := B8_bz.out.frozen 2
      have c_bz3 := B8_bz.out.cell 3
      have f_bz3 := B8_bz.out.frozen 3
      have c_bz4 := B8_bz.out.cell 4
      have f_bz4 := B8_bz.out.frozen 4
      have c_bz5 := B8_bz.out.cell 5
      have f_bz5 := B8_bz.out.frozen 5
      have c_bz6 := B8_bz.out.cell 6
      have f_bz6 := B8_bz.out.frozen 6
      have l_bz := B8_bz.out.lt
      go_wp2_with fail
      clear c_bx0 c_bx1 c_bx2 c_bx3 c_bx4 c_bx5 c_bx6 l_bx c_bz0 f_bz0 c_bz1 f_bz1 c_bz2 f_bz2 c_bz3 f_bz3 c_bz4 f_bz4 c_bz5 f_bz5 c_bz6 f_bz6 l_bz
      have hszF := HB8.out.size
      have hbF : Below w.heap.size w (((((((W8.setCell ⟨w.heap.size + 1 + 1, 0, none⟩ (.int .i64 0)).setCell ⟨w.heap.size + 1 + 1, 1, none⟩ (.int .i64 0)).setCell ⟨w.heap.size + 1 + 1, 2, none⟩ (.slice none 0 0)).setCell ⟨w.heap.size + 1 + 1, 3, none⟩ (.slice none 0 0)).setCell ⟨w.heap.size + 1 + 1, 4, none⟩ (.slice none 0 0)).setCell ⟨w.heap.size + 1 + 1, 5, none⟩ (.int .i64 0)).setCell ⟨w.heap.size + 1 + 1, 6, none⟩ (.int .i64 0)) := (((((((HB8.out).setCell (by show w.heap.size ≤ w.heap.size + 1 + 1; omega) _).setCell (by show w.heap.size ≤ w.heap.size + 1 + 1; omega) _).setCell (by show w.heap.size ≤ w.heap.size + 1 + 1; omega) _).setCell (by show w.heap.size ≤ w.heap.size + 1 + 1; omega) _).setCell (by show w.heap.size ≤ w.heap.size + 1 + 1; omega) _).setCell (by show w.heap.size ≤ w.heap.size + 1 + 1; omega) _).setCell (by show w.heap.size ≤ w.heap.size + 1 + 1; omega) _
      have b_bxF : Blk (((((((W8.setCell ⟨w.heap.size + 1 + 1, 0, none⟩ (.int .i64 0)).setCell ⟨w.heap.size + 1 + 1, 1, none⟩ (.int .i64 0)).setCell ⟨w.heap.size + 1 + 1, 2, none⟩ (.slice none 0 0)).setCell ⟨w.heap.size + 1 + 1, 3, none⟩ (.slice none 0 0)).setCell ⟨w.heap.size + 1 + 1, 4, none⟩ (.slice none 0 0)).setCell ⟨w.heap.size + 1 + 1, 5, none⟩ (.int .i64 0)).setCell ⟨w.heap.size + 1 + 1, 6, none⟩ (.int .i64 0)) (w.heap.size) 26 #[.int .i64 ep, .int .i64 l, .slice (some ⟨b1, o1, none⟩) is.length c1, .slice A3 ks.length c3, .slice (some ⟨b5, o5, none⟩) rs.length c5, .int .i64 fw, .int .i64 ba] := (((((((B8_bx.out).far (p := ⟨w.heap.size + 1 + 1, 0, none⟩) (by show w.heap.size ≠ w.heap.size + 1 + 1; omega) _).far (p := ⟨w.heap.size + 1 + 1, 1, none⟩) (by show w.heap.size ≠ w.heap.size + 1 + 1; omega) _).far (p := ⟨w.heap.size + 1 + 1, 2, none⟩) (by show w.heap.size ≠ w.heap.size + 1 + 1; omega) _).far (p := ⟨w.heap.size + 1 + 1, 3, none⟩) (by show w.heap.size ≠ w.heap.size + 1 + 1; omega) _).far (p := ⟨w.heap.size + 1 + 1, 4, none⟩) (by show w.heap.size ≠ w.heap.size + 1 + 1; omega) _).far (p := ⟨w.heap.size + 1 + 1, 5, none⟩) (by show w.heap.size ≠ w.heap.size + 1 + 1; omega) _).far (p := ⟨w.heap.size + 1 + 1, 6, none⟩) (by show w.heap.size ≠ w.heap.size + 1 + 1; omega) _
      have b_beF : Blk (((((((W8.setCell ⟨w.heap.size + 1 + 1, 0, none⟩ (.int .i64 0)).setCell ⟨w.heap.size + 1 + 1, 1, none⟩ (.int .i64 0)).setCell ⟨w.heap.size + 1 + 1, 2, none⟩ (.slice none 0 0)).setCell ⟨w.heap.size + 1 + 1, 3, none⟩ (.slice none 0 0)).setCell ⟨w.heap.size + 1 + 1, 4, none⟩ (.slice none 0 0)).setCell ⟨w.heap.size + 1 + 1, 5, none⟩ (.int .i64 0)).setCell ⟨w.heap.size + 1 + 1, 6, none⟩ (.int .i64 0)) (w.heap.size + 1) 55 #[.int .i64 ep, .int .i64 pid, .int .i64 ver, .int .i64 seq, .int .i64 kind, .bool txn, .string text] := (((((((B8_be.out).far (p := ⟨w.heap.size + 1 + 1, 0, none⟩) (by show w.heap.size + 1 ≠ w.heap.size + 1 + 1; omega) _).far (p := ⟨w.heap.size + 1 + 1, 1, none⟩) (by show w.heap.size + 1 ≠ w.heap.size + 1 + 1; omega) _).far (p := ⟨w.heap.size + 1 + 1, 2, none⟩) (by show w.heap.size + 1 ≠ w.heap.size + 1 + 1; omega) _).far (p := ⟨w.heap.size + 1 + 1, 3, none⟩) (by show w.heap.size + 1 ≠ w.heap.size + 1 + 1; omega) _).far (p := ⟨w.heap.size + 1 + 1, 4, none⟩) (by show w.heap.size + 1 ≠ w.heap.size + 1 + 1; omega) _).far (p := ⟨w.heap.size + 1 + 1, 5, none⟩) (by show w.heap.size + 1 ≠ w.heap.size + 1 + 1; omega) _).far (p := ⟨w.heap.size + 1 + 1, 6, none⟩) (by show w.heap.size + 1 ≠ w.heap.size + 1 + 1; omega) _
      have b_bzF : Blk (((((((W8.setCell ⟨w.heap.size + 1 + 1, 0, none⟩ (.int .i64 0)).setCell ⟨w.heap.size + 1 + 1, 1, none⟩ (.int .i64 0)).setCell ⟨w.heap.size + 1 + 1, 2, none⟩ (.slice none 0 0)).setCell ⟨w.heap.size + 1 + 1, 3, none⟩ (.slice none 0 0)).setCell ⟨w.heap.size + 1 + 1, 4, none⟩ (.slice none 0 0)).setCell ⟨w.heap.size + 1 + 1, 5, none⟩ (.int .i64 0)).setCell ⟨w.heap.size + 1 + 1, 6, none⟩ (.int .i64 0)) (w.heap.size + 1 + 1) 26 #[.int .i64 0, .int .i64 0, .slice none 0 0, .slice none 0 0, .slice none 0 0, .int .i64 0, .int .i64 0] := (((((((B8_bz.out).set_ 0 _).set_ 1 _).set_ 2 _).set_ 3 _).set_ 4 _).set_ 5 _).set_ 6 _
      have b_outF : Blk (((((((W8.setCell ⟨w.heap.size + 1 + 1, 0, none⟩ (.int .i64 0)).setCell ⟨w.heap.size + 1 + 1, 1, none⟩ (.int .i64 0)).setCell ⟨w.heap.size + 1 + 1, 2, none⟩ (.slice none 0 0)).setCell ⟨w.heap.size + 1 + 1, 3, none⟩ (.slice none 0 0)).setCell ⟨w.heap.size + 1 + 1, 4, none⟩ (.slice none 0 0)).setCell ⟨w.heap.size + 1 + 1, 5, none⟩ (.int .i64 0)).setCell ⟨w.heap.size + 1 + 1, 6, none⟩ (.int .i64 0)) (W3.heap.size) 26 #[.int .i64 ep, .int .i64 l, .slice (some ⟨gi, 0, none⟩) is.length d1, .slice (some ⟨gk, 0, none⟩) ks.length d3, .slice (some ⟨gr, 0, none⟩) rs.length d5, .int .i64 fw, .int .i64 ba] := (((((((B8_out.out).far (p := ⟨w.heap.size + 1 + 1, 0, none⟩) (by show W3.heap.size ≠ w.heap.size + 1 + 1; omega) _).far (p := ⟨w.heap.size + 1 + 1, 1, none⟩) (by show W3.heap.size ≠ w.heap.size + 1 + 1; omega) _).far (p := ⟨w.heap.size + 1 + 1, 2, none⟩) (by show W3.heap.size ≠ w.heap.size + 1 + 1; omega) _).far (p := ⟨w.heap.size + 1 + 1, 3, none⟩) (by show W3.heap.size ≠ w.heap.size + 1 + 1; omega) _).far (p := ⟨w.heap.size + 1 + 1, 4, none⟩) (by show W3.heap.size ≠ w.heap.size + 1 + 1; omega) _).far (p := ⟨w.heap.size + 1 + 1, 5, none⟩) (by show W3.heap.size ≠ w.heap.size + 1 + 1; omega) _).far (p := ⟨w.heap.size + 1 + 1, 6, none⟩) (by show W3.heap.size ≠ w.heap.size + 1 + 1; omega) _
      have y0 := b_bzF.cell 0
      have y1 := b_bzF.cell 1
      have y2 := b_bzF.cell 2
      have y3 := b_bzF.cell 3
      have y4 := b_bzF.cell 4
      have y5 := b_bzF.cell 5
      have y6 := b_bzF.cell 6
      exact bodyPost_ret (v := .tuple #[.agg #[.int .i64 0, .int .i64 0, .slice none 0 0, .slice none 0 0, .slice none 0 0, .int .i64 0, .int .i64 0], .int .i64 0, .int .i64 9]) (by simp [results, Try.results68, go_sem, y0, y1, y2, y3, y4, y5, y6]) rfl (⟨_, rfl, pv_zero _, hbF⟩)
end Go.Proofs.Ytpjjfnpdopdnkaa
