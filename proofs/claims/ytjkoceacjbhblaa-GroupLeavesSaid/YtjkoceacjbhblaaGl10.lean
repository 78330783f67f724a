/- Parts of a proof, merged: LeaA. No condition. -/
import Derived.Test.YtjkoceacjbhblaaGl9
namespace Go.Proofs.Ytjkoceacjbhblaa
open Go.RowKit

set_option maxRecDepth 100000 in
set_option maxHeartbeats 4000000 in
theorem leave_fault (v : Value) (g : GroupD) (s : ByteArray) (parts : Int) (n : Int) (hf : NameFaultM g s n) (w : World) (h : Gv w v g) : Calls Try.prog 62 #[v, .string s, .int .i64 parts] w (GRes zeroG n w) := by
  obtain ⟨mv, ov, rfl, hx, hy, hl1, hl2⟩ := id h
  obtain ⟨A, m, rfl, -⟩ := hx.at_
  obtain ⟨A', m', rfl, -⟩ := hy.at_
  have H := Lib.hid h
  have HX := Lib.hid hx
  have HY := Lib.hid hy
  clear h hx hy
  unfold groupV at *
  obtain ⟨ck, wt, gn, ms, os⟩ := g
  simp only at *
  have hn0 := hf.ne
  have n1 : (n == 0) = false := beq_eq_false_iff_ne.2 hn0
  have n2 : (n != 0) = true := by simpa using hn0
  have HF := Lib.hid hf
  clear hf hn0
  go_enter Try.func62, Try.ntmps62
  go_wp2_with fail
  have hb1 : Below w.heap.size w ((w.alloc (.cells #[.int .i64 ck, .int .i64 wt, .int .i64 gn, .slice A ms.length m, .slice A' os.length m'] 36)).alloc (.cells #[.int .i64 0, .int .i64 0, .int .i64 0, .slice none 0 0, .slice none 0 0] 36)) := ((Below.refl _ _).alloc (by first | omega | (simp; done) | (simp; omega)) _).alloc (by first | omega | (simp; done) | (simp; omega)) _
  have hal1 : Below w.heap.size w ((w.alloc (.cells #[.int .i64 ck, .int .i64 wt, .int .i64 gn, .slice A ms.length m, .slice A' os.length m'] 36)).alloc (.cells #[.int .i64 0, .int .i64 0, .int .i64 0, .slice none 0 0, .slice none 0 0] 36)) := ((Below.refl _ _).alloc (by first | omega | (simp; done) | (simp; omega)) _).alloc (by first | omega | (simp; done) | (simp; omega)) _
  have b_bx1 : Blk ((w.alloc (.cells #[.int .i64 ck, .int .i64 wt, .int .i64 gn, .slice A ms.length m, .slice A' os.length m'] 36)).alloc (.cells #[.int .i64 0, .int .i64 0, .int .i64 0, .slice none 0 0, .slice none 0 0] 36)) (w.heap.size) 36 #[.int .i64 ck, .int .i64 wt, .int .i64 gn, .slice A ms.length m, .slice A' os.length m'] := (Blk.new_ _ 36 #[.int .i64 ck, .int .i64 wt, .int .i64 gn, .slice A ms.length m, .slice A' os.length m'] (by first | rfl | (simp; done) | (simp; omega))).alloc _
  have b_bz1 : Blk ((w.alloc (.cells #[.int .i64 ck, .int .i64 wt, .int .i64 gn, .slice A ms.length m, .slice A' os.length m'] 36)).alloc (.cells #[.int .i64 0, .int .i64 0, .int .i64 0, .slice none 0 0, .slice none 0 0] 36)) (w.heap.size + 1) 36 #[.int .i64 0, .int .i64 0, .int .i64 0, .slice none 0 0, .slice none 0 0] := Blk.new_ _ 36 #[.int .i64 0, .int .i64 0, .int .i64 0, .slice none 0 0, .slice none 0 0] (by first | rfl | (simp; done) | (simp; omega))
  have hz1 : w.heap.size + 2 ≤ ((w.alloc (.cells #[.int .i64 ck, .int .i64 wt, .int .i64 gn, .slice A ms.length m, .slice A' os.length m'] 36)).alloc (.cells #[.int .i64 0, .int .i64 0, .int .i64 0, .slice none 0 0, .slice none 0 0] 36)).heap.size := by first | omega | (simp; done) | (simp; omega)
  generalize (w.alloc (.cells #[.int .i64 ck, .int .i64 wt, .int .i64 gn, .slice A ms.length m, .slice A' os.length m'] 36)).alloc (.cells #[.int .i64 0, .int .i64 0, .int .i64 0, .slice none 0 0, .slice none 0 0] 36) = W1 at *
  have HB1 := Lib.hid hb1
  have B1_bx := Lib.hid b_bx1
  have B1_bz := Lib.hid b_bz1
  clear hb1 b_bx1 b_bz1
  refine (gfind_fault _ ⟨ck, wt, gn, ms, os⟩ s n _ (H.out.below hal1) HF.out).mono ?_
  rintro e W2 ⟨rfl, hb⟩
  have hb2 : Below w.heap.size w W2 := below_then HB1.out hb
  have b_bx2 := B1_bx.out.below hb B1_bx.out.lt
  have b_bz2 := B1_bz.out.below hb B1_bz.out.lt
  have hz2 := hb.size
  have HB2 := Lib.hid hb2
  have B2_bx := Lib.hid b_bx2
  have B2_bz := Lib.hid b_bz2
  clear hb2 b_bx2 b_bz2
  clear B1_bx B1_bz HB1
  have c_bx0 := B2_bx.out.cell 0
  have f_bx0 := B2_bx.out.frozen 0
  have c_bx1 := B2_bx.out.cell 1
  have f_bx1 := B2_bx.out.frozen 1
  have c_bx2 := B2_bx.out.cell 2
  have f_bx2 := B2_bx.out.frozen 2
  have c_bx3 := B2_bx.out.cell 3
  have f_bx3 := B2_bx.out.frozen 3
  have c_bx4 := B2_bx.out.cell 4
  have f_bx4 := B2_bx.out.frozen 4
  have l_bx := B2_bx.out.lt
  have c_bz0 := B2_bz.out.cell 0
  have f_bz0 := B2_bz.out.frozen 0
  have c_bz1 := B2_bz.out.cell 1
  have f_bz1 := B2_bz.out.frozen 1
  have c_bz2 := B2_bz.out.cell 2
  have f_bz2 := B2_bz.out.frozen 2
  have c_bz3 := B2_bz.out.cell 3
  have f_bz3 := B2_bz.out.frozen 3
  have c_bz4 := B2_bz.out.cell 4
  have f_bz4 := B2_bz.out.frozen 4
  have l_bz := B2_bz.out.lt
  have hszE := HB2.out.size
  have hbE : Below w.heap.size w (((((W2.setCell ⟨w.heap.size, 0, none⟩ (.int .i64 0)).setCell ⟨w.heap.size, 1, none⟩ (.int .i64 0)).setCell ⟨w.heap.size, 2, none⟩ (.int .i64 0)).setCell ⟨w.heap.size, 3, none⟩ (.slice none 0 0)).setCell ⟨w.heap.size, 4, none⟩ (.slice none 0 0)) := (((((HB2.out).setCell (by show w.heap.size ≤ w.heap.size; omega) _).setCell (by show w.heap.size ≤ w.heap.size; omega) _).setCell (by show w.heap.size ≤ w.heap.size; omega) _).setCell (by show w.heap.size ≤ w.heap.size; omega) _).setCell (by show w.heap.size ≤ w.heap.size; omega) _
  have b_bxE : Blk (((((W2.setCell ⟨w.heap.size, 0, none⟩ (.int .i64 0)).setCell ⟨w.heap.size, 1, none⟩ (.int .i64 0)).setCell ⟨w.heap.size, 2, none⟩ (.int .i64 0)).setCell ⟨w.heap.size, 3, none⟩ (.slice none 0 0)).setCell ⟨w.heap.size, 4, none⟩ (.slice none 0 0)) (w.heap.size) 36 #[.int .i64 0, .int .i64 0, .int .i64 0, .slice none 0 0, .slice none 0 0] := (((((B2_bx.out).set_ 0 _).set_ 1 _).set_ 2 _).set_ 3 _).set_ 4 _
  have b_bzE : Blk (((((W2.setCell ⟨w.heap.size, 0, none⟩ (.int .i64 0)).setCell ⟨w.heap.size, 1, none⟩ (.int .i64 0)).setCell ⟨w.heap.size, 2, none⟩ (.int .i64 0)).setCell ⟨w.heap.size, 3, none⟩ (.slice none 0 0)).setCell ⟨w.heap.size, 4, none⟩ (.slice none 0 0)) (w.heap.size + 1) 36 #[.int .i64 0, .int .i64 0, .int .i64 0, .slice none 0 0, .slice none 0 0] := (((((B2_bz.out).far (p := ⟨w.heap.size, 0, none⟩) (by show w.heap.size + 1 ≠ w.heap.size; omega) _).far (p := ⟨w.heap.size, 1, none⟩) (by show w.heap.size + 1 ≠ w.heap.size; omega) _).far (p := ⟨w.heap.size, 2, none⟩) (by show w.heap.size + 1 ≠ w.heap.size; omega) _).far (p := ⟨w.heap.size, 3, none⟩) (by show w.heap.size + 1 ≠ w.heap.size; omega) _).far (p := ⟨w.heap.size, 4, none⟩) (by show w.heap.size + 1 ≠ w.heap.size; omega) _
  have z0 := b_bzE.cell 0
  have z1 := b_bzE.cell 1
  have z2 := b_bzE.cell 2
  have z3 := b_bzE.cell 3
  have z4 := b_bzE.cell 4
  have zf0 := b_bzE.frozen 0
  have zf1 := b_bzE.frozen 1
  have zf2 := b_bzE.frozen 2
  have zf3 := b_bzE.frozen 3
  have zf4 := b_bzE.frozen 4
  have zl := b_bzE.lt
  clear b_bxE b_bzE hbE
  go_wp2_with fail
  clear c_bx0 f_bx0 c_bx1 f_bx1 c_bx2 f_bx2 c_bx3 f_bx3 c_bx4 f_bx4 l_bx c_bz0 f_bz0 c_bz1 f_bz1 c_bz2 f_bz2 c_bz3 f_bz3 c_bz4 f_bz4 l_bz
  have hszF := HB2.out.size
  have hbF : Below w.heap.size w ((((((((((W2.setCell ⟨w.heap.size, 0, none⟩ (.int .i64 0)).setCell ⟨w.heap.size, 1, none⟩ (.int .i64 0)).setCell ⟨w.heap.size, 2, none⟩ (.int .i64 0)).setCell ⟨w.heap.size, 3, none⟩ (.slice none 0 0)).setCell ⟨w.heap.size, 4, none⟩ (.slice none 0 0)).setCell ⟨w.heap.size + 1, 0, none⟩ (.int .i64 0)).setCell ⟨w.heap.size + 1, 1, none⟩ (.int .i64 0)).setCell ⟨w.heap.size + 1, 2, none⟩ (.int .i64 0)).setCell ⟨w.heap.size + 1, 3, none⟩ (.slice none 0 0)).setCell ⟨w.heap.size + 1, 4, none⟩ (.slice none 0 0)) := ((((((((((HB2.out).setCell (by show w.heap.size ≤ w.heap.size; omega) _).setCell (by show w.heap.size ≤ w.heap.size; omega) _).setCell (by show w.heap.size ≤ w.heap.size; omega) _).setCell (by show w.heap.size ≤ w.heap.size; omega) _).setCell (by show w.heap.size ≤ w.heap.size; omega) _).setCell (by show w.heap.size ≤ w.heap.size + 1; omega) _).setCell (by show w.heap.size ≤ w.heap.size + 1; omega) _).setCell (by show w.heap.size ≤ w.heap.size + 1; omega) _).setCell (by show w.heap.size ≤ w.heap.size + 1; omega) _).setCell (by show w.heap.size ≤ w.heap.size + 1; omega) _
  have b_bxF : Blk ((((((((((W2.setCell ⟨w.heap.size, 0, none⟩ (.int .i64 0)).setCell ⟨w.heap.size, 1, none⟩ (.int .i64 0)).setCell ⟨w.heap.size, 2, none⟩ (.int .i64 0)).setCell ⟨w.heap.size, 3, none⟩ (.slice none 0 0)).setCell ⟨w.heap.size, 4, none⟩ (.slice none 0 0)).setCell ⟨w.heap.size + 1, 0, none⟩ (.int .i64 0)).setCell ⟨w.heap.size + 1, 1, none⟩ (.int .i64 0)).setCell ⟨w.heap.size + 1, 2, none⟩ (.int .i64 0)).setCell ⟨w.heap.size + 1, 3, none⟩ (.slice none 0 0)).setCell ⟨w.heap.size + 1, 4, none⟩ (.slice none 0 0)) (w.heap.size) 36 #[.int .i64 0, .int .i64 0, .int .i64 0, .slice none 0 0, .slice none 0 0] := ((((((((((B2_bx.out).set_ 0 _).set_ 1 _).set_ 2 _).set_ 3 _).set_ 4 _).far (p := ⟨w.heap.size + 1, 0, none⟩) (by show w.heap.size ≠ w.heap.size + 1; omega) _).far (p := ⟨w.heap.size + 1, 1, none⟩) (by show w.heap.size ≠ w.heap.size + 1; omega) _).far (p := ⟨w.heap.size + 1, 2, none⟩) (by show w.heap.size ≠ w.heap.size + 1; omega) _).far (p := ⟨w.heap.size + 1, 3, none⟩) (by show w.heap.size ≠ w.heap.size + 1; omega) _).far (p := ⟨w.heap.size + 1, 4, none⟩) (by show w.heap.size ≠ w.heap.size + 1; omega) _
  have b_bzF : Blk ((((((((((W2.setCell ⟨w.heap.size, 0, none⟩ (.int .i64 0)).setCell ⟨w.heap.size, 1, none⟩ (.int .i64 0)).setCell ⟨w.heap.size, 2, none⟩ (.int .i64 0)).setCell ⟨w.heap.size, 3, none⟩ (.slice none 0 0)).setCell ⟨w.heap.size, 4, none⟩ (.slice none 0 0)).setCell ⟨w.heap.size + 1, 0, none⟩ (.int .i64 0)).setCell ⟨w.heap.size + 1, 1, none⟩ (.int .i64 0)).setCell ⟨w.heap.size + 1, 2, none⟩ (.int .i64 0)).setCell ⟨w.heap.size + 1, 3, none⟩ (.slice none 0 0)).setCell ⟨w.heap.size + 1, 4, none⟩ (.slice none 0 0)) (w.heap.size + 1) 36 #[.int .i64 0, .int .i64 0, .int .i64 0, .slice none 0 0, .slice none 0 0] := ((((((((((B2_bz.out).far (p := ⟨w.heap.size, 0, none⟩) (by show w.heap.size + 1 ≠ w.heap.size; omega) _).far (p := ⟨w.heap.size, 1, none⟩) (by show w.heap.size + 1 ≠ w.heap.size; omega) _).far (p := ⟨w.heap.size, 2, none⟩) (by show w.heap.size + 1 ≠ w.heap.size; omega) _).far (p := ⟨w.heap.size, 3, none⟩) (by show w.heap.size + 1 ≠ w.heap.size; omega) _).far (p := ⟨w.heap.size, 4, none⟩) (by show w.heap.size + 1 ≠ w.heap.size; omega) _).set_ 0 _).set_ 1 _).set_ 2 _).set_ 3 _).set_ 4 _
  have y0 := b_bzF.cell 0
  have y1 := b_bzF.cell 1
  have y2 := b_bzF.cell 2
  have y3 := b_bzF.cell 3
  have y4 := b_bzF.cell 4
  exact bodyPost_ret (v := .tuple #[.agg #[.int .i64 0, .int .i64 0, .int .i64 0, .slice none 0 0, .slice none 0 0], .int .i64 n]) (by simp [results, Try.results62, go_sem, y0, y1, y2, y3, y4]) rfl (GRes.zero hbF)
set_option maxRecDepth 100000 in
set_option maxHeartbeats 4000000 in
theorem leave_range (v : Value) (g : GroupD) (s : ByteArray) (parts : Int) (hk : GroupOk g) (hn : NameOk s) (hc : ¬ Counted g.gen parts) (w : World) (h : Gv w v g) : Calls Try.prog 62 #[v, .string s, .int .i64 parts] w (GRes zeroG 2 w) := by
  obtain ⟨mv, ov, rfl, hx, hy, hl1, hl2⟩ := id h
  obtain ⟨A, m, rfl, -⟩ := hx.at_
  obtain ⟨A', m', rfl, -⟩ := hy.at_
  have H := Lib.hid h
  have HX := Lib.hid hx
  have HY := Lib.hid hy
  clear h hx hy
  unfold groupV at *
  obtain ⟨ck, wt, gn, ms, os⟩ := g
  simp only at *
  have HCT := Lib.hid hc
  clear hc
  have HK := Lib.hid hk
  have HN := Lib.hid hn
  clear hk hn
  go_enter Try.func62, Try.ntmps62
  go_wp2_with fail
  have hb1 : Below w.heap.size w ((w.alloc (.cells #[.int .i64 ck, .int .i64 wt, .int .i64 gn, .slice A ms.length m, .slice A' os.length m'] 36)).alloc (.cells #[.int .i64 0, .int .i64 0, .int .i64 0, .slice none 0 0, .slice none 0 0] 36)) := ((Below.refl _ _).alloc (by first | omega | (simp; done) | (simp; omega)) _).alloc (by first | omega | (simp; done) | (simp; omega)) _
  have hal1 : Below w.heap.size w ((w.alloc (.cells #[.int .i64 ck, .int .i64 wt, .int .i64 gn, .slice A ms.length m, .slice A' os.length m'] 36)).alloc (.cells #[.int .i64 0, .int .i64 0, .int .i64 0, .slice none 0 0, .slice none 0 0] 36)) := ((Below.refl _ _).alloc (by first | omega | (simp; done) | (simp; omega)) _).alloc (by first | omega | (simp; done) | (simp; omega)) _
  have b_bx1 : Blk ((w.alloc (.cells #[.int .i64 ck, .int .i64 wt, .int .i64 gn, .slice A ms.length m, .slice A' os.length m'] 36)).alloc (.cells #[.int .i64 0, .int .i64 0, .int .i64 0, .slice none 0 0, .slice none 0 0] 36)) (w.heap.size) 36 #[.int .i64 ck, .int .i64 wt, .int .i64 gn, .slice A ms.length m, .slice A' os.length m'] := (Blk.new_ _ 36 #[.int .i64 ck, .int .i64 wt, .int .i64 gn, .slice A ms.length m, .slice A' os.length m'] (by first | rfl | (simp; done) | (simp; omega))).alloc _
  have b_bz1 : Blk ((w.alloc (.cells #[.int .i64 ck, .int .i64 wt, .int .i64 gn, .slice A ms.length m, .slice A' os.length m'] 36)).alloc (.cells #[.int .i64 0, .int .i64 0, .int .i64 0, .slice none 0 0, .slice none 0 0] 36)) (w.heap.size + 1) 36 #[.int .i64 0, .int .i64 0, .int .i64 0, .slice none 0 0, .slice none 0 0] := Blk.new_ _ 36 #[.int .i64 0, .int .i64 0, .int .i64 0, .slice none 0 0, .slice none 0 0] (by first | rfl | (simp; done) | (simp; omega))
  have hz1 : w.heap.size + 2 ≤ ((w.alloc (.cells #[.int .i64 ck, .int .i64 wt, .int .i64 gn, .slice A ms.length m, .slice A' os.length m'] 36)).alloc (.cells #[.int .i64 0, .int .i64 0, .int .i64 0, .slice none 0 0, .slice none 0 0] 36)).heap.size := by first | omega | (simp; done) | (simp; omega)
  generalize (w.alloc (.cells #[.int .i64 ck, .int .i64 wt, .int .i64 gn, .slice A ms.length m, .slice A' os.length m'] 36)).alloc (.cells #[.int .i64 0, .int .i64 0, .int .i64 0, .slice none 0 0, .slice none 0 0] 36) = W1 at *
  have HB1 := Lib.hid hb1
  have B1_bx := Lib.hid b_bx1
  have B1_bz := Lib.hid b_bz1
  clear hb1 b_bx1 b_bz1
  refine (gfind_good _ ⟨ck, wt, gn, ms, os⟩ s _ (H.out.below hal1) HK.out HN.out).mono ?_
  rintro e W2 ⟨mv5, ov5, rows, rfl, hown, hoff, hb⟩
  obtain ⟨A5, c5, rfl, hc5⟩ := (Sl.of_own hown.own).form
  obtain ⟨B5, d5, rfl, hd5⟩ := (Sl.of_own hoff).form
  simp only at *
  unfold groupV
  simp only
  have hb2 : Below w.heap.size w W2 := below_then HB1.out hb
  have b_bx2 := B1_bx.out.below hb B1_bx.out.lt
  have b_bz2 := B1_bz.out.below hb B1_bz.out.lt
  have hz2 := hb.size
  have HB2 := Lib.hid hb2
  have B2_bx := Lib.hid b_bx2
  have B2_bz := Lib.hid b_bz2
  clear hb2 b_bx2 b_bz2
  clear B1_bx B1_bz HB1
  have ho := hown.rebase (w0 := w) rfl (Nat.le_refl _) HB2.out
  have HO := Lib.hid ho
  have hoff2 : OwnO W2 W1.heap.size (.slice B5 os.length d5) os := hoff
  have HFO := Lib.hid hoff2
  clear ho hown hoff hoff2 hc5 hd5
  have c_bx0 := B2_bx.out.cell 0
  have f_bx0 := B2_bx.out.frozen 0
  have c_bx1 := B2_bx.out.cell 1
  have f_bx1 := B2_bx.out.frozen 1
  have c_bx2 := B2_bx.out.cell 2
  have f_bx2 := B2_bx.out.frozen 2
  have c_bx3 := B2_bx.out.cell 3
  have f_bx3 := B2_bx.out.frozen 3
  have c_bx4 := B2_bx.out.cell 4
  have f_bx4 := B2_bx.out.frozen 4
  have l_bx := B2_bx.out.lt
  go_upto_region 2 with fail
  clear c_bx0 f_bx0 c_bx1 f_bx1 c_bx2 f_bx2 c_bx3 f_bx3 c_bx4 f_bx4 l_bx
  have hsz3 := HB2.out.size
  have hb3 : Below w.heap.size w (((((W2.setCell ⟨w.heap.size, 0, none⟩ (.int .i64 ck)).setCell ⟨w.heap.size, 1, none⟩ (.int .i64 wt)).setCell ⟨w.heap.size, 2, none⟩ (.int .i64 gn)).setCell ⟨w.heap.size, 3, none⟩ (.slice A5 ms.length c5)).setCell ⟨w.heap.size, 4, none⟩ (.slice B5 os.length d5)) := (((((HB2.out).setCell (by show w.heap.size ≤ w.heap.size; omega) _).setCell (by show w.heap.size ≤ w.heap.size; omega) _).setCell (by show w.heap.size ≤ w.heap.size; omega) _).setCell (by show w.heap.size ≤ w.heap.size; omega) _).setCell (by show w.heap.size ≤ w.heap.size; omega) _
  have b_bx3 : Blk (((((W2.setCell ⟨w.heap.size, 0, none⟩ (.int .i64 ck)).setCell ⟨w.heap.size, 1, none⟩ (.int .i64 wt)).setCell ⟨w.heap.size, 2, none⟩ (.int .i64 gn)).setCell ⟨w.heap.size, 3, none⟩ (.slice A5 ms.length c5)).setCell ⟨w.heap.size, 4, none⟩ (.slice B5 os.length d5)) (w.heap.size) 36 #[.int .i64 ck, .int .i64 wt, .int .i64 gn, .slice A5 ms.length c5, .slice B5 os.length d5] := (((((B2_bx.out).set_ 0 _).set_ 1 _).set_ 2 _).set_ 3 _).set_ 4 _
  have b_bz3 : Blk (((((W2.setCell ⟨w.heap.size, 0, none⟩ (.int .i64 ck)).setCell ⟨w.heap.size, 1, none⟩ (.int .i64 wt)).setCell ⟨w.heap.size, 2, none⟩ (.int .i64 gn)).setCell ⟨w.heap.size, 3, none⟩ (.slice A5 ms.length c5)).setCell ⟨w.heap.size, 4, none⟩ (.slice B5 os.length d5)) (w.heap.size + 1) 36 #[.int .i64 0, .int .i64 0, .int .i64 0, .slice none 0 0, .slice none 0 0] := (((((B2_bz.out).far (p := ⟨w.heap.size, 0, none⟩) (by show w.heap.size + 1 ≠ w.heap.size; omega) _).far (p := ⟨w.heap.size, 1, none⟩) (by show w.heap.size + 1 ≠ w.heap.size; omega) _).far (p := ⟨w.heap.size, 2, none⟩) (by show w.heap.size + 1 ≠ w.heap.size; omega) _).far (p := ⟨w.heap.size, 3, none⟩) (by show w.heap.size + 1 ≠ w.heap.size; omega) _).far (p := ⟨w.heap.size, 4, none⟩) (by show w.heap.size + 1 ≠ w.heap.size; omega) _
  have k_own3 := (((((HO.out).under (a := ⟨w.heap.size, 0, none⟩) (by constructor <;> (try dsimp only) <;> omega) (.int .i64 ck)).under (a := ⟨w.heap.size, 1, none⟩) (by constructor <;> (try dsimp only) <;> omega) (.int .i64 wt)).under (a := ⟨w.heap.size, 2, none⟩) (by constructor <;> (try dsimp only) <;> omega) (.int .i64 gn)).under (a := ⟨w.heap.size, 3, none⟩) (by constructor <;> (try dsimp only) <;> omega) (.slice A5 ms.length c5)).under (a := ⟨w.heap.size, 4, none⟩) (by constructor <;> (try dsimp only) <;> omega) (.slice B5 os.length d5)
  have k_off3 := (((((HFO.out).under (a := ⟨w.heap.size, 0, none⟩) (by (try dsimp only); omega) (.int .i64 ck)).under (a := ⟨w.heap.size, 1, none⟩) (by (try dsimp only); omega) (.int .i64 wt)).under (a := ⟨w.heap.size, 2, none⟩) (by (try dsimp only); omega) (.int .i64 gn)).under (a := ⟨w.heap.size, 3, none⟩) (by (try dsimp only); omega) (.slice A5 ms.length c5)).under (a := ⟨w.heap.size, 4, none⟩) (by (try dsimp only); omega) (.slice B5 os.length d5)
  have hz3 : W2.heap.size + 0 ≤ (((((W2.setCell ⟨w.heap.size, 0, none⟩ (.int .i64 ck)).setCell ⟨w.heap.size, 1, none⟩ (.int .i64 wt)).setCell ⟨w.heap.size, 2, none⟩ (.int .i64 gn)).setCell ⟨w.heap.size, 3, none⟩ (.slice A5 ms.length c5)).setCell ⟨w.heap.size, 4, none⟩ (.slice B5 os.length d5)).heap.size := by first | omega | (simp; done) | (simp; omega)
  generalize ((((W2.setCell ⟨w.heap.size, 0, none⟩ (.int .i64 ck)).setCell ⟨w.heap.size, 1, none⟩ (.int .i64 wt)).setCell ⟨w.heap.size, 2, none⟩ (.int .i64 gn)).setCell ⟨w.heap.size, 3, none⟩ (.slice A5 ms.length c5)).setCell ⟨w.heap.size, 4, none⟩ (.slice B5 os.length d5) = W3 at *
  have HB3 := Lib.hid hb3
  have B3_bx := Lib.hid b_bx3
  have B3_bz := Lib.hid b_bz3
  have K3_own := Lib.hid k_own3
  have K3_off := Lib.hid k_off3
  clear hb3 b_bx3 b_bz3 k_own3 k_off3
  clear B2_bx B2_bz HB2 HO HFO
  have c_bx0 := B3_bx.out.cell 0
  have c_bx1 := B3_bx.out.cell 1
  have c_bx2 := B3_bx.out.cell 2
  have c_bx3 := B3_bx.out.cell 3
  have c_bx4 := B3_bx.out.cell 4
  have l_bx := B3_bx.out.lt
  go_wp2_with fail
  clear c_bx0 c_bx1 c_bx2 c_bx3 c_bx4 l_bx
  refine (counted_any ck wt gn parts _ _ _ _ _ _ _).mono ?_
  rintro e W4 hT
  obtain ⟨rfl, hb⟩ := hT.no HCT.out
  clear hT
  have hb4 : Below w.heap.size w W4 := below_then HB3.out hb
  have b_bx4 := B3_bx.out.below hb B3_bx.out.lt
  have b_bz4 := B3_bz.out.below hb B3_bz.out.lt
  have k_own4 := K3_own.out.keep hb
  have k_off4 := K3_off.out.keep hb
  have hz4 := hb.size
  have HB4 := Lib.hid hb4
  have B4_bx := Lib.hid b_bx4
  have B4_bz := Lib.hid b_bz4
  have K4_own := Lib.hid k_own4
  have K4_off := Lib.hid k_off4
  clear hb4 b_bx4 b_bz4 k_own4 k_off4
  clear B3_bx B3_bz HB3 K3_own K3_off
  have c_bz0 := B4_bz.out.cell 0
  have f_bz0 := B4_bz.out.frozen 0
  have c_bz1 := B4_bz.out.cell 1
  have f_bz1 := B4_bz.out.frozen 1
  have c_bz2 := B4_bz.out.cell 2
  have f_bz2 := B4_bz.out.frozen 2
  have c_bz3 := B4_bz.out.cell 3
  have f_bz3 := B4_bz.out.frozen 3
  have c_bz4 := B4_bz.out.cell 4
  have f_bz4 := B4_bz.out.frozen 4
  have l_bz := B4_bz.out.lt
  go_wp2_with fail
  clear c_bz0 f_bz0 c_bz1 f_bz1 c_bz2 f_bz2 c_bz3 f_bz3 c_bz4 f_bz4 l_bz
  have hszF := HB4.out.size
  have hbF : Below w.heap.size w (((((W4.setCell ⟨w.heap.size + 1, 0, none⟩ (.int .i64 0)).setCell ⟨w.heap.size + 1, 1, none⟩ (.int .i64 0)).setCell ⟨w.heap.size + 1, 2, none⟩ (.int .i64 0)).setCell ⟨w.heap.size + 1, 3, none⟩ (.slice none 0 0)).setCell ⟨w.heap.size + 1, 4, none⟩ (.slice none 0 0)) := (((((HB4.out).setCell (by show w.heap.size ≤ w.heap.size + 1; omega) _).setCell (by show w.heap.size ≤ w.heap.size + 1; omega) _).setCell (by show w.heap.size ≤ w.heap.size + 1; omega) _).setCell (by show w.heap.size ≤ w.heap.size + 1; omega) _).setCell (by show w.heap.size ≤ w.heap.size + 1; omega) _
  have b_bxF : Blk (((((W4.setCell ⟨w.heap.size + 1, 0, none⟩ (.int .i64 0)).setCell ⟨w.heap.size + 1, 1, none⟩ (.int .i64 0)).setCell ⟨w.heap.size + 1, 2, none⟩ (.int .i64 0)).setCell ⟨w.heap.size + 1, 3, none⟩ (.slice none 0 0)).setCell ⟨w.heap.size + 1, 4, none⟩ (.slice none 0 0)) (w.heap.size) 36 #[.int .i64 ck, .int .i64 wt, .int .i64 gn, .slice A5 ms.length c5, .slice B5 os.length d5] := (((((B4_bx.out).far (p := ⟨w.heap.size + 1, 0, none⟩) (by show w.heap.size ≠ w.heap.size + 1; omega) _).far (p := ⟨w.heap.size + 1, 1, none⟩) (by show w.heap.size ≠ w.heap.size + 1; omega) _).far (p := ⟨w.heap.size + 1, 2, none⟩) (by show w.heap.size ≠ w.heap.size + 1; omega) _).far (p := ⟨w.heap.size + 1, 3, none⟩) (by show w.heap.size ≠ w.heap.size + 1; omega) _).far (p := ⟨w.heap.size + 1, 4, none⟩) (by show w.heap.size ≠ w.heap.size + 1; omega) _
  have b_bzF : Blk (((((W4.setCell ⟨w.heap.size + 1, 0, none⟩ (.int .i64 0)).setCell ⟨w.heap.size + 1, 1, none⟩ (.int .i64 0)).setCell ⟨w.heap.size + 1, 2, none⟩ (.int .i64 0)).setCell ⟨w.heap.size + 1, 3, none⟩ (.slice none 0 0)).setCell ⟨w.heap.size + 1, 4, none⟩ (.slice none 0 0)) (w.heap.size + 1) 36 #[.int .i64 0, .int .i64 0, .int .i64 0, .slice none 0 0, .slice none 0 0] := (((((B4_bz.out).set_ 0 _).set_ 1 _).set_ 2 _).set_ 3 _).set_ 4 _
  have y0 := b_bzF.cell 0
  have y1 := b_bzF.cell 1
  have y2 := b_bzF.cell 2
  have y3 := b_bzF.cell 3
  have y4 := b_bzF.cell 4
  exact bodyPost_ret (v := .tuple #[.agg #[.int .i64 0, .int .i64 0, .int .i64 0, .slice none 0 0, .slice none 0 0], .int .i64 2]) (by simp [results, Try.results62, go_sem, y0, y1, y2, y3, y4]) rfl (GRes.zero hbF)
set_option maxRecDepth 100000 in
set_option maxHeartbeats 4000000 in
theorem leave_none (v : Value) (g : GroupD) (s : ByteArray) (parts : Int) (hk : GroupOk g) (hn : NameOk s) (hc : Counted g.gen parts) (hi : idxM g.mems s = none) (w : World) (h : Gv w v g) : Calls Try.prog 62 #[v, .string s, .int .i64 parts] w (GRes zeroG 5 w) := by
  obtain ⟨mv, ov, rfl, hx, hy, hl1, hl2⟩ := id h
  obtain ⟨A, m, rfl, -⟩ := hx.at_
  obtain ⟨A', m', rfl, -⟩ := hy.at_
  have H := Lib.hid h
  have HX := Lib.hid hx
  have HY := Lib.hid hy
  clear h hx hy
  unfold groupV at *
  obtain ⟨ck, wt, gn, ms, os⟩ := g
  simp only at *
  have hix : ixM ms s = -1 := by simp [ixM, hi]
  have HI := Lib.hid hix
  clear hix
  have HCT := Lib.hid hc
  clear hc hi
  have HK := Lib.hid hk
  have HN := Lib.hid hn
  clear hk hn
  go_enter Try.func62, Try.ntmps62
  go_wp2_with fail
  have hb1 : Below w.heap.size w ((w.alloc (.cells #[.int .i64 ck, .int .i64 wt, .int .i64 gn, .slice A ms.length m, .slice A' os.length m'] 36)).alloc (.cells #[.int .i64 0, .int .i64 0, .int .i64 0, .slice none 0 0, .slice none 0 0] 36)) := ((Below.refl _ _).alloc (by first | omega | (simp; done) | (simp; omega)) _).alloc (by first | omega | (simp; done) | (simp; omega)) _
  have hal1 : Below w.heap.size w ((w.alloc (.cells #[.int .i64 ck, .int .i64 wt, .int .i64 gn, .slice A ms.length m, .slice A' os.length m'] 36)).alloc (.cells #[.int .i64 0, .int .i64 0, .int .i64 0, .slice none 0 0, .slice none 0 0] 36)) := ((Below.refl _ _).alloc (by first | omega | (simp; done) | (simp; omega)) _).alloc (by first | omega | (simp; done) | (simp; omega)) _
  have b_bx1 : Blk ((w.alloc (.cells #[.int .i64 ck, .int .i64 wt, .int .i64 gn, .slice A ms.length m, .slice A' os.length m'] 36)).alloc (.cells #[.int .i64 0, .int .i64 0, .int .i64 0, .slice none 0 0, .slice none 0 0] 36)) (w.heap.size) 36 #[.int .i64 ck, .int .i64 wt, .int .i64 gn, .slice A ms.length m, .slice A' os.length m'] := (Blk.new_ _ 36 #[.int .i64 ck, .int .i64 wt, .int .i64 gn, .slice A ms.length m, .slice A' os.length m'] (by first | rfl | (simp; done) | (simp; omega))).alloc _
  have b_bz1 : Blk ((w.alloc (.cells #[.int .i64 ck, .int .i64 wt, .int .i64 gn, .slice A ms.length m, .slice A' os.length m'] 36)).alloc (.cells #[.int .i64 0, .int .i64 0, .int .i64 0, .slice none 0 0, .slice none 0 0] 36)) (w.heap.size + 1) 36 #[.int .i64 0, .int .i64 0, .int .i64 0, .slice none 0 0, .slice none 0 0] := Blk.new_ _ 36 #[.int .i64 0, .int .i64 0, .int .i64 0, .slice none 0 0, .slice none 0 0] (by first | rfl | (simp; done) | (simp; omega))
  have hz1 : w.heap.size + 2 ≤ ((w.alloc (.cells #[.int .i64 ck, .int .i64 wt, .int .i64 gn, .slice A ms.length m, .slice A' os.length m'] 36)).alloc (.cells #[.int .i64 0, .int .i64 0, .int .i64 0, .slice none 0 0, .slice none 0 0] 36)).heap.size := by first | omega | (simp; done) | (simp; omega)
  generalize (w.alloc (.cells #[.int .i64 ck, .int .i64 wt, .int .i64 gn, .slice A ms.length m, .slice A' os.length m'] 36)).alloc (.cells #[.int .i64 0, .int .i64 0, .int .i64 0, .slice none 0 0, .slice none 0 0] 36) = W1 at *
  have HB1 := Lib.hid hb1
  have B1_bx := Lib.hid b_bx1
  have B1_bz := Lib.hid b_bz1
  clear hb1 b_bx1 b_bz1
  refine (gfind_good _ ⟨ck, wt, gn, ms, os⟩ s _ (H.out.below hal1) HK.out HN.out).mono ?_
  rintro e W2 ⟨mv5, ov5, rows, rfl, hown, hoff, hb⟩
  obtain ⟨A5, c5, rfl, hc5⟩ := (Sl.of_own hown.own).form
  obtain ⟨B5, d5, rfl, hd5⟩ := (Sl.of_own hoff).form
  simp only at *
  unfold groupV
  simp only
  rw [HI.out]
  have hb2 : Below w.heap.size w W2 := below_then HB1.out hb
  have b_bx2 := B1_bx.out.below hb B1_bx.out.lt
  have b_bz2 := B1_bz.out.below hb B1_bz.out.lt
  have hz2 := hb.size
  have HB2 := Lib.hid hb2
  have B2_bx := Lib.hid b_bx2
  have B2_bz := Lib.hid b_bz2
  clear hb2 b_bx2 b_bz2
  clear B1_bx B1_bz HB1
  have ho := hown.rebase (w0 := w) rfl (Nat.le_refl _) HB2.out
  have HO := Lib.hid ho
  have hoff2 : OwnO W2 W1.heap.size (.slice B5 os.length d5) os := hoff
  have HFO := Lib.hid hoff2
  clear ho hown hoff hoff2 hc5 hd5
  have c_bx0 := B2_bx.out.cell 0
  have f_bx0 := B2_bx.out.frozen 0
  have c_bx1 := B2_bx.out.cell 1
  have f_bx1 := B2_bx.out.frozen 1
  have c_bx2 := B2_bx.out.cell 2
  have f_bx2 := B2_bx.out.frozen 2
  have c_bx3 := B2_bx.out.cell 3
  have f_bx3 := B2_bx.out.frozen 3
  have c_bx4 := B2_bx.out.cell 4
  have f_bx4 := B2_bx.out.frozen 4
  have l_bx := B2_bx.out.lt
  go_upto_region 2 with fail
  clear c_bx0 f_bx0 c_bx1 f_bx1 c_bx2 f_bx2 c_bx3 f_bx3 c_bx4 f_bx4 l_bx
  have hsz3 := HB2.out.size
  have hb3 : Below w.heap.size w (((((W2.setCell ⟨w.heap.size, 0, none⟩ (.int .i64 ck)).setCell ⟨w.heap.size, 1, none⟩ (.int .i64 wt)).setCell ⟨w.heap.size, 2, none⟩ (.int .i64 gn)).setCell ⟨w.heap.size, 3, none⟩ (.slice A5 ms.length c5)).setCell ⟨w.heap.size, 4, none⟩ (.slice B5 os.length d5)) := (((((HB2.out).setCell (by show w.heap.size ≤ w.heap.size; omega) _).setCell (by show w.heap.size ≤ w.heap.size; omega) _).setCell (by show w.heap.size ≤ w.heap.size; omega) _).setCell (by show w.heap.size ≤ w.heap.size; omega) _).setCell (by show w.heap.size ≤ w.heap.size; omega) _
  have b_bx3 : Blk (((((W2.setCell ⟨w.heap.size, 0, none⟩ (.int .i64 ck)).setCell ⟨w.heap.size, 1, none⟩ (.int .i64 wt)).setCell ⟨w.heap.size, 2, none⟩ (.int .i64 gn)).setCell ⟨w.heap.size, 3, none⟩ (.slice A5 ms.length c5)).setCell ⟨w.heap.size, 4, none⟩ (.slice B5 os.length d5)) (w.heap.size) 36 #[.int .i64 ck, .int .i64 wt, .int .i64 gn, .slice A5 ms.length c5, .slice B5 os.length d5] := (((((B2_bx.out).set_ 0 _).set_ 1 _).set_ 2 _).set_ 3 _).set_ 4 _
  have b_bz3 : Blk (((((W2.setCell ⟨w.heap.size, 0, none⟩ (.int .i64 ck)).setCell ⟨w.heap.size, 1, none⟩ (.int .i64 wt)).setCell ⟨w.heap.size, 2, none⟩ (.int .i64 gn)).setCell ⟨w.heap.size, 3, none⟩ (.slice A5 ms.length c5)).setCell ⟨w.heap.size, 4, none⟩ (.slice B5 os.length d5)) (w.heap.size + 1) 36 #[.int .i64 0, .int .i64 0, .int .i64 0, .slice none 0 0, .slice none 0 0] := (((((B2_bz.out).far (p := ⟨w.heap.size, 0, none⟩) (by show w.heap.size + 1 ≠ w.heap.size; omega) _).far (p := ⟨w.heap.size, 1, none⟩) (by show w.heap.size + 1 ≠ w.heap.size; omega) _).far (p := ⟨w.heap.size, 2, none⟩) (by show w.heap.size + 1 ≠ w.heap.size; omega) _).far (p := ⟨w.heap.size, 3, none⟩) (by show w.heap.size + 1 ≠ w.heap.size; omega) _).far (p := ⟨w.heap.size, 4, none⟩) (by show w.heap.size + 1 ≠ w.heap.size; omega) _
  have k_own3 := (((((HO.out).under (a := ⟨w.heap.size, 0, none⟩) (by constructor <;> (try dsimp only) <;> omega) (.int .i64 ck)).under (a := ⟨w.heap.size, 1, none⟩) (by constructor <;> (try dsimp only) <;> omega) (.int .i64 wt)).under (a := ⟨w.heap.size, 2, none⟩) (by constructor <;> (try dsimp only) <;> omega) (.int .i64 gn)).under (a := ⟨w.heap.size, 3, none⟩) (by constructor <;> (try dsimp only) <;> omega) (.slice A5 ms.length c5)).under (a := ⟨w.heap.size, 4, none⟩) (by constructor <;> (try dsimp only) <;> omega) (.slice B5 os.length d5)
  have k_off3 := (((((HFO.out).under (a := ⟨w.heap.size, 0, none⟩) (by (try dsimp only); omega) (.int .i64 ck)).under (a := ⟨w.heap.size, 1, none⟩) (by (try dsimp only); omega) (.int .i64 wt)).under (a := ⟨w.heap.size, 2, none⟩) (by (try dsimp only); omega) (.int .i64 gn)).under (a := ⟨w.heap.size, 3, none⟩) (by (try dsimp only); omega) (.slice A5 ms.length c5)).under (a := ⟨w.heap.size, 4, none⟩) (by (try dsimp only); omega) (.slice B5 os.length d5)
  have hz3 : W2.heap.size + 0 ≤ (((((W2.setCell ⟨w.heap.size, 0, none⟩ (.int .i64 ck)).setCell ⟨w.heap.size, 1, none⟩ (.int .i64 wt)).setCell ⟨w.heap.size, 2, none⟩ (.int .i64 gn)).setCell ⟨w.heap.size, 3, none⟩ (.slice A5 ms.length c5)).setCell ⟨w.heap.size, 4, none⟩ (.slice B5 os.length d5)).heap.size := by first | omega | (simp; done) | (simp; omega)
  generalize ((((W2.setCell ⟨w.heap.size, 0, none⟩ (.int .i64 ck)).setCell ⟨w.heap.size, 1, none⟩ (.int .i64 wt)).setCell ⟨w.heap.size, 2, none⟩ (.int .i64 gn)).setCell ⟨w.heap.size, 3, none⟩ (.slice A5 ms.length c5)).setCell ⟨w.heap.size, 4, none⟩ (.slice B5 os.length d5) = W3 at *
  have HB3 := Lib.hid hb3
  have B3_bx := Lib.hid b_bx3
  have B3_bz := Lib.hid b_bz3
  have K3_own := Lib.hid k_own3
  have K3_off := Lib.hid k_off3
  clear hb3 b_bx3 b_bz3 k_own3 k_off3
  clear B2_bx B2_bz HB2 HO HFO
  have c_bx0 := B3_bx.out.cell 0
  have c_bx1 := B3_bx.out.cell 1
  have c_bx2 := B3_bx.out.cell 2
  have c_bx3 := B3_bx.out.cell 3
  have c_bx4 := B3_bx.out.cell 4
  have l_bx := B3_bx.out.lt
  go_wp2_with fail
  clear c_bx0 c_bx1 c_bx2 c_bx3 c_bx4 l_bx
  refine (counted_any ck wt gn parts _ _ _ _ _ _ _).mono ?_
  rintro e W4 hT
  obtain ⟨rfl, hb⟩ := hT.yes HCT.out
  clear hT
  have hb4 : Below w.heap.size w W4 := below_then HB3.out hb
  have b_bx4 := B3_bx.out.below hb B3_bx.out.lt
  have b_bz4 := B3_bz.out.below hb B3_bz.out.lt
  have k_own4 := K3_own.out.keep hb
  have k_off4 := K3_off.out.keep hb
  have hz4 := hb.size
  have HB4 := Lib.hid hb4
  have B4_bx := Lib.hid b_bx4
  have B4_bz := Lib.hid b_bz4
  have K4_own := Lib.hid k_own4
  have K4_off := Lib.hid k_off4
  clear hb4 b_bx4 b_bz4 k_own4 k_off4
  clear B3_bx B3_bz HB3 K3_own K3_off
  have c_bz0 := B4_bz.out.cell 0
  have f_bz0 := B4_bz.out.frozen 0
  have c_bz1 := B4_bz.out.cell 1
  have f_bz1 := B4_bz.out.frozen 1
  have c_bz2 := B4_bz.out.cell 2
  have f_bz2 := B4_bz.out.frozen 2
  have c_bz3 := B4_bz.out.cell 3
  have f_bz3 := B4_bz.out.frozen 3
  have c_bz4 := B4_bz.out.cell 4
  have f_bz4 := B4_bz.out.frozen 4
  have l_bz := B4_bz.out.lt
  go_wp2_with fail
  clear c_bz0 f_bz0 c_bz1 f_bz1 c_bz2 f_bz2 c_bz3 f_bz3 c_bz4 f_bz4 l_bz
  have hszF := HB4.out.size
  have hbF : Below w.heap.size w (((((W4.setCell ⟨w.heap.size + 1, 0, none⟩ (.int .i64 0)).setCell ⟨w.heap.size + 1, 1, none⟩ (.int .i64 0)).setCell ⟨w.heap.size + 1, 2, none⟩ (.int .i64 0)).setCell ⟨w.heap.size + 1, 3, none⟩ (.slice none 0 0)).setCell ⟨w.heap.size + 1, 4, none⟩ (.slice none 0 0)) := (((((HB4.out).setCell (by show w.heap.size ≤ w.heap.size + 1; omega) _).setCell (by show w.heap.size ≤ w.heap.size + 1; omega) _).setCell (by show w.heap.size ≤ w.heap.size + 1; omega) _).setCell (by show w.heap.size ≤ w.heap.size + 1; omega) _).setCell (by show w.heap.size ≤ w.heap.size + 1; omega) _
  have b_bxF : Blk (((((W4.setCell ⟨w.heap.size + 1, 0, none⟩ (.int .i64 0)).setCell ⟨w.heap.size + 1, 1, none⟩ (.int .i64 0)).setCell ⟨w.heap.size + 1, 2, none⟩ (.int .i64 0)).setCell ⟨w.heap.size + 1, 3, none⟩ (.slice none 0 0)).setCell ⟨w.heap.size + 1, 4, none⟩ (.slice none 0 0)) (w.heap.size) 36 #[.int .i64 ck, .int .i64 wt, .int .i64 gn, .slice A5 ms.length c5, .slice B5 os.length d5] := (((((B4_bx.out).far (p := ⟨w.heap.size + 1, 0, none⟩) (by show w.heap.size ≠ w.heap.size + 1; omega) _).far (p := ⟨w.heap.size + 1, 1, none⟩) (by show w.heap.size ≠ w.heap.size + 1; omega) _).far (p := ⟨w.heap.size + 1, 2, none⟩) (by show w.heap.size ≠ w.heap.size + 1; omega) _).far (p := ⟨w.heap.size + 1, 3, none⟩) (by show w.heap.size ≠ w.heap.size + 1; omega) _).far (p := ⟨w.heap.size + 1, 4, none⟩) (by show w.heap.size ≠ w.heap.size + 1; omega) _
  have b_bzF : Blk (((((W4.setCell ⟨w.heap.size + 1, 0, none⟩ (.int .i64 0)).setCell ⟨w.heap.size + 1, 1, none⟩ (.int .i64 0)).setCell ⟨w.heap.size + 1, 2, none⟩ (.int .i64 0)).setCell ⟨w.heap.size + 1, 3, none⟩ (.slice none 0 0)).setCell ⟨w.heap.size + 1, 4, none⟩ (.slice none 0 0)) (w.heap.size + 1) 36 #[.int .i64 0, .int .i64 0, .int .i64 0, .slice none 0 0, .slice none 0 0] := (((((B4_bz.out).set_ 0 _).set_ 1 _).set_ 2 _).set_ 3 _).set_ 4 _
  have y0 := b_bzF.cell 0
  have y1 := b_bzF.cell 1
  have y2 := b_bzF.cell 2
  have y3 := b_bzF.cell 3
  have y4 := b_bzF.cell 4
  exact bodyPost_ret (v := .tuple #[.agg #[.int .i64 0, .int .i64 0, .int .i64 0, .slice none 0 0, .slice none 0 0], .int .i64 5]) (by simp [results, Try.results62, go_sem, y0, y1, y2, y3, y4]) rfl (GRes.zero hbF)
set_option maxRecDepth 100000 in
set_option maxHeartbeats 4000000 in
theorem leave_good (v : Value) (g : GroupD) (s : ByteArray) (parts : Int) (hk : GroupOk g) (hn : NameOk s) (hc : Counted g.gen parts) (i : Nat) (hi : idxM g.mems s = some i) (hl : i < g.mems.length) (w : World) (h : Gv w v g) : Calls Try.prog 62 #[v, .string s, .int .i64 parts] w (GRes (nextG g (g.mems.eraseIdx i) parts) 0 w) := by
  obtain ⟨mv, ov, rfl, hx, hy, hl1, hl2⟩ := id h
  obtain ⟨A, m, rfl, -⟩ := hx.at_
  obtain ⟨A', m', rfl, -⟩ := hy.at_
  have H := Lib.hid h
  have HX := Lib.hid hx
  have HY := Lib.hid hy
  clear h hx hy
  unfold groupV at *
  obtain ⟨ck, wt, gn, ms, os⟩ := g
  simp only at *
  have hix : ixM ms s = i := (ixM_some hi).2
  have HI := Lib.hid hix
  have HCT := Lib.hid hc
  have HGN := Lib.hid (show 0 ≤ gn ∧ gn ≤ 1073741824 from hk.gen)
  have HL6 := Lib.hid (show ms.length ≤ 6 from hk.many)
  clear hc hix hi
  have HK := Lib.hid hk
  have HN := Lib.hid hn
  clear hk hn
  go_enter Try.func62, Try.ntmps62
  go_wp2_with fail
  have hb1 : Below w.heap.size w ((w.alloc (.cells #[.int .i64 ck, .int .i64 wt, .int .i64 gn, .slice A ms.length m, .slice A' os.length m'] 36)).alloc (.cells #[.int .i64 0, .int .i64 0, .int .i64 0, .slice none 0 0, .slice none 0 0] 36)) := ((Below.refl _ _).alloc (by first | omega | (simp; done) | (simp; omega)) _).alloc (by first | omega | (simp; done) | (simp; omega)) _
  have hal1 : Below w.heap.size w ((w.alloc (.cells #[.int .i64 ck, .int .i64 wt, .int .i64 gn, .slice A ms.length m, .slice A' os.length m'] 36)).alloc (.cells #[.int .i64 0, .int .i64 0, .int .i64 0, .slice none 0 0, .slice none 0 0] 36)) := ((Below.refl _ _).alloc (by first | omega | (simp; done) | (simp; omega)) _).alloc (by first | omega | (simp; done) | (simp; omega)) _
  have b_bx1 : Blk ((w.alloc (.cells #[.int .i64 ck, .int .i64 wt, .int .i64 gn, .slice A ms.length m, .slice A' os.length m'] 36)).alloc (.cells #[.int .i64 0, .int .i64 0, .int .i64 0, .slice none 0 0, .slice none 0 0] 36)) (w.heap.size) 36 #[.int .i64 ck, .int .i64 wt, .int .i64 gn, .slice A ms.length m, .slice A' os.length m'] := (Blk.new_ _ 36 #[.int .i64 ck, .int .i64 wt, .int .i64 gn, .slice A ms.length m, .slice A' os.length m'] (by first | rfl | (simp; done) | (simp; omega))).alloc _
  have b_bz1 : Blk ((w.alloc (.cells #[.int .i64 ck, .int .i64 wt, .int .i64 gn, .slice A ms.length m, .slice A' os.length m'] 36)).alloc (.cells #[.int .i64 0, .int .i64 0, .int .i64 0, .slice none 0 0, .slice none 0 0] 36)) (w.heap.size + 1) 36 #[.int .i64 0, .int .i64 0, .int .i64 0, .slice none 0 0, .slice none 0 0] := Blk.new_ _ 36 #[.int .i64 0, .int .i64 0, .int .i64 0, .slice none 0 0, .slice none 0 0] (by first | rfl | (simp; done) | (simp; omega))
  have hz1 : w.heap.size + 2 ≤ ((w.alloc (.cells #[.int .i64 ck, .int .i64 wt, .int .i64 gn, .slice A ms.length m, .slice A' os.length m'] 36)).alloc (.cells #[.int .i64 0, .int .i64 0, .int .i64 0, .slice none 0 0, .slice none 0 0] 36)).heap.size := by first | omega | (simp; done) | (simp; omega)
  generalize (w.alloc (.cells #[.int .i64 ck, .int .i64 wt, .int .i64 gn, .slice A ms.length m, .slice A' os.length m'] 36)).alloc (.cells #[.int .i64 0, .int .i64 0, .int .i64 0, .slice none 0 0, .slice none 0 0] 36) = W1 at *
  have HB1 := Lib.hid hb1
  have B1_bx := Lib.hid b_bx1
  have B1_bz := Lib.hid b_bz1
  clear hb1 b_bx1 b_bz1
  refine (gfind_good _ ⟨ck, wt, gn, ms, os⟩ s _ (H.out.below hal1) HK.out HN.out).mono ?_
  rintro e W2 ⟨mv5, ov5, rows, rfl, hown, hoff, hb⟩
  obtain ⟨A5, c5, rfl, hc5⟩ := (Sl.of_own hown.own).form
  obtain ⟨B5, d5, rfl, hd5⟩ := (Sl.of_own hoff).form
  simp only at *
  unfold groupV
  simp only
  rw [HI.out]
  have hb2 : Below w.heap.size w W2 := below_then HB1.out hb
  have b_bx2 := B1_bx.out.below hb B1_bx.out.lt
  have b_bz2 := B1_bz.out.below hb B1_bz.out.lt
  have hz2 := hb.size
  have HB2 := Lib.hid hb2
  have B2_bx := Lib.hid b_bx2
  have B2_bz := Lib.hid b_bz2
  clear hb2 b_bx2 b_bz2
  clear B1_bx B1_bz HB1
  have ho := hown.rebase (w0 := w) rfl (Nat.le_refl _) HB2.out
  obtain ⟨gg, c6, hv6, hg1, hg2, hc6, -⟩ := ho.at_ (Nat.lt_of_le_of_lt (Nat.zero_le i) hl)
  injection hv6 with hv7 hv8 hv9
  subst hv7
  clear hv8 hv9 hc6
  have HO := Lib.hid ho
  have hoff2 : OwnO W2 W1.heap.size (.slice B5 os.length d5) os := hoff
  have HFO := Lib.hid hoff2
  clear ho hown hoff hoff2 hc5 hd5
  have c_bx0 := B2_bx.out.cell 0
  have f_bx0 := B2_bx.out.frozen 0
  have c_bx1 := B2_bx.out.cell 1
  have f_bx1 := B2_bx.out.frozen 1
  have c_bx2 := B2_bx.out.cell 2
  have f_bx2 := B2_bx.out.frozen 2
  have c_bx3 := B2_bx.out.cell 3
  have f_bx3 := B2_bx.out.frozen 3
  have c_bx4 := B2_bx.out.cell 4
  have f_bx4 := B2_bx.out.frozen 4
  have l_bx := B2_bx.out.lt
  go_upto_region 2 with fail
  clear c_bx0 f_bx0 c_bx1 f_bx1 c_bx2 f_bx2 c_bx3 f_bx3 c_bx4 f_bx4 l_bx
  have hsz3 := HB2.out.size
  have hb3 : Below w.heap.size w (((((W2.setCell ⟨w.heap.size, 0, none⟩ (.int .i64 ck)).setCell ⟨w.heap.size, 1, none⟩ (.int .i64 wt)).setCell ⟨w.heap.size, 2, none⟩ (.int .i64 gn)).setCell ⟨w.heap.size, 3, none⟩ (.slice (some ⟨gg, 0, none⟩) ms.length c5)).setCell ⟨w.heap.size, 4, none⟩ (.slice B5 os.length d5)) := (((((HB2.out).setCell (by show w.heap.size ≤ w.heap.size; omega) _).setCell (by show w.heap.size ≤ w.heap.size; omega) _).setCell (by show w.heap.size ≤ w.heap.size; omega) _).setCell (by show w.heap.size ≤ w.heap.size; omega) _).setCell (by show w.heap.size ≤ w.heap.size; omega) _
  have b_bx3 : Blk (((((W2.setCell ⟨w.heap.size, 0, none⟩ (.int .i64 ck)).setCell ⟨w.heap.size, 1, none⟩ (.int .i64 wt)).setCell ⟨w.heap.size, 2, none⟩ (.int .i64 gn)).setCell ⟨w.heap.size, 3, none⟩ (.slice (some ⟨gg, 0, none⟩) ms.length c5)).setCell ⟨w.heap.size, 4, none⟩ (.slice B5 os.length d5)) (w.heap.size) 36 #[.int .i64 ck, .int .i64 wt, .int .i64 gn, .slice (some ⟨gg, 0, none⟩) ms.length c5, .slice B5 os.length d5] := (((((B2_bx.out).set_ 0 _).set_ 1 _).set_ 2 _).set_ 3 _).set_ 4 _
  have b_bz3 : Blk (((((W2.setCell ⟨w.heap.size, 0, none⟩ (.int .i64 ck)).setCell ⟨w.heap.size, 1, none⟩ (.int .i64 wt)).setCell ⟨w.heap.size, 2, none⟩ (.int .i64 gn)).setCell ⟨w.heap.size, 3, none⟩ (.slice (some ⟨gg, 0, none⟩) ms.length c5)).setCell ⟨w.heap.size, 4, none⟩ (.slice B5 os.length d5)) (w.heap.size + 1) 36 #[.int .i64 0, .int .i64 0, .int .i64 0, .slice none 0 0, .slice none 0 0] := (((((B2_bz.out).far (p := ⟨w.heap.size, 0, none⟩) (by show w.heap.size + 1 ≠ w.heap.size; omega) _).far (p := ⟨w.heap.size, 1, none⟩) (by show w.heap.size + 1 ≠ w.heap.size; omega) _).far (p := ⟨w.heap.size, 2, none⟩) (by show w.heap.size + 1 ≠ w.heap.size; omega) _).far (p := ⟨w.heap.size, 3, none⟩) (by show w.heap.size + 1 ≠ w.heap.size; omega) _).far (p := ⟨w.heap.size, 4, none⟩) (by show w.heap.size + 1 ≠ w.heap.size; omega) _
  have k_own3 := (((((HO.out).under (a := ⟨w.heap.size, 0, none⟩) (by constructor <;> (try dsimp only) <;> omega) (.int .i64 ck)).under (a := ⟨w.heap.size, 1, none⟩) (by constructor <;> (try dsimp only) <;> omega) (.int .i64 wt)).under (a := ⟨w.heap.size, 2, none⟩) (by constructor <;> (try dsimp only) <;> omega) (.int .i64 gn)).under (a := ⟨w.heap.size, 3, none⟩) (by constructor <;> (try dsimp only) <;> omega) (.slice (some ⟨gg, 0, none⟩) ms.length c5)).under (a := ⟨w.heap.size, 4, none⟩) (by constructor <;> (try dsimp only) <;> omega) (.slice B5 os.length d5)
  have k_off3 := (((((HFO.out).under (a := ⟨w.heap.size, 0, none⟩) (by (try dsimp only); omega) (.int .i64 ck)).under (a := ⟨w.heap.size, 1, none⟩) (by (try dsimp only); omega) (.int .i64 wt)).under (a := ⟨w.heap.size, 2, none⟩) (by (try dsimp only); omega) (.int .i64 gn)).under (a := ⟨w.heap.size, 3, none⟩) (by (try dsimp only); omega) (.slice (some ⟨gg, 0, none⟩) ms.length c5)).under (a := ⟨w.heap.size, 4, none⟩) (by (try dsimp only); omega) (.slice B5 os.length d5)
  have hz3 : W2.heap.size + 0 ≤ (((((W2.setCell ⟨w.heap.size, 0, none⟩ (.int .i64 ck)).setCell ⟨w.heap.size, 1, none⟩ (.int .i64 wt)).setCell ⟨w.heap.size, 2, none⟩ (.int .i64 gn)).setCell ⟨w.heap.size, 3, none⟩ (.slice (some ⟨gg, 0, none⟩) ms.length c5)).setCell ⟨w.heap.size, 4, none⟩ (.slice B5 os.length d5)).heap.size := by first | omega | (simp; done) | (simp; omega)
  generalize ((((W2.setCell ⟨w.heap.size, 0, none⟩ (.int .i64 ck)).setCell ⟨w.heap.size, 1, none⟩ (.int .i64 wt)).setCell ⟨w.heap.size, 2, none⟩ (.int .i64 gn)).setCell ⟨w.heap.size, 3, none⟩ (.slice (some ⟨gg, 0, none⟩) ms.length c5)).setCell ⟨w.heap.size, 4, none⟩ (.slice B5 os.length d5) = W3 at *
  have HB3 := Lib.hid hb3
  have B3_bx := Lib.hid b_bx3
  have B3_bz := Lib.hid b_bz3
  have K3_own := Lib.hid k_own3
  have K3_off := Lib.hid k_off3
  clear hb3 b_bx3 b_bz3 k_own3 k_off3
  clear B2_bx B2_bz HB2 HO HFO
  have c_bx0 := B3_bx.out.cell 0
  have c_bx1 := B3_bx.out.cell 1
  have c_bx2 := B3_bx.out.cell 2
  have c_bx3 := B3_bx.out.cell 3
  have c_bx4 := B3_bx.out.cell 4
  have l_bx := B3_bx.out.lt
  go_wp2_with fail
  clear c_bx0 c_bx1 c_bx2 c_bx3 c_bx4 l_bx
  refine (counted_any ck wt gn parts _ _ _ _ _ _ _).mono ?_
  rintro e W4 hT
  obtain ⟨rfl, hb⟩ := hT.yes HCT.out
  clear hT
  have hb4 : Below w.heap.size w W4 := below_then HB3.out hb
  have b_bx4 := B3_bx.out.below hb B3_bx.out.lt
  have b_bz4 := B3_bz.out.below hb B3_bz.out.lt
  have k_own4 := K3_own.out.keep hb
  have k_off4 := K3_off.out.keep hb
  have hz4 := hb.size
  have HB4 := Lib.hid hb4
  have B4_bx := Lib.hid b_bx4
  have B4_bz := Lib.hid b_bz4
  have K4_own := Lib.hid k_own4
  have K4_off := Lib.hid k_off4
  clear hb4 b_bx4 b_bz4 k_own4 k_off4
  clear B3_bx B3_bz HB3 K3_own K3_off
  have hom := K4_own.out.own
  have hsl : ∀ t ∈ rows, ∃ A k m, t.2 = .slice A k m := fun t ht => by
    have hln : rows.length = ms.length := ownM_rows K4_own.out.fst
    obtain ⟨A9, c9, e9, -⟩ := (Sl.of_own (K4_own.out.parts t (by rw [List.take_of_length_le (by omega)]; exact ht))).form
    exact ⟨A9, _, c9, e9⟩
  have hone : ∀ t ∈ rows, t.2.oneCell' = true := fun t ht => by
    obtain ⟨A9, k9, m9, e9⟩ := hsl t ht
    rw [e9]; rfl
  have HOM := Lib.hid hom
  have HSL := Lib.hid hsl
  have HONE := Lib.hid hone
  have hrl : rows.length = ms.length := ownM_rows K4_own.out.fst
  have hrf : rows.map Prod.fst = ms := K4_own.out.fst
  have HRL := Lib.hid hrl
  have HRF := Lib.hid hrf
  clear hom hsl hone hrl hrf
  have i0 : (0 : Int) ≤ (i : Int) := by omega
  have i2 : decide ((i : Int) < 0) = false := decide_eq_false (by omega)
  have HI6 := Lib.hid (show i < ms.length from hl)
  have i5 : (i : Int) ≤ 6 := by have := HI6.out; have := HL6.out; omega
  have c_bx0 := B4_bx.out.cell 0
  have f_bx0 := B4_bx.out.frozen 0
  have c_bx1 := B4_bx.out.cell 1
  have f_bx1 := B4_bx.out.frozen 1
  have c_bx2 := B4_bx.out.cell 2
  have f_bx2 := B4_bx.out.frozen 2
  have c_bx3 := B4_bx.out.cell 3
  have f_bx3 := B4_bx.out.frozen 3
  have c_bx4 := B4_bx.out.cell 4
  have f_bx4 := B4_bx.out.frozen 4
  have l_bx := B4_bx.out.lt
  go_wp2_with fail
  clear c_bx0 f_bx0 c_bx1 f_bx1 c_bx2 f_bx2 c_bx3 f_bx3 c_bx4 f_bx4 l_bx
  refine (delM_own gg ms.length c5 i rows W4 HOM.out HRL.out HI6.out (by have := HL6.out; omega) HONE.out).mono ?_
  rintro e W9 ⟨rfl, hrow9, hob⟩
  have hw9 : W9.heap.size = W4.heap.size := hob.size
  have bx9 := hob.blk B4_bx.out (by omega)
  have bz9 := hob.blk B4_bz.out (by omega)
  have off9 := hob.own K4_off.out (own_apart2 K4_off.out HOM.out (by decide))
  have hb9 : Below w.heap.size w W9 := HB4.out.grown hob.grown HB4.out.size (fun k hk => by injection hk with hk; omega)
  have HOB := Lib.hid hob
  have BX9 := Lib.hid bx9
  have BZ9 := Lib.hid bz9
  have ROW9 := Lib.hid hrow9
  have OFF9 := Lib.hid off9
  have HB9 := Lib.hid hb9
  clear hob bx9 bz9 off9 hb9 hrow9
  have q0 := BX9.out.cell 0
  have qf0 := BX9.out.frozen 0
  have q1 := BX9.out.cell 1
  have qf1 := BX9.out.frozen 1
  have q2 := BX9.out.cell 2
  have qf2 := BX9.out.frozen 2
  have q3 := BX9.out.cell 3
  have qf3 := BX9.out.frozen 3
  have q4 := BX9.out.cell 4
  have qf4 := BX9.out.frozen 4
  have ql := BX9.out.lt
  go_upto_region 9 with fail
  clear ql q0 qf0 q1 qf1 q2 qf2 q3 qf3 q4 qf4
  have hb5 : Below w.heap.size w (W9.setCell ⟨w.heap.size, 3, none⟩ (.slice (some ⟨gg, 0, none⟩) (ms.length - 1) c5)) := (HB9.out).setCell (by show w.heap.size ≤ w.heap.size; omega) _
  have b_bx5 : Blk (W9.setCell ⟨w.heap.size, 3, none⟩ (.slice (some ⟨gg, 0, none⟩) (ms.length - 1) c5)) (w.heap.size) 36 #[.int .i64 ck, .int .i64 wt, .int .i64 gn, .slice (some ⟨gg, 0, none⟩) (ms.length - 1) c5, .slice B5 os.length d5] := (BX9.out).set_ 3 _
  have b_bz5 : Blk (W9.setCell ⟨w.heap.size, 3, none⟩ (.slice (some ⟨gg, 0, none⟩) (ms.length - 1) c5)) (w.heap.size + 1) 36 #[.int .i64 0, .int .i64 0, .int .i64 0, .slice none 0 0, .slice none 0 0] := (BZ9.out).far (p := ⟨w.heap.size, 3, none⟩) (by show w.heap.size + 1 ≠ w.heap.size; omega) _
  have hrow := own_far (ROW9.out) (BX9.out) (show 36 ≠ 79 by decide) 3 (.slice (some ⟨gg, 0, none⟩) (ms.length - 1) c5)
  have hoff4 : OwnO (W9.setCell ⟨w.heap.size, 3, none⟩ (.slice (some ⟨gg, 0, none⟩) (ms.length - 1) c5)) W1.heap.size (.slice B5 os.length d5) os := own_far (OFF9.out) (BX9.out) (by decide) 3 _
  have hz5 : W9.heap.size ≤ (W9.setCell ⟨w.heap.size, 3, none⟩ (.slice (some ⟨gg, 0, none⟩) (ms.length - 1) c5)).heap.size := by simp
  generalize W9.setCell ⟨w.heap.size, 3, none⟩ (.slice (some ⟨gg, 0, none⟩) (ms.length - 1) c5) = W5 at *
  have HROW := Lib.hid hrow
  have HOFF := Lib.hid hoff4
  have HB5 := Lib.hid hb5
  have B5_bx := Lib.hid b_bx5
  have B5_bz := Lib.hid b_bz5
  clear hrow hoff4 hb5 b_bx5 b_bz5
  clear BX9 BZ9 ROW9 OFF9 HB9 HOB
  have c_bx0 := B5_bx.out.cell 0
  have c_bx1 := B5_bx.out.cell 1
  have c_bx2 := B5_bx.out.cell 2
  have c_bx3 := B5_bx.out.cell 3
  have c_bx4 := B5_bx.out.cell 4
  have l_bx := B5_bx.out.lt
  go_wp2_with fail
  clear c_bx0 c_bx1 c_bx2 c_bx3 c_bx4 l_bx
  refine (assigned_any ck wt gn gg (ms.length - 1) c5 B5 os.length d5 (rows.eraseIdx i) parts W1.heap.size W5 HROW.out (by rw [List.length_eraseIdx, if_pos (by rw [HRL.out]; exact HI6.out), HRL.out]) (by have := HL6.out; omega) (fun t ht => HSL.out t (List.mem_of_mem_eraseIdx ht)) (by have := HGN.out; omega) ⟨HCT.out.1, HCT.out.2.1⟩).mono ?_
  rintro e W6 hA
  obtain ⟨rows6, rfl, hom6, hg6⟩ := hA.ownM (w := w) (ms := (ms.eraseIdx i)) (by rw [map_erase, HRF.out]) (by rw [List.length_eraseIdx, if_pos HI6.out]) (by omega) (by omega) HB5.out
  have hlow := (hom6.own.lt gg rfl).1
  have hb6 : Below w.heap.size w W6 := hom6.bel
  have b_bz6 := B5_bz.out.grown hg6 (fun e => by injection e with e; omega)
  have hz6 := hg6.size
  have hof6 : OwnO W6 W1.heap.size (.slice B5 os.length d5) os := World.ownsRow.kept HOFF.out hg6 (own_apart2 HOFF.out HROW.out (by decide))
  have HB6 := Lib.hid hb6
  have B6_bz := Lib.hid b_bz6
  have K6_own := Lib.hid hom6
  have K6_off := Lib.hid hof6
  clear hA hb6 b_bz6 hg6 hom6 hof6 B5_bx B5_bz HB5 HOFF HROW
  have c_bz0 := B6_bz.out.cell 0
  have f_bz0 := B6_bz.out.frozen 0
  have c_bz1 := B6_bz.out.cell 1
  have f_bz1 := B6_bz.out.frozen 1
  have c_bz2 := B6_bz.out.cell 2
  have f_bz2 := B6_bz.out.frozen 2
  have c_bz3 := B6_bz.out.cell 3
  have f_bz3 := B6_bz.out.frozen 3
  have c_bz4 := B6_bz.out.cell 4
  have f_bz4 := B6_bz.out.frozen 4
  have l_bz := B6_bz.out.lt
  go_wp2_with fail
  clear c_bz0 f_bz0 c_bz1 f_bz1 c_bz2 f_bz2 c_bz3 f_bz3 c_bz4 f_bz4 l_bz
  have hszF := HB6.out.size
  have hbF : Below w.heap.size w (((((W6.setCell ⟨w.heap.size + 1, 0, none⟩ (.int .i64 ck)).setCell ⟨w.heap.size + 1, 1, none⟩ (.int .i64 wt)).setCell ⟨w.heap.size + 1, 2, none⟩ (.int .i64 (gn + 1))).setCell ⟨w.heap.size + 1, 3, none⟩ (.slice (some ⟨gg, 0, none⟩) (ms.length - 1) c5)).setCell ⟨w.heap.size + 1, 4, none⟩ (.slice B5 os.length d5)) := (((((HB6.out).setCell (by show w.heap.size ≤ w.heap.size + 1; omega) _).setCell (by show w.heap.size ≤ w.heap.size + 1; omega) _).setCell (by show w.heap.size ≤ w.heap.size + 1; omega) _).setCell (by show w.heap.size ≤ w.heap.size + 1; omega) _).setCell (by show w.heap.size ≤ w.heap.size + 1; omega) _
  have b_bzF : Blk (((((W6.setCell ⟨w.heap.size + 1, 0, none⟩ (.int .i64 ck)).setCell ⟨w.heap.size + 1, 1, none⟩ (.int .i64 wt)).setCell ⟨w.heap.size + 1, 2, none⟩ (.int .i64 (gn + 1))).setCell ⟨w.heap.size + 1, 3, none⟩ (.slice (some ⟨gg, 0, none⟩) (ms.length - 1) c5)).setCell ⟨w.heap.size + 1, 4, none⟩ (.slice B5 os.length d5)) (w.heap.size + 1) 36 #[.int .i64 ck, .int .i64 wt, .int .i64 (gn + 1), .slice (some ⟨gg, 0, none⟩) (ms.length - 1) c5, .slice B5 os.length d5] := (((((B6_bz.out).set_ 0 _).set_ 1 _).set_ 2 _).set_ 3 _).set_ 4 _
  have hoF := (((((K6_own.out).under (a := ⟨w.heap.size + 1, 0, none⟩) (by constructor <;> (try dsimp only) <;> omega) (.int .i64 ck)).under (a := ⟨w.heap.size + 1, 1, none⟩) (by constructor <;> (try dsimp only) <;> omega) (.int .i64 wt)).under (a := ⟨w.heap.size + 1, 2, none⟩) (by constructor <;> (try dsimp only) <;> omega) (.int .i64 (gn + 1))).under (a := ⟨w.heap.size + 1, 3, none⟩) (by constructor <;> (try dsimp only) <;> omega) (.slice (some ⟨gg, 0, none⟩) (ms.length - 1) c5)).under (a := ⟨w.heap.size + 1, 4, none⟩) (by constructor <;> (try dsimp only) <;> omega) (.slice B5 os.length d5)
  have hfF := (((((K6_off.out).under (a := ⟨w.heap.size + 1, 0, none⟩) (by (try dsimp only); omega) (.int .i64 ck)).under (a := ⟨w.heap.size + 1, 1, none⟩) (by (try dsimp only); omega) (.int .i64 wt)).under (a := ⟨w.heap.size + 1, 2, none⟩) (by (try dsimp only); omega) (.int .i64 (gn + 1))).under (a := ⟨w.heap.size + 1, 3, none⟩) (by (try dsimp only); omega) (.slice (some ⟨gg, 0, none⟩) (ms.length - 1) c5)).under (a := ⟨w.heap.size + 1, 4, none⟩) (by (try dsimp only); omega) (.slice B5 os.length d5)
  have y0 := b_bzF.cell 0
  have y1 := b_bzF.cell 1
  have y2 := b_bzF.cell 2
  have y3 := b_bzF.cell 3
  have y4 := b_bzF.cell 4
  exact bodyPost_ret (v := .tuple #[.agg #[.int .i64 ck, .int .i64 wt, .int .i64 (gn + 1), .slice (some ⟨gg, 0, none⟩) (ms.length - 1) c5, .slice B5 os.length d5], .int .i64 0]) (by simp [results, Try.results62, go_sem, y0, y1, y2, y3, y4]) rfl (⟨.slice (some ⟨gg, 0, none⟩) (ms.length - 1) c5, .slice B5 os.length d5, rows6, rfl, hoF.rebase rfl (by omega) hbF, own_base hfF (by omega), hbF⟩)
theorem leave_any (v : Value) (g : GroupD) (s : ByteArray) (parts : Int) (g' : GroupD) (r : Int) (ht : LeaveTo g s parts g' r) (w : World) (h : Gv w v g) : Calls Try.prog 62 #[v, .string s, .int .i64 parts] w (GRes g' r w) := by
  rcases ht with ⟨h1, rfl⟩ | ⟨h1, h2, ⟨h3, rfl, rfl⟩ | ⟨h3, ⟨h4, rfl, rfl⟩ | ⟨i, h4, rfl, rfl⟩⟩⟩
  · exact leave_fault v g s parts r h1 w h
  · exact leave_range v g s parts h1 h2 h3 w h
  · exact leave_none v g s parts h1 h2 h3 h4 w h
  · exact leave_good v g s parts h1 h2 h3 i h4 (ixM_some h4).1 w h
end Go.Proofs.Ytjkoceacjbhblaa
