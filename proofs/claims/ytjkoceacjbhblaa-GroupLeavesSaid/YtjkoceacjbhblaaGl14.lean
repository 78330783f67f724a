/- Parts of a proof, merged: LeaB. No condition. -/
import Derived.Test.YtjkoceacjbhblaaGl13
namespace Go.Proofs.Ytjkoceacjbhblaa
open Go.RowKit

set_option maxRecDepth 100000 in
set_option maxHeartbeats 4000000 in
theorem left_fault (v : Value) (g : GroupD) (s : ByteArray) (parts : Int) (n : Int) (hf : NameFaultM g s n) (w : World) (h : Gv w v g) (hnm : ∀ t ∈ g.mems, t.name.size ≤ 9223372036854775807) (hs : s.size ≤ 9223372036854775807) : Calls Try.prog 63 #[v, .string s, .int .i64 parts] w (GRes zeroG n w) := by
  obtain ⟨mv, ov, rfl, hx, hy, hl1, hl2⟩ := id h
  obtain ⟨A, m, rfl, -⟩ := hx.at_
  obtain ⟨A', m', rfl, -⟩ := hy.at_
  have H := Lib.hid h
  have HX := Lib.hid hx
  have HY := Lib.hid hy
  clear h hx hy
  unfold groupV at *
  obtain ⟨ck, wt, gn, ms, os⟩ := g
  simp only at *
  have hn0 := hf.ne
  have n1 : (n == 0) = false := beq_eq_false_iff_ne.2 hn0
  have n2 : (n != 0) = true := by simpa using hn0
  have HF := Lib.hid hf
  clear hf hn0
  have HNM := Lib.hid hnm
  clear hnm
  go_enter Try.func63, Try.ntmps63
  go_wp2_with fail
  have hb1 : Below w.heap.size w (((w.alloc (.cells #[.int .i64 ck, .int .i64 wt, .int .i64 gn, .slice A ms.length m, .slice A' os.length m'] 36)).alloc (.cells #[.string s] 9)).alloc (.cells #[.int .i64 0, .int .i64 0, .int .i64 0, .slice none 0 0, .slice none 0 0] 36)) := (((Below.refl _ _).alloc (by first | omega | (simp; done) | (simp; omega)) _).alloc (by first | omega | (simp; done) | (simp; omega)) _).alloc (by first | omega | (simp; done) | (simp; omega)) _
  have hal1 : Below w.heap.size w (((w.alloc (.cells #[.int .i64 ck, .int .i64 wt, .int .i64 gn, .slice A ms.length m, .slice A' os.length m'] 36)).alloc (.cells #[.string s] 9)).alloc (.cells #[.int .i64 0, .int .i64 0, .int .i64 0, .slice none 0 0, .slice none 0 0] 36)) := (((Below.refl _ _).alloc (by first | omega | (simp; done) | (simp; omega)) _).alloc (by first | omega | (simp; done) | (simp; omega)) _).alloc (by first | omega | (simp; done) | (simp; omega)) _
  have b_bx1 : Blk (((w.alloc (.cells #[.int .i64 ck, .int .i64 wt, .int .i64 gn, .slice A ms.length m, .slice A' os.length m'] 36)).alloc (.cells #[.string s] 9)).alloc (.cells #[.int .i64 0, .int .i64 0, .int .i64 0, .slice none 0 0, .slice none 0 0] 36)) (w.heap.size) 36 #[.int .i64 ck, .int .i64 wt, .int .i64 gn, .slice A ms.length m, .slice A' os.length m'] := ((Blk.new_ _ 36 #[.int .i64 ck, .int .i64 wt, .int .i64 gn, .slice A ms.length m, .slice A' os.length m'] (by first | rfl | (simp; done) | (simp; omega))).alloc _).alloc _
  have b_bs1 : Blk (((w.alloc (.cells #[.int .i64 ck, .int .i64 wt, .int .i64 gn, .slice A ms.length m, .slice A' os.length m'] 36)).alloc (.cells #[.string s] 9)).alloc (.cells #[.int .i64 0, .int .i64 0, .int .i64 0, .slice none 0 0, .slice none 0 0] 36)) (w.heap.size + 1) 9 #[.string s] := (Blk.new_ _ 9 #[.string s] (by first | rfl | (simp; done) | (simp; omega))).alloc _
  have b_bz1 : Blk (((w.alloc (.cells #[.int .i64 ck, .int .i64 wt, .int .i64 gn, .slice A ms.length m, .slice A' os.length m'] 36)).alloc (.cells #[.string s] 9)).alloc (.cells #[.int .i64 0, .int .i64 0, .int .i64 0, .slice none 0 0, .slice none 0 0] 36)) (w.heap.size + 1 + 1) 36 #[.int .i64 0, .int .i64 0, .int .i64 0, .slice none 0 0, .slice none 0 0] := Blk.new_ _ 36 #[.int .i64 0, .int .i64 0, .int .i64 0, .slice none 0 0, .slice none 0 0] (by first | rfl | (simp; done) | (simp; omega))
  have k_g1 := H.out.below hal1
  have hz1 : w.heap.size + 3 ≤ (((w.alloc (.cells #[.int .i64 ck, .int .i64 wt, .int .i64 gn, .slice A ms.length m, .slice A' os.length m'] 36)).alloc (.cells #[.string s] 9)).alloc (.cells #[.int .i64 0, .int .i64 0, .int .i64 0, .slice none 0 0, .slice none 0 0] 36)).heap.size := by first | omega | (simp; done) | (simp; omega)
  generalize ((w.alloc (.cells #[.int .i64 ck, .int .i64 wt, .int .i64 gn, .slice A ms.length m, .slice A' os.length m'] 36)).alloc (.cells #[.string s] 9)).alloc (.cells #[.int .i64 0, .int .i64 0, .int .i64 0, .slice none 0 0, .slice none 0 0] 36) = W1 at *
  have HB1 := Lib.hid hb1
  have B1_bx := Lib.hid b_bx1
  have B1_bs := Lib.hid b_bs1
  have B1_bz := Lib.hid b_bz1
  have K1_g := Lib.hid k_g1
  clear hb1 b_bx1 b_bs1 b_bz1 k_g1
  clear H
  have c_bx0 := B1_bx.out.cell 0
  have c_bx1 := B1_bx.out.cell 1
  have c_bx2 := B1_bx.out.cell 2
  have c_bx3 := B1_bx.out.cell 3
  have c_bx4 := B1_bx.out.cell 4
  have l_bx := B1_bx.out.lt
  have c_bs0 := B1_bs.out.cell 0
  have l_bs := B1_bs.out.lt
  go_wp2_with fail
  clear c_bx0 c_bx1 c_bx2 c_bx3 c_bx4 l_bx c_bs0 l_bs
  refine (groupFault_any _ ⟨ck, wt, gn, ms, os⟩ s n _ K1_g.out HNM.out hs (Or.inl HF.out)).mono ?_
  rintro e W2 ⟨rfl, hb⟩
  have hb2 : Below w.heap.size w W2 := below_then HB1.out hb
  have b_bx2 := B1_bx.out.below hb B1_bx.out.lt
  have b_bs2 := B1_bs.out.below hb B1_bs.out.lt
  have b_bz2 := B1_bz.out.below hb B1_bz.out.lt
  have k_g2 := K1_g.out.below hb
  have hz2 := hb.size
  have HB2 := Lib.hid hb2
  have B2_bx := Lib.hid b_bx2
  have B2_bs := Lib.hid b_bs2
  have B2_bz := Lib.hid b_bz2
  have K2_g := Lib.hid k_g2
  clear hb2 b_bx2 b_bs2 b_bz2 k_g2
  clear B1_bx B1_bs B1_bz HB1 K1_g
  have c_bx0 := B2_bx.out.cell 0
  have c_bx1 := B2_bx.out.cell 1
  have c_bx2 := B2_bx.out.cell 2
  have c_bx3 := B2_bx.out.cell 3
  have c_bx4 := B2_bx.out.cell 4
  have l_bx := B2_bx.out.lt
  have c_bs0 := B2_bs.out.cell 0
  have l_bs := B2_bs.out.lt
  have c_bz0 := B2_bz.out.cell 0
  have f_bz0 := B2_bz.out.frozen 0
  have c_bz1 := B2_bz.out.cell 1
  have f_bz1 := B2_bz.out.frozen 1
  have c_bz2 := B2_bz.out.cell 2
  have f_bz2 := B2_bz.out.frozen 2
  have c_bz3 := B2_bz.out.cell 3
  have f_bz3 := B2_bz.out.frozen 3
  have c_bz4 := B2_bz.out.cell 4
  have f_bz4 := B2_bz.out.frozen 4
  have l_bz := B2_bz.out.lt
  go_wp2_with fail
  clear c_bx0 c_bx1 c_bx2 c_bx3 c_bx4 l_bx c_bs0 l_bs c_bz0 f_bz0 c_bz1 f_bz1 c_bz2 f_bz2 c_bz3 f_bz3 c_bz4 f_bz4 l_bz
  have hszF := HB2.out.size
  have hbF : Below w.heap.size w (((((W2.setCell ⟨w.heap.size + 1 + 1, 0, none⟩ (.int .i64 0)).setCell ⟨w.heap.size + 1 + 1, 1, none⟩ (.int .i64 0)).setCell ⟨w.heap.size + 1 + 1, 2, none⟩ (.int .i64 0)).setCell ⟨w.heap.size + 1 + 1, 3, none⟩ (.slice none 0 0)).setCell ⟨w.heap.size + 1 + 1, 4, none⟩ (.slice none 0 0)) := (((((HB2.out).setCell (by show w.heap.size ≤ w.heap.size + 1 + 1; omega) _).setCell (by show w.heap.size ≤ w.heap.size + 1 + 1; omega) _).setCell (by show w.heap.size ≤ w.heap.size + 1 + 1; omega) _).setCell (by show w.heap.size ≤ w.heap.size + 1 + 1; omega) _).setCell (by show w.heap.size ≤ w.heap.size + 1 + 1; omega) _
  have b_bxF : Blk (((((W2.setCell ⟨w.heap.size + 1 + 1, 0, none⟩ (.int .i64 0)).setCell ⟨w.heap.size + 1 + 1, 1, none⟩ (.int .i64 0)).setCell ⟨w.heap.size + 1 + 1, 2, none⟩ (.int .i64 0)).setCell ⟨w.heap.size + 1 + 1, 3, none⟩ (.slice none 0 0)).setCell ⟨w.heap.size + 1 + 1, 4, none⟩ (.slice none 0 0)) (w.heap.size) 36 #[.int .i64 ck, .int .i64 wt, .int .i64 gn, .slice A ms.length m, .slice A' os.length m'] := (((((B2_bx.out).far (p := ⟨w.heap.size + 1 + 1, 0, none⟩) (by show w.heap.size ≠ w.heap.size + 1 + 1; omega) _).far (p := ⟨w.heap.size + 1 + 1, 1, none⟩) (by show w.heap.size ≠ w.heap.size + 1 + 1; omega) _).far (p := ⟨w.heap.size + 1 + 1, 2, none⟩) (by show w.heap.size ≠ w.heap.size + 1 + 1; omega) _).far (p := ⟨w.heap.size + 1 + 1, 3, none⟩) (by show w.heap.size ≠ w.heap.size + 1 + 1; omega) _).far (p := ⟨w.heap.size + 1 + 1, 4, none⟩) (by show w.heap.size ≠ w.heap.size + 1 + 1; omega) _
  have b_bsF : Blk (((((W2.setCell ⟨w.heap.size + 1 + 1, 0, none⟩ (.int .i64 0)).setCell ⟨w.heap.size + 1 + 1, 1, none⟩ (.int .i64 0)).setCell ⟨w.heap.size + 1 + 1, 2, none⟩ (.int .i64 0)).setCell ⟨w.heap.size + 1 + 1, 3, none⟩ (.slice none 0 0)).setCell ⟨w.heap.size + 1 + 1, 4, none⟩ (.slice none 0 0)) (w.heap.size + 1) 9 #[.string s] := (((((B2_bs.out).far (p := ⟨w.heap.size + 1 + 1, 0, none⟩) (by show w.heap.size + 1 ≠ w.heap.size + 1 + 1; omega) _).far (p := ⟨w.heap.size + 1 + 1, 1, none⟩) (by show w.heap.size + 1 ≠ w.heap.size + 1 + 1; omega) _).far (p := ⟨w.heap.size + 1 + 1, 2, none⟩) (by show w.heap.size + 1 ≠ w.heap.size + 1 + 1; omega) _).far (p := ⟨w.heap.size + 1 + 1, 3, none⟩) (by show w.heap.size + 1 ≠ w.heap.size + 1 + 1; omega) _).far (p := ⟨w.heap.size + 1 + 1, 4, none⟩) (by show w.heap.size + 1 ≠ w.heap.size + 1 + 1; omega) _
  have b_bzF : Blk (((((W2.setCell ⟨w.heap.size + 1 + 1, 0, none⟩ (.int .i64 0)).setCell ⟨w.heap.size + 1 + 1, 1, none⟩ (.int .i64 0)).setCell ⟨w.heap.size + 1 + 1, 2, none⟩ (.int .i64 0)).setCell ⟨w.heap.size + 1 + 1, 3, none⟩ (.slice none 0 0)).setCell ⟨w.heap.size + 1 + 1, 4, none⟩ (.slice none 0 0)) (w.heap.size + 1 + 1) 36 #[.int .i64 0, .int .i64 0, .int .i64 0, .slice none 0 0, .slice none 0 0] := (((((B2_bz.out).set_ 0 _).set_ 1 _).set_ 2 _).set_ 3 _).set_ 4 _
  have y0 := b_bzF.cell 0
  have y1 := b_bzF.cell 1
  have y2 := b_bzF.cell 2
  have y3 := b_bzF.cell 3
  have y4 := b_bzF.cell 4
  exact bodyPost_ret (v := .tuple #[.agg #[.int .i64 0, .int .i64 0, .int .i64 0, .slice none 0 0, .slice none 0 0], .int .i64 n]) (by simp [results, Try.results63, go_sem, y0, y1, y2, y3, y4]) rfl (GRes.zero hbF)
set_option maxRecDepth 100000 in
set_option maxHeartbeats 4000000 in
theorem left_range (v : Value) (g : GroupD) (s : ByteArray) (parts : Int) (hk : GroupOk g) (hn : NameOk s) (hc : ¬ Counted g.gen parts) (w : World) (h : Gv w v g) (hnm : ∀ t ∈ g.mems, t.name.size ≤ 9223372036854775807) (hs : s.size ≤ 9223372036854775807) : Calls Try.prog 63 #[v, .string s, .int .i64 parts] w (GRes zeroG 2 w) := by
  obtain ⟨mv, ov, rfl, hx, hy, hl1, hl2⟩ := id h
  obtain ⟨A, m, rfl, -⟩ := hx.at_
  obtain ⟨A', m', rfl, -⟩ := hy.at_
  have H := Lib.hid h
  have HX := Lib.hid hx
  have HY := Lib.hid hy
  clear h hx hy
  unfold groupV at *
  obtain ⟨ck, wt, gn, ms, os⟩ := g
  simp only at *
  have HCT := Lib.hid hc
  clear hc
  have HK := Lib.hid hk
  have HN := Lib.hid hn
  have HNM := Lib.hid hnm
  clear hk hn hnm
  go_enter Try.func63, Try.ntmps63
  go_wp2_with fail
  have hb1 : Below w.heap.size w (((w.alloc (.cells #[.int .i64 ck, .int .i64 wt, .int .i64 gn, .slice A ms.length m, .slice A' os.length m'] 36)).alloc (.cells #[.string s] 9)).alloc (.cells #[.int .i64 0, .int .i64 0, .int .i64 0, .slice none 0 0, .slice none 0 0] 36)) := (((Below.refl _ _).alloc (by first | omega | (simp; done) | (simp; omega)) _).alloc (by first | omega | (simp; done) | (simp; omega)) _).alloc (by first | omega | (simp; done) | (simp; omega)) _
  have hal1 : Below w.heap.size w (((w.alloc (.cells #[.int .i64 ck, .int .i64 wt, .int .i64 gn, .slice A ms.length m, .slice A' os.length m'] 36)).alloc (.cells #[.string s] 9)).alloc (.cells #[.int .i64 0, .int .i64 0, .int .i64 0, .slice none 0 0, .slice none 0 0] 36)) := (((Below.refl _ _).alloc (by first | omega | (simp; done) | (simp; omega)) _).alloc (by first | omega | (simp; done) | (simp; omega)) _).alloc (by first | omega | (simp; done) | (simp; omega)) _
  have b_bx1 : Blk (((w.alloc (.cells #[.int .i64 ck, .int .i64 wt, .int .i64 gn, .slice A ms.length m, .slice A' os.length m'] 36)).alloc (.cells #[.string s] 9)).alloc (.cells #[.int .i64 0, .int .i64 0, .int .i64 0, .slice none 0 0, .slice none 0 0] 36)) (w.heap.size) 36 #[.int .i64 ck, .int .i64 wt, .int .i64 gn, .slice A ms.length m, .slice A' os.length m'] := ((Blk.new_ _ 36 #[.int .i64 ck, .int .i64 wt, .int .i64 gn, .slice A ms.length m, .slice A' os.length m'] (by first | rfl | (simp; done) | (simp; omega))).alloc _).alloc _
  have b_bs1 : Blk (((w.alloc (.cells #[.int .i64 ck, .int .i64 wt, .int .i64 gn, .slice A ms.length m, .slice A' os.length m'] 36)).alloc (.cells #[.string s] 9)).alloc (.cells #[.int .i64 0, .int .i64 0, .int .i64 0, .slice none 0 0, .slice none 0 0] 36)) (w.heap.size + 1) 9 #[.string s] := (Blk.new_ _ 9 #[.string s] (by first | rfl | (simp; done) | (simp; omega))).alloc _
  have b_bz1 : Blk (((w.alloc (.cells #[.int .i64 ck, .int .i64 wt, .int .i64 gn, .slice A ms.length m, .slice A' os.length m'] 36)).alloc (.cells #[.string s] 9)).alloc (.cells #[.int .i64 0, .int .i64 0, .int .i64 0, .slice none 0 0, .slice none 0 0] 36)) (w.heap.size + 1 + 1) 36 #[.int .i64 0, .int .i64 0, .int .i64 0, .slice none 0 0, .slice none 0 0] := Blk.new_ _ 36 #[.int .i64 0, .int .i64 0, .int .i64 0, .slice none 0 0, .slice none 0 0] (by first | rfl | (simp; done) | (simp; omega))
  have k_g1 := H.out.below hal1
  have hz1 : w.heap.size + 3 ≤ (((w.alloc (.cells #[.int .i64 ck, .int .i64 wt, .int .i64 gn, .slice A ms.length m, .slice A' os.length m'] 36)).alloc (.cells #[.string s] 9)).alloc (.cells #[.int .i64 0, .int .i64 0, .int .i64 0, .slice none 0 0, .slice none 0 0] 36)).heap.size := by first | omega | (simp; done) | (simp; omega)
  generalize ((w.alloc (.cells #[.int .i64 ck, .int .i64 wt, .int .i64 gn, .slice A ms.length m, .slice A' os.length m'] 36)).alloc (.cells #[.string s] 9)).alloc (.cells #[.int .i64 0, .int .i64 0, .int .i64 0, .slice none 0 0, .slice none 0 0] 36) = W1 at *
  have HB1 := Lib.hid hb1
  have B1_bx := Lib.hid b_bx1
  have B1_bs := Lib.hid b_bs1
  have B1_bz := Lib.hid b_bz1
  have K1_g := Lib.hid k_g1
  clear hb1 b_bx1 b_bs1 b_bz1 k_g1
  clear H
  have c_bx0 := B1_bx.out.cell 0
  have c_bx1 := B1_bx.out.cell 1
  have c_bx2 := B1_bx.out.cell 2
  have c_bx3 := B1_bx.out.cell 3
  have c_bx4 := B1_bx.out.cell 4
  have l_bx := B1_bx.out.lt
  have c_bs0 := B1_bs.out.cell 0
  have l_bs := B1_bs.out.lt
  go_wp2_with fail
  clear c_bx0 c_bx1 c_bx2 c_bx3 c_bx4 l_bx c_bs0 l_bs
  refine (groupFault_any _ ⟨ck, wt, gn, ms, os⟩ s 0 _ K1_g.out HNM.out hs (Or.inr ⟨HK.out, HN.out, rfl⟩)).mono ?_
  rintro e W2 ⟨rfl, hb⟩
  have hb2 : Below w.heap.size w W2 := below_then HB1.out hb
  have b_bx2 := B1_bx.out.below hb B1_bx.out.lt
  have b_bs2 := B1_bs.out.below hb B1_bs.out.lt
  have b_bz2 := B1_bz.out.below hb B1_bz.out.lt
  have k_g2 := K1_g.out.below hb
  have hz2 := hb.size
  have HB2 := Lib.hid hb2
  have B2_bx := Lib.hid b_bx2
  have B2_bs := Lib.hid b_bs2
  have B2_bz := Lib.hid b_bz2
  have K2_g := Lib.hid k_g2
  clear hb2 b_bx2 b_bs2 b_bz2 k_g2
  clear B1_bx B1_bs B1_bz HB1 K1_g
  have c_bx0 := B2_bx.out.cell 0
  have c_bx1 := B2_bx.out.cell 1
  have c_bx2 := B2_bx.out.cell 2
  have c_bx3 := B2_bx.out.cell 3
  have c_bx4 := B2_bx.out.cell 4
  have l_bx := B2_bx.out.lt
  have c_bs0 := B2_bs.out.cell 0
  have l_bs := B2_bs.out.lt
  go_wp2_with fail
  clear c_bx0 c_bx1 c_bx2 c_bx3 c_bx4 l_bx c_bs0 l_bs
  refine (partsMay_any ck wt gn parts _ _ _ _ _ _ _).mono ?_
  rintro e W3 hT
  obtain ⟨rfl, hb⟩ := hT.no HCT.out
  clear hT
  have hb3 : Below w.heap.size w W3 := below_then HB2.out hb
  have b_bx3 := B2_bx.out.below hb B2_bx.out.lt
  have b_bs3 := B2_bs.out.below hb B2_bs.out.lt
  have b_bz3 := B2_bz.out.below hb B2_bz.out.lt
  have k_g3 := K2_g.out.below hb
  have hz3 := hb.size
  have HB3 := Lib.hid hb3
  have B3_bx := Lib.hid b_bx3
  have B3_bs := Lib.hid b_bs3
  have B3_bz := Lib.hid b_bz3
  have K3_g := Lib.hid k_g3
  clear hb3 b_bx3 b_bs3 b_bz3 k_g3
  clear B2_bx B2_bs B2_bz HB2 K2_g
  have c_bx0 := B3_bx.out.cell 0
  have c_bx1 := B3_bx.out.cell 1
  have c_bx2 := B3_bx.out.cell 2
  have c_bx3 := B3_bx.out.cell 3
  have c_bx4 := B3_bx.out.cell 4
  have l_bx := B3_bx.out.lt
  have c_bs0 := B3_bs.out.cell 0
  have l_bs := B3_bs.out.lt
  have c_bz0 := B3_bz.out.cell 0
  have f_bz0 := B3_bz.out.frozen 0
  have c_bz1 := B3_bz.out.cell 1
  have f_bz1 := B3_bz.out.frozen 1
  have c_bz2 := B3_bz.out.cell 2
  have f_bz2 := B3_bz.out.frozen 2
  have c_bz3 := B3_bz.out.cell 3
  have f_bz3 := B3_bz.out.frozen 3
  have c_bz4 := B3_bz.out.cell 4
  have f_bz4 := B3_bz.out.frozen 4
  have l_bz := B3_bz.out.lt
  go_wp2_with fail
  clear c_bx0 c_bx1 c_bx2 c_bx3 c_bx4 l_bx c_bs0 l_bs c_bz0 f_bz0 c_bz1 f_bz1 c_bz2 f_bz2 c_bz3 f_bz3 c_bz4 f_bz4 l_bz
  have hszF := HB3.out.size
  have hbF : Below w.heap.size w (((((W3.setCell ⟨w.heap.size + 1 + 1, 0, none⟩ (.int .i64 0)).setCell ⟨w.heap.size + 1 + 1, 1, none⟩ (.int .i64 0)).setCell ⟨w.heap.size + 1 + 1, 2, none⟩ (.int .i64 0)).setCell ⟨w.heap.size + 1 + 1, 3, none⟩ (.slice none 0 0)).setCell ⟨w.heap.size + 1 + 1, 4, none⟩ (.slice none 0 0)) := (((((HB3.out).setCell (by show w.heap.size ≤ w.heap.size + 1 + 1; omega) _).setCell (by show w.heap.size ≤ w.heap.size + 1 + 1; omega) _).setCell (by show w.heap.size ≤ w.heap.size + 1 + 1; omega) _).setCell (by show w.heap.size ≤ w.heap.size + 1 + 1; omega) _).setCell (by show w.heap.size ≤ w.heap.size + 1 + 1; omega) _
  have b_bxF : Blk (((((W3.setCell ⟨w.heap.size + 1 + 1, 0, none⟩ (.int .i64 0)).setCell ⟨w.heap.size + 1 + 1, 1, none⟩ (.int .i64 0)).setCell ⟨w.heap.size + 1 + 1, 2, none⟩ (.int .i64 0)).setCell ⟨w.heap.size + 1 + 1, 3, none⟩ (.slice none 0 0)).setCell ⟨w.heap.size + 1 + 1, 4, none⟩ (.slice none 0 0)) (w.heap.size) 36 #[.int .i64 ck, .int .i64 wt, .int .i64 gn, .slice A ms.length m, .slice A' os.length m'] := (((((B3_bx.out).far (p := ⟨w.heap.size + 1 + 1, 0, none⟩) (by show w.heap.size ≠ w.heap.size + 1 + 1; omega) _).far (p := ⟨w.heap.size + 1 + 1, 1, none⟩) (by show w.heap.size ≠ w.heap.size + 1 + 1; omega) _).far (p := ⟨w.heap.size + 1 + 1, 2, none⟩) (by show w.heap.size ≠ w.heap.size + 1 + 1; omega) _).far (p := ⟨w.heap.size + 1 + 1, 3, none⟩) (by show w.heap.size ≠ w.heap.size + 1 + 1; omega) _).far (p := ⟨w.heap.size + 1 + 1, 4, none⟩) (by show w.heap.size ≠ w.heap.size + 1 + 1; omega) _
  have b_bsF : Blk (((((W3.setCell ⟨w.heap.size + 1 + 1, 0, none⟩ (.int .i64 0)).setCell ⟨w.heap.size + 1 + 1, 1, none⟩ (.int .i64 0)).setCell ⟨w.heap.size + 1 + 1, 2, none⟩ (.int .i64 0)).setCell ⟨w.heap.size + 1 + 1, 3, none⟩ (.slice none 0 0)).setCell ⟨w.heap.size + 1 + 1, 4, none⟩ (.slice none 0 0)) (w.heap.size + 1) 9 #[.string s] := (((((B3_bs.out).far (p := ⟨w.heap.size + 1 + 1, 0, none⟩) (by show w.heap.size + 1 ≠ w.heap.size + 1 + 1; omega) _).far (p := ⟨w.heap.size + 1 + 1, 1, none⟩) (by show w.heap.size + 1 ≠ w.heap.size + 1 + 1; omega) _).far (p := ⟨w.heap.size + 1 + 1, 2, none⟩) (by show w.heap.size + 1 ≠ w.heap.size + 1 + 1; omega) _).far (p := ⟨w.heap.size + 1 + 1, 3, none⟩) (by show w.heap.size + 1 ≠ w.heap.size + 1 + 1; omega) _).far (p := ⟨w.heap.size + 1 + 1, 4, none⟩) (by show w.heap.size + 1 ≠ w.heap.size + 1 + 1; omega) _
  have b_bzF : Blk (((((W3.setCell ⟨w.heap.size + 1 + 1, 0, none⟩ (.int .i64 0)).setCell ⟨w.heap.size + 1 + 1, 1, none⟩ (.int .i64 0)).setCell ⟨w.heap.size + 1 + 1, 2, none⟩ (.int .i64 0)).setCell ⟨w.heap.size + 1 + 1, 3, none⟩ (.slice none 0 0)).setCell ⟨w.heap.size + 1 + 1, 4, none⟩ (.slice none 0 0)) (w.heap.size + 1 + 1) 36 #[.int .i64 0, .int .i64 0, .int .i64 0, .slice none 0 0, .slice none 0 0] := (((((B3_bz.out).set_ 0 _).set_ 1 _).set_ 2 _).set_ 3 _).set_ 4 _
  have y0 := b_bzF.cell 0
  have y1 := b_bzF.cell 1
  have y2 := b_bzF.cell 2
  have y3 := b_bzF.cell 3
  have y4 := b_bzF.cell 4
  exact bodyPost_ret (v := .tuple #[.agg #[.int .i64 0, .int .i64 0, .int .i64 0, .slice none 0 0, .slice none 0 0], .int .i64 2]) (by simp [results, Try.results63, go_sem, y0, y1, y2, y3, y4]) rfl (GRes.zero hbF)
set_option maxRecDepth 100000 in
set_option maxHeartbeats 4000000 in
theorem left_none (v : Value) (g : GroupD) (s : ByteArray) (parts : Int) (hk : GroupOk g) (hn : NameOk s) (hc : Counted g.gen parts) (hi : idxM g.mems s = none) (w : World) (h : Gv w v g) (hnm : ∀ t ∈ g.mems, t.name.size ≤ 9223372036854775807) (hs : s.size ≤ 9223372036854775807) : Calls Try.prog 63 #[v, .string s, .int .i64 parts] w (GRes zeroG 5 w) := by
  obtain ⟨mv, ov, rfl, hx, hy, hl1, hl2⟩ := id h
  obtain ⟨A, m, rfl, -⟩ := hx.at_
  obtain ⟨A', m', rfl, -⟩ := hy.at_
  have H := Lib.hid h
  have HX := Lib.hid hx
  have HY := Lib.hid hy
  clear h hx hy
  unfold groupV at *
  obtain ⟨ck, wt, gn, ms, os⟩ := g
  simp only at *
  have hix : ixM ms s = -1 := by simp [ixM, hi]
  have HI := Lib.hid hix
  clear hix
  have HCT := Lib.hid hc
  clear hc hi
  have HK := Lib.hid hk
  have HN := Lib.hid hn
  have HNM := Lib.hid hnm
  clear hk hn hnm
  go_enter Try.func63, Try.ntmps63
  go_wp2_with fail
  have hb1 : Below w.heap.size w (((w.alloc (.cells #[.int .i64 ck, .int .i64 wt, .int .i64 gn, .slice A ms.length m, .slice A' os.length m'] 36)).alloc (.cells #[.string s] 9)).alloc (.cells #[.int .i64 0, .int .i64 0, .int .i64 0, .slice none 0 0, .slice none 0 0] 36)) := (((Below.refl _ _).alloc (by first | omega | (simp; done) | (simp; omega)) _).alloc (by first | omega | (simp; done) | (simp; omega)) _).alloc (by first | omega | (simp; done) | (simp; omega)) _
  have hal1 : Below w.heap.size w (((w.alloc (.cells #[.int .i64 ck, .int .i64 wt, .int .i64 gn, .slice A ms.length m, .slice A' os.length m'] 36)).alloc (.cells #[.string s] 9)).alloc (.cells #[.int .i64 0, .int .i64 0, .int .i64 0, .slice none 0 0, .slice none 0 0] 36)) := (((Below.refl _ _).alloc (by first | omega | (simp; done) | (simp; omega)) _).alloc (by first | omega | (simp; done) | (simp; omega)) _).alloc (by first | omega | (simp; done) | (simp; omega)) _
  have b_bx1 : Blk (((w.alloc (.cells #[.int .i64 ck, .int .i64 wt, .int .i64 gn, .slice A ms.length m, .slice A' os.length m'] 36)).alloc (.cells #[.string s] 9)).alloc (.cells #[.int .i64 0, .int .i64 0, .int .i64 0, .slice none 0 0, .slice none 0 0] 36)) (w.heap.size) 36 #[.int .i64 ck, .int .i64 wt, .int .i64 gn, .slice A ms.length m, .slice A' os.length m'] := ((Blk.new_ _ 36 #[.int .i64 ck, .int .i64 wt, .int .i64 gn, .slice A ms.length m, .slice A' os.length m'] (by first | rfl | (simp; done) | (simp; omega))).alloc _).alloc _
  have b_bs1 : Blk (((w.alloc (.cells #[.int .i64 ck, .int .i64 wt, .int .i64 gn, .slice A ms.length m, .slice A' os.length m'] 36)).alloc (.cells #[.string s] 9)).alloc (.cells #[.int .i64 0, .int .i64 0, .int .i64 0, .slice none 0 0, .slice none 0 0] 36)) (w.heap.size + 1) 9 #[.string s] := (Blk.new_ _ 9 #[.string s] (by first | rfl | (simp; done) | (simp; omega))).alloc _
  have b_bz1 : Blk (((w.alloc (.cells #[.int .i64 ck, .int .i64 wt, .int .i64 gn, .slice A ms.length m, .slice A' os.length m'] 36)).alloc (.cells #[.string s] 9)).alloc (.cells #[.int .i64 0, .int .i64 0, .int .i64 0, .slice none 0 0, .slice none 0 0] 36)) (w.heap.size + 1 + 1) 36 #[.int .i64 0, .int .i64 0, .int .i64 0, .slice none 0 0, .slice none 0 0] := Blk.new_ _ 36 #[.int .i64 0, .int .i64 0, .int .i64 0, .slice none 0 0, .slice none 0 0] (by first | rfl | (simp; done) | (simp; omega))
  have k_g1 := H.out.below hal1
  have hz1 : w.heap.size + 3 ≤ (((w.alloc (.cells #[.int .i64 ck, .int .i64 wt, .int .i64 gn, .slice A ms.length m, .slice A' os.length m'] 36)).alloc (.cells #[.string s] 9)).alloc (.cells #[.int .i64 0, .int .i64 0, .int .i64 0, .slice none 0 0, .slice none 0 0] 36)).heap.size := by first | omega | (simp; done) | (simp; omega)
  generalize ((w.alloc (.cells #[.int .i64 ck, .int .i64 wt, .int .i64 gn, .slice A ms.length m, .slice A' os.length m'] 36)).alloc (.cells #[.string s] 9)).alloc (.cells #[.int .i64 0, .int .i64 0, .int .i64 0, .slice none 0 0, .slice none 0 0] 36) = W1 at *
  have HB1 := Lib.hid hb1
  have B1_bx := Lib.hid b_bx1
  have B1_bs := Lib.hid b_bs1
  have B1_bz := Lib.hid b_bz1
  have K1_g := Lib.hid k_g1
  clear hb1 b_bx1 b_bs1 b_bz1 k_g1
  clear H
  have c_bx0 := B1_bx.out.cell 0
  have c_bx1 := B1_bx.out.cell 1
  have c_bx2 := B1_bx.out.cell 2
  have c_bx3 := B1_bx.out.cell 3
  have c_bx4 := B1_bx.out.cell 4
  have l_bx := B1_bx.out.lt
  have c_bs0 := B1_bs.out.cell 0
  have l_bs := B1_bs.out.lt
  go_wp2_with fail
  clear c_bx0 c_bx1 c_bx2 c_bx3 c_bx4 l_bx c_bs0 l_bs
  refine (groupFault_any _ ⟨ck, wt, gn, ms, os⟩ s 0 _ K1_g.out HNM.out hs (Or.inr ⟨HK.out, HN.out, rfl⟩)).mono ?_
  rintro e W2 ⟨rfl, hb⟩
  have hb2 : Below w.heap.size w W2 := below_then HB1.out hb
  have b_bx2 := B1_bx.out.below hb B1_bx.out.lt
  have b_bs2 := B1_bs.out.below hb B1_bs.out.lt
  have b_bz2 := B1_bz.out.below hb B1_bz.out.lt
  have k_g2 := K1_g.out.below hb
  have hz2 := hb.size
  have HB2 := Lib.hid hb2
  have B2_bx := Lib.hid b_bx2
  have B2_bs := Lib.hid b_bs2
  have B2_bz := Lib.hid b_bz2
  have K2_g := Lib.hid k_g2
  clear hb2 b_bx2 b_bs2 b_bz2 k_g2
  clear B1_bx B1_bs B1_bz HB1 K1_g
  have c_bx0 := B2_bx.out.cell 0
  have c_bx1 := B2_bx.out.cell 1
  have c_bx2 := B2_bx.out.cell 2
  have c_bx3 := B2_bx.out.cell 3
  have c_bx4 := B2_bx.out.cell 4
  have l_bx := B2_bx.out.lt
  have c_bs0 := B2_bs.out.cell 0
  have l_bs := B2_bs.out.lt
  go_wp2_with fail
  clear c_bx0 c_bx1 c_bx2 c_bx3 c_bx4 l_bx c_bs0 l_bs
  refine (partsMay_any ck wt gn parts _ _ _ _ _ _ _).mono ?_
  rintro e W3 hT
  obtain ⟨rfl, hb⟩ := hT.yes HCT.out
  clear hT
  have hb3 : Below w.heap.size w W3 := below_then HB2.out hb
  have b_bx3 := B2_bx.out.below hb B2_bx.out.lt
  have b_bs3 := B2_bs.out.below hb B2_bs.out.lt
  have b_bz3 := B2_bz.out.below hb B2_bz.out.lt
  have k_g3 := K2_g.out.below hb
  have hz3 := hb.size
  have HB3 := Lib.hid hb3
  have B3_bx := Lib.hid b_bx3
  have B3_bs := Lib.hid b_bs3
  have B3_bz := Lib.hid b_bz3
  have K3_g := Lib.hid k_g3
  clear hb3 b_bx3 b_bs3 b_bz3 k_g3
  clear B2_bx B2_bs B2_bz HB2 K2_g
  have c_bx0 := B3_bx.out.cell 0
  have c_bx1 := B3_bx.out.cell 1
  have c_bx2 := B3_bx.out.cell 2
  have c_bx3 := B3_bx.out.cell 3
  have c_bx4 := B3_bx.out.cell 4
  have l_bx := B3_bx.out.lt
  have c_bs0 := B3_bs.out.cell 0
  have l_bs := B3_bs.out.lt
  go_wp2_with fail
  clear c_bx0 c_bx1 c_bx2 c_bx3 c_bx4 l_bx c_bs0 l_bs
  refine (memberOf_any _ ⟨ck, wt, gn, ms, os⟩ s _ K3_g.out).mono ?_
  rintro e W4 ⟨rfl, hb⟩
  simp only
  rw [HI.out]
  have hb4 : Below w.heap.size w W4 := below_then HB3.out hb
  have b_bx4 := B3_bx.out.below hb B3_bx.out.lt
  have b_bs4 := B3_bs.out.below hb B3_bs.out.lt
  have b_bz4 := B3_bz.out.below hb B3_bz.out.lt
  have k_g4 := K3_g.out.below hb
  have hz4 := hb.size
  have HB4 := Lib.hid hb4
  have B4_bx := Lib.hid b_bx4
  have B4_bs := Lib.hid b_bs4
  have B4_bz := Lib.hid b_bz4
  have K4_g := Lib.hid k_g4
  clear hb4 b_bx4 b_bs4 b_bz4 k_g4
  clear B3_bx B3_bs B3_bz HB3 K3_g
  have c_bx0 := B4_bx.out.cell 0
  have c_bx1 := B4_bx.out.cell 1
  have c_bx2 := B4_bx.out.cell 2
  have c_bx3 := B4_bx.out.cell 3
  have c_bx4 := B4_bx.out.cell 4
  have l_bx := B4_bx.out.lt
  have c_bs0 := B4_bs.out.cell 0
  have l_bs := B4_bs.out.lt
  have c_bz0 := B4_bz.out.cell 0
  have f_bz0 := B4_bz.out.frozen 0
  have c_bz1 := B4_bz.out.cell 1
  have f_bz1 := B4_bz.out.frozen 1
  have c_bz2 := B4_bz.out.cell 2
  have f_bz2 := B4_bz.out.frozen 2
  have c_bz3 := B4_bz.out.cell 3
  have f_bz3 := B4_bz.out.frozen 3
  have c_bz4 := B4_bz.out.cell 4
  have f_bz4 := B4_bz.out.frozen 4
  have l_bz := B4_bz.out.lt
  go_wp2_with fail
  clear c_bx0 c_bx1 c_bx2 c_bx3 c_bx4 l_bx c_bs0 l_bs c_bz0 f_bz0 c_bz1 f_bz1 c_bz2 f_bz2 c_bz3 f_bz3 c_bz4 f_bz4 l_bz
  have hszF := HB4.out.size
  have hbF : Below w.heap.size w (((((W4.setCell ⟨w.heap.size + 1 + 1, 0, none⟩ (.int .i64 0)).setCell ⟨w.heap.size + 1 + 1, 1, none⟩ (.int .i64 0)).setCell ⟨w.heap.size + 1 + 1, 2, none⟩ (.int .i64 0)).setCell ⟨w.heap.size + 1 + 1, 3, none⟩ (.slice none 0 0)).setCell ⟨w.heap.size + 1 + 1, 4, none⟩ (.slice none 0 0)) := (((((HB4.out).setCell (by show w.heap.size ≤ w.heap.size + 1 + 1; omega) _).setCell (by show w.heap.size ≤ w.heap.size + 1 + 1; omega) _).setCell (by show w.heap.size ≤ w.heap.size + 1 + 1; omega) _).setCell (by show w.heap.size ≤ w.heap.size + 1 + 1; omega) _).setCell (by show w.heap.size ≤ w.heap.size + 1 + 1; omega) _
  have b_bxF : Blk (((((W4.setCell ⟨w.heap.size + 1 + 1, 0, none⟩ (.int .i64 0)).setCell ⟨w.heap.size + 1 + 1, 1, none⟩ (.int .i64 0)).setCell ⟨w.heap.size + 1 + 1, 2, none⟩ (.int .i64 0)).setCell ⟨w.heap.size + 1 + 1, 3, none⟩ (.slice none 0 0)).setCell ⟨w.heap.size + 1 + 1, 4, none⟩ (.slice none 0 0)) (w.heap.size) 36 #[.int .i64 ck, .int .i64 wt, .int .i64 gn, .slice A ms.length m, .slice A' os.length m'] := (((((B4_bx.out).far (p := ⟨w.heap.size + 1 + 1, 0, none⟩) (by show w.heap.size ≠ w.heap.size + 1 + 1; omega) _).far (p := ⟨w.heap.size + 1 + 1, 1, none⟩) (by show w.heap.size ≠ w.heap.size + 1 + 1; omega) _).far (p := ⟨w.heap.size + 1 + 1, 2, none⟩) (by show w.heap.size ≠ w.heap.size + 1 + 1; omega) _).far (p := ⟨w.heap.size + 1 + 1, 3, none⟩) (by show w.heap.size ≠ w.heap.size + 1 + 1; omega) _).far (p := ⟨w.heap.size + 1 + 1, 4, none⟩) (by show w.heap.size ≠ w.heap.size + 1 + 1; omega) _
  have b_bsF : Blk (((((W4.setCell ⟨w.heap.size + 1 + 1, 0, none⟩ (.int .i64 0)).setCell ⟨w.heap.size + 1 + 1, 1, none⟩ (.int .i64 0)).setCell ⟨w.heap.size + 1 + 1, 2, none⟩ (.int .i64 0)).setCell ⟨w.heap.size + 1 + 1, 3, none⟩ (.slice none 0 0)).setCell ⟨w.heap.size + 1 + 1, 4, none⟩ (.slice none 0 0)) (w.heap.size + 1) 9 #[.string s] := (((((B4_bs.out).far (p := ⟨w.heap.size + 1 + 1, 0, none⟩) (by show w.heap.size + 1 ≠ w.heap.size + 1 + 1; omega) _).far (p := ⟨w.heap.size + 1 + 1, 1, none⟩) (by show w.heap.size + 1 ≠ w.heap.size + 1 + 1; omega) _).far (p := ⟨w.heap.size + 1 + 1, 2, none⟩) (by show w.heap.size + 1 ≠ w.heap.size + 1 + 1; omega) _).far (p := ⟨w.heap.size + 1 + 1, 3, none⟩) (by show w.heap.size + 1 ≠ w.heap.size + 1 + 1; omega) _).far (p := ⟨w.heap.size + 1 + 1, 4, none⟩) (by show w.heap.size + 1 ≠ w.heap.size + 1 + 1; omega) _
  have b_bzF : Blk (((((W4.setCell ⟨w.heap.size + 1 + 1, 0, none⟩ (.int .i64 0)).setCell ⟨w.heap.size + 1 + 1, 1, none⟩ (.int .i64 0)).setCell ⟨w.heap.size + 1 + 1, 2, none⟩ (.int .i64 0)).setCell ⟨w.heap.size + 1 + 1, 3, none⟩ (.slice none 0 0)).setCell ⟨w.heap.size + 1 + 1, 4, none⟩ (.slice none 0 0)) (w.heap.size + 1 + 1) 36 #[.int .i64 0, .int .i64 0, .int .i64 0, .slice none 0 0, .slice none 0 0] := (((((B4_bz.out).set_ 0 _).set_ 1 _).set_ 2 _).set_ 3 _).set_ 4 _
  have y0 := b_bzF.cell 0
  have y1 := b_bzF.cell 1
  have y2 := b_bzF.cell 2
  have y3 := b_bzF.cell 3
  have y4 := b_bzF.cell 4
  exact bodyPost_ret (v := .tuple #[.agg #[.int .i64 0, .int .i64 0, .int .i64 0, .slice none 0 0, .slice none 0 0], .int .i64 5]) (by simp [results, Try.results63, go_sem, y0, y1, y2, y3, y4]) rfl (GRes.zero hbF)
set_option maxRecDepth 100000 in
set_option maxHeartbeats 4000000 in
theorem left_good (v : Value) (g : GroupD) (s : ByteArray) (parts : Int) (hk : GroupOk g) (hn : NameOk s) (hc : Counted g.gen parts) (i : Nat) (hi : idxM g.mems s = some i) (hl : i < g.mems.length) (w : World) (h : Gv w v g) (hnm : ∀ t ∈ g.mems, t.name.size ≤ 9223372036854775807) (hs : s.size ≤ 9223372036854775807) : Calls Try.prog 63 #[v, .string s, .int .i64 parts] w (GRes (nextG g (g.mems.eraseIdx i) parts) 0 w) := by
  obtain ⟨mv, ov, rfl, hx, hy, hl1, hl2⟩ := id h
  obtain ⟨A, m, rfl, -⟩ := hx.at_
  obtain ⟨A', m', rfl, -⟩ := hy.at_
  have H := Lib.hid h
  have HX := Lib.hid hx
  have HY := Lib.hid hy
  clear h hx hy
  unfold groupV at *
  obtain ⟨ck, wt, gn, ms, os⟩ := g
  simp only at *
  have hix : ixM ms s = i := (ixM_some hi).2
  have HI := Lib.hid hix
  have HCT := Lib.hid hc
  have hke := kept_erase hk hi
  simp only at hke
  have HKE := Lib.hid hke
  have HGN := Lib.hid (show 0 ≤ gn ∧ gn ≤ 1073741824 from hk.gen)
  have HL6 := Lib.hid (show ms.length ≤ 6 from hk.many)
  have i0 : decide ((i : Int) < 0) = false := decide_eq_false (by omega)
  clear hc hix hi hke hl
  have HK := Lib.hid hk
  have HN := Lib.hid hn
  have HNM := Lib.hid hnm
  clear hk hn hnm
  go_enter Try.func63, Try.ntmps63
  go_wp2_with fail
  have hb1 : Below w.heap.size w (((w.alloc (.cells #[.int .i64 ck, .int .i64 wt, .int .i64 gn, .slice A ms.length m, .slice A' os.length m'] 36)).alloc (.cells #[.string s] 9)).alloc (.cells #[.int .i64 0, .int .i64 0, .int .i64 0, .slice none 0 0, .slice none 0 0] 36)) := (((Below.refl _ _).alloc (by first | omega | (simp; done) | (simp; omega)) _).alloc (by first | omega | (simp; done) | (simp; omega)) _).alloc (by first | omega | (simp; done) | (simp; omega)) _
  have hal1 : Below w.heap.size w (((w.alloc (.cells #[.int .i64 ck, .int .i64 wt, .int .i64 gn, .slice A ms.length m, .slice A' os.length m'] 36)).alloc (.cells #[.string s] 9)).alloc (.cells #[.int .i64 0, .int .i64 0, .int .i64 0, .slice none 0 0, .slice none 0 0] 36)) := (((Below.refl _ _).alloc (by first | omega | (simp; done) | (simp; omega)) _).alloc (by first | omega | (simp; done) | (simp; omega)) _).alloc (by first | omega | (simp; done) | (simp; omega)) _
  have b_bx1 : Blk (((w.alloc (.cells #[.int .i64 ck, .int .i64 wt, .int .i64 gn, .slice A ms.length m, .slice A' os.length m'] 36)).alloc (.cells #[.string s] 9)).alloc (.cells #[.int .i64 0, .int .i64 0, .int .i64 0, .slice none 0 0, .slice none 0 0] 36)) (w.heap.size) 36 #[.int .i64 ck, .int .i64 wt, .int .i64 gn, .slice A ms.length m, .slice A' os.length m'] := ((Blk.new_ _ 36 #[.int .i64 ck, .int .i64 wt, .int .i64 gn, .slice A ms.length m, .slice A' os.length m'] (by first | rfl | (simp; done) | (simp; omega))).alloc _).alloc _
  have b_bs1 : Blk (((w.alloc (.cells #[.int .i64 ck, .int .i64 wt, .int .i64 gn, .slice A ms.length m, .slice A' os.length m'] 36)).alloc (.cells #[.string s] 9)).alloc (.cells #[.int .i64 0, .int .i64 0, .int .i64 0, .slice none 0 0, .slice none 0 0] 36)) (w.heap.size + 1) 9 #[.string s] := (Blk.new_ _ 9 #[.string s] (by first | rfl | (simp; done) | (simp; omega))).alloc _
  have b_bz1 : Blk (((w.alloc (.cells #[.int .i64 ck, .int .i64 wt, .int .i64 gn, .slice A ms.length m, .slice A' os.length m'] 36)).alloc (.cells #[.string s] 9)).alloc (.cells #[.int .i64 0, .int .i64 0, .int .i64 0, .slice none 0 0, .slice none 0 0] 36)) (w.heap.size + 1 + 1) 36 #[.int .i64 0, .int .i64 0, .int .i64 0, .slice none 0 0, .slice none 0 0] := Blk.new_ _ 36 #[.int .i64 0, .int .i64 0, .int .i64 0, .slice none 0 0, .slice none 0 0] (by first | rfl | (simp; done) | (simp; omega))
  have k_g1 := H.out.below hal1
  have hz1 : w.heap.size + 3 ≤ (((w.alloc (.cells #[.int .i64 ck, .int .i64 wt, .int .i64 gn, .slice A ms.length m, .slice A' os.length m'] 36)).alloc (.cells #[.string s] 9)).alloc (.cells #[.int .i64 0, .int .i64 0, .int .i64 0, .slice none 0 0, .slice none 0 0] 36)).heap.size := by first | omega | (simp; done) | (simp; omega)
  generalize ((w.alloc (.cells #[.int .i64 ck, .int .i64 wt, .int .i64 gn, .slice A ms.length m, .slice A' os.length m'] 36)).alloc (.cells #[.string s] 9)).alloc (.cells #[.int .i64 0, .int .i64 0, .int .i64 0, .slice none 0 0, .slice none 0 0] 36) = W1 at *
  have HB1 := Lib.hid hb1
  have B1_bx := Lib.hid b_bx1
  have B1_bs := Lib.hid b_bs1
  have B1_bz := Lib.hid b_bz1
  have K1_g := Lib.hid k_g1
  clear hb1 b_bx1 b_bs1 b_bz1 k_g1
  clear H
  have c_bx0 := B1_bx.out.cell 0
  have c_bx1 := B1_bx.out.cell 1
  have c_bx2 := B1_bx.out.cell 2
  have c_bx3 := B1_bx.out.cell 3
  have c_bx4 := B1_bx.out.cell 4
  have l_bx := B1_bx.out.lt
  have c_bs0 := B1_bs.out.cell 0
  have l_bs := B1_bs.out.lt
  go_wp2_with fail
  clear c_bx0 c_bx1 c_bx2 c_bx3 c_bx4 l_bx c_bs0 l_bs
  refine (groupFault_any _ ⟨ck, wt, gn, ms, os⟩ s 0 _ K1_g.out HNM.out hs (Or.inr ⟨HK.out, HN.out, rfl⟩)).mono ?_
  rintro e W2 ⟨rfl, hb⟩
  have hb2 : Below w.heap.size w W2 := below_then HB1.out hb
  have b_bx2 := B1_bx.out.below hb B1_bx.out.lt
  have b_bs2 := B1_bs.out.below hb B1_bs.out.lt
  have b_bz2 := B1_bz.out.below hb B1_bz.out.lt
  have k_g2 := K1_g.out.below hb
  have hz2 := hb.size
  have HB2 := Lib.hid hb2
  have B2_bx := Lib.hid b_bx2
  have B2_bs := Lib.hid b_bs2
  have B2_bz := Lib.hid b_bz2
  have K2_g := Lib.hid k_g2
  clear hb2 b_bx2 b_bs2 b_bz2 k_g2
  clear B1_bx B1_bs B1_bz HB1 K1_g
  have c_bx0 := B2_bx.out.cell 0
  have c_bx1 := B2_bx.out.cell 1
  have c_bx2 := B2_bx.out.cell 2
  have c_bx3 := B2_bx.out.cell 3
  have c_bx4 := B2_bx.out.cell 4
  have l_bx := B2_bx.out.lt
  have c_bs0 := B2_bs.out.cell 0
  have l_bs := B2_bs.out.lt
  go_wp2_with fail
  clear c_bx0 c_bx1 c_bx2 c_bx3 c_bx4 l_bx c_bs0 l_bs
  refine (partsMay_any ck wt gn parts _ _ _ _ _ _ _).mono ?_
  rintro e W3 hT
  obtain ⟨rfl, hb⟩ := hT.yes HCT.out
  clear hT
  have hb3 : Below w.heap.size w W3 := below_then HB2.out hb
  have b_bx3 := B2_bx.out.below hb B2_bx.out.lt
  have b_bs3 := B2_bs.out.below hb B2_bs.out.lt
  have b_bz3 := B2_bz.out.below hb B2_bz.out.lt
  have k_g3 := K2_g.out.below hb
  have hz3 := hb.size
  have HB3 := Lib.hid hb3
  have B3_bx := Lib.hid b_bx3
  have B3_bs := Lib.hid b_bs3
  have B3_bz := Lib.hid b_bz3
  have K3_g := Lib.hid k_g3
  clear hb3 b_bx3 b_bs3 b_bz3 k_g3
  clear B2_bx B2_bs B2_bz HB2 K2_g
  have c_bx0 := B3_bx.out.cell 0
  have c_bx1 := B3_bx.out.cell 1
  have c_bx2 := B3_bx.out.cell 2
  have c_bx3 := B3_bx.out.cell 3
  have c_bx4 := B3_bx.out.cell 4
  have l_bx := B3_bx.out.lt
  have c_bs0 := B3_bs.out.cell 0
  have l_bs := B3_bs.out.lt
  go_wp2_with fail
  clear c_bx0 c_bx1 c_bx2 c_bx3 c_bx4 l_bx c_bs0 l_bs
  refine (memberOf_any _ ⟨ck, wt, gn, ms, os⟩ s _ K3_g.out).mono ?_
  rintro e W4 ⟨rfl, hb⟩
  simp only
  rw [HI.out]
  have hb4 : Below w.heap.size w W4 := below_then HB3.out hb
  have b_bx4 := B3_bx.out.below hb B3_bx.out.lt
  have b_bs4 := B3_bs.out.below hb B3_bs.out.lt
  have b_bz4 := B3_bz.out.below hb B3_bz.out.lt
  have k_g4 := K3_g.out.below hb
  have hz4 := hb.size
  have HB4 := Lib.hid hb4
  have B4_bx := Lib.hid b_bx4
  have B4_bs := Lib.hid b_bs4
  have B4_bz := Lib.hid b_bz4
  have K4_g := Lib.hid k_g4
  clear hb4 b_bx4 b_bs4 b_bz4 k_g4
  clear B3_bx B3_bs B3_bz HB3 K3_g
  have c_bx0 := B4_bx.out.cell 0
  have c_bx1 := B4_bx.out.cell 1
  have c_bx2 := B4_bx.out.cell 2
  have c_bx3 := B4_bx.out.cell 3
  have c_bx4 := B4_bx.out.cell 4
  have l_bx := B4_bx.out.lt
  have c_bs0 := B4_bs.out.cell 0
  have l_bs := B4_bs.out.lt
  go_wp2_with fail
  clear c_bx0 c_bx1 c_bx2 c_bx3 c_bx4 l_bx c_bs0 l_bs
  refine (without_any _ ⟨ck, wt, gn, ms, os⟩ (fun t => decide (t.name = s)) 108 #[.pointer (some ⟨w.heap.size + 1, 0, none⟩)] W4 K4_g.out HK.out (enters_of Try.func108 (by kernel_rfl) rfl) (fun t _ A n c W' hW => left_at _ _ A n c s (w.heap.size + 1) W' (Nat.lt_of_lt_of_le B4_bs.out.lt hW.size) ((hW.cell (p := ⟨w.heap.size + 1, 0, none⟩) B4_bs.out.lt).trans (B4_bs.out.cell 0)))).mono ?_
  rintro e W5 ⟨mv9, ov9, rows9, rfl, hown9, hoff9, hb⟩
  simp only at hown9 hoff9
  have hown9 := hown9.rebase (w0 := w) rfl (Nat.le_refl _) (HB4.out.trans (hb.mono HB4.out.size))
  rw [HKE.out] at hown9
  obtain ⟨B9, d9, rfl, -⟩ := (Sl.of_own hoff9).form
  obtain ⟨A9, c9, rfl, -⟩ := (Sl.of_own hown9.own).form
  have HOWN9 := Lib.hid hown9
  have HOFF9 := Lib.hid (show OwnO W5 W4.heap.size (.slice B9 os.length d9) os from hoff9)
  clear hown9 hoff9
  unfold groupV
  simp only
  have hb5 : Below w.heap.size w W5 := below_then HB4.out hb
  have b_bx5 := B4_bx.out.below hb B4_bx.out.lt
  have b_bs5 := B4_bs.out.below hb B4_bs.out.lt
  have b_bz5 := B4_bz.out.below hb B4_bz.out.lt
  have k_g5 := K4_g.out.below hb
  have hz5 := hb.size
  have HB5 := Lib.hid hb5
  have B5_bx := Lib.hid b_bx5
  have B5_bs := Lib.hid b_bs5
  have B5_bz := Lib.hid b_bz5
  have K5_g := Lib.hid k_g5
  clear hb5 b_bx5 b_bs5 b_bz5 k_g5
  clear B4_bx B4_bs B4_bz HB4 K4_g
  clear hb
  have hel : (ms.eraseIdx i).length ≤ 6 := Nat.le_trans (List.length_eraseIdx_le ms i) HL6.out
  go_wp2_with fail
  refine (anew_own ck wt gn parts HOWN9.out rfl HOFF9.out hel (by omega) (by omega) (by have := HGN.out; omega) ⟨HCT.out.1, HCT.out.2.1⟩).mono ?_
  rintro e W6 ⟨A10, c10, rows10, rfl, hom10, hof10, hkp⟩
  have hb6 : Below w.heap.size w W6 := hom10.bel
  have b_bz6 := hkp.1 _ _ _ (by decide) B5_bz.out
  have hz6 := hkp.2
  have HB6 := Lib.hid hb6
  have B6_bz := Lib.hid b_bz6
  have K6_own := Lib.hid hom10
  have K6_off := Lib.hid hof10
  clear hb6 b_bz6 hom10 hof10 hkp
  have c_bz0 := B6_bz.out.cell 0
  have f_bz0 := B6_bz.out.frozen 0
  have c_bz1 := B6_bz.out.cell 1
  have f_bz1 := B6_bz.out.frozen 1
  have c_bz2 := B6_bz.out.cell 2
  have f_bz2 := B6_bz.out.frozen 2
  have c_bz3 := B6_bz.out.cell 3
  have f_bz3 := B6_bz.out.frozen 3
  have c_bz4 := B6_bz.out.cell 4
  have f_bz4 := B6_bz.out.frozen 4
  have l_bz := B6_bz.out.lt
  go_wp2_with fail
  clear c_bz0 f_bz0 c_bz1 f_bz1 c_bz2 f_bz2 c_bz3 f_bz3 c_bz4 f_bz4 l_bz
  have hszF := HB6.out.size
  have hbF : Below w.heap.size w (((((W6.setCell ⟨w.heap.size + 1 + 1, 0, none⟩ (.int .i64 ck)).setCell ⟨w.heap.size + 1 + 1, 1, none⟩ (.int .i64 wt)).setCell ⟨w.heap.size + 1 + 1, 2, none⟩ (.int .i64 (gn + 1))).setCell ⟨w.heap.size + 1 + 1, 3, none⟩ (.slice A10 (ms.eraseIdx i).length c10)).setCell ⟨w.heap.size + 1 + 1, 4, none⟩ (.slice B9 os.length d9)) := (((((HB6.out).setCell (by show w.heap.size ≤ w.heap.size + 1 + 1; omega) _).setCell (by show w.heap.size ≤ w.heap.size + 1 + 1; omega) _).setCell (by show w.heap.size ≤ w.heap.size + 1 + 1; omega) _).setCell (by show w.heap.size ≤ w.heap.size + 1 + 1; omega) _).setCell (by show w.heap.size ≤ w.heap.size + 1 + 1; omega) _
  have b_bzF : Blk (((((W6.setCell ⟨w.heap.size + 1 + 1, 0, none⟩ (.int .i64 ck)).setCell ⟨w.heap.size + 1 + 1, 1, none⟩ (.int .i64 wt)).setCell ⟨w.heap.size + 1 + 1, 2, none⟩ (.int .i64 (gn + 1))).setCell ⟨w.heap.size + 1 + 1, 3, none⟩ (.slice A10 (ms.eraseIdx i).length c10)).setCell ⟨w.heap.size + 1 + 1, 4, none⟩ (.slice B9 os.length d9)) (w.heap.size + 1 + 1) 36 #[.int .i64 ck, .int .i64 wt, .int .i64 (gn + 1), .slice A10 (ms.eraseIdx i).length c10, .slice B9 os.length d9] := (((((B6_bz.out).set_ 0 _).set_ 1 _).set_ 2 _).set_ 3 _).set_ 4 _
  have hoF := (((((K6_own.out).under (a := ⟨w.heap.size + 2, 0, none⟩) (by constructor <;> (try dsimp only) <;> omega) (.int .i64 ck)).under (a := ⟨w.heap.size + 2, 1, none⟩) (by constructor <;> (try dsimp only) <;> omega) (.int .i64 wt)).under (a := ⟨w.heap.size + 2, 2, none⟩) (by constructor <;> (try dsimp only) <;> omega) (.int .i64 (gn + 1))).under (a := ⟨w.heap.size + 2, 3, none⟩) (by constructor <;> (try dsimp only) <;> omega) (.slice A10 (ms.eraseIdx i).length c10)).under (a := ⟨w.heap.size + 2, 4, none⟩) (by constructor <;> (try dsimp only) <;> omega) (.slice B9 os.length d9)
  have hfF := (((((K6_off.out).under (a := ⟨w.heap.size + 2, 0, none⟩) (by (try dsimp only); omega) (.int .i64 ck)).under (a := ⟨w.heap.size + 2, 1, none⟩) (by (try dsimp only); omega) (.int .i64 wt)).under (a := ⟨w.heap.size + 2, 2, none⟩) (by (try dsimp only); omega) (.int .i64 (gn + 1))).under (a := ⟨w.heap.size + 2, 3, none⟩) (by (try dsimp only); omega) (.slice A10 (ms.eraseIdx i).length c10)).under (a := ⟨w.heap.size + 2, 4, none⟩) (by (try dsimp only); omega) (.slice B9 os.length d9)
  have y0 := b_bzF.cell 0
  have y1 := b_bzF.cell 1
  have y2 := b_bzF.cell 2
  have y3 := b_bzF.cell 3
  have y4 := b_bzF.cell 4
  exact bodyPost_ret (v := .tuple #[.agg #[.int .i64 ck, .int .i64 wt, .int .i64 (gn + 1), .slice A10 (ms.eraseIdx i).length c10, .slice B9 os.length d9], .int .i64 0]) (by simp [results, Try.results63, go_sem, y0, y1, y2, y3, y4]) rfl (⟨.slice A10 (ms.eraseIdx i).length c10, .slice B9 os.length d9, rows10, rfl, hoF.rebase rfl (by omega) hbF, own_base hfF (by omega), hbF⟩)
theorem left_any (v : Value) (g : GroupD) (s : ByteArray) (parts : Int) (g' : GroupD) (r : Int) (ht : LeaveTo g s parts g' r) (w : World) (h : Gv w v g) (hnm : ∀ t ∈ g.mems, t.name.size ≤ 9223372036854775807) (hs : s.size ≤ 9223372036854775807) : Calls Try.prog 63 #[v, .string s, .int .i64 parts] w (GRes g' r w) := by
  rcases ht with ⟨h1, rfl⟩ | ⟨h1, h2, ⟨h3, rfl, rfl⟩ | ⟨h3, ⟨h4, rfl, rfl⟩ | ⟨i, h4, rfl, rfl⟩⟩⟩
  · exact left_fault v g s parts r h1 w h hnm hs
  · exact left_range v g s parts h1 h2 h3 w h hnm hs
  · exact left_none v g s parts h1 h2 h3 h4 w h hnm hs
  · exact left_good v g s parts h1 h2 h3 i h4 (ixM_some h4).1 w h hnm hs
end Go.Proofs.Ytjkoceacjbhblaa
