/- tailraceref.InitOf: a fault; a producer that is new. -/
import Derived.Test.YtjkoceacjbhblaaCoordI
import Derived.BigRegion
namespace Go.Proofs.Ytjkoceacjbhblaa
open Go.RowKit

set_option maxRecDepth 100000 in
set_option maxHeartbeats 4000000 in
theorem initOf_fault (v : Value) (c : CoordD) (s : ByteArray) (n : Int) (hf : NameFault c s n) (w : World) (h : Cv w v c) (hnm : ∀ t ∈ c.txns, t.name.size ≤ 9223372036854775807) (hs : s.size ≤ 9223372036854775807) :
    Calls Try.prog 44 #[v, .string s] w (CRes zeroC [.int .i64 (0), .int .i64 (0), .int .i64 (n)] w) := by
  obtain ⟨tv, rfl, hx, hlen⟩ := id h
  obtain ⟨A, m, rfl, -⟩ := hx.at_
  have H := Lib.hid h
  have HX := Lib.hid hx
  clear h hx
  unfold coordV at *
  obtain ⟨ck, nx, wt, ts⟩ := c
  simp only at *
  have hn0 : n ≠ 0 := by rcases hf with ⟨-, rfl⟩ | ⟨-, -, rfl⟩ <;> decide
  have n1 : (n == 0) = false := beq_eq_false_iff_ne.2 hn0
  have n2 : (n != 0) = true := by simpa using hn0
  have HF := Lib.hid hf
  have HNM := Lib.hid hnm
  clear hf hn0 hnm
  go_enter Try.func44, Try.ntmps44
  go_wp2_with fail
  have hb1 : Below w.heap.size w ((w.alloc (.cells #[.int .i64 ck, .int .i64 nx, .int .i64 wt, .slice A ts.length m] 28)).alloc (.cells #[.int .i64 0, .int .i64 0, .int .i64 0, .slice none 0 0] 28)) := ((Below.refl _ _).alloc (by first | omega | (simp; done) | (simp; omega)) _).alloc (by first | omega | (simp; done) | (simp; omega)) _
  have hal1 : Below w.heap.size w ((w.alloc (.cells #[.int .i64 ck, .int .i64 nx, .int .i64 wt, .slice A ts.length m] 28)).alloc (.cells #[.int .i64 0, .int .i64 0, .int .i64 0, .slice none 0 0] 28)) := ((Below.refl _ _).alloc (by first | omega | (simp; done) | (simp; omega)) _).alloc (by first | omega | (simp; done) | (simp; omega)) _
  have b_bx1 : Blk ((w.alloc (.cells #[.int .i64 ck, .int .i64 nx, .int .i64 wt, .slice A ts.length m] 28)).alloc (.cells #[.int .i64 0, .int .i64 0, .int .i64 0, .slice none 0 0] 28)) (w.heap.size) 28 #[.int .i64 ck, .int .i64 nx, .int .i64 wt, .slice A ts.length m] := (Blk.new_ _ 28 #[.int .i64 ck, .int .i64 nx, .int .i64 wt, .slice A ts.length m] (by first | rfl | (simp; done) | (simp; omega))).alloc _
  have b_bz1 : Blk ((w.alloc (.cells #[.int .i64 ck, .int .i64 nx, .int .i64 wt, .slice A ts.length m] 28)).alloc (.cells #[.int .i64 0, .int .i64 0, .int .i64 0, .slice none 0 0] 28)) (w.heap.size + 1) 28 #[.int .i64 0, .int .i64 0, .int .i64 0, .slice none 0 0] := Blk.new_ _ 28 #[.int .i64 0, .int .i64 0, .int .i64 0, .slice none 0 0] (by first | rfl | (simp; done) | (simp; omega))
  have k_c1 := H.out.below hal1
  have hz1 : w.heap.size + 2 ≤ ((w.alloc (.cells #[.int .i64 ck, .int .i64 nx, .int .i64 wt, .slice A ts.length m] 28)).alloc (.cells #[.int .i64 0, .int .i64 0, .int .i64 0, .slice none 0 0] 28)).heap.size := by first | omega | (simp; done) | (simp; omega)
  generalize (w.alloc (.cells #[.int .i64 ck, .int .i64 nx, .int .i64 wt, .slice A ts.length m] 28)).alloc (.cells #[.int .i64 0, .int .i64 0, .int .i64 0, .slice none 0 0] 28) = W1 at *
  have HB1 := Lib.hid hb1
  have B1_bx := Lib.hid b_bx1
  have B1_bz := Lib.hid b_bz1
  have K1_c := Lib.hid k_c1
  clear hb1 b_bx1 b_bz1 k_c1
  clear H
  refine (coordFault_any _ ⟨ck, nx, wt, ts⟩ s n _ K1_c.out HNM.out hs (Or.inl HF.out)).mono ?_
  rintro e W2 ⟨rfl, hb⟩
  have hb2 : Below w.heap.size w W2 := below_then HB1.out hb
  have b_bx2 := B1_bx.out.below hb B1_bx.out.lt
  have b_bz2 := B1_bz.out.below hb B1_bz.out.lt
  have k_c2 := K1_c.out.below hb
  have hz2 := hb.size
  have HB2 := Lib.hid hb2
  have B2_bx := Lib.hid b_bx2
  have B2_bz := Lib.hid b_bz2
  have K2_c := Lib.hid k_c2
  clear hb2 b_bx2 b_bz2 k_c2
  clear B1_bx B1_bz HB1 K1_c
  have c_bz0 := B2_bz.out.cell 0
  have f_bz0 := B2_bz.out.frozen 0
  have c_bz1 := B2_bz.out.cell 1
  have f_bz1 := B2_bz.out.frozen 1
  have c_bz2 := B2_bz.out.cell 2
  have f_bz2 := B2_bz.out.frozen 2
  have c_bz3 := B2_bz.out.cell 3
  have f_bz3 := B2_bz.out.frozen 3
  have l_bz := B2_bz.out.lt
  go_wp2_with fail
  clear c_bz0 f_bz0 c_bz1 f_bz1 c_bz2 f_bz2 c_bz3 f_bz3 l_bz
  have hszF := HB2.out.size
  have hbF : Below w.heap.size w ((((W2.setCell ⟨w.heap.size + 1, 0, none⟩ (.int .i64 0)).setCell ⟨w.heap.size + 1, 1, none⟩ (.int .i64 0)).setCell ⟨w.heap.size + 1, 2, none⟩ (.int .i64 0)).setCell ⟨w.heap.size + 1, 3, none⟩ (.slice none 0 0)) := ((((HB2.out).setCell (by show w.heap.size ≤ w.heap.size + 1; omega) _).setCell (by show w.heap.size ≤ w.heap.size + 1; omega) _).setCell (by show w.heap.size ≤ w.heap.size + 1; omega) _).setCell (by show w.heap.size ≤ w.heap.size + 1; omega) _
  have b_bxF : Blk ((((W2.setCell ⟨w.heap.size + 1, 0, none⟩ (.int .i64 0)).setCell ⟨w.heap.size + 1, 1, none⟩ (.int .i64 0)).setCell ⟨w.heap.size + 1, 2, none⟩ (.int .i64 0)).setCell ⟨w.heap.size + 1, 3, none⟩ (.slice none 0 0)) (w.heap.size) 28 #[.int .i64 ck, .int .i64 nx, .int .i64 wt, .slice A ts.length m] := ((((B2_bx.out).far (p := ⟨w.heap.size + 1, 0, none⟩) (by show w.heap.size ≠ w.heap.size + 1; omega) _).far (p := ⟨w.heap.size + 1, 1, none⟩) (by show w.heap.size ≠ w.heap.size + 1; omega) _).far (p := ⟨w.heap.size + 1, 2, none⟩) (by show w.heap.size ≠ w.heap.size + 1; omega) _).far (p := ⟨w.heap.size + 1, 3, none⟩) (by show w.heap.size ≠ w.heap.size + 1; omega) _
  have b_bzF : Blk ((((W2.setCell ⟨w.heap.size + 1, 0, none⟩ (.int .i64 0)).setCell ⟨w.heap.size + 1, 1, none⟩ (.int .i64 0)).setCell ⟨w.heap.size + 1, 2, none⟩ (.int .i64 0)).setCell ⟨w.heap.size + 1, 3, none⟩ (.slice none 0 0)) (w.heap.size + 1) 28 #[.int .i64 0, .int .i64 0, .int .i64 0, .slice none 0 0] := ((((B2_bz.out).set_ 0 _).set_ 1 _).set_ 2 _).set_ 3 _
  have y0 := b_bzF.cell 0
  have y1 := b_bzF.cell 1
  have y2 := b_bzF.cell 2
  have y3 := b_bzF.cell 3
  exact bodyPost_ret (v := .tuple #[.agg #[.int .i64 0, .int .i64 0, .int .i64 0, .slice none 0 0], .int .i64 (0), .int .i64 (0), .int .i64 (n)]) (by simp [results, Try.results44, go_sem, y0, y1, y2, y3]) rfl (CRes.zero hbF)
set_option maxRecDepth 100000 in
set_option maxHeartbeats 4000000 in
theorem initOf_full (v : Value) (c : CoordD) (s : ByteArray) (hk : CoordOk c) (hn : NameOk s) (hi : idxOf c.txns s = none) (hm : c.txns.length = 8) (w : World) (h : Cv w v c) (hnm : ∀ t ∈ c.txns, t.name.size ≤ 9223372036854775807) (hs : s.size ≤ 9223372036854775807) :
    Calls Try.prog 44 #[v, .string s] w (CRes zeroC [.int .i64 (0), .int .i64 (0), .int .i64 (16)] w) := by
  obtain ⟨tv, rfl, hx, hlen⟩ := id h
  obtain ⟨A, m, rfl, -⟩ := hx.at_
  have H := Lib.hid h
  have HX := Lib.hid hx
  clear h hx
  unfold coordV at *
  obtain ⟨ck, nx, wt, ts⟩ := c
  simp only at *
  have nx0 := hk.next.1
  have nx1 := hk.next.2
  simp only at nx0 nx1
  have hlen8 : (ts.length : Int) = 8 := congrArg Int.ofNat hm
  clear hm
  have hix : ixOf ts s = -1 := by simp [ixOf, hi]
  have HI := Lib.hid hix
  have HK := Lib.hid hk
  have HN := Lib.hid hn
  have HNM := Lib.hid hnm
  clear hk hn hi hix hnm
  go_enter Try.func44, Try.ntmps44
  go_wp2_with fail
  have hb1 : Below w.heap.size w ((w.alloc (.cells #[.int .i64 ck, .int .i64 nx, .int .i64 wt, .slice A ts.length m] 28)).alloc (.cells #[.int .i64 0, .int .i64 0, .int .i64 0, .slice none 0 0] 28)) := ((Below.refl _ _).alloc (by first | omega | (simp; done) | (simp; omega)) _).alloc (by first | omega | (simp; done) | (simp; omega)) _
  have hal1 : Below w.heap.size w ((w.alloc (.cells #[.int .i64 ck, .int .i64 nx, .int .i64 wt, .slice A ts.length m] 28)).alloc (.cells #[.int .i64 0, .int .i64 0, .int .i64 0, .slice none 0 0] 28)) := ((Below.refl _ _).alloc (by first | omega | (simp; done) | (simp; omega)) _).alloc (by first | omega | (simp; done) | (simp; omega)) _
  have b_bx1 : Blk ((w.alloc (.cells #[.int .i64 ck, .int .i64 nx, .int .i64 wt, .slice A ts.length m] 28)).alloc (.cells #[.int .i64 0, .int .i64 0, .int .i64 0, .slice none 0 0] 28)) (w.heap.size) 28 #[.int .i64 ck, .int .i64 nx, .int .i64 wt, .slice A ts.length m] := (Blk.new_ _ 28 #[.int .i64 ck, .int .i64 nx, .int .i64 wt, .slice A ts.length m] (by first | rfl | (simp; done) | (simp; omega))).alloc _
  have b_bz1 : Blk ((w.alloc (.cells #[.int .i64 ck, .int .i64 nx, .int .i64 wt, .slice A ts.length m] 28)).alloc (.cells #[.int .i64 0, .int .i64 0, .int .i64 0, .slice none 0 0] 28)) (w.heap.size + 1) 28 #[.int .i64 0, .int .i64 0, .int .i64 0, .slice none 0 0] := Blk.new_ _ 28 #[.int .i64 0, .int .i64 0, .int .i64 0, .slice none 0 0] (by first | rfl | (simp; done) | (simp; omega))
  have k_c1 := H.out.below hal1
  have hz1 : w.heap.size + 2 ≤ ((w.alloc (.cells #[.int .i64 ck, .int .i64 nx, .int .i64 wt, .slice A ts.length m] 28)).alloc (.cells #[.int .i64 0, .int .i64 0, .int .i64 0, .slice none 0 0] 28)).heap.size := by first | omega | (simp; done) | (simp; omega)
  generalize (w.alloc (.cells #[.int .i64 ck, .int .i64 nx, .int .i64 wt, .slice A ts.length m] 28)).alloc (.cells #[.int .i64 0, .int .i64 0, .int .i64 0, .slice none 0 0] 28) = W1 at *
  have HB1 := Lib.hid hb1
  have B1_bx := Lib.hid b_bx1
  have B1_bz := Lib.hid b_bz1
  have K1_c := Lib.hid k_c1
  clear hb1 b_bx1 b_bz1 k_c1
  clear H
  refine (coordFault_any _ ⟨ck, nx, wt, ts⟩ s 0 _ K1_c.out HNM.out hs (Or.inr ⟨HK.out, HN.out, rfl⟩)).mono ?_
  rintro e W2 ⟨rfl, hb⟩
  have hb2 : Below w.heap.size w W2 := below_then HB1.out hb
  have b_bx2 := B1_bx.out.below hb B1_bx.out.lt
  have b_bz2 := B1_bz.out.below hb B1_bz.out.lt
  have k_c2 := K1_c.out.below hb
  have hz2 := hb.size
  have HB2 := Lib.hid hb2
  have B2_bx := Lib.hid b_bx2
  have B2_bz := Lib.hid b_bz2
  have K2_c := Lib.hid k_c2
  clear hb2 b_bx2 b_bz2 k_c2
  clear B1_bx B1_bz HB1 K1_c
  have c_bx0 := B2_bx.out.cell 0
  have c_bx1 := B2_bx.out.cell 1
  have c_bx2 := B2_bx.out.cell 2
  have c_bx3 := B2_bx.out.cell 3
  have l_bx := B2_bx.out.lt
  go_wp2_with fail
  clear c_bx0 c_bx1 c_bx2 c_bx3 l_bx
  have hfit := HK.out.fits
  refine (refCoordCopy_any _ ⟨ck, nx, wt, ts⟩ _ K2_c.out hfit.1 hfit.2.1).mono ?_
  rintro e W3 ⟨tv5, rows, rfl, hown, hb⟩
  obtain ⟨A5, c5, rfl, hc5⟩ := (Sl.of_own hown.own).form
  simp only at *
  unfold coordV
  simp only
  clear hfit
  have hb3 : Below w.heap.size w W3 := below_then HB2.out hb
  have b_bx3 := B2_bx.out.below hb B2_bx.out.lt
  have b_bz3 := B2_bz.out.below hb B2_bz.out.lt
  have k_c3 := K2_c.out.below hb
  have hz3 := hb.size
  have HB3 := Lib.hid hb3
  have B3_bx := Lib.hid b_bx3
  have B3_bz := Lib.hid b_bz3
  have K3_c := Lib.hid k_c3
  clear hb3 b_bx3 b_bz3 k_c3
  clear B2_bx B2_bz HB2 K2_c
  have ho := hown.rebase (w0 := w) rfl (Nat.le_refl _) HB3.out
  have HNB := Lib.hid (fun g hg => ho.own.lt g hg)
  have HO := Lib.hid ho
  clear ho hown
  have c_bx0 := B3_bx.out.cell 0
  have c_bx1 := B3_bx.out.cell 1
  have c_bx2 := B3_bx.out.cell 2
  have c_bx3 := B3_bx.out.cell 3
  have l_bx := B3_bx.out.lt
  go_wp2_with fail
  clear c_bx0 c_bx1 c_bx2 c_bx3 l_bx
  have hsz4 := HB3.out.size
  have hb4 : Below w.heap.size w (W3.alloc (.cells #[.int .i64 ck, .int .i64 nx, .int .i64 wt, .slice A5 ts.length c5] 28)) := (HB3.out).alloc (by first | omega | (simp; done) | (simp; omega)) _
  have hal4 : Below W3.heap.size W3 (W3.alloc (.cells #[.int .i64 ck, .int .i64 nx, .int .i64 wt, .slice A5 ts.length c5] 28)) := (Below.refl _ _).alloc (by first | omega | (simp; done) | (simp; omega)) _
  have b_bx4 : Blk (W3.alloc (.cells #[.int .i64 ck, .int .i64 nx, .int .i64 wt, .slice A5 ts.length c5] 28)) (w.heap.size) 28 #[.int .i64 ck, .int .i64 nx, .int .i64 wt, .slice A ts.length m] := (B3_bx.out).alloc _
  have b_bz4 : Blk (W3.alloc (.cells #[.int .i64 ck, .int .i64 nx, .int .i64 wt, .slice A5 ts.length c5] 28)) (w.heap.size + 1) 28 #[.int .i64 0, .int .i64 0, .int .i64 0, .slice none 0 0] := (B3_bz.out).alloc _
  have b_bo4 : Blk (W3.alloc (.cells #[.int .i64 ck, .int .i64 nx, .int .i64 wt, .slice A5 ts.length c5] 28)) (W3.heap.size) 28 #[.int .i64 ck, .int .i64 nx, .int .i64 wt, .slice A5 ts.length c5] := Blk.new_ _ 28 #[.int .i64 ck, .int .i64 nx, .int .i64 wt, .slice A5 ts.length c5] (by first | rfl | (simp; done) | (simp; omega))
  have k_c4 := K3_c.out.below hal4
  have k_own4 := (HO.out).alloc (.cells #[.int .i64 ck, .int .i64 nx, .int .i64 wt, .slice A5 ts.length c5] 28)
  have hz4 : W3.heap.size + 1 ≤ (W3.alloc (.cells #[.int .i64 ck, .int .i64 nx, .int .i64 wt, .slice A5 ts.length c5] 28)).heap.size := by first | omega | (simp; done) | (simp; omega)
  generalize W3.alloc (.cells #[.int .i64 ck, .int .i64 nx, .int .i64 wt, .slice A5 ts.length c5] 28) = W4 at *
  have HB4 := Lib.hid hb4
  have B4_bx := Lib.hid b_bx4
  have B4_bz := Lib.hid b_bz4
  have B4_bo := Lib.hid b_bo4
  have K4_c := Lib.hid k_c4
  have K4_own := Lib.hid k_own4
  clear hb4 b_bx4 b_bz4 b_bo4 k_c4 k_own4
  clear B3_bx B3_bz HB3 K3_c HO
  refine (txnOf_any _ ⟨ck, nx, wt, ts⟩ s _ K4_c.out).mono ?_
  rintro e W5 ⟨rfl, hb⟩
  simp only
  rw [HI.out]
  have hb5 : Below w.heap.size w W5 := below_then HB4.out hb
  have b_bx5 := B4_bx.out.below hb B4_bx.out.lt
  have b_bz5 := B4_bz.out.below hb B4_bz.out.lt
  have b_bo5 := B4_bo.out.below hb B4_bo.out.lt
  have k_c5 := K4_c.out.below hb
  have k_own5 := K4_own.out.keep hb
  have hz5 := hb.size
  have HB5 := Lib.hid hb5
  have B5_bx := Lib.hid b_bx5
  have B5_bz := Lib.hid b_bz5
  have B5_bo := Lib.hid b_bo5
  have K5_c := Lib.hid k_c5
  have K5_own := Lib.hid k_own5
  clear hb5 b_bx5 b_bz5 b_bo5 k_c5 k_own5
  clear B4_bx B4_bz B4_bo HB4 K4_c K4_own
  have c_bx0 := B5_bx.out.cell 0
  have c_bx1 := B5_bx.out.cell 1
  have c_bx2 := B5_bx.out.cell 2
  have c_bx3 := B5_bx.out.cell 3
  have l_bx := B5_bx.out.lt
  have c_bo0 := B5_bo.out.cell 0
  have f_bo0 := B5_bo.out.frozen 0
  have c_bo1 := B5_bo.out.cell 1
  have f_bo1 := B5_bo.out.frozen 1
  have c_bo2 := B5_bo.out.cell 2
  have f_bo2 := B5_bo.out.frozen 2
  have c_bo3 := B5_bo.out.cell 3
  have f_bo3 := B5_bo.out.frozen 3
  have l_bo := B5_bo.out.lt
  have c_bz0 := B5_bz.out.cell 0
  have f_bz0 := B5_bz.out.frozen 0
  have c_bz1 := B5_bz.out.cell 1
  have f_bz1 := B5_bz.out.frozen 1
  have c_bz2 := B5_bz.out.cell 2
  have f_bz2 := B5_bz.out.frozen 2
  have c_bz3 := B5_bz.out.cell 3
  have f_bz3 := B5_bz.out.frozen 3
  have l_bz := B5_bz.out.lt
  go_wp2_with fail
  clear c_bx0 c_bx1 c_bx2 c_bx3 l_bx c_bo0 f_bo0 c_bo1 f_bo1 c_bo2 f_bo2 c_bo3 f_bo3 l_bo c_bz0 f_bz0 c_bz1 f_bz1 c_bz2 f_bz2 c_bz3 f_bz3 l_bz
  have hszF := HB5.out.size
  have hbF : Below w.heap.size w ((((W5.setCell ⟨w.heap.size + 1, 0, none⟩ (.int .i64 0)).setCell ⟨w.heap.size + 1, 1, none⟩ (.int .i64 0)).setCell ⟨w.heap.size + 1, 2, none⟩ (.int .i64 0)).setCell ⟨w.heap.size + 1, 3, none⟩ (.slice none 0 0)) := ((((HB5.out).setCell (by show w.heap.size ≤ w.heap.size + 1; omega) _).setCell (by show w.heap.size ≤ w.heap.size + 1; omega) _).setCell (by show w.heap.size ≤ w.heap.size + 1; omega) _).setCell (by show w.heap.size ≤ w.heap.size + 1; omega) _
  have b_bxF : Blk ((((W5.setCell ⟨w.heap.size + 1, 0, none⟩ (.int .i64 0)).setCell ⟨w.heap.size + 1, 1, none⟩ (.int .i64 0)).setCell ⟨w.heap.size + 1, 2, none⟩ (.int .i64 0)).setCell ⟨w.heap.size + 1, 3, none⟩ (.slice none 0 0)) (w.heap.size) 28 #[.int .i64 ck, .int .i64 nx, .int .i64 wt, .slice A ts.length m] := ((((B5_bx.out).far (p := ⟨w.heap.size + 1, 0, none⟩) (by show w.heap.size ≠ w.heap.size + 1; omega) _).far (p := ⟨w.heap.size + 1, 1, none⟩) (by show w.heap.size ≠ w.heap.size + 1; omega) _).far (p := ⟨w.heap.size + 1, 2, none⟩) (by show w.heap.size ≠ w.heap.size + 1; omega) _).far (p := ⟨w.heap.size + 1, 3, none⟩) (by show w.heap.size ≠ w.heap.size + 1; omega) _
  have b_bzF : Blk ((((W5.setCell ⟨w.heap.size + 1, 0, none⟩ (.int .i64 0)).setCell ⟨w.heap.size + 1, 1, none⟩ (.int .i64 0)).setCell ⟨w.heap.size + 1, 2, none⟩ (.int .i64 0)).setCell ⟨w.heap.size + 1, 3, none⟩ (.slice none 0 0)) (w.heap.size + 1) 28 #[.int .i64 0, .int .i64 0, .int .i64 0, .slice none 0 0] := ((((B5_bz.out).set_ 0 _).set_ 1 _).set_ 2 _).set_ 3 _
  have b_boF : Blk ((((W5.setCell ⟨w.heap.size + 1, 0, none⟩ (.int .i64 0)).setCell ⟨w.heap.size + 1, 1, none⟩ (.int .i64 0)).setCell ⟨w.heap.size + 1, 2, none⟩ (.int .i64 0)).setCell ⟨w.heap.size + 1, 3, none⟩ (.slice none 0 0)) (W3.heap.size) 28 #[.int .i64 ck, .int .i64 nx, .int .i64 wt, .slice A5 ts.length c5] := ((((B5_bo.out).far (p := ⟨w.heap.size + 1, 0, none⟩) (by show W3.heap.size ≠ w.heap.size + 1; omega) _).far (p := ⟨w.heap.size + 1, 1, none⟩) (by show W3.heap.size ≠ w.heap.size + 1; omega) _).far (p := ⟨w.heap.size + 1, 2, none⟩) (by show W3.heap.size ≠ w.heap.size + 1; omega) _).far (p := ⟨w.heap.size + 1, 3, none⟩) (by show W3.heap.size ≠ w.heap.size + 1; omega) _
  have y0 := b_bzF.cell 0
  have y1 := b_bzF.cell 1
  have y2 := b_bzF.cell 2
  have y3 := b_bzF.cell 3
  exact bodyPost_ret (v := .tuple #[.agg #[.int .i64 0, .int .i64 0, .int .i64 0, .slice none 0 0], .int .i64 (0), .int .i64 (0), .int .i64 (16)]) (by simp [results, Try.results44, go_sem, y0, y1, y2, y3]) rfl (CRes.zero hbF)
set_option maxRecDepth 100000 in
set_option maxHeartbeats 4000000 in
theorem initOf_last (v : Value) (c : CoordD) (s : ByteArray) (hk : CoordOk c) (hn : NameOk s) (hi : idxOf c.txns s = none) (hm : c.txns.length < 8) (hx1 : c.next = 1073741824) (w : World) (h : Cv w v c) (hnm : ∀ t ∈ c.txns, t.name.size ≤ 9223372036854775807) (hs : s.size ≤ 9223372036854775807) :
    Calls Try.prog 44 #[v, .string s] w (CRes zeroC [.int .i64 (0), .int .i64 (0), .int .i64 (16)] w) := by
  obtain ⟨tv, rfl, hx, hlen⟩ := id h
  obtain ⟨A, m, rfl, -⟩ := hx.at_
  have H := Lib.hid h
  have HX := Lib.hid hx
  clear h hx
  unfold coordV at *
  obtain ⟨ck, nx, wt, ts⟩ := c
  simp only at *
  have nx0 := hk.next.1
  have nx1 := hk.next.2
  simp only at nx0 nx1
  have hxe : nx = 1073741824 := hx1
  have hxb : (nx == 1073741824) = true := by simp [hxe]
  have hxg : 1073741824 ≤ nx := by omega
  clear hx1 hxe
  have hl8 : ts.length < 8 := hm
  have hne8 : ((ts.length : Int) == 8) = false := beq_eq_false_iff_ne.2 (by omega)
  clear hm
  have hix : ixOf ts s = -1 := by simp [ixOf, hi]
  have HI := Lib.hid hix
  have HK := Lib.hid hk
  have HN := Lib.hid hn
  have HNM := Lib.hid hnm
  clear hk hn hi hix hnm
  go_enter Try.func44, Try.ntmps44
  go_wp2_with fail
  have hb1 : Below w.heap.size w ((w.alloc (.cells #[.int .i64 ck, .int .i64 nx, .int .i64 wt, .slice A ts.length m] 28)).alloc (.cells #[.int .i64 0, .int .i64 0, .int .i64 0, .slice none 0 0] 28)) := ((Below.refl _ _).alloc (by first | omega | (simp; done) | (simp; omega)) _).alloc (by first | omega | (simp; done) | (simp; omega)) _
  have hal1 : Below w.heap.size w ((w.alloc (.cells #[.int .i64 ck, .int .i64 nx, .int .i64 wt, .slice A ts.length m] 28)).alloc (.cells #[.int .i64 0, .int .i64 0, .int .i64 0, .slice none 0 0] 28)) := ((Below.refl _ _).alloc (by first | omega | (simp; done) | (simp; omega)) _).alloc (by first | omega | (simp; done) | (simp; omega)) _
  have b_bx1 : Blk ((w.alloc (.cells #[.int .i64 ck, .int .i64 nx, .int .i64 wt, .slice A ts.length m] 28)).alloc (.cells #[.int .i64 0, .int .i64 0, .int .i64 0, .slice none 0 0] 28)) (w.heap.size) 28 #[.int .i64 ck, .int .i64 nx, .int .i64 wt, .slice A ts.length m] := (Blk.new_ _ 28 #[.int .i64 ck, .int .i64 nx, .int .i64 wt, .slice A ts.length m] (by first | rfl | (simp; done) | (simp; omega))).alloc _
  have b_bz1 : Blk ((w.alloc (.cells #[.int .i64 ck, .int .i64 nx, .int .i64 wt, .slice A ts.length m] 28)).alloc (.cells #[.int .i64 0, .int .i64 0, .int .i64 0, .slice none 0 0] 28)) (w.heap.size + 1) 28 #[.int .i64 0, .int .i64 0, .int .i64 0, .slice none 0 0] := Blk.new_ _ 28 #[.int .i64 0, .int .i64 0, .int .i64 0, .slice none 0 0] (by first | rfl | (simp; done) | (simp; omega))
  have k_c1 := H.out.below hal1
  have hz1 : w.heap.size + 2 ≤ ((w.alloc (.cells #[.int .i64 ck, .int .i64 nx, .int .i64 wt, .slice A ts.length m] 28)).alloc (.cells #[.int .i64 0, .int .i64 0, .int .i64 0, .slice none 0 0] 28)).heap.size := by first | omega | (simp; done) | (simp; omega)
  generalize (w.alloc (.cells #[.int .i64 ck, .int .i64 nx, .int .i64 wt, .slice A ts.length m] 28)).alloc (.cells #[.int .i64 0, .int .i64 0, .int .i64 0, .slice none 0 0] 28) = W1 at *
  have HB1 := Lib.hid hb1
  have B1_bx := Lib.hid b_bx1
  have B1_bz := Lib.hid b_bz1
  have K1_c := Lib.hid k_c1
  clear hb1 b_bx1 b_bz1 k_c1
  clear H
  refine (coordFault_any _ ⟨ck, nx, wt, ts⟩ s 0 _ K1_c.out HNM.out hs (Or.inr ⟨HK.out, HN.out, rfl⟩)).mono ?_
  rintro e W2 ⟨rfl, hb⟩
  have hb2 : Below w.heap.size w W2 := below_then HB1.out hb
  have b_bx2 := B1_bx.out.below hb B1_bx.out.lt
  have b_bz2 := B1_bz.out.below hb B1_bz.out.lt
  have k_c2 := K1_c.out.below hb
  have hz2 := hb.size
  have HB2 := Lib.hid hb2
  have B2_bx := Lib.hid b_bx2
  have B2_bz := Lib.hid b_bz2
  have K2_c := Lib.hid k_c2
  clear hb2 b_bx2 b_bz2 k_c2
  clear B1_bx B1_bz HB1 K1_c
  have c_bx0 := B2_bx.out.cell 0
  have c_bx1 := B2_bx.out.cell 1
  have c_bx2 := B2_bx.out.cell 2
  have c_bx3 := B2_bx.out.cell 3
  have l_bx := B2_bx.out.lt
  go_wp2_with fail
  clear c_bx0 c_bx1 c_bx2 c_bx3 l_bx
  have hfit := HK.out.fits
  refine (refCoordCopy_any _ ⟨ck, nx, wt, ts⟩ _ K2_c.out hfit.1 hfit.2.1).mono ?_
  rintro e W3 ⟨tv5, rows, rfl, hown, hb⟩
  obtain ⟨A5, c5, rfl, hc5⟩ := (Sl.of_own hown.own).form
  simp only at *
  unfold coordV
  simp only
  clear hfit
  have hb3 : Below w.heap.size w W3 := below_then HB2.out hb
  have b_bx3 := B2_bx.out.below hb B2_bx.out.lt
  have b_bz3 := B2_bz.out.below hb B2_bz.out.lt
  have k_c3 := K2_c.out.below hb
  have hz3 := hb.size
  have HB3 := Lib.hid hb3
  have B3_bx := Lib.hid b_bx3
  have B3_bz := Lib.hid b_bz3
  have K3_c := Lib.hid k_c3
  clear hb3 b_bx3 b_bz3 k_c3
  clear B2_bx B2_bz HB2 K2_c
  have ho := hown.rebase (w0 := w) rfl (Nat.le_refl _) HB3.out
  have HNB := Lib.hid (fun g hg => ho.own.lt g hg)
  have HO := Lib.hid ho
  clear ho hown
  have c_bx0 := B3_bx.out.cell 0
  have c_bx1 := B3_bx.out.cell 1
  have c_bx2 := B3_bx.out.cell 2
  have c_bx3 := B3_bx.out.cell 3
  have l_bx := B3_bx.out.lt
  go_wp2_with fail
  clear c_bx0 c_bx1 c_bx2 c_bx3 l_bx
  have hsz4 := HB3.out.size
  have hb4 : Below w.heap.size w (W3.alloc (.cells #[.int .i64 ck, .int .i64 nx, .int .i64 wt, .slice A5 ts.length c5] 28)) := (HB3.out).alloc (by first | omega | (simp; done) | (simp; omega)) _
  have hal4 : Below W3.heap.size W3 (W3.alloc (.cells #[.int .i64 ck, .int .i64 nx, .int .i64 wt, .slice A5 ts.length c5] 28)) := (Below.refl _ _).alloc (by first | omega | (simp; done) | (simp; omega)) _
  have b_bx4 : Blk (W3.alloc (.cells #[.int .i64 ck, .int .i64 nx, .int .i64 wt, .slice A5 ts.length c5] 28)) (w.heap.size) 28 #[.int .i64 ck, .int .i64 nx, .int .i64 wt, .slice A ts.length m] := (B3_bx.out).alloc _
  have b_bz4 : Blk (W3.alloc (.cells #[.int .i64 ck, .int .i64 nx, .int .i64 wt, .slice A5 ts.length c5] 28)) (w.heap.size + 1) 28 #[.int .i64 0, .int .i64 0, .int .i64 0, .slice none 0 0] := (B3_bz.out).alloc _
  have b_bo4 : Blk (W3.alloc (.cells #[.int .i64 ck, .int .i64 nx, .int .i64 wt, .slice A5 ts.length c5] 28)) (W3.heap.size) 28 #[.int .i64 ck, .int .i64 nx, .int .i64 wt, .slice A5 ts.length c5] := Blk.new_ _ 28 #[.int .i64 ck, .int .i64 nx, .int .i64 wt, .slice A5 ts.length c5] (by first | rfl | (simp; done) | (simp; omega))
  have k_c4 := K3_c.out.below hal4
  have k_own4 := (HO.out).alloc (.cells #[.int .i64 ck, .int .i64 nx, .int .i64 wt, .slice A5 ts.length c5] 28)
  have hz4 : W3.heap.size + 1 ≤ (W3.alloc (.cells #[.int .i64 ck, .int .i64 nx, .int .i64 wt, .slice A5 ts.length c5] 28)).heap.size := by first | omega | (simp; done) | (simp; omega)
  generalize W3.alloc (.cells #[.int .i64 ck, .int .i64 nx, .int .i64 wt, .slice A5 ts.length c5] 28) = W4 at *
  have HB4 := Lib.hid hb4
  have B4_bx := Lib.hid b_bx4
  have B4_bz := Lib.hid b_bz4
  have B4_bo := Lib.hid b_bo4
  have K4_c := Lib.hid k_c4
  have K4_own := Lib.hid k_own4
  clear hb4 b_bx4 b_bz4 b_bo4 k_c4 k_own4
  clear B3_bx B3_bz HB3 K3_c HO
  refine (txnOf_any _ ⟨ck, nx, wt, ts⟩ s _ K4_c.out).mono ?_
  rintro e W5 ⟨rfl, hb⟩
  simp only
  rw [HI.out]
  have hb5 : Below w.heap.size w W5 := below_then HB4.out hb
  have b_bx5 := B4_bx.out.below hb B4_bx.out.lt
  have b_bz5 := B4_bz.out.below hb B4_bz.out.lt
  have b_bo5 := B4_bo.out.below hb B4_bo.out.lt
  have k_c5 := K4_c.out.below hb
  have k_own5 := K4_own.out.keep hb
  have hz5 := hb.size
  have HB5 := Lib.hid hb5
  have B5_bx := Lib.hid b_bx5
  have B5_bz := Lib.hid b_bz5
  have B5_bo := Lib.hid b_bo5
  have K5_c := Lib.hid k_c5
  have K5_own := Lib.hid k_own5
  clear hb5 b_bx5 b_bz5 b_bo5 k_c5 k_own5
  clear B4_bx B4_bz B4_bo HB4 K4_c K4_own
  have c_bx0 := B5_bx.out.cell 0
  have c_bx1 := B5_bx.out.cell 1
  have c_bx2 := B5_bx.out.cell 2
  have c_bx3 := B5_bx.out.cell 3
  have l_bx := B5_bx.out.lt
  have c_bo0 := B5_bo.out.cell 0
  have f_bo0 := B5_bo.out.frozen 0
  have c_bo1 := B5_bo.out.cell 1
  have f_bo1 := B5_bo.out.frozen 1
  have c_bo2 := B5_bo.out.cell 2
  have f_bo2 := B5_bo.out.frozen 2
  have c_bo3 := B5_bo.out.cell 3
  have f_bo3 := B5_bo.out.frozen 3
  have l_bo := B5_bo.out.lt
  have c_bz0 := B5_bz.out.cell 0
  have f_bz0 := B5_bz.out.frozen 0
  have c_bz1 := B5_bz.out.cell 1
  have f_bz1 := B5_bz.out.frozen 1
  have c_bz2 := B5_bz.out.cell 2
  have f_bz2 := B5_bz.out.frozen 2
  have c_bz3 := B5_bz.out.cell 3
  have f_bz3 := B5_bz.out.frozen 3
  have l_bz := B5_bz.out.lt
  go_wp2_with fail
  clear c_bx0 c_bx1 c_bx2 c_bx3 l_bx c_bo0 f_bo0 c_bo1 f_bo1 c_bo2 f_bo2 c_bo3 f_bo3 l_bo c_bz0 f_bz0 c_bz1 f_bz1 c_bz2 f_bz2 c_bz3 f_bz3 l_bz
  have hszF := HB5.out.size
  have hbF : Below w.heap.size w ((((W5.setCell ⟨w.heap.size + 1, 0, none⟩ (.int .i64 0)).setCell ⟨w.heap.size + 1, 1, none⟩ (.int .i64 0)).setCell ⟨w.heap.size + 1, 2, none⟩ (.int .i64 0)).setCell ⟨w.heap.size + 1, 3, none⟩ (.slice none 0 0)) := ((((HB5.out).setCell (by show w.heap.size ≤ w.heap.size + 1; omega) _).setCell (by show w.heap.size ≤ w.heap.size + 1; omega) _).setCell (by show w.heap.size ≤ w.heap.size + 1; omega) _).setCell (by show w.heap.size ≤ w.heap.size + 1; omega) _
  have b_bxF : Blk ((((W5.setCell ⟨w.heap.size + 1, 0, none⟩ (.int .i64 0)).setCell ⟨w.heap.size + 1, 1, none⟩ (.int .i64 0)).setCell ⟨w.heap.size + 1, 2, none⟩ (.int .i64 0)).setCell ⟨w.heap.size + 1, 3, none⟩ (.slice none 0 0)) (w.heap.size) 28 #[.int .i64 ck, .int .i64 nx, .int .i64 wt, .slice A ts.length m] := ((((B5_bx.out).far (p := ⟨w.heap.size + 1, 0, none⟩) (by show w.heap.size ≠ w.heap.size + 1; omega) _).far (p := ⟨w.heap.size + 1, 1, none⟩) (by show w.heap.size ≠ w.heap.size + 1; omega) _).far (p := ⟨w.heap.size + 1, 2, none⟩) (by show w.heap.size ≠ w.heap.size + 1; omega) _).far (p := ⟨w.heap.size + 1, 3, none⟩) (by show w.heap.size ≠ w.heap.size + 1; omega) _
  have b_bzF : Blk ((((W5.setCell ⟨w.heap.size + 1, 0, none⟩ (.int .i64 0)).setCell ⟨w.heap.size + 1, 1, none⟩ (.int .i64 0)).setCell ⟨w.heap.size + 1, 2, none⟩ (.int .i64 0)).setCell ⟨w.heap.size + 1, 3, none⟩ (.slice none 0 0)) (w.heap.size + 1) 28 #[.int .i64 0, .int .i64 0, .int .i64 0, .slice none 0 0] := ((((B5_bz.out).set_ 0 _).set_ 1 _).set_ 2 _).set_ 3 _
  have b_boF : Blk ((((W5.setCell ⟨w.heap.size + 1, 0, none⟩ (.int .i64 0)).setCell ⟨w.heap.size + 1, 1, none⟩ (.int .i64 0)).setCell ⟨w.heap.size + 1, 2, none⟩ (.int .i64 0)).setCell ⟨w.heap.size + 1, 3, none⟩ (.slice none 0 0)) (W3.heap.size) 28 #[.int .i64 ck, .int .i64 nx, .int .i64 wt, .slice A5 ts.length c5] := ((((B5_bo.out).far (p := ⟨w.heap.size + 1, 0, none⟩) (by show W3.heap.size ≠ w.heap.size + 1; omega) _).far (p := ⟨w.heap.size + 1, 1, none⟩) (by show W3.heap.size ≠ w.heap.size + 1; omega) _).far (p := ⟨w.heap.size + 1, 2, none⟩) (by show W3.heap.size ≠ w.heap.size + 1; omega) _).far (p := ⟨w.heap.size + 1, 3, none⟩) (by show W3.heap.size ≠ w.heap.size + 1; omega) _
  have y0 := b_bzF.cell 0
  have y1 := b_bzF.cell 1
  have y2 := b_bzF.cell 2
  have y3 := b_bzF.cell 3
  exact bodyPost_ret (v := .tuple #[.agg #[.int .i64 0, .int .i64 0, .int .i64 0, .slice none 0 0], .int .i64 (0), .int .i64 (0), .int .i64 (16)]) (by simp [results, Try.results44, go_sem, y0, y1, y2, y3]) rfl (CRes.zero hbF)
set_option maxRecDepth 100000 in
set_option maxHeartbeats 4000000 in
theorem initOf_new (v : Value) (c : CoordD) (s : ByteArray) (hk : CoordOk c) (hn : NameOk s) (hi : idxOf c.txns s = none) (hm : c.txns.length < 8) (hx1 : c.next < 1073741824) (w : World) (h : Cv w v c) (hnm : ∀ t ∈ c.txns, t.name.size ≤ 9223372036854775807) (hs : s.size ≤ 9223372036854775807) :
    Calls Try.prog 44 #[v, .string s] w (CRes (pushC c s) [.int .i64 (c.next), .int .i64 (0), .int .i64 (0)] w) := by
  obtain ⟨tv, rfl, hx, hlen⟩ := id h
  obtain ⟨A, m, rfl, -⟩ := hx.at_
  have H := Lib.hid h
  have HX := Lib.hid hx
  clear h hx
  unfold coordV at *
  obtain ⟨ck, nx, wt, ts⟩ := c
  simp only at *
  have nx0 := hk.next.1
  have nx1 := hk.next.2
  simp only at nx0 nx1
  have hl8 : ts.length < 8 := hm
  have hx8 : nx < 1073741824 := hx1
  have hne8 : ((ts.length : Int) == 8) = false := beq_eq_false_iff_ne.2 (by omega)
  have hne9 : (nx == 1073741824) = false := beq_eq_false_iff_ne.2 (by omega)
  clear hm hx1
  have hix : ixOf ts s = -1 := by simp [ixOf, hi]
  have HI := Lib.hid hix
  have HK := Lib.hid hk
  have HN := Lib.hid hn
  have HNM := Lib.hid hnm
  clear hk hn hi hix hnm
  go_enter Try.func44, Try.ntmps44
  go_wp2_with fail
  have hb1 : Below w.heap.size w ((w.alloc (.cells #[.int .i64 ck, .int .i64 nx, .int .i64 wt, .slice A ts.length m] 28)).alloc (.cells #[.int .i64 0, .int .i64 0, .int .i64 0, .slice none 0 0] 28)) := ((Below.refl _ _).alloc (by first | omega | (simp; done) | (simp; omega)) _).alloc (by first | omega | (simp; done) | (simp; omega)) _
  have hal1 : Below w.heap.size w ((w.alloc (.cells #[.int .i64 ck, .int .i64 nx, .int .i64 wt, .slice A ts.length m] 28)).alloc (.cells #[.int .i64 0, .int .i64 0, .int .i64 0, .slice none 0 0] 28)) := ((Below.refl _ _).alloc (by first | omega | (simp; done) | (simp; omega)) _).alloc (by first | omega | (simp; done) | (simp; omega)) _
  have b_bx1 : Blk ((w.alloc (.cells #[.int .i64 ck, .int .i64 nx, .int .i64 wt, .slice A ts.length m] 28)).alloc (.cells #[.int .i64 0, .int .i64 0, .int .i64 0, .slice none 0 0] 28)) (w.heap.size) 28 #[.int .i64 ck, .int .i64 nx, .int .i64 wt, .slice A ts.length m] := (Blk.new_ _ 28 #[.int .i64 ck, .int .i64 nx, .int .i64 wt, .slice A ts.length m] (by first | rfl | (simp; done) | (simp; omega))).alloc _
  have b_bz1 : Blk ((w.alloc (.cells #[.int .i64 ck, .int .i64 nx, .int .i64 wt, .slice A ts.length m] 28)).alloc (.cells #[.int .i64 0, .int .i64 0, .int .i64 0, .slice none 0 0] 28)) (w.heap.size + 1) 28 #[.int .i64 0, .int .i64 0, .int .i64 0, .slice none 0 0] := Blk.new_ _ 28 #[.int .i64 0, .int .i64 0, .int .i64 0, .slice none 0 0] (by first | rfl | (simp; done) | (simp; omega))
  have k_c1 := H.out.below hal1
  have hz1 : w.heap.size + 2 ≤ ((w.alloc (.cells #[.int .i64 ck, .int .i64 nx, .int .i64 wt, .slice A ts.length m] 28)).alloc (.cells #[.int .i64 0, .int .i64 0, .int .i64 0, .slice none 0 0] 28)).heap.size := by first | omega | (simp; done) | (simp; omega)
  generalize (w.alloc (.cells #[.int .i64 ck, .int .i64 nx, .int .i64 wt, .slice A ts.length m] 28)).alloc (.cells #[.int .i64 0, .int .i64 0, .int .i64 0, .slice none 0 0] 28) = W1 at *
  have HB1 := Lib.hid hb1
  have B1_bx := Lib.hid b_bx1
  have B1_bz := Lib.hid b_bz1
  have K1_c := Lib.hid k_c1
  clear hb1 b_bx1 b_bz1 k_c1
  clear H
  refine (coordFault_any _ ⟨ck, nx, wt, ts⟩ s 0 _ K1_c.out HNM.out hs (Or.inr ⟨HK.out, HN.out, rfl⟩)).mono ?_
  rintro e W2 ⟨rfl, hb⟩
  have hb2 : Below w.heap.size w W2 := below_then HB1.out hb
  have b_bx2 := B1_bx.out.below hb B1_bx.out.lt
  have b_bz2 := B1_bz.out.below hb B1_bz.out.lt
  have k_c2 := K1_c.out.below hb
  have hz2 := hb.size
  have HB2 := Lib.hid hb2
  have B2_bx := Lib.hid b_bx2
  have B2_bz := Lib.hid b_bz2
  have K2_c := Lib.hid k_c2
  clear hb2 b_bx2 b_bz2 k_c2
  clear B1_bx B1_bz HB1 K1_c
  have c_bx0 := B2_bx.out.cell 0
  have c_bx1 := B2_bx.out.cell 1
  have c_bx2 := B2_bx.out.cell 2
  have c_bx3 := B2_bx.out.cell 3
  have l_bx := B2_bx.out.lt
  go_wp2_with fail
  clear c_bx0 c_bx1 c_bx2 c_bx3 l_bx
  have hfit := HK.out.fits
  refine (refCoordCopy_any _ ⟨ck, nx, wt, ts⟩ _ K2_c.out hfit.1 hfit.2.1).mono ?_
  rintro e W3 ⟨tv5, rows, rfl, hown, hb⟩
  obtain ⟨A5, c5, rfl, hc5⟩ := (Sl.of_own hown.own).form
  simp only at *
  unfold coordV
  simp only
  clear hfit
  have hb3 : Below w.heap.size w W3 := below_then HB2.out hb
  have b_bx3 := B2_bx.out.below hb B2_bx.out.lt
  have b_bz3 := B2_bz.out.below hb B2_bz.out.lt
  have k_c3 := K2_c.out.below hb
  have hz3 := hb.size
  have HB3 := Lib.hid hb3
  have B3_bx := Lib.hid b_bx3
  have B3_bz := Lib.hid b_bz3
  have K3_c := Lib.hid k_c3
  clear hb3 b_bx3 b_bz3 k_c3
  clear B2_bx B2_bz HB2 K2_c
  have ho := hown.rebase (w0 := w) rfl (Nat.le_refl _) HB3.out
  have HNB := Lib.hid (fun g hg => ho.own.lt g hg)
  have HO := Lib.hid ho
  clear ho hown
  have c_bx0 := B3_bx.out.cell 0
  have c_bx1 := B3_bx.out.cell 1
  have c_bx2 := B3_bx.out.cell 2
  have c_bx3 := B3_bx.out.cell 3
  have l_bx := B3_bx.out.lt
  go_wp2_with fail
  clear c_bx0 c_bx1 c_bx2 c_bx3 l_bx
  have hsz4 := HB3.out.size
  have hb4 : Below w.heap.size w (W3.alloc (.cells #[.int .i64 ck, .int .i64 nx, .int .i64 wt, .slice A5 ts.length c5] 28)) := (HB3.out).alloc (by first | omega | (simp; done) | (simp; omega)) _
  have hal4 : Below W3.heap.size W3 (W3.alloc (.cells #[.int .i64 ck, .int .i64 nx, .int .i64 wt, .slice A5 ts.length c5] 28)) := (Below.refl _ _).alloc (by first | omega | (simp; done) | (simp; omega)) _
  have b_bx4 : Blk (W3.alloc (.cells #[.int .i64 ck, .int .i64 nx, .int .i64 wt, .slice A5 ts.length c5] 28)) (w.heap.size) 28 #[.int .i64 ck, .int .i64 nx, .int .i64 wt, .slice A ts.length m] := (B3_bx.out).alloc _
  have b_bz4 : Blk (W3.alloc (.cells #[.int .i64 ck, .int .i64 nx, .int .i64 wt, .slice A5 ts.length c5] 28)) (w.heap.size + 1) 28 #[.int .i64 0, .int .i64 0, .int .i64 0, .slice none 0 0] := (B3_bz.out).alloc _
  have b_bo4 : Blk (W3.alloc (.cells #[.int .i64 ck, .int .i64 nx, .int .i64 wt, .slice A5 ts.length c5] 28)) (W3.heap.size) 28 #[.int .i64 ck, .int .i64 nx, .int .i64 wt, .slice A5 ts.length c5] := Blk.new_ _ 28 #[.int .i64 ck, .int .i64 nx, .int .i64 wt, .slice A5 ts.length c5] (by first | rfl | (simp; done) | (simp; omega))
  have k_c4 := K3_c.out.below hal4
  have k_own4 := (HO.out).alloc (.cells #[.int .i64 ck, .int .i64 nx, .int .i64 wt, .slice A5 ts.length c5] 28)
  have hz4 : W3.heap.size + 1 ≤ (W3.alloc (.cells #[.int .i64 ck, .int .i64 nx, .int .i64 wt, .slice A5 ts.length c5] 28)).heap.size := by first | omega | (simp; done) | (simp; omega)
  generalize W3.alloc (.cells #[.int .i64 ck, .int .i64 nx, .int .i64 wt, .slice A5 ts.length c5] 28) = W4 at *
  have HB4 := Lib.hid hb4
  have B4_bx := Lib.hid b_bx4
  have B4_bz := Lib.hid b_bz4
  have B4_bo := Lib.hid b_bo4
  have K4_c := Lib.hid k_c4
  have K4_own := Lib.hid k_own4
  clear hb4 b_bx4 b_bz4 b_bo4 k_c4 k_own4
  clear B3_bx B3_bz HB3 K3_c HO
  refine (txnOf_any _ ⟨ck, nx, wt, ts⟩ s _ K4_c.out).mono ?_
  rintro e W5 ⟨rfl, hb⟩
  simp only
  rw [HI.out]
  have hb5 : Below w.heap.size w W5 := below_then HB4.out hb
  have b_bx5 := B4_bx.out.below hb B4_bx.out.lt
  have b_bz5 := B4_bz.out.below hb B4_bz.out.lt
  have b_bo5 := B4_bo.out.below hb B4_bo.out.lt
  have k_c5 := K4_c.out.below hb
  have k_own5 := K4_own.out.keep hb
  have hz5 := hb.size
  have HB5 := Lib.hid hb5
  have B5_bx := Lib.hid b_bx5
  have B5_bz := Lib.hid b_bz5
  have B5_bo := Lib.hid b_bo5
  have K5_c := Lib.hid k_c5
  have K5_own := Lib.hid k_own5
  clear hb5 b_bx5 b_bz5 b_bo5 k_c5 k_own5
  clear B4_bx B4_bz B4_bo HB4 K4_c K4_own
  have c_bx0 := B5_bx.out.cell 0
  have c_bx1 := B5_bx.out.cell 1
  have c_bx2 := B5_bx.out.cell 2
  have c_bx3 := B5_bx.out.cell 3
  have l_bx := B5_bx.out.lt
  have c_bo0 := B5_bo.out.cell 0
  have f_bo0 := B5_bo.out.frozen 0
  have c_bo1 := B5_bo.out.cell 1
  have f_bo1 := B5_bo.out.frozen 1
  have c_bo2 := B5_bo.out.cell 2
  have f_bo2 := B5_bo.out.frozen 2
  have c_bo3 := B5_bo.out.cell 3
  have f_bo3 := B5_bo.out.frozen 3
  have l_bo := B5_bo.out.lt
  have hszE := HB5.out.size
  have hbE : Below w.heap.size w (W5) := HB5.out
  have b_bxE : Blk (W5) (w.heap.size) 28 #[.int .i64 ck, .int .i64 nx, .int .i64 wt, .slice A ts.length m] := B5_bx.out
  have b_bzE : Blk (W5) (w.heap.size + 1) 28 #[.int .i64 0, .int .i64 0, .int .i64 0, .slice none 0 0] := B5_bz.out
  have b_boE : Blk (W5) (W3.heap.size) 28 #[.int .i64 ck, .int .i64 nx, .int .i64 wt, .slice A5 ts.length c5] := B5_bo.out
  have k_ownE := K5_own.out
  obtain ⟨i0, hi0, hz0, hz1, hz2'⟩ := info_parts txn_info
  have hot := k_ownE.own
  have hszE : W2.heap.size ≤ (W5).heap.size := by first | omega | (simp; omega)
  have KO := Lib.hid k_ownE
  have HBE := Lib.hid hbE
  have HOT := Lib.hid hot
  clear k_ownE hbE hot
  have E_bx := Lib.hid b_bxE
  clear b_bxE
  have E_bz := Lib.hid b_bzE
  clear b_bzE
  have E_bo := Lib.hid b_boE
  clear b_boE
  go_wp2_with (at_builtin; go_must (refine wpList_append_sl _ rfl (.tmp 36) (.tmp 41) 26 rfl (W2.heap.size) 76 i0 (.agg #[.string .empty, .int .i64 0, .int .i64 0, .int .i64 0, .slice none 0 0, .int .i64 0, .int .i64 0]) 7 80 Try.underlying26 hi0 hz0 hz1 hz2' rfl (by decide) _ _ _ (by rfl) (HOT.out.alloc _) _ 1 _ (by rfl) (Sl.lit' _ _ _ 7 1 _ rfl (by simp)) (tcells_one [(newT s nx, .slice none 0 0)] (by intro t ht; simp only [List.mem_singleton] at ht; subst ht; rfl)) (by simp only [maxLen]; omega) (by omega) (by simp; omega) ?_; intro v7 w7 ho7 hg7 ha7; obtain ⟨A7, c7, rfl, hc7⟩ := (Sl.of_own ho7).form; have bn7 := (E_bo.out.alloc _).grown hg7 (fun e => by have := HNB.out _ e.symm; omega); obtain ⟨⟨p0, p1, p2, p3⟩, ⟨pf0, pf1, pf2, pf3⟩, pl⟩ := bn7.all4; have KH := Lib.hid ho7; have KG := Lib.hid hg7; have KA := Lib.hid ha7; have KN := Lib.hid bn7; clear ho7 hg7 ha7 bn7))
  have hpush := KO.out.push (t := newT s nx) (v5 := .slice none 0 0) (o := .cells #[.string s, .int .i64 nx, .int .i64 0, .int .i64 1, .slice none 0 0, .int .i64 0, .int .i64 0] 76) rfl (by omega) hszE (Below.refl _ _) (World.ownsRow_nil _ _ _ _) KH.out KG.out
  have hb7 : Below w.heap.size w w7 := hpush.bel
  have hz7 := hb7.size
  have b7_bx := (E_bx.out.alloc _).grown KG.out (fun e => by have := HNB.out _ e.symm; omega)
  have H7_bx := Lib.hid b7_bx
  clear b7_bx
  have b7_bz := (E_bz.out.alloc _).grown KG.out (fun e => by have := HNB.out _ e.symm; omega)
  have H7_bz := Lib.hid b7_bz
  clear b7_bz
  have b7_bo := KN.out
  have H7_bo := Lib.hid b7_bo
  clear b7_bo
  have HB7 := Lib.hid hb7
  have HP7 := Lib.hid hpush
  clear hb7 hpush p0 p1 p2 p3 pf0 pf1 pf2 pf3 pl
  have hszG := HB7.out.size
  have hbG : Below w.heap.size w ((w7.setCell ⟨W3.heap.size, 3, none⟩ (.slice A7 (ts.length + 1) c7)).setCell ⟨W3.heap.size, 1, none⟩ (.int .i64 (nx + 1))) := ((HB7.out).setCell (by show w.heap.size ≤ W3.heap.size; omega) _).setCell (by show w.heap.size ≤ W3.heap.size; omega) _
  have b_bxG : Blk ((w7.setCell ⟨W3.heap.size, 3, none⟩ (.slice A7 (ts.length + 1) c7)).setCell ⟨W3.heap.size, 1, none⟩ (.int .i64 (nx + 1))) (w.heap.size) 28 #[.int .i64 ck, .int .i64 nx, .int .i64 wt, .slice A ts.length m] := ((H7_bx.out).far (p := ⟨W3.heap.size, 3, none⟩) (by show w.heap.size ≠ W3.heap.size; omega) _).far (p := ⟨W3.heap.size, 1, none⟩) (by show w.heap.size ≠ W3.heap.size; omega) _
  have b_bzG : Blk ((w7.setCell ⟨W3.heap.size, 3, none⟩ (.slice A7 (ts.length + 1) c7)).setCell ⟨W3.heap.size, 1, none⟩ (.int .i64 (nx + 1))) (w.heap.size + 1) 28 #[.int .i64 0, .int .i64 0, .int .i64 0, .slice none 0 0] := ((H7_bz.out).far (p := ⟨W3.heap.size, 3, none⟩) (by show w.heap.size + 1 ≠ W3.heap.size; omega) _).far (p := ⟨W3.heap.size, 1, none⟩) (by show w.heap.size + 1 ≠ W3.heap.size; omega) _
  have b_boG : Blk ((w7.setCell ⟨W3.heap.size, 3, none⟩ (.slice A7 (ts.length + 1) c7)).setCell ⟨W3.heap.size, 1, none⟩ (.int .i64 (nx + 1))) (W3.heap.size) 28 #[.int .i64 ck, .int .i64 (nx + 1), .int .i64 wt, .slice A7 (ts.length + 1) c7] := ((H7_bo.out).set_ 3 _).set_ 1 _
  have k_ownG := ((HP7.out).farBlk (by simp) (by first | exact H7_bo.out.is_ | exact H7_bo.out.is_.set_ _ _) (by omega) 3 (.slice A7 (ts.length + 1) c7)).farBlk (by simp) (by first | exact H7_bo.out.is_ | exact H7_bo.out.is_.set_ _ _) (by omega) 1 (.int .i64 (nx + 1))
  have p0 := b_boG.cell 0
  have p1 := b_boG.cell 1
  have p2 := b_boG.cell 2
  have p3 := b_boG.cell 3
  obtain ⟨⟨z0, z1, z2, z3⟩, ⟨zf0, zf1, zf2, zf3⟩, zl⟩ := b_bzG.all4
  have x0 := b_bxG.cell 0
  have x1 := b_bxG.cell 1
  have x2 := b_bxG.cell 2
  have x3 := b_bxG.cell 3
  have xl := b_bxG.lt
  have pl := b_boG.lt
  have KG2 := Lib.hid k_ownG
  clear k_ownG hbG b_bxG b_bzG b_boG
  go_region
  go_wp2
  clear c_bx0 c_bx1 c_bx2 c_bx3 l_bx c_bo0 f_bo0 c_bo1 f_bo1 c_bo2 f_bo2 c_bo3 f_bo3 l_bo
  have hszF := HB7.out.size
  have hbF : Below w.heap.size w ((((((w7.setCell ⟨W3.heap.size, 3, none⟩ (.slice A7 (ts.length + 1) c7)).setCell ⟨W3.heap.size, 1, none⟩ (.int .i64 (nx + 1))).setCell ⟨w.heap.size + 1, 0, none⟩ (.int .i64 ck)).setCell ⟨w.heap.size + 1, 1, none⟩ (.int .i64 (nx + 1))).setCell ⟨w.heap.size + 1, 2, none⟩ (.int .i64 wt)).setCell ⟨w.heap.size + 1, 3, none⟩ (.slice A7 (ts.length + 1) c7)) := ((((((HB7.out).setCell (by show w.heap.size ≤ W3.heap.size; omega) _).setCell (by show w.heap.size ≤ W3.heap.size; omega) _).setCell (by show w.heap.size ≤ w.heap.size + 1; omega) _).setCell (by show w.heap.size ≤ w.heap.size + 1; omega) _).setCell (by show w.heap.size ≤ w.heap.size + 1; omega) _).setCell (by show w.heap.size ≤ w.heap.size + 1; omega) _
  have b_bxF : Blk ((((((w7.setCell ⟨W3.heap.size, 3, none⟩ (.slice A7 (ts.length + 1) c7)).setCell ⟨W3.heap.size, 1, none⟩ (.int .i64 (nx + 1))).setCell ⟨w.heap.size + 1, 0, none⟩ (.int .i64 ck)).setCell ⟨w.heap.size + 1, 1, none⟩ (.int .i64 (nx + 1))).setCell ⟨w.heap.size + 1, 2, none⟩ (.int .i64 wt)).setCell ⟨w.heap.size + 1, 3, none⟩ (.slice A7 (ts.length + 1) c7)) (w.heap.size) 28 #[.int .i64 ck, .int .i64 nx, .int .i64 wt, .slice A ts.length m] := ((((((H7_bx.out).far (p := ⟨W3.heap.size, 3, none⟩) (by show w.heap.size ≠ W3.heap.size; omega) _).far (p := ⟨W3.heap.size, 1, none⟩) (by show w.heap.size ≠ W3.heap.size; omega) _).far (p := ⟨w.heap.size + 1, 0, none⟩) (by show w.heap.size ≠ w.heap.size + 1; omega) _).far (p := ⟨w.heap.size + 1, 1, none⟩) (by show w.heap.size ≠ w.heap.size + 1; omega) _).far (p := ⟨w.heap.size + 1, 2, none⟩) (by show w.heap.size ≠ w.heap.size + 1; omega) _).far (p := ⟨w.heap.size + 1, 3, none⟩) (by show w.heap.size ≠ w.heap.size + 1; omega) _
  have b_bzF : Blk ((((((w7.setCell ⟨W3.heap.size, 3, none⟩ (.slice A7 (ts.length + 1) c7)).setCell ⟨W3.heap.size, 1, none⟩ (.int .i64 (nx + 1))).setCell ⟨w.heap.size + 1, 0, none⟩ (.int .i64 ck)).setCell ⟨w.heap.size + 1, 1, none⟩ (.int .i64 (nx + 1))).setCell ⟨w.heap.size + 1, 2, none⟩ (.int .i64 wt)).setCell ⟨w.heap.size + 1, 3, none⟩ (.slice A7 (ts.length + 1) c7)) (w.heap.size + 1) 28 #[.int .i64 ck, .int .i64 (nx + 1), .int .i64 wt, .slice A7 (ts.length + 1) c7] := ((((((H7_bz.out).far (p := ⟨W3.heap.size, 3, none⟩) (by show w.heap.size + 1 ≠ W3.heap.size; omega) _).far (p := ⟨W3.heap.size, 1, none⟩) (by show w.heap.size + 1 ≠ W3.heap.size; omega) _).set_ 0 _).set_ 1 _).set_ 2 _).set_ 3 _
  have b_boF : Blk ((((((w7.setCell ⟨W3.heap.size, 3, none⟩ (.slice A7 (ts.length + 1) c7)).setCell ⟨W3.heap.size, 1, none⟩ (.int .i64 (nx + 1))).setCell ⟨w.heap.size + 1, 0, none⟩ (.int .i64 ck)).setCell ⟨w.heap.size + 1, 1, none⟩ (.int .i64 (nx + 1))).setCell ⟨w.heap.size + 1, 2, none⟩ (.int .i64 wt)).setCell ⟨w.heap.size + 1, 3, none⟩ (.slice A7 (ts.length + 1) c7)) (W3.heap.size) 28 #[.int .i64 ck, .int .i64 (nx + 1), .int .i64 wt, .slice A7 (ts.length + 1) c7] := ((((((H7_bo.out).set_ 3 _).set_ 1 _).far (p := ⟨w.heap.size + 1, 0, none⟩) (by show W3.heap.size ≠ w.heap.size + 1; omega) _).far (p := ⟨w.heap.size + 1, 1, none⟩) (by show W3.heap.size ≠ w.heap.size + 1; omega) _).far (p := ⟨w.heap.size + 1, 2, none⟩) (by show W3.heap.size ≠ w.heap.size + 1; omega) _).far (p := ⟨w.heap.size + 1, 3, none⟩) (by show W3.heap.size ≠ w.heap.size + 1; omega) _
  have hbF := hbF.drew
  have hoF := (KG2.out.put4 (g := w.heap.size + 1) (by constructor <;> omega) (.int .i64 ck) (.int .i64 (nx + 1)) (.int .i64 wt) (.slice A7 (ts.length + 1) c7)).keep ((Below.refl _ _).drew)
  have y0 := b_bzF.cell 0
  have y1 := b_bzF.cell 1
  have y2 := b_bzF.cell 2
  have y3 := b_bzF.cell 3
  exact bodyPost_ret (v := .tuple #[.agg #[.int .i64 ck, .int .i64 (nx + 1), .int .i64 wt, .slice A7 (ts.length + 1) c7], .int .i64 (nx), .int .i64 (0), .int .i64 (0)]) (by simp [results, Try.results44, go_sem, y0, y1, y2, y3]) rfl (⟨.slice A7 (ts.length + 1) c7, _, rfl, own_len (hoF.rebase (by simp) (by omega) hbF) (by simp [pushC]), hbF⟩)
end Go.Proofs.Ytjkoceacjbhblaa
