/- tailraceref.InitOf of a producer that is known. -/
import Derived.Test.YtjkoceacjbhblaaCoordI
import Derived.BigRegion
namespace Go.Proofs.Ytjkoceacjbhblaa
open Go.RowKit

set_option maxRecDepth 100000 in
set_option maxHeartbeats 4000000 in
theorem initOf_raise (v : Value) (c : CoordD) (s : ByteArray) (i : Nat) (hk : CoordOk c) (hn : NameOk s) (hi : idxOf c.txns s = some i) (hl : i < c.txns.length) (hst : c.txns[i].state = 2) (hv : c.txns[i].ver < 1073741824) (w : World) (h : Cv w v c) (hnm : ∀ t ∈ c.txns, t.name.size ≤ 9223372036854775807) (hs : s.size ≤ 9223372036854775807) :
    Calls Try.prog 44 #[v, .string s] w (CRes (c.upd i raiseT) [.int .i64 (c.txns[i].pid), .int .i64 (c.txns[i].ver + 1), .int .i64 (0)] w) := by
  obtain ⟨tv, rfl, hx, hlen⟩ := id h
  obtain ⟨A, m, rfl, -⟩ := hx.at_
  obtain ⟨b, off, -, -, rfl, -⟩ := hx.row (Below.refl _ _) i hl
  have H := Lib.hid h
  have HX := Lib.hid hx
  clear h hx
  unfold coordV at *
  obtain ⟨ck, nx, wt, ts⟩ := c
  simp only at *
  have hix : ixOf ts s = i := (ix_some hi).2
  have v0 := (hk.all i hl hl).1.ver.1
  simp only at v0
  have hvb : (ts[i].ver == 1073741824) = false := beq_eq_false_iff_ne.2 (by omega)
  have hvc : (ts[i].ver != 1073741824) = true := by simpa using hvb
  have HI := Lib.hid hix
  have HK := Lib.hid hk
  have HN := Lib.hid hn
  have HST := Lib.hid hst
  have HNM := Lib.hid hnm
  clear hk hn hi hix hst hnm
  go_enter Try.func44, Try.ntmps44
  go_wp2_with fail
  have hb1 : Below w.heap.size w ((w.alloc (.cells #[.int .i64 ck, .int .i64 nx, .int .i64 wt, .slice (some ⟨b, off, none⟩) ts.length m] 28)).alloc (.cells #[.int .i64 0, .int .i64 0, .int .i64 0, .slice none 0 0] 28)) := ((Below.refl _ _).alloc (by first | omega | (simp; done) | (simp; omega)) _).alloc (by first | omega | (simp; done) | (simp; omega)) _
  have hal1 : Below w.heap.size w ((w.alloc (.cells #[.int .i64 ck, .int .i64 nx, .int .i64 wt, .slice (some ⟨b, off, none⟩) ts.length m] 28)).alloc (.cells #[.int .i64 0, .int .i64 0, .int .i64 0, .slice none 0 0] 28)) := ((Below.refl _ _).alloc (by first | omega | (simp; done) | (simp; omega)) _).alloc (by first | omega | (simp; done) | (simp; omega)) _
  have b_bx1 : Blk ((w.alloc (.cells #[.int .i64 ck, .int .i64 nx, .int .i64 wt, .slice (some ⟨b, off, none⟩) ts.length m] 28)).alloc (.cells #[.int .i64 0, .int .i64 0, .int .i64 0, .slice none 0 0] 28)) (w.heap.size) 28 #[.int .i64 ck, .int .i64 nx, .int .i64 wt, .slice (some ⟨b, off, none⟩) ts.length m] := (Blk.new_ _ 28 #[.int .i64 ck, .int .i64 nx, .int .i64 wt, .slice (some ⟨b, off, none⟩) ts.length m] (by first | rfl | (simp; done) | (simp; omega))).alloc _
  have b_bz1 : Blk ((w.alloc (.cells #[.int .i64 ck, .int .i64 nx, .int .i64 wt, .slice (some ⟨b, off, none⟩) ts.length m] 28)).alloc (.cells #[.int .i64 0, .int .i64 0, .int .i64 0, .slice none 0 0] 28)) (w.heap.size + 1) 28 #[.int .i64 0, .int .i64 0, .int .i64 0, .slice none 0 0] := Blk.new_ _ 28 #[.int .i64 0, .int .i64 0, .int .i64 0, .slice none 0 0] (by first | rfl | (simp; done) | (simp; omega))
  have k_c1 := H.out.below hal1
  have hz1 : w.heap.size + 2 ≤ ((w.alloc (.cells #[.int .i64 ck, .int .i64 nx, .int .i64 wt, .slice (some ⟨b, off, none⟩) ts.length m] 28)).alloc (.cells #[.int .i64 0, .int .i64 0, .int .i64 0, .slice none 0 0] 28)).heap.size := by first | omega | (simp; done) | (simp; omega)
  generalize (w.alloc (.cells #[.int .i64 ck, .int .i64 nx, .int .i64 wt, .slice (some ⟨b, off, none⟩) ts.length m] 28)).alloc (.cells #[.int .i64 0, .int .i64 0, .int .i64 0, .slice none 0 0] 28) = W1 at *
  have HB1 := Lib.hid hb1
  have B1_bx := Lib.hid b_bx1
  have B1_bz := Lib.hid b_bz1
  have K1_c := Lib.hid k_c1
  clear hb1 b_bx1 b_bz1 k_c1
  clear H
  refine (coordFault_any _ ⟨ck, nx, wt, ts⟩ s 0 _ K1_c.out HNM.out hs (Or.inr ⟨HK.out, HN.out, rfl⟩)).mono ?_
  rintro e W2 ⟨rfl, hb⟩
  have hb2 : Below w.heap.size w W2 := below_then HB1.out hb
  have b_bx2 := B1_bx.out.below hb B1_bx.out.lt
  have b_bz2 := B1_bz.out.below hb B1_bz.out.lt
  have k_c2 := K1_c.out.below hb
  have hz2 := hb.size
  have HB2 := Lib.hid hb2
  have B2_bx := Lib.hid b_bx2
  have B2_bz := Lib.hid b_bz2
  have K2_c := Lib.hid k_c2
  clear hb2 b_bx2 b_bz2 k_c2
  clear B1_bx B1_bz HB1 K1_c
  have c_bx0 := B2_bx.out.cell 0
  have c_bx1 := B2_bx.out.cell 1
  have c_bx2 := B2_bx.out.cell 2
  have c_bx3 := B2_bx.out.cell 3
  have l_bx := B2_bx.out.lt
  go_wp2_with fail
  clear c_bx0 c_bx1 c_bx2 c_bx3 l_bx
  have hfit := HK.out.fits
  refine (refCoordCopy_any _ ⟨ck, nx, wt, ts⟩ _ K2_c.out hfit.1 hfit.2.1).mono ?_
  rintro e W3 ⟨tv5, rows, rfl, hown, hb⟩
  obtain ⟨A5, c5, rfl, hc5⟩ := (Sl.of_own hown.own).form
  simp only at *
  unfold coordV
  simp only
  clear hfit
  have hb3 : Below w.heap.size w W3 := below_then HB2.out hb
  have b_bx3 := B2_bx.out.below hb B2_bx.out.lt
  have b_bz3 := B2_bz.out.below hb B2_bz.out.lt
  have k_c3 := K2_c.out.below hb
  have hz3 := hb.size
  have HB3 := Lib.hid hb3
  have B3_bx := Lib.hid b_bx3
  have B3_bz := Lib.hid b_bz3
  have K3_c := Lib.hid k_c3
  clear hb3 b_bx3 b_bz3 k_c3
  clear B2_bx B2_bz HB2 K2_c
  have ho := hown.rebase (w0 := w) rfl (Nat.le_refl _) HB3.out
  obtain ⟨gg, c6, hv6, hg1, hg2, hc6, -⟩ := ho.at_ (Nat.lt_of_le_of_lt (Nat.zero_le i) hl)
  injection hv6 with hv7 hv8 hv9
  subst hv7
  clear hv8 hv9 hc6 hc5
  have HO := Lib.hid ho
  clear ho hown
  have c_bx0 := B3_bx.out.cell 0
  have c_bx1 := B3_bx.out.cell 1
  have c_bx2 := B3_bx.out.cell 2
  have c_bx3 := B3_bx.out.cell 3
  have l_bx := B3_bx.out.lt
  go_wp2_with fail
  clear c_bx0 c_bx1 c_bx2 c_bx3 l_bx
  have hsz4 := HB3.out.size
  have hb4 : Below w.heap.size w (W3.alloc (.cells #[.int .i64 ck, .int .i64 nx, .int .i64 wt, .slice (some ⟨gg, 0, none⟩) ts.length c5] 28)) := (HB3.out).alloc (by first | omega | (simp; done) | (simp; omega)) _
  have hal4 : Below W3.heap.size W3 (W3.alloc (.cells #[.int .i64 ck, .int .i64 nx, .int .i64 wt, .slice (some ⟨gg, 0, none⟩) ts.length c5] 28)) := (Below.refl _ _).alloc (by first | omega | (simp; done) | (simp; omega)) _
  have b_bx4 : Blk (W3.alloc (.cells #[.int .i64 ck, .int .i64 nx, .int .i64 wt, .slice (some ⟨gg, 0, none⟩) ts.length c5] 28)) (w.heap.size) 28 #[.int .i64 ck, .int .i64 nx, .int .i64 wt, .slice (some ⟨b, off, none⟩) ts.length m] := (B3_bx.out).alloc _
  have b_bz4 : Blk (W3.alloc (.cells #[.int .i64 ck, .int .i64 nx, .int .i64 wt, .slice (some ⟨gg, 0, none⟩) ts.length c5] 28)) (w.heap.size + 1) 28 #[.int .i64 0, .int .i64 0, .int .i64 0, .slice none 0 0] := (B3_bz.out).alloc _
  have b_bo4 : Blk (W3.alloc (.cells #[.int .i64 ck, .int .i64 nx, .int .i64 wt, .slice (some ⟨gg, 0, none⟩) ts.length c5] 28)) (W3.heap.size) 28 #[.int .i64 ck, .int .i64 nx, .int .i64 wt, .slice (some ⟨gg, 0, none⟩) ts.length c5] := Blk.new_ _ 28 #[.int .i64 ck, .int .i64 nx, .int .i64 wt, .slice (some ⟨gg, 0, none⟩) ts.length c5] (by first | rfl | (simp; done) | (simp; omega))
  have k_c4 := K3_c.out.below hal4
  have k_own4 := (HO.out).alloc (.cells #[.int .i64 ck, .int .i64 nx, .int .i64 wt, .slice (some ⟨gg, 0, none⟩) ts.length c5] 28)
  have hz4 : W3.heap.size + 1 ≤ (W3.alloc (.cells #[.int .i64 ck, .int .i64 nx, .int .i64 wt, .slice (some ⟨gg, 0, none⟩) ts.length c5] 28)).heap.size := by first | omega | (simp; done) | (simp; omega)
  generalize W3.alloc (.cells #[.int .i64 ck, .int .i64 nx, .int .i64 wt, .slice (some ⟨gg, 0, none⟩) ts.length c5] 28) = W4 at *
  have HB4 := Lib.hid hb4
  have B4_bx := Lib.hid b_bx4
  have B4_bz := Lib.hid b_bz4
  have B4_bo := Lib.hid b_bo4
  have K4_c := Lib.hid k_c4
  have K4_own := Lib.hid k_own4
  clear hb4 b_bx4 b_bz4 b_bo4 k_c4 k_own4
  clear B3_bx B3_bz HB3 K3_c HO
  refine (txnOf_any _ ⟨ck, nx, wt, ts⟩ s _ K4_c.out).mono ?_
  rintro e W5 ⟨rfl, hb⟩
  simp only
  rw [HI.out]
  have hb5 : Below w.heap.size w W5 := below_then HB4.out hb
  have b_bx5 := B4_bx.out.below hb B4_bx.out.lt
  have b_bz5 := B4_bz.out.below hb B4_bz.out.lt
  have b_bo5 := B4_bo.out.below hb B4_bo.out.lt
  have k_c5 := K4_c.out.below hb
  have k_own5 := K4_own.out.keep hb
  have hz5 := hb.size
  have HB5 := Lib.hid hb5
  have B5_bx := Lib.hid b_bx5
  have B5_bz := Lib.hid b_bz5
  have B5_bo := Lib.hid b_bo5
  have K5_c := Lib.hid k_c5
  have K5_own := Lib.hid k_own5
  clear hb5 b_bx5 b_bz5 b_bo5 k_c5 k_own5
  clear B4_bx B4_bz B4_bo HB4 K4_c K4_own
  obtain ⟨hbl, A3, m3, x0, x1, x2, x3, x4, x5, x6, -⟩ := HX.out.rowAt HB5.out i hl
  rw [HST.out] at x3
  have hblz := HB5.out.size
  have i0 : (0 : Int) ≤ (i : Int) := by omega
  have i1 : (i : Int) < (ts.length : Int) := Int.ofNat_lt.2 hl
  have i2 : decide ((i : Int) < 0) = false := decide_eq_false (by omega)
  have c_bx0 := B5_bx.out.cell 0
  have c_bx1 := B5_bx.out.cell 1
  have c_bx2 := B5_bx.out.cell 2
  have c_bx3 := B5_bx.out.cell 3
  have l_bx := B5_bx.out.lt
  go_wp2_with fail
  clear x0 x1 x2 x3 x4 x5 x6 c_bx0 c_bx1 c_bx2 c_bx3 l_bx
  clear hbl hblz
  refine (endin_b false (by decide) rfl).mono ?_
  rintro e W6 ⟨rfl, hb⟩
  have hb6 : Below w.heap.size w W6 := below_then HB5.out hb
  have b_bx6 := B5_bx.out.below hb B5_bx.out.lt
  have b_bz6 := B5_bz.out.below hb B5_bz.out.lt
  have b_bo6 := B5_bo.out.below hb B5_bo.out.lt
  have k_c6 := K5_c.out.below hb
  have k_own6 := K5_own.out.keep hb
  have hz6 := hb.size
  have HB6 := Lib.hid hb6
  have B6_bx := Lib.hid b_bx6
  have B6_bz := Lib.hid b_bz6
  have B6_bo := Lib.hid b_bo6
  have K6_c := Lib.hid k_c6
  have K6_own := Lib.hid k_own6
  clear hb6 b_bx6 b_bz6 b_bo6 k_c6 k_own6
  clear B5_bx B5_bz B5_bo HB5 K5_c K5_own
  obtain ⟨hbl, A3, m3, x0, x1, x2, x3, x4, x5, x6, -⟩ := HX.out.rowAt HB6.out i hl
  rw [HST.out] at x3
  have hblz := HB6.out.size
  have c_bx0 := B6_bx.out.cell 0
  have c_bx1 := B6_bx.out.cell 1
  have c_bx2 := B6_bx.out.cell 2
  have c_bx3 := B6_bx.out.cell 3
  have l_bx := B6_bx.out.lt
  have c_bo0 := B6_bo.out.cell 0
  have c_bo1 := B6_bo.out.cell 1
  have c_bo2 := B6_bo.out.cell 2
  have c_bo3 := B6_bo.out.cell 3
  have l_bo := B6_bo.out.lt
  obtain ⟨hg3, hg4, A6, m6, ⟨-, r1, r2, r3, -⟩, hrf, -⟩ := K6_own.out.row rfl i hl
  rw [HST.out] at r3
  have rf3 := hrf 3 (by decide)
  have rf2 := hrf 2 (by decide)
  clear hrf
  obtain ⟨rows2, hw2⟩ := K6_own.out.putd rfl (by omega) i 2 (.int .i64 (ts[i].ver + 1)) bumpT hl (by decide) (fun _ => rfl) rfl
  have KF := Lib.hid hw2
  clear hw2
  have hszE := HB6.out.size
  have hbE : Below w.heap.size w (W6.setCell ⟨gg, i * 7 + 2, none⟩ (.int .i64 (ts[i].ver + 1))) := (HB6.out).setCell (by show w.heap.size ≤ gg; omega) _
  have b_bxE : Blk (W6.setCell ⟨gg, i * 7 + 2, none⟩ (.int .i64 (ts[i].ver + 1))) (w.heap.size) 28 #[.int .i64 ck, .int .i64 nx, .int .i64 wt, .slice (some ⟨b, off, none⟩) ts.length m] := (B6_bx.out).far (p := ⟨gg, i * 7 + 2, none⟩) (by show w.heap.size ≠ gg; omega) _
  have b_bzE : Blk (W6.setCell ⟨gg, i * 7 + 2, none⟩ (.int .i64 (ts[i].ver + 1))) (w.heap.size + 1) 28 #[.int .i64 0, .int .i64 0, .int .i64 0, .slice none 0 0] := (B6_bz.out).far (p := ⟨gg, i * 7 + 2, none⟩) (by show w.heap.size + 1 ≠ gg; omega) _
  have b_boE : Blk (W6.setCell ⟨gg, i * 7 + 2, none⟩ (.int .i64 (ts[i].ver + 1))) (W3.heap.size) 28 #[.int .i64 ck, .int .i64 nx, .int .i64 wt, .slice (some ⟨gg, 0, none⟩) ts.length c5] := (B6_bo.out).far (p := ⟨gg, i * 7 + 2, none⟩) (by show W3.heap.size ≠ gg; omega) _
  have q0 := b_boE.cell 0
  have q1 := b_boE.cell 1
  have q2 := b_boE.cell 2
  have q3 := b_boE.cell 3
  have ql := b_boE.lt
  have u0 := b_bxE.cell 0
  have u1 := b_bxE.cell 1
  have u2 := b_bxE.cell 2
  have u3 := b_bxE.cell 3
  have ul := b_bxE.lt
  obtain ⟨-, A7, m7, x0, x1, x2, x3, x4, x5, x6, -⟩ := HX.out.rowAt hbE i hl
  rw [HST.out] at x3
  obtain ⟨rows3, hw3⟩ := KF.out.putd (by simp) (by omega) i 3 (.int .i64 4) (setState 4) (by simpa using hl) (by decide) (fun _ => rfl) rfl
  rw [modify_two ts i _ _ raiseT (fun _ => rfl)] at hw3
  have KG := Lib.hid hw3
  clear hw3
  have hszG := HB6.out.size
  have hbG : Below w.heap.size w ((W6.setCell ⟨gg, i * 7 + 2, none⟩ (.int .i64 (ts[i].ver + 1))).setCell ⟨gg, i * 7 + 3, none⟩ (.int .i64 4)) := ((HB6.out).setCell (by show w.heap.size ≤ gg; omega) _).setCell (by show w.heap.size ≤ gg; omega) _
  have b_bxG : Blk ((W6.setCell ⟨gg, i * 7 + 2, none⟩ (.int .i64 (ts[i].ver + 1))).setCell ⟨gg, i * 7 + 3, none⟩ (.int .i64 4)) (w.heap.size) 28 #[.int .i64 ck, .int .i64 nx, .int .i64 wt, .slice (some ⟨b, off, none⟩) ts.length m] := ((B6_bx.out).far (p := ⟨gg, i * 7 + 2, none⟩) (by show w.heap.size ≠ gg; omega) _).far (p := ⟨gg, i * 7 + 3, none⟩) (by show w.heap.size ≠ gg; omega) _
  have b_bzG : Blk ((W6.setCell ⟨gg, i * 7 + 2, none⟩ (.int .i64 (ts[i].ver + 1))).setCell ⟨gg, i * 7 + 3, none⟩ (.int .i64 4)) (w.heap.size + 1) 28 #[.int .i64 0, .int .i64 0, .int .i64 0, .slice none 0 0] := ((B6_bz.out).far (p := ⟨gg, i * 7 + 2, none⟩) (by show w.heap.size + 1 ≠ gg; omega) _).far (p := ⟨gg, i * 7 + 3, none⟩) (by show w.heap.size + 1 ≠ gg; omega) _
  have b_boG : Blk ((W6.setCell ⟨gg, i * 7 + 2, none⟩ (.int .i64 (ts[i].ver + 1))).setCell ⟨gg, i * 7 + 3, none⟩ (.int .i64 4)) (W3.heap.size) 28 #[.int .i64 ck, .int .i64 nx, .int .i64 wt, .slice (some ⟨gg, 0, none⟩) ts.length c5] := ((B6_bo.out).far (p := ⟨gg, i * 7 + 2, none⟩) (by show W3.heap.size ≠ gg; omega) _).far (p := ⟨gg, i * 7 + 3, none⟩) (by show W3.heap.size ≠ gg; omega) _
  have p0 := b_boG.cell 0
  have p1 := b_boG.cell 1
  have p2 := b_boG.cell 2
  have p3 := b_boG.cell 3
  clear hbE b_bxE b_bzE b_boE hbG b_bxG b_bzG b_boG
  go_wp2_with fail
  clear q0 q1 q2 q3 ql u0 u1 u2 u3 ul x0 x1 x2 x3 x4 x5 x6 r1 r2 r3 rf2 rf3 p0 p1 p2 p3
  clear c_bx0 c_bx1 c_bx2 c_bx3 l_bx c_bo0 c_bo1 c_bo2 c_bo3 l_bo
  have hsz7 := HB6.out.size
  have hb7 : Below w.heap.size w ((W6.setCell ⟨gg, i * 7 + 2, none⟩ (.int .i64 (ts[i].ver + 1))).setCell ⟨gg, i * 7 + 3, none⟩ (.int .i64 4)) := ((HB6.out).setCell (by show w.heap.size ≤ gg; omega) _).setCell (by show w.heap.size ≤ gg; omega) _
  have b_bx7 : Blk ((W6.setCell ⟨gg, i * 7 + 2, none⟩ (.int .i64 (ts[i].ver + 1))).setCell ⟨gg, i * 7 + 3, none⟩ (.int .i64 4)) (w.heap.size) 28 #[.int .i64 ck, .int .i64 nx, .int .i64 wt, .slice (some ⟨b, off, none⟩) ts.length m] := ((B6_bx.out).far (p := ⟨gg, i * 7 + 2, none⟩) (by show w.heap.size ≠ gg; omega) _).far (p := ⟨gg, i * 7 + 3, none⟩) (by show w.heap.size ≠ gg; omega) _
  have b_bz7 : Blk ((W6.setCell ⟨gg, i * 7 + 2, none⟩ (.int .i64 (ts[i].ver + 1))).setCell ⟨gg, i * 7 + 3, none⟩ (.int .i64 4)) (w.heap.size + 1) 28 #[.int .i64 0, .int .i64 0, .int .i64 0, .slice none 0 0] := ((B6_bz.out).far (p := ⟨gg, i * 7 + 2, none⟩) (by show w.heap.size + 1 ≠ gg; omega) _).far (p := ⟨gg, i * 7 + 3, none⟩) (by show w.heap.size + 1 ≠ gg; omega) _
  have b_bo7 : Blk ((W6.setCell ⟨gg, i * 7 + 2, none⟩ (.int .i64 (ts[i].ver + 1))).setCell ⟨gg, i * 7 + 3, none⟩ (.int .i64 4)) (W3.heap.size) 28 #[.int .i64 ck, .int .i64 nx, .int .i64 wt, .slice (some ⟨gg, 0, none⟩) ts.length c5] := ((B6_bo.out).far (p := ⟨gg, i * 7 + 2, none⟩) (by show W3.heap.size ≠ gg; omega) _).far (p := ⟨gg, i * 7 + 3, none⟩) (by show W3.heap.size ≠ gg; omega) _
  have k_own7 := KG.out
  have hz7 : W6.heap.size + 0 ≤ ((W6.setCell ⟨gg, i * 7 + 2, none⟩ (.int .i64 (ts[i].ver + 1))).setCell ⟨gg, i * 7 + 3, none⟩ (.int .i64 4)).heap.size := by first | omega | (simp; done) | (simp; omega)
  generalize (W6.setCell ⟨gg, i * 7 + 2, none⟩ (.int .i64 (ts[i].ver + 1))).setCell ⟨gg, i * 7 + 3, none⟩ (.int .i64 4) = W7 at *
  have HB7 := Lib.hid hb7
  have B7_bx := Lib.hid b_bx7
  have B7_bz := Lib.hid b_bz7
  have B7_bo := Lib.hid b_bo7
  have K7_own := Lib.hid k_own7
  clear hb7 b_bx7 b_bz7 b_bo7 k_own7
  clear B6_bx B6_bz B6_bo HB6 K6_own
  obtain ⟨hg8, hg9, A4, m4, ⟨-, s1, s2, -⟩, -, -⟩ := K7_own.out.row (by simp) i (by simpa using hl)
  simp only [List.getElem_modify, if_true, raiseT] at s1 s2
  have c_bo0 := B7_bo.out.cell 0
  have c_bo1 := B7_bo.out.cell 1
  have c_bo2 := B7_bo.out.cell 2
  have c_bo3 := B7_bo.out.cell 3
  have l_bo := B7_bo.out.lt
  have c_bz0 := B7_bz.out.cell 0
  have f_bz0 := B7_bz.out.frozen 0
  have c_bz1 := B7_bz.out.cell 1
  have f_bz1 := B7_bz.out.frozen 1
  have c_bz2 := B7_bz.out.cell 2
  have f_bz2 := B7_bz.out.frozen 2
  have c_bz3 := B7_bz.out.cell 3
  have f_bz3 := B7_bz.out.frozen 3
  have l_bz := B7_bz.out.lt
  go_region
  go_wp2
  clear c_bo0 c_bo1 c_bo2 c_bo3 l_bo c_bz0 f_bz0 c_bz1 f_bz1 c_bz2 f_bz2 c_bz3 f_bz3 l_bz
  clear s1 s2
  have hszF := HB7.out.size
  have hbF : Below w.heap.size w ((((W7.setCell ⟨w.heap.size + 1, 0, none⟩ (.int .i64 ck)).setCell ⟨w.heap.size + 1, 1, none⟩ (.int .i64 nx)).setCell ⟨w.heap.size + 1, 2, none⟩ (.int .i64 wt)).setCell ⟨w.heap.size + 1, 3, none⟩ (.slice (some ⟨gg, 0, none⟩) ts.length c5)) := ((((HB7.out).setCell (by show w.heap.size ≤ w.heap.size + 1; omega) _).setCell (by show w.heap.size ≤ w.heap.size + 1; omega) _).setCell (by show w.heap.size ≤ w.heap.size + 1; omega) _).setCell (by show w.heap.size ≤ w.heap.size + 1; omega) _
  have b_bxF : Blk ((((W7.setCell ⟨w.heap.size + 1, 0, none⟩ (.int .i64 ck)).setCell ⟨w.heap.size + 1, 1, none⟩ (.int .i64 nx)).setCell ⟨w.heap.size + 1, 2, none⟩ (.int .i64 wt)).setCell ⟨w.heap.size + 1, 3, none⟩ (.slice (some ⟨gg, 0, none⟩) ts.length c5)) (w.heap.size) 28 #[.int .i64 ck, .int .i64 nx, .int .i64 wt, .slice (some ⟨b, off, none⟩) ts.length m] := ((((B7_bx.out).far (p := ⟨w.heap.size + 1, 0, none⟩) (by show w.heap.size ≠ w.heap.size + 1; omega) _).far (p := ⟨w.heap.size + 1, 1, none⟩) (by show w.heap.size ≠ w.heap.size + 1; omega) _).far (p := ⟨w.heap.size + 1, 2, none⟩) (by show w.heap.size ≠ w.heap.size + 1; omega) _).far (p := ⟨w.heap.size + 1, 3, none⟩) (by show w.heap.size ≠ w.heap.size + 1; omega) _
  have b_bzF : Blk ((((W7.setCell ⟨w.heap.size + 1, 0, none⟩ (.int .i64 ck)).setCell ⟨w.heap.size + 1, 1, none⟩ (.int .i64 nx)).setCell ⟨w.heap.size + 1, 2, none⟩ (.int .i64 wt)).setCell ⟨w.heap.size + 1, 3, none⟩ (.slice (some ⟨gg, 0, none⟩) ts.length c5)) (w.heap.size + 1) 28 #[.int .i64 ck, .int .i64 nx, .int .i64 wt, .slice (some ⟨gg, 0, none⟩) ts.length c5] := ((((B7_bz.out).set_ 0 _).set_ 1 _).set_ 2 _).set_ 3 _
  have b_boF : Blk ((((W7.setCell ⟨w.heap.size + 1, 0, none⟩ (.int .i64 ck)).setCell ⟨w.heap.size + 1, 1, none⟩ (.int .i64 nx)).setCell ⟨w.heap.size + 1, 2, none⟩ (.int .i64 wt)).setCell ⟨w.heap.size + 1, 3, none⟩ (.slice (some ⟨gg, 0, none⟩) ts.length c5)) (W3.heap.size) 28 #[.int .i64 ck, .int .i64 nx, .int .i64 wt, .slice (some ⟨gg, 0, none⟩) ts.length c5] := ((((B7_bo.out).far (p := ⟨w.heap.size + 1, 0, none⟩) (by show W3.heap.size ≠ w.heap.size + 1; omega) _).far (p := ⟨w.heap.size + 1, 1, none⟩) (by show W3.heap.size ≠ w.heap.size + 1; omega) _).far (p := ⟨w.heap.size + 1, 2, none⟩) (by show W3.heap.size ≠ w.heap.size + 1; omega) _).far (p := ⟨w.heap.size + 1, 3, none⟩) (by show W3.heap.size ≠ w.heap.size + 1; omega) _
  have hbF := hbF.drew
  have hoF := (K7_own.out.put4 (g := w.heap.size + 1) (by constructor <;> omega) (.int .i64 ck) (.int .i64 nx) (.int .i64 wt) (.slice (some ⟨gg, 0, none⟩) ts.length c5)).keep ((Below.refl _ _).drew)
  have y0 := b_bzF.cell 0
  have y1 := b_bzF.cell 1
  have y2 := b_bzF.cell 2
  have y3 := b_bzF.cell 3
  exact bodyPost_ret (v := .tuple #[.agg #[.int .i64 ck, .int .i64 nx, .int .i64 wt, .slice (some ⟨gg, 0, none⟩) ts.length c5], .int .i64 (ts[i].pid), .int .i64 (ts[i].ver + 1), .int .i64 (0)]) (by simp [results, Try.results44, go_sem, y0, y1, y2, y3]) rfl (⟨.slice (some ⟨gg, 0, none⟩) ts.length c5, _, rfl, own_len (hoF.rebase (by simp) (by omega) hbF) (by simp [CoordD.upd]), hbF⟩)
end Go.Proofs.Ytjkoceacjbhblaa
