/- tailraceref.EndedOf, at false. -/
import Derived.Test.YtjkoceacjbhblaaCoordE
namespace Go.Proofs.Ytjkoceacjbhblaa
open Go.RowKit

set_option maxRecDepth 100000 in
set_option maxHeartbeats 4000000 in
theorem ended_on_false (v : Value) (c : CoordD) (s : ByteArray) (ver : Int) (i : Nat) (hk : CoordOk c) (hn : NameOk s) (hi : idxOf c.txns s = some i) (hl : i < c.txns.length) (hv : c.txns[i].ver = ver) (hst : c.txns[i].state = 2) (w : World) (h : Cv w v c) (hnm : ∀ t ∈ c.txns, t.name.size ≤ 9223372036854775807) (hs : s.size ≤ 9223372036854775807) :
    Calls Try.prog 48 #[v, .string s, .int .i64 ver, .bool false] w (CRes (c.upd i (setState 4)) [.int .i64 0] w) := by
  obtain ⟨tv, rfl, hx, hlen⟩ := id h
  obtain ⟨A, m, rfl, -⟩ := hx.at_
  obtain ⟨b, off, -, -, rfl, -⟩ := hx.row (Below.refl _ _) i hl
  have H := Lib.hid h
  have HX := Lib.hid hx
  clear h hx
  unfold coordV at *
  obtain ⟨ck, nx, wt, ts⟩ := c
  simp only at *
  have HK := Lib.hid hk
  have HN := Lib.hid hn
  have HI := Lib.hid hi
  have HV := Lib.hid hv
  have HST := Lib.hid hst
  have HNM := Lib.hid hnm
  have hix : ixOf ts s = i := (ix_some hi).2
  have HIX := Lib.hid hix
  clear hk hn hi hv hst hnm hix
  go_enter Try.func48, Try.ntmps48
  go_wp2_with fail
  have hb1 : Below w.heap.size w ((w.alloc (.cells #[.int .i64 ck, .int .i64 nx, .int .i64 wt, .slice (some ⟨b, off, none⟩) ts.length m] 28)).alloc (.cells #[.int .i64 0, .int .i64 0, .int .i64 0, .slice none 0 0] 28)) := ((Below.refl _ _).alloc (by first | omega | (simp; done) | (simp; omega)) _).alloc (by first | omega | (simp; done) | (simp; omega)) _
  have hal1 : Below w.heap.size w ((w.alloc (.cells #[.int .i64 ck, .int .i64 nx, .int .i64 wt, .slice (some ⟨b, off, none⟩) ts.length m] 28)).alloc (.cells #[.int .i64 0, .int .i64 0, .int .i64 0, .slice none 0 0] 28)) := ((Below.refl _ _).alloc (by first | omega | (simp; done) | (simp; omega)) _).alloc (by first | omega | (simp; done) | (simp; omega)) _
  have b_bx1 : Blk ((w.alloc (.cells #[.int .i64 ck, .int .i64 nx, .int .i64 wt, .slice (some ⟨b, off, none⟩) ts.length m] 28)).alloc (.cells #[.int .i64 0, .int .i64 0, .int .i64 0, .slice none 0 0] 28)) (w.heap.size) 28 #[.int .i64 ck, .int .i64 nx, .int .i64 wt, .slice (some ⟨b, off, none⟩) ts.length m] := (Blk.new_ _ 28 #[.int .i64 ck, .int .i64 nx, .int .i64 wt, .slice (some ⟨b, off, none⟩) ts.length m] (by first | rfl | (simp; done) | (simp; omega))).alloc _
  have b_bz1 : Blk ((w.alloc (.cells #[.int .i64 ck, .int .i64 nx, .int .i64 wt, .slice (some ⟨b, off, none⟩) ts.length m] 28)).alloc (.cells #[.int .i64 0, .int .i64 0, .int .i64 0, .slice none 0 0] 28)) (w.heap.size + 1) 28 #[.int .i64 0, .int .i64 0, .int .i64 0, .slice none 0 0] := Blk.new_ _ 28 #[.int .i64 0, .int .i64 0, .int .i64 0, .slice none 0 0] (by first | rfl | (simp; done) | (simp; omega))
  have k_c1 := H.out.below hal1
  have hz1 : w.heap.size + 2 ≤ ((w.alloc (.cells #[.int .i64 ck, .int .i64 nx, .int .i64 wt, .slice (some ⟨b, off, none⟩) ts.length m] 28)).alloc (.cells #[.int .i64 0, .int .i64 0, .int .i64 0, .slice none 0 0] 28)).heap.size := by first | omega | (simp; done) | (simp; omega)
  generalize (w.alloc (.cells #[.int .i64 ck, .int .i64 nx, .int .i64 wt, .slice (some ⟨b, off, none⟩) ts.length m] 28)).alloc (.cells #[.int .i64 0, .int .i64 0, .int .i64 0, .slice none 0 0] 28) = W1 at *
  have HB1 := Lib.hid hb1
  have B1_bx := Lib.hid b_bx1
  have B1_bz := Lib.hid b_bz1
  have K1_c := Lib.hid k_c1
  clear hb1 b_bx1 b_bz1 k_c1
  clear H
  refine (knownFault_good _ ⟨ck, nx, wt, ts⟩ s ver i HK.out HN.out HI.out hl HV.out _ K1_c.out HNM.out hs).mono ?_
  rintro e W2 ⟨rfl, hb⟩
  have hb2 : Below w.heap.size w W2 := below_then HB1.out hb
  have b_bx2 := B1_bx.out.below hb B1_bx.out.lt
  have b_bz2 := B1_bz.out.below hb B1_bz.out.lt
  have k_c2 := K1_c.out.below hb
  have hz2 := hb.size
  have HB2 := Lib.hid hb2
  have B2_bx := Lib.hid b_bx2
  have B2_bz := Lib.hid b_bz2
  have K2_c := Lib.hid k_c2
  clear hb2 b_bx2 b_bz2 k_c2
  clear B1_bx B1_bz HB1 K1_c
  have c_bx0 := B2_bx.out.cell 0
  have c_bx1 := B2_bx.out.cell 1
  have c_bx2 := B2_bx.out.cell 2
  have c_bx3 := B2_bx.out.cell 3
  have l_bx := B2_bx.out.lt
  go_wp2_with fail
  clear c_bx0 c_bx1 c_bx2 c_bx3 l_bx
  have hfit := HK.out.fits
  refine (refCoordCopy_any _ ⟨ck, nx, wt, ts⟩ _ K2_c.out hfit.1 hfit.2.1).mono ?_
  rintro e W3 ⟨tv5, rows, rfl, hown, hb⟩
  obtain ⟨A5, c5, rfl, hc5⟩ := (Sl.of_own hown.own).form
  simp only at *
  unfold coordV
  simp only
  clear hfit
  have hb3 : Below w.heap.size w W3 := below_then HB2.out hb
  have b_bx3 := B2_bx.out.below hb B2_bx.out.lt
  have b_bz3 := B2_bz.out.below hb B2_bz.out.lt
  have k_c3 := K2_c.out.below hb
  have hz3 := hb.size
  have HB3 := Lib.hid hb3
  have B3_bx := Lib.hid b_bx3
  have B3_bz := Lib.hid b_bz3
  have K3_c := Lib.hid k_c3
  clear hb3 b_bx3 b_bz3 k_c3
  clear B2_bx B2_bz HB2 K2_c
  have ho := hown.rebase (w0 := w) rfl (Nat.le_refl _) HB3.out
  obtain ⟨gg, c6, hv6, hg1, hg2, hc6, -⟩ := ho.at_ (Nat.lt_of_le_of_lt (Nat.zero_le i) hl)
  injection hv6 with hv7 hv8 hv9
  subst hv7
  clear hv8 hv9 hc6 hc5
  have HO := Lib.hid ho
  clear ho hown
  have c_bx0 := B3_bx.out.cell 0
  have c_bx1 := B3_bx.out.cell 1
  have c_bx2 := B3_bx.out.cell 2
  have c_bx3 := B3_bx.out.cell 3
  have l_bx := B3_bx.out.lt
  go_wp2_with fail
  clear c_bx0 c_bx1 c_bx2 c_bx3 l_bx
  have hsz4 := HB3.out.size
  have hb4 : Below w.heap.size w (W3.alloc (.cells #[.int .i64 ck, .int .i64 nx, .int .i64 wt, .slice (some ⟨gg, 0, none⟩) ts.length c5] 28)) := (HB3.out).alloc (by first | omega | (simp; done) | (simp; omega)) _
  have hal4 : Below W3.heap.size W3 (W3.alloc (.cells #[.int .i64 ck, .int .i64 nx, .int .i64 wt, .slice (some ⟨gg, 0, none⟩) ts.length c5] 28)) := (Below.refl _ _).alloc (by first | omega | (simp; done) | (simp; omega)) _
  have b_bx4 : Blk (W3.alloc (.cells #[.int .i64 ck, .int .i64 nx, .int .i64 wt, .slice (some ⟨gg, 0, none⟩) ts.length c5] 28)) (w.heap.size) 28 #[.int .i64 ck, .int .i64 nx, .int .i64 wt, .slice (some ⟨b, off, none⟩) ts.length m] := (B3_bx.out).alloc _
  have b_bz4 : Blk (W3.alloc (.cells #[.int .i64 ck, .int .i64 nx, .int .i64 wt, .slice (some ⟨gg, 0, none⟩) ts.length c5] 28)) (w.heap.size + 1) 28 #[.int .i64 0, .int .i64 0, .int .i64 0, .slice none 0 0] := (B3_bz.out).alloc _
  have b_bo4 : Blk (W3.alloc (.cells #[.int .i64 ck, .int .i64 nx, .int .i64 wt, .slice (some ⟨gg, 0, none⟩) ts.length c5] 28)) (W3.heap.size) 28 #[.int .i64 ck, .int .i64 nx, .int .i64 wt, .slice (some ⟨gg, 0, none⟩) ts.length c5] := Blk.new_ _ 28 #[.int .i64 ck, .int .i64 nx, .int .i64 wt, .slice (some ⟨gg, 0, none⟩) ts.length c5] (by first | rfl | (simp; done) | (simp; omega))
  have k_c4 := K3_c.out.below hal4
  have k_own4 := (HO.out).alloc (.cells #[.int .i64 ck, .int .i64 nx, .int .i64 wt, .slice (some ⟨gg, 0, none⟩) ts.length c5] 28)
  have hz4 : W3.heap.size + 1 ≤ (W3.alloc (.cells #[.int .i64 ck, .int .i64 nx, .int .i64 wt, .slice (some ⟨gg, 0, none⟩) ts.length c5] 28)).heap.size := by first | omega | (simp; done) | (simp; omega)
  generalize W3.alloc (.cells #[.int .i64 ck, .int .i64 nx, .int .i64 wt, .slice (some ⟨gg, 0, none⟩) ts.length c5] 28) = W4 at *
  have HB4 := Lib.hid hb4
  have B4_bx := Lib.hid b_bx4
  have B4_bz := Lib.hid b_bz4
  have B4_bo := Lib.hid b_bo4
  have K4_c := Lib.hid k_c4
  have K4_own := Lib.hid k_own4
  clear hb4 b_bx4 b_bz4 b_bo4 k_c4 k_own4
  clear B3_bx B3_bz HB3 K3_c HO
  refine (txnOf_any _ ⟨ck, nx, wt, ts⟩ s _ K4_c.out).mono ?_
  rintro e W5 ⟨rfl, hb⟩
  simp only
  rw [HIX.out]
  have hb5 : Below w.heap.size w W5 := below_then HB4.out hb
  have b_bx5 := B4_bx.out.below hb B4_bx.out.lt
  have b_bz5 := B4_bz.out.below hb B4_bz.out.lt
  have b_bo5 := B4_bo.out.below hb B4_bo.out.lt
  have k_c5 := K4_c.out.below hb
  have k_own5 := K4_own.out.keep hb
  have hz5 := hb.size
  have HB5 := Lib.hid hb5
  have B5_bx := Lib.hid b_bx5
  have B5_bz := Lib.hid b_bz5
  have B5_bo := Lib.hid b_bo5
  have K5_c := Lib.hid k_c5
  have K5_own := Lib.hid k_own5
  clear hb5 b_bx5 b_bz5 b_bo5 k_c5 k_own5
  clear B4_bx B4_bz B4_bo HB4 K4_c K4_own
  obtain ⟨hbl, A3, m3, x0, x1, x2, x3, x4, x5, x6, -⟩ := HX.out.rowAt HB5.out i hl
  rw [HST.out] at x3
  have c_bx0 := B5_bx.out.cell 0
  have c_bx1 := B5_bx.out.cell 1
  have c_bx2 := B5_bx.out.cell 2
  have c_bx3 := B5_bx.out.cell 3
  have l_bx := B5_bx.out.lt
  have c_bo0 := B5_bo.out.cell 0
  have c_bo1 := B5_bo.out.cell 1
  have c_bo2 := B5_bo.out.cell 2
  have c_bo3 := B5_bo.out.cell 3
  have l_bo := B5_bo.out.lt
  have hblz := HB5.out.size
  have l_bz5 := B5_bz.out.lt
  obtain ⟨hg3, hg4, A4, m4, ⟨-, -, -, r3, -, -, r6⟩, hrf, -⟩ := K5_own.out.row rfl i hl
  have rf3 := hrf 3 (by decide)
  have rf6 := hrf 6 (by decide)
  clear hrf
  have i0 : (0 : Int) ≤ (i : Int) := by omega
  have i1 : (i : Int) < (ts.length : Int) := Int.ofNat_lt.2 hl
  obtain ⟨rows2, hw2⟩ := K5_own.out.putd rfl (by omega) i 3 (.int .i64 4) (setState 4) hl (by decide) (fun _ => rfl) rfl
  have KG := Lib.hid hw2
  clear hw2
  have hszG := HB5.out.size
  have hbG : Below w.heap.size w (W5.setCell ⟨gg, i * 7 + 3, none⟩ (.int .i64 4)) := (HB5.out).setCell (by show w.heap.size ≤ gg; omega) _
  have b_bxG : Blk (W5.setCell ⟨gg, i * 7 + 3, none⟩ (.int .i64 4)) (w.heap.size) 28 #[.int .i64 ck, .int .i64 nx, .int .i64 wt, .slice (some ⟨b, off, none⟩) ts.length m] := (B5_bx.out).far (p := ⟨gg, i * 7 + 3, none⟩) (by show w.heap.size ≠ gg; omega) _
  have b_bzG : Blk (W5.setCell ⟨gg, i * 7 + 3, none⟩ (.int .i64 4)) (w.heap.size + 1) 28 #[.int .i64 0, .int .i64 0, .int .i64 0, .slice none 0 0] := (B5_bz.out).far (p := ⟨gg, i * 7 + 3, none⟩) (by show w.heap.size + 1 ≠ gg; omega) _
  have b_boG : Blk (W5.setCell ⟨gg, i * 7 + 3, none⟩ (.int .i64 4)) (W3.heap.size) 28 #[.int .i64 ck, .int .i64 nx, .int .i64 wt, .slice (some ⟨gg, 0, none⟩) ts.length c5] := (B5_bo.out).far (p := ⟨gg, i * 7 + 3, none⟩) (by show W3.heap.size ≠ gg; omega) _
  have p0 := b_boG.cell 0
  have p1 := b_boG.cell 1
  have p2 := b_boG.cell 2
  have p3 := b_boG.cell 3
  obtain ⟨⟨z0, z1, z2, z3⟩, ⟨zf0, zf1, zf2, zf3⟩, zl⟩ := b_bzG.all4
  clear hbG b_bxG b_bzG b_boG
  go_wp2_with fail
  clear c_bx0 c_bx1 c_bx2 c_bx3 l_bx c_bo0 c_bo1 c_bo2 c_bo3 l_bo
  have hszF := HB5.out.size
  have hbF : Below w.heap.size w ((((((W5.setCell ⟨gg, i * 7 + 3, none⟩ (.int .i64 4)).setCell ⟨w.heap.size + 1, 0, none⟩ (.int .i64 ck)).setCell ⟨w.heap.size + 1, 1, none⟩ (.int .i64 nx)).setCell ⟨w.heap.size + 1, 2, none⟩ (.int .i64 wt)).setCell ⟨w.heap.size + 1, 3, none⟩ (.slice (some ⟨gg, 0, none⟩) ts.length c5)).alloc (.cells #[.string ts[i].name, .int .i64 ts[i].pid, .int .i64 ts[i].ver, .int .i64 2, .slice A3 ts[i].parts.length m3, .int .i64 ts[i].since, .int .i64 ts[i].done] 76)) := ((((((HB5.out).setCell (by show w.heap.size ≤ gg; omega) _).setCell (by show w.heap.size ≤ w.heap.size + 1; omega) _).setCell (by show w.heap.size ≤ w.heap.size + 1; omega) _).setCell (by show w.heap.size ≤ w.heap.size + 1; omega) _).setCell (by show w.heap.size ≤ w.heap.size + 1; omega) _).alloc (by first | omega | (simp; done) | (simp; omega)) _
  have b_bxF : Blk ((((((W5.setCell ⟨gg, i * 7 + 3, none⟩ (.int .i64 4)).setCell ⟨w.heap.size + 1, 0, none⟩ (.int .i64 ck)).setCell ⟨w.heap.size + 1, 1, none⟩ (.int .i64 nx)).setCell ⟨w.heap.size + 1, 2, none⟩ (.int .i64 wt)).setCell ⟨w.heap.size + 1, 3, none⟩ (.slice (some ⟨gg, 0, none⟩) ts.length c5)).alloc (.cells #[.string ts[i].name, .int .i64 ts[i].pid, .int .i64 ts[i].ver, .int .i64 2, .slice A3 ts[i].parts.length m3, .int .i64 ts[i].since, .int .i64 ts[i].done] 76)) (w.heap.size) 28 #[.int .i64 ck, .int .i64 nx, .int .i64 wt, .slice (some ⟨b, off, none⟩) ts.length m] := ((((((B5_bx.out).far (p := ⟨gg, i * 7 + 3, none⟩) (by show w.heap.size ≠ gg; omega) _).far (p := ⟨w.heap.size + 1, 0, none⟩) (by show w.heap.size ≠ w.heap.size + 1; omega) _).far (p := ⟨w.heap.size + 1, 1, none⟩) (by show w.heap.size ≠ w.heap.size + 1; omega) _).far (p := ⟨w.heap.size + 1, 2, none⟩) (by show w.heap.size ≠ w.heap.size + 1; omega) _).far (p := ⟨w.heap.size + 1, 3, none⟩) (by show w.heap.size ≠ w.heap.size + 1; omega) _).alloc _
  have b_bzF : Blk ((((((W5.setCell ⟨gg, i * 7 + 3, none⟩ (.int .i64 4)).setCell ⟨w.heap.size + 1, 0, none⟩ (.int .i64 ck)).setCell ⟨w.heap.size + 1, 1, none⟩ (.int .i64 nx)).setCell ⟨w.heap.size + 1, 2, none⟩ (.int .i64 wt)).setCell ⟨w.heap.size + 1, 3, none⟩ (.slice (some ⟨gg, 0, none⟩) ts.length c5)).alloc (.cells #[.string ts[i].name, .int .i64 ts[i].pid, .int .i64 ts[i].ver, .int .i64 2, .slice A3 ts[i].parts.length m3, .int .i64 ts[i].since, .int .i64 ts[i].done] 76)) (w.heap.size + 1) 28 #[.int .i64 ck, .int .i64 nx, .int .i64 wt, .slice (some ⟨gg, 0, none⟩) ts.length c5] := ((((((B5_bz.out).far (p := ⟨gg, i * 7 + 3, none⟩) (by show w.heap.size + 1 ≠ gg; omega) _).set_ 0 _).set_ 1 _).set_ 2 _).set_ 3 _).alloc _
  have b_boF : Blk ((((((W5.setCell ⟨gg, i * 7 + 3, none⟩ (.int .i64 4)).setCell ⟨w.heap.size + 1, 0, none⟩ (.int .i64 ck)).setCell ⟨w.heap.size + 1, 1, none⟩ (.int .i64 nx)).setCell ⟨w.heap.size + 1, 2, none⟩ (.int .i64 wt)).setCell ⟨w.heap.size + 1, 3, none⟩ (.slice (some ⟨gg, 0, none⟩) ts.length c5)).alloc (.cells #[.string ts[i].name, .int .i64 ts[i].pid, .int .i64 ts[i].ver, .int .i64 2, .slice A3 ts[i].parts.length m3, .int .i64 ts[i].since, .int .i64 ts[i].done] 76)) (W3.heap.size) 28 #[.int .i64 ck, .int .i64 nx, .int .i64 wt, .slice (some ⟨gg, 0, none⟩) ts.length c5] := ((((((B5_bo.out).far (p := ⟨gg, i * 7 + 3, none⟩) (by show W3.heap.size ≠ gg; omega) _).far (p := ⟨w.heap.size + 1, 0, none⟩) (by show W3.heap.size ≠ w.heap.size + 1; omega) _).far (p := ⟨w.heap.size + 1, 1, none⟩) (by show W3.heap.size ≠ w.heap.size + 1; omega) _).far (p := ⟨w.heap.size + 1, 2, none⟩) (by show W3.heap.size ≠ w.heap.size + 1; omega) _).far (p := ⟨w.heap.size + 1, 3, none⟩) (by show W3.heap.size ≠ w.heap.size + 1; omega) _).alloc _
  have b_btF : Blk ((((((W5.setCell ⟨gg, i * 7 + 3, none⟩ (.int .i64 4)).setCell ⟨w.heap.size + 1, 0, none⟩ (.int .i64 ck)).setCell ⟨w.heap.size + 1, 1, none⟩ (.int .i64 nx)).setCell ⟨w.heap.size + 1, 2, none⟩ (.int .i64 wt)).setCell ⟨w.heap.size + 1, 3, none⟩ (.slice (some ⟨gg, 0, none⟩) ts.length c5)).alloc (.cells #[.string ts[i].name, .int .i64 ts[i].pid, .int .i64 ts[i].ver, .int .i64 2, .slice A3 ts[i].parts.length m3, .int .i64 ts[i].since, .int .i64 ts[i].done] 76)) (W5.heap.size) 76 #[.string ts[i].name, .int .i64 ts[i].pid, .int .i64 ts[i].ver, .int .i64 2, .slice A3 ts[i].parts.length m3, .int .i64 ts[i].since, .int .i64 ts[i].done] := Blk.new_ _ 76 #[.string ts[i].name, .int .i64 ts[i].pid, .int .i64 ts[i].ver, .int .i64 2, .slice A3 ts[i].parts.length m3, .int .i64 ts[i].since, .int .i64 ts[i].done] (by first | rfl | (simp; done) | (simp; omega))
  have hoF := (KG.out.put4 (g := w.heap.size + 1) (by constructor <;> omega) (.int .i64 ck) (.int .i64 nx) (.int .i64 wt) (.slice (some ⟨gg, 0, none⟩) ts.length c5)).alloc (.cells #[.string ts[i].name, .int .i64 ts[i].pid, .int .i64 ts[i].ver, .int .i64 2, .slice A3 ts[i].parts.length m3, .int .i64 ts[i].since, .int .i64 ts[i].done] 76)
  have y0 := b_bzF.cell 0
  have y1 := b_bzF.cell 1
  have y2 := b_bzF.cell 2
  have y3 := b_bzF.cell 3
  exact bodyPost_ret (v := .tuple #[.agg #[.int .i64 ck, .int .i64 nx, .int .i64 wt, .slice (some ⟨gg, 0, none⟩) ts.length c5], .int .i64 0]) (by simp [results, Try.results48, go_sem, y0, y1, y2, y3]) rfl (⟨.slice (some ⟨gg, 0, none⟩) ts.length c5, _, rfl, own_len (hoF.rebase (by simp) (by omega) hbF) (by simp [CoordD.upd]), hbF⟩)
set_option maxRecDepth 100000 in
set_option maxHeartbeats 4000000 in
theorem ended_free_false (v : Value) (c : CoordD) (s : ByteArray) (ver : Int) (i : Nat) (hk : CoordOk c) (hn : NameOk s) (hi : idxOf c.txns s = some i) (hl : i < c.txns.length) (hv : c.txns[i].ver = ver) (hst : c.txns[i].state = 1) (hdn : c.txns[i].done = 0) (w : World) (h : Cv w v c) (hnm : ∀ t ∈ c.txns, t.name.size ≤ 9223372036854775807) (hs : s.size ≤ 9223372036854775807) :
    Calls Try.prog 48 #[v, .string s, .int .i64 ver, .bool false] w (CRes (c.upd i (setDone 4)) [.int .i64 0] w) := by
  obtain ⟨tv, rfl, hx, hlen⟩ := id h
  obtain ⟨A, m, rfl, -⟩ := hx.at_
  obtain ⟨b, off, -, -, rfl, -⟩ := hx.row (Below.refl _ _) i hl
  have H := Lib.hid h
  have HX := Lib.hid hx
  clear h hx
  unfold coordV at *
  obtain ⟨ck, nx, wt, ts⟩ := c
  simp only at *
  have HK := Lib.hid hk
  have HN := Lib.hid hn
  have HI := Lib.hid hi
  have HV := Lib.hid hv
  have HST := Lib.hid hst
  have HDN := Lib.hid hdn
  clear hdn
  have HNM := Lib.hid hnm
  have hix : ixOf ts s = i := (ix_some hi).2
  have HIX := Lib.hid hix
  clear hk hn hi hv hst hnm hix
  go_enter Try.func48, Try.ntmps48
  go_wp2_with fail
  have hb1 : Below w.heap.size w ((w.alloc (.cells #[.int .i64 ck, .int .i64 nx, .int .i64 wt, .slice (some ⟨b, off, none⟩) ts.length m] 28)).alloc (.cells #[.int .i64 0, .int .i64 0, .int .i64 0, .slice none 0 0] 28)) := ((Below.refl _ _).alloc (by first | omega | (simp; done) | (simp; omega)) _).alloc (by first | omega | (simp; done) | (simp; omega)) _
  have hal1 : Below w.heap.size w ((w.alloc (.cells #[.int .i64 ck, .int .i64 nx, .int .i64 wt, .slice (some ⟨b, off, none⟩) ts.length m] 28)).alloc (.cells #[.int .i64 0, .int .i64 0, .int .i64 0, .slice none 0 0] 28)) := ((Below.refl _ _).alloc (by first | omega | (simp; done) | (simp; omega)) _).alloc (by first | omega | (simp; done) | (simp; omega)) _
  have b_bx1 : Blk ((w.alloc (.cells #[.int .i64 ck, .int .i64 nx, .int .i64 wt, .slice (some ⟨b, off, none⟩) ts.length m] 28)).alloc (.cells #[.int .i64 0, .int .i64 0, .int .i64 0, .slice none 0 0] 28)) (w.heap.size) 28 #[.int .i64 ck, .int .i64 nx, .int .i64 wt, .slice (some ⟨b, off, none⟩) ts.length m] := (Blk.new_ _ 28 #[.int .i64 ck, .int .i64 nx, .int .i64 wt, .slice (some ⟨b, off, none⟩) ts.length m] (by first | rfl | (simp; done) | (simp; omega))).alloc _
  have b_bz1 : Blk ((w.alloc (.cells #[.int .i64 ck, .int .i64 nx, .int .i64 wt, .slice (some ⟨b, off, none⟩) ts.length m] 28)).alloc (.cells #[.int .i64 0, .int .i64 0, .int .i64 0, .slice none 0 0] 28)) (w.heap.size + 1) 28 #[.int .i64 0, .int .i64 0, .int .i64 0, .slice none 0 0] := Blk.new_ _ 28 #[.int .i64 0, .int .i64 0, .int .i64 0, .slice none 0 0] (by first | rfl | (simp; done) | (simp; omega))
  have k_c1 := H.out.below hal1
  have hz1 : w.heap.size + 2 ≤ ((w.alloc (.cells #[.int .i64 ck, .int .i64 nx, .int .i64 wt, .slice (some ⟨b, off, none⟩) ts.length m] 28)).alloc (.cells #[.int .i64 0, .int .i64 0, .int .i64 0, .slice none 0 0] 28)).heap.size := by first | omega | (simp; done) | (simp; omega)
  generalize (w.alloc (.cells #[.int .i64 ck, .int .i64 nx, .int .i64 wt, .slice (some ⟨b, off, none⟩) ts.length m] 28)).alloc (.cells #[.int .i64 0, .int .i64 0, .int .i64 0, .slice none 0 0] 28) = W1 at *
  have HB1 := Lib.hid hb1
  have B1_bx := Lib.hid b_bx1
  have B1_bz := Lib.hid b_bz1
  have K1_c := Lib.hid k_c1
  clear hb1 b_bx1 b_bz1 k_c1
  clear H
  refine (knownFault_good _ ⟨ck, nx, wt, ts⟩ s ver i HK.out HN.out HI.out hl HV.out _ K1_c.out HNM.out hs).mono ?_
  rintro e W2 ⟨rfl, hb⟩
  have hb2 : Below w.heap.size w W2 := below_then HB1.out hb
  have b_bx2 := B1_bx.out.below hb B1_bx.out.lt
  have b_bz2 := B1_bz.out.below hb B1_bz.out.lt
  have k_c2 := K1_c.out.below hb
  have hz2 := hb.size
  have HB2 := Lib.hid hb2
  have B2_bx := Lib.hid b_bx2
  have B2_bz := Lib.hid b_bz2
  have K2_c := Lib.hid k_c2
  clear hb2 b_bx2 b_bz2 k_c2
  clear B1_bx B1_bz HB1 K1_c
  have c_bx0 := B2_bx.out.cell 0
  have c_bx1 := B2_bx.out.cell 1
  have c_bx2 := B2_bx.out.cell 2
  have c_bx3 := B2_bx.out.cell 3
  have l_bx := B2_bx.out.lt
  go_wp2_with fail
  clear c_bx0 c_bx1 c_bx2 c_bx3 l_bx
  have hfit := HK.out.fits
  refine (refCoordCopy_any _ ⟨ck, nx, wt, ts⟩ _ K2_c.out hfit.1 hfit.2.1).mono ?_
  rintro e W3 ⟨tv5, rows, rfl, hown, hb⟩
  obtain ⟨A5, c5, rfl, hc5⟩ := (Sl.of_own hown.own).form
  simp only at *
  unfold coordV
  simp only
  clear hfit
  have hb3 : Below w.heap.size w W3 := below_then HB2.out hb
  have b_bx3 := B2_bx.out.below hb B2_bx.out.lt
  have b_bz3 := B2_bz.out.below hb B2_bz.out.lt
  have k_c3 := K2_c.out.below hb
  have hz3 := hb.size
  have HB3 := Lib.hid hb3
  have B3_bx := Lib.hid b_bx3
  have B3_bz := Lib.hid b_bz3
  have K3_c := Lib.hid k_c3
  clear hb3 b_bx3 b_bz3 k_c3
  clear B2_bx B2_bz HB2 K2_c
  have ho := hown.rebase (w0 := w) rfl (Nat.le_refl _) HB3.out
  obtain ⟨gg, c6, hv6, hg1, hg2, hc6, -⟩ := ho.at_ (Nat.lt_of_le_of_lt (Nat.zero_le i) hl)
  injection hv6 with hv7 hv8 hv9
  subst hv7
  clear hv8 hv9 hc6 hc5
  have HO := Lib.hid ho
  clear ho hown
  have c_bx0 := B3_bx.out.cell 0
  have c_bx1 := B3_bx.out.cell 1
  have c_bx2 := B3_bx.out.cell 2
  have c_bx3 := B3_bx.out.cell 3
  have l_bx := B3_bx.out.lt
  go_wp2_with fail
  clear c_bx0 c_bx1 c_bx2 c_bx3 l_bx
  have hsz4 := HB3.out.size
  have hb4 : Below w.heap.size w (W3.alloc (.cells #[.int .i64 ck, .int .i64 nx, .int .i64 wt, .slice (some ⟨gg, 0, none⟩) ts.length c5] 28)) := (HB3.out).alloc (by first | omega | (simp; done) | (simp; omega)) _
  have hal4 : Below W3.heap.size W3 (W3.alloc (.cells #[.int .i64 ck, .int .i64 nx, .int .i64 wt, .slice (some ⟨gg, 0, none⟩) ts.length c5] 28)) := (Below.refl _ _).alloc (by first | omega | (simp; done) | (simp; omega)) _
  have b_bx4 : Blk (W3.alloc (.cells #[.int .i64 ck, .int .i64 nx, .int .i64 wt, .slice (some ⟨gg, 0, none⟩) ts.length c5] 28)) (w.heap.size) 28 #[.int .i64 ck, .int .i64 nx, .int .i64 wt, .slice (some ⟨b, off, none⟩) ts.length m] := (B3_bx.out).alloc _
  have b_bz4 : Blk (W3.alloc (.cells #[.int .i64 ck, .int .i64 nx, .int .i64 wt, .slice (some ⟨gg, 0, none⟩) ts.length c5] 28)) (w.heap.size + 1) 28 #[.int .i64 0, .int .i64 0, .int .i64 0, .slice none 0 0] := (B3_bz.out).alloc _
  have b_bo4 : Blk (W3.alloc (.cells #[.int .i64 ck, .int .i64 nx, .int .i64 wt, .slice (some ⟨gg, 0, none⟩) ts.length c5] 28)) (W3.heap.size) 28 #[.int .i64 ck, .int .i64 nx, .int .i64 wt, .slice (some ⟨gg, 0, none⟩) ts.length c5] := Blk.new_ _ 28 #[.int .i64 ck, .int .i64 nx, .int .i64 wt, .slice (some ⟨gg, 0, none⟩) ts.length c5] (by first | rfl | (simp; done) | (simp; omega))
  have k_c4 := K3_c.out.below hal4
  have k_own4 := (HO.out).alloc (.cells #[.int .i64 ck, .int .i64 nx, .int .i64 wt, .slice (some ⟨gg, 0, none⟩) ts.length c5] 28)
  have hz4 : W3.heap.size + 1 ≤ (W3.alloc (.cells #[.int .i64 ck, .int .i64 nx, .int .i64 wt, .slice (some ⟨gg, 0, none⟩) ts.length c5] 28)).heap.size := by first | omega | (simp; done) | (simp; omega)
  generalize W3.alloc (.cells #[.int .i64 ck, .int .i64 nx, .int .i64 wt, .slice (some ⟨gg, 0, none⟩) ts.length c5] 28) = W4 at *
  have HB4 := Lib.hid hb4
  have B4_bx := Lib.hid b_bx4
  have B4_bz := Lib.hid b_bz4
  have B4_bo := Lib.hid b_bo4
  have K4_c := Lib.hid k_c4
  have K4_own := Lib.hid k_own4
  clear hb4 b_bx4 b_bz4 b_bo4 k_c4 k_own4
  clear B3_bx B3_bz HB3 K3_c HO
  refine (txnOf_any _ ⟨ck, nx, wt, ts⟩ s _ K4_c.out).mono ?_
  rintro e W5 ⟨rfl, hb⟩
  simp only
  rw [HIX.out]
  have hb5 : Below w.heap.size w W5 := below_then HB4.out hb
  have b_bx5 := B4_bx.out.below hb B4_bx.out.lt
  have b_bz5 := B4_bz.out.below hb B4_bz.out.lt
  have b_bo5 := B4_bo.out.below hb B4_bo.out.lt
  have k_c5 := K4_c.out.below hb
  have k_own5 := K4_own.out.keep hb
  have hz5 := hb.size
  have HB5 := Lib.hid hb5
  have B5_bx := Lib.hid b_bx5
  have B5_bz := Lib.hid b_bz5
  have B5_bo := Lib.hid b_bo5
  have K5_c := Lib.hid k_c5
  have K5_own := Lib.hid k_own5
  clear hb5 b_bx5 b_bz5 b_bo5 k_c5 k_own5
  clear B4_bx B4_bz B4_bo HB4 K4_c K4_own
  obtain ⟨hbl, A3, m3, x0, x1, x2, x3, x4, x5, x6, -⟩ := HX.out.rowAt HB5.out i hl
  rw [HST.out] at x3
  rw [HDN.out] at x6
  have c_bx0 := B5_bx.out.cell 0
  have c_bx1 := B5_bx.out.cell 1
  have c_bx2 := B5_bx.out.cell 2
  have c_bx3 := B5_bx.out.cell 3
  have l_bx := B5_bx.out.lt
  have c_bo0 := B5_bo.out.cell 0
  have c_bo1 := B5_bo.out.cell 1
  have c_bo2 := B5_bo.out.cell 2
  have c_bo3 := B5_bo.out.cell 3
  have l_bo := B5_bo.out.lt
  have hblz := HB5.out.size
  have l_bz5 := B5_bz.out.lt
  obtain ⟨hg3, hg4, A4, m4, ⟨-, -, -, r3, -, -, r6⟩, hrf, -⟩ := K5_own.out.row rfl i hl
  have rf3 := hrf 3 (by decide)
  have rf6 := hrf 6 (by decide)
  clear hrf
  have i0 : (0 : Int) ≤ (i : Int) := by omega
  have i1 : (i : Int) < (ts.length : Int) := Int.ofNat_lt.2 hl
  obtain ⟨rows2, hw2⟩ := K5_own.out.putd rfl (by omega) i 6 (.int .i64 4) (setDone 4) hl (by decide) (fun _ => rfl) rfl
  have KG := Lib.hid hw2
  clear hw2
  have hszG := HB5.out.size
  have hbG : Below w.heap.size w (W5.setCell ⟨gg, i * 7 + 6, none⟩ (.int .i64 4)) := (HB5.out).setCell (by show w.heap.size ≤ gg; omega) _
  have b_bxG : Blk (W5.setCell ⟨gg, i * 7 + 6, none⟩ (.int .i64 4)) (w.heap.size) 28 #[.int .i64 ck, .int .i64 nx, .int .i64 wt, .slice (some ⟨b, off, none⟩) ts.length m] := (B5_bx.out).far (p := ⟨gg, i * 7 + 6, none⟩) (by show w.heap.size ≠ gg; omega) _
  have b_bzG : Blk (W5.setCell ⟨gg, i * 7 + 6, none⟩ (.int .i64 4)) (w.heap.size + 1) 28 #[.int .i64 0, .int .i64 0, .int .i64 0, .slice none 0 0] := (B5_bz.out).far (p := ⟨gg, i * 7 + 6, none⟩) (by show w.heap.size + 1 ≠ gg; omega) _
  have b_boG : Blk (W5.setCell ⟨gg, i * 7 + 6, none⟩ (.int .i64 4)) (W3.heap.size) 28 #[.int .i64 ck, .int .i64 nx, .int .i64 wt, .slice (some ⟨gg, 0, none⟩) ts.length c5] := (B5_bo.out).far (p := ⟨gg, i * 7 + 6, none⟩) (by show W3.heap.size ≠ gg; omega) _
  have p0 := b_boG.cell 0
  have p1 := b_boG.cell 1
  have p2 := b_boG.cell 2
  have p3 := b_boG.cell 3
  obtain ⟨⟨z0, z1, z2, z3⟩, ⟨zf0, zf1, zf2, zf3⟩, zl⟩ := b_bzG.all4
  clear hbG b_bxG b_bzG b_boG
  go_wp2_with fail
  clear c_bx0 c_bx1 c_bx2 c_bx3 l_bx c_bo0 c_bo1 c_bo2 c_bo3 l_bo
  have hszF := HB5.out.size
  have hbF : Below w.heap.size w ((((((W5.setCell ⟨gg, i * 7 + 6, none⟩ (.int .i64 4)).setCell ⟨w.heap.size + 1, 0, none⟩ (.int .i64 ck)).setCell ⟨w.heap.size + 1, 1, none⟩ (.int .i64 nx)).setCell ⟨w.heap.size + 1, 2, none⟩ (.int .i64 wt)).setCell ⟨w.heap.size + 1, 3, none⟩ (.slice (some ⟨gg, 0, none⟩) ts.length c5)).alloc (.cells #[.string ts[i].name, .int .i64 ts[i].pid, .int .i64 ts[i].ver, .int .i64 1, .slice A3 ts[i].parts.length m3, .int .i64 ts[i].since, .int .i64 0] 76)) := ((((((HB5.out).setCell (by show w.heap.size ≤ gg; omega) _).setCell (by show w.heap.size ≤ w.heap.size + 1; omega) _).setCell (by show w.heap.size ≤ w.heap.size + 1; omega) _).setCell (by show w.heap.size ≤ w.heap.size + 1; omega) _).setCell (by show w.heap.size ≤ w.heap.size + 1; omega) _).alloc (by first | omega | (simp; done) | (simp; omega)) _
  have b_bxF : Blk ((((((W5.setCell ⟨gg, i * 7 + 6, none⟩ (.int .i64 4)).setCell ⟨w.heap.size + 1, 0, none⟩ (.int .i64 ck)).setCell ⟨w.heap.size + 1, 1, none⟩ (.int .i64 nx)).setCell ⟨w.heap.size + 1, 2, none⟩ (.int .i64 wt)).setCell ⟨w.heap.size + 1, 3, none⟩ (.slice (some ⟨gg, 0, none⟩) ts.length c5)).alloc (.cells #[.string ts[i].name, .int .i64 ts[i].pid, .int .i64 ts[i].ver, .int .i64 1, .slice A3 ts[i].parts.length m3, .int .i64 ts[i].since, .int .i64 0] 76)) (w.heap.size) 28 #[.int .i64 ck, .int .i64 nx, .int .i64 wt, .slice (some ⟨b, off, none⟩) ts.length m] := ((((((B5_bx.out).far (p := ⟨gg, i * 7 + 6, none⟩) (by show w.heap.size ≠ gg; omega) _).far (p := ⟨w.heap.size + 1, 0, none⟩) (by show w.heap.size ≠ w.heap.size + 1; omega) _).far (p := ⟨w.heap.size + 1, 1, none⟩) (by show w.heap.size ≠ w.heap.size + 1; omega) _).far (p := ⟨w.heap.size + 1, 2, none⟩) (by show w.heap.size ≠ w.heap.size + 1; omega) _).far (p := ⟨w.heap.size + 1, 3, none⟩) (by show w.heap.size ≠ w.heap.size + 1; omega) _).alloc _
  have b_bzF : Blk ((((((W5.setCell ⟨gg, i * 7 + 6, none⟩ (.int .i64 4)).setCell ⟨w.heap.size + 1, 0, none⟩ (.int .i64 ck)).setCell ⟨w.heap.size + 1, 1, none⟩ (.int .i64 nx)).setCell ⟨w.heap.size + 1, 2, none⟩ (.int .i64 wt)).setCell ⟨w.heap.size + 1, 3, none⟩ (.slice (some ⟨gg, 0, none⟩) ts.length c5)).alloc (.cells #[.string ts[i].name, .int .i64 ts[i].pid, .int .i64 ts[i].ver, .int .i64 1, .slice A3 ts[i].parts.length m3, .int .i64 ts[i].since, .int .i64 0] 76)) (w.heap.size + 1) 28 #[.int .i64 ck, .int .i64 nx, .int .i64 wt, .slice (some ⟨gg, 0, none⟩) ts.length c5] := ((((((B5_bz.out).far (p := ⟨gg, i * 7 + 6, none⟩) (by show w.heap.size + 1 ≠ gg; omega) _).set_ 0 _).set_ 1 _).set_ 2 _).set_ 3 _).alloc _
  have b_boF : Blk ((((((W5.setCell ⟨gg, i * 7 + 6, none⟩ (.int .i64 4)).setCell ⟨w.heap.size + 1, 0, none⟩ (.int .i64 ck)).setCell ⟨w.heap.size + 1, 1, none⟩ (.int .i64 nx)).setCell ⟨w.heap.size + 1, 2, none⟩ (.int .i64 wt)).setCell ⟨w.heap.size + 1, 3, none⟩ (.slice (some ⟨gg, 0, none⟩) ts.length c5)).alloc (.cells #[.string ts[i].name, .int .i64 ts[i].pid, .int .i64 ts[i].ver, .int .i64 1, .slice A3 ts[i].parts.length m3, .int .i64 ts[i].since, .int .i64 0] 76)) (W3.heap.size) 28 #[.int .i64 ck, .int .i64 nx, .int .i64 wt, .slice (some ⟨gg, 0, none⟩) ts.length c5] := ((((((B5_bo.out).far (p := ⟨gg, i * 7 + 6, none⟩) (by show W3.heap.size ≠ gg; omega) _).far (p := ⟨w.heap.size + 1, 0, none⟩) (by show W3.heap.size ≠ w.heap.size + 1; omega) _).far (p := ⟨w.heap.size + 1, 1, none⟩) (by show W3.heap.size ≠ w.heap.size + 1; omega) _).far (p := ⟨w.heap.size + 1, 2, none⟩) (by show W3.heap.size ≠ w.heap.size + 1; omega) _).far (p := ⟨w.heap.size + 1, 3, none⟩) (by show W3.heap.size ≠ w.heap.size + 1; omega) _).alloc _
  have b_btF : Blk ((((((W5.setCell ⟨gg, i * 7 + 6, none⟩ (.int .i64 4)).setCell ⟨w.heap.size + 1, 0, none⟩ (.int .i64 ck)).setCell ⟨w.heap.size + 1, 1, none⟩ (.int .i64 nx)).setCell ⟨w.heap.size + 1, 2, none⟩ (.int .i64 wt)).setCell ⟨w.heap.size + 1, 3, none⟩ (.slice (some ⟨gg, 0, none⟩) ts.length c5)).alloc (.cells #[.string ts[i].name, .int .i64 ts[i].pid, .int .i64 ts[i].ver, .int .i64 1, .slice A3 ts[i].parts.length m3, .int .i64 ts[i].since, .int .i64 0] 76)) (W5.heap.size) 76 #[.string ts[i].name, .int .i64 ts[i].pid, .int .i64 ts[i].ver, .int .i64 1, .slice A3 ts[i].parts.length m3, .int .i64 ts[i].since, .int .i64 0] := Blk.new_ _ 76 #[.string ts[i].name, .int .i64 ts[i].pid, .int .i64 ts[i].ver, .int .i64 1, .slice A3 ts[i].parts.length m3, .int .i64 ts[i].since, .int .i64 0] (by first | rfl | (simp; done) | (simp; omega))
  have hoF := (KG.out.put4 (g := w.heap.size + 1) (by constructor <;> omega) (.int .i64 ck) (.int .i64 nx) (.int .i64 wt) (.slice (some ⟨gg, 0, none⟩) ts.length c5)).alloc (.cells #[.string ts[i].name, .int .i64 ts[i].pid, .int .i64 ts[i].ver, .int .i64 1, .slice A3 ts[i].parts.length m3, .int .i64 ts[i].since, .int .i64 0] 76)
  have y0 := b_bzF.cell 0
  have y1 := b_bzF.cell 1
  have y2 := b_bzF.cell 2
  have y3 := b_bzF.cell 3
  exact bodyPost_ret (v := .tuple #[.agg #[.int .i64 ck, .int .i64 nx, .int .i64 wt, .slice (some ⟨gg, 0, none⟩) ts.length c5], .int .i64 0]) (by simp [results, Try.results48, go_sem, y0, y1, y2, y3]) rfl (⟨.slice (some ⟨gg, 0, none⟩) ts.length c5, _, rfl, own_len (hoF.rebase (by simp) (by omega) hbF) (by simp [CoordD.upd]), hbF⟩)
set_option maxRecDepth 100000 in
set_option maxHeartbeats 4000000 in
theorem ended_again_false (v : Value) (c : CoordD) (s : ByteArray) (ver : Int) (i : Nat) (hk : CoordOk c) (hn : NameOk s) (hi : idxOf c.txns s = some i) (hl : i < c.txns.length) (hv : c.txns[i].ver = ver) (hst : c.txns[i].state = 1) (hdn : c.txns[i].done = 4) (w : World) (h : Cv w v c) (hnm : ∀ t ∈ c.txns, t.name.size ≤ 9223372036854775807) (hs : s.size ≤ 9223372036854775807) :
    Calls Try.prog 48 #[v, .string s, .int .i64 ver, .bool false] w (CRes (c.upd i (setDone 4)) [.int .i64 0] w) := by
  obtain ⟨tv, rfl, hx, hlen⟩ := id h
  obtain ⟨A, m, rfl, -⟩ := hx.at_
  obtain ⟨b, off, -, -, rfl, -⟩ := hx.row (Below.refl _ _) i hl
  have H := Lib.hid h
  have HX := Lib.hid hx
  clear h hx
  unfold coordV at *
  obtain ⟨ck, nx, wt, ts⟩ := c
  simp only at *
  have HK := Lib.hid hk
  have HN := Lib.hid hn
  have HI := Lib.hid hi
  have HV := Lib.hid hv
  have HST := Lib.hid hst
  have HDN := Lib.hid hdn
  clear hdn
  have HNM := Lib.hid hnm
  have hix : ixOf ts s = i := (ix_some hi).2
  have HIX := Lib.hid hix
  clear hk hn hi hv hst hnm hix
  go_enter Try.func48, Try.ntmps48
  go_wp2_with fail
  have hb1 : Below w.heap.size w ((w.alloc (.cells #[.int .i64 ck, .int .i64 nx, .int .i64 wt, .slice (some ⟨b, off, none⟩) ts.length m] 28)).alloc (.cells #[.int .i64 0, .int .i64 0, .int .i64 0, .slice none 0 0] 28)) := ((Below.refl _ _).alloc (by first | omega | (simp; done) | (simp; omega)) _).alloc (by first | omega | (simp; done) | (simp; omega)) _
  have hal1 : Below w.heap.size w ((w.alloc (.cells #[.int .i64 ck, .int .i64 nx, .int .i64 wt, .slice (some ⟨b, off, none⟩) ts.length m] 28)).alloc (.cells #[.int .i64 0, .int .i64 0, .int .i64 0, .slice none 0 0] 28)) := ((Below.refl _ _).alloc (by first | omega | (simp; done) | (simp; omega)) _).alloc (by first | omega | (simp; done) | (simp; omega)) _
  have b_bx1 : Blk ((w.alloc (.cells #[.int .i64 ck, .int .i64 nx, .int .i64 wt, .slice (some ⟨b, off, none⟩) ts.length m] 28)).alloc (.cells #[.int .i64 0, .int .i64 0, .int .i64 0, .slice none 0 0] 28)) (w.heap.size) 28 #[.int .i64 ck, .int .i64 nx, .int .i64 wt, .slice (some ⟨b, off, none⟩) ts.length m] := (Blk.new_ _ 28 #[.int .i64 ck, .int .i64 nx, .int .i64 wt, .slice (some ⟨b, off, none⟩) ts.length m] (by first | rfl | (simp; done) | (simp; omega))).alloc _
  have b_bz1 : Blk ((w.alloc (.cells #[.int .i64 ck, .int .i64 nx, .int .i64 wt, .slice (some ⟨b, off, none⟩) ts.length m] 28)).alloc (.cells #[.int .i64 0, .int .i64 0, .int .i64 0, .slice none 0 0] 28)) (w.heap.size + 1) 28 #[.int .i64 0, .int .i64 0, .int .i64 0, .slice none 0 0] := Blk.new_ _ 28 #[.int .i64 0, .int .i64 0, .int .i64 0, .slice none 0 0] (by first | rfl | (simp; done) | (simp; omega))
  have k_c1 := H.out.below hal1
  have hz1 : w.heap.size + 2 ≤ ((w.alloc (.cells #[.int .i64 ck, .int .i64 nx, .int .i64 wt, .slice (some ⟨b, off, none⟩) ts.length m] 28)).alloc (.cells #[.int .i64 0, .int .i64 0, .int .i64 0, .slice none 0 0] 28)).heap.size := by first | omega | (simp; done) | (simp; omega)
  generalize (w.alloc (.cells #[.int .i64 ck, .int .i64 nx, .int .i64 wt, .slice (some ⟨b, off, none⟩) ts.length m] 28)).alloc (.cells #[.int .i64 0, .int .i64 0, .int .i64 0, .slice none 0 0] 28) = W1 at *
  have HB1 := Lib.hid hb1
  have B1_bx := Lib.hid b_bx1
  have B1_bz := Lib.hid b_bz1
  have K1_c := Lib.hid k_c1
  clear hb1 b_bx1 b_bz1 k_c1
  clear H
  refine (knownFault_good _ ⟨ck, nx, wt, ts⟩ s ver i HK.out HN.out HI.out hl HV.out _ K1_c.out HNM.out hs).mono ?_
  rintro e W2 ⟨rfl, hb⟩
  have hb2 : Below w.heap.size w W2 := below_then HB1.out hb
  have b_bx2 := B1_bx.out.below hb B1_bx.out.lt
  have b_bz2 := B1_bz.out.below hb B1_bz.out.lt
  have k_c2 := K1_c.out.below hb
  have hz2 := hb.size
  have HB2 := Lib.hid hb2
  have B2_bx := Lib.hid b_bx2
  have B2_bz := Lib.hid b_bz2
  have K2_c := Lib.hid k_c2
  clear hb2 b_bx2 b_bz2 k_c2
  clear B1_bx B1_bz HB1 K1_c
  have c_bx0 := B2_bx.out.cell 0
  have c_bx1 := B2_bx.out.cell 1
  have c_bx2 := B2_bx.out.cell 2
  have c_bx3 := B2_bx.out.cell 3
  have l_bx := B2_bx.out.lt
  go_wp2_with fail
  clear c_bx0 c_bx1 c_bx2 c_bx3 l_bx
  have hfit := HK.out.fits
  refine (refCoordCopy_any _ ⟨ck, nx, wt, ts⟩ _ K2_c.out hfit.1 hfit.2.1).mono ?_
  rintro e W3 ⟨tv5, rows, rfl, hown, hb⟩
  obtain ⟨A5, c5, rfl, hc5⟩ := (Sl.of_own hown.own).form
  simp only at *
  unfold coordV
  simp only
  clear hfit
  have hb3 : Below w.heap.size w W3 := below_then HB2.out hb
  have b_bx3 := B2_bx.out.below hb B2_bx.out.lt
  have b_bz3 := B2_bz.out.below hb B2_bz.out.lt
  have k_c3 := K2_c.out.below hb
  have hz3 := hb.size
  have HB3 := Lib.hid hb3
  have B3_bx := Lib.hid b_bx3
  have B3_bz := Lib.hid b_bz3
  have K3_c := Lib.hid k_c3
  clear hb3 b_bx3 b_bz3 k_c3
  clear B2_bx B2_bz HB2 K2_c
  have ho := hown.rebase (w0 := w) rfl (Nat.le_refl _) HB3.out
  obtain ⟨gg, c6, hv6, hg1, hg2, hc6, -⟩ := ho.at_ (Nat.lt_of_le_of_lt (Nat.zero_le i) hl)
  injection hv6 with hv7 hv8 hv9
  subst hv7
  clear hv8 hv9 hc6 hc5
  have HO := Lib.hid ho
  clear ho hown
  have c_bx0 := B3_bx.out.cell 0
  have c_bx1 := B3_bx.out.cell 1
  have c_bx2 := B3_bx.out.cell 2
  have c_bx3 := B3_bx.out.cell 3
  have l_bx := B3_bx.out.lt
  go_wp2_with fail
  clear c_bx0 c_bx1 c_bx2 c_bx3 l_bx
  have hsz4 := HB3.out.size
  have hb4 : Below w.heap.size w (W3.alloc (.cells #[.int .i64 ck, .int .i64 nx, .int .i64 wt, .slice (some ⟨gg, 0, none⟩) ts.length c5] 28)) := (HB3.out).alloc (by first | omega | (simp; done) | (simp; omega)) _
  have hal4 : Below W3.heap.size W3 (W3.alloc (.cells #[.int .i64 ck, .int .i64 nx, .int .i64 wt, .slice (some ⟨gg, 0, none⟩) ts.length c5] 28)) := (Below.refl _ _).alloc (by first | omega | (simp; done) | (simp; omega)) _
  have b_bx4 : Blk (W3.alloc (.cells #[.int .i64 ck, .int .i64 nx, .int .i64 wt, .slice (some ⟨gg, 0, none⟩) ts.length c5] 28)) (w.heap.size) 28 #[.int .i64 ck, .int .i64 nx, .int .i64 wt, .slice (some ⟨b, off, none⟩) ts.length m] := (B3_bx.out).alloc _
  have b_bz4 : Blk (W3.alloc (.cells #[.int .i64 ck, .int .i64 nx, .int .i64 wt, .slice (some ⟨gg, 0, none⟩) ts.length c5] 28)) (w.heap.size + 1) 28 #[.int .i64 0, .int .i64 0, .int .i64 0, .slice none 0 0] := (B3_bz.out).alloc _
  have b_bo4 : Blk (W3.alloc (.cells #[.int .i64 ck, .int .i64 nx, .int .i64 wt, .slice (some ⟨gg, 0, none⟩) ts.length c5] 28)) (W3.heap.size) 28 #[.int .i64 ck, .int .i64 nx, .int .i64 wt, .slice (some ⟨gg, 0, none⟩) ts.length c5] := Blk.new_ _ 28 #[.int .i64 ck, .int .i64 nx, .int .i64 wt, .slice (some ⟨gg, 0, none⟩) ts.length c5] (by first | rfl | (simp; done) | (simp; omega))
  have k_c4 := K3_c.out.below hal4
  have k_own4 := (HO.out).alloc (.cells #[.int .i64 ck, .int .i64 nx, .int .i64 wt, .slice (some ⟨gg, 0, none⟩) ts.length c5] 28)
  have hz4 : W3.heap.size + 1 ≤ (W3.alloc (.cells #[.int .i64 ck, .int .i64 nx, .int .i64 wt, .slice (some ⟨gg, 0, none⟩) ts.length c5] 28)).heap.size := by first | omega | (simp; done) | (simp; omega)
  generalize W3.alloc (.cells #[.int .i64 ck, .int .i64 nx, .int .i64 wt, .slice (some ⟨gg, 0, none⟩) ts.length c5] 28) = W4 at *
  have HB4 := Lib.hid hb4
  have B4_bx := Lib.hid b_bx4
  have B4_bz := Lib.hid b_bz4
  have B4_bo := Lib.hid b_bo4
  have K4_c := Lib.hid k_c4
  have K4_own := Lib.hid k_own4
  clear hb4 b_bx4 b_bz4 b_bo4 k_c4 k_own4
  clear B3_bx B3_bz HB3 K3_c HO
  refine (txnOf_any _ ⟨ck, nx, wt, ts⟩ s _ K4_c.out).mono ?_
  rintro e W5 ⟨rfl, hb⟩
  simp only
  rw [HIX.out]
  have hb5 : Below w.heap.size w W5 := below_then HB4.out hb
  have b_bx5 := B4_bx.out.below hb B4_bx.out.lt
  have b_bz5 := B4_bz.out.below hb B4_bz.out.lt
  have b_bo5 := B4_bo.out.below hb B4_bo.out.lt
  have k_c5 := K4_c.out.below hb
  have k_own5 := K4_own.out.keep hb
  have hz5 := hb.size
  have HB5 := Lib.hid hb5
  have B5_bx := Lib.hid b_bx5
  have B5_bz := Lib.hid b_bz5
  have B5_bo := Lib.hid b_bo5
  have K5_c := Lib.hid k_c5
  have K5_own := Lib.hid k_own5
  clear hb5 b_bx5 b_bz5 b_bo5 k_c5 k_own5
  clear B4_bx B4_bz B4_bo HB4 K4_c K4_own
  obtain ⟨hbl, A3, m3, x0, x1, x2, x3, x4, x5, x6, -⟩ := HX.out.rowAt HB5.out i hl
  rw [HST.out] at x3
  rw [HDN.out] at x6
  have c_bx0 := B5_bx.out.cell 0
  have c_bx1 := B5_bx.out.cell 1
  have c_bx2 := B5_bx.out.cell 2
  have c_bx3 := B5_bx.out.cell 3
  have l_bx := B5_bx.out.lt
  have c_bo0 := B5_bo.out.cell 0
  have c_bo1 := B5_bo.out.cell 1
  have c_bo2 := B5_bo.out.cell 2
  have c_bo3 := B5_bo.out.cell 3
  have l_bo := B5_bo.out.lt
  have hblz := HB5.out.size
  have l_bz5 := B5_bz.out.lt
  obtain ⟨hg3, hg4, A4, m4, ⟨-, -, -, r3, -, -, r6⟩, hrf, -⟩ := K5_own.out.row rfl i hl
  have rf3 := hrf 3 (by decide)
  have rf6 := hrf 6 (by decide)
  clear hrf
  have i0 : (0 : Int) ≤ (i : Int) := by omega
  have i1 : (i : Int) < (ts.length : Int) := Int.ofNat_lt.2 hl
  obtain ⟨rows2, hw2⟩ := K5_own.out.putd rfl (by omega) i 6 (.int .i64 4) (setDone 4) hl (by decide) (fun _ => rfl) rfl
  have KG := Lib.hid hw2
  clear hw2
  have hszG := HB5.out.size
  have hbG : Below w.heap.size w (W5.setCell ⟨gg, i * 7 + 6, none⟩ (.int .i64 4)) := (HB5.out).setCell (by show w.heap.size ≤ gg; omega) _
  have b_bxG : Blk (W5.setCell ⟨gg, i * 7 + 6, none⟩ (.int .i64 4)) (w.heap.size) 28 #[.int .i64 ck, .int .i64 nx, .int .i64 wt, .slice (some ⟨b, off, none⟩) ts.length m] := (B5_bx.out).far (p := ⟨gg, i * 7 + 6, none⟩) (by show w.heap.size ≠ gg; omega) _
  have b_bzG : Blk (W5.setCell ⟨gg, i * 7 + 6, none⟩ (.int .i64 4)) (w.heap.size + 1) 28 #[.int .i64 0, .int .i64 0, .int .i64 0, .slice none 0 0] := (B5_bz.out).far (p := ⟨gg, i * 7 + 6, none⟩) (by show w.heap.size + 1 ≠ gg; omega) _
  have b_boG : Blk (W5.setCell ⟨gg, i * 7 + 6, none⟩ (.int .i64 4)) (W3.heap.size) 28 #[.int .i64 ck, .int .i64 nx, .int .i64 wt, .slice (some ⟨gg, 0, none⟩) ts.length c5] := (B5_bo.out).far (p := ⟨gg, i * 7 + 6, none⟩) (by show W3.heap.size ≠ gg; omega) _
  have p0 := b_boG.cell 0
  have p1 := b_boG.cell 1
  have p2 := b_boG.cell 2
  have p3 := b_boG.cell 3
  obtain ⟨⟨z0, z1, z2, z3⟩, ⟨zf0, zf1, zf2, zf3⟩, zl⟩ := b_bzG.all4
  clear hbG b_bxG b_bzG b_boG
  go_wp2_with fail
  clear c_bx0 c_bx1 c_bx2 c_bx3 l_bx c_bo0 c_bo1 c_bo2 c_bo3 l_bo
  have hszF := HB5.out.size
  have hbF : Below w.heap.size w ((((((W5.setCell ⟨gg, i * 7 + 6, none⟩ (.int .i64 4)).setCell ⟨w.heap.size + 1, 0, none⟩ (.int .i64 ck)).setCell ⟨w.heap.size + 1, 1, none⟩ (.int .i64 nx)).setCell ⟨w.heap.size + 1, 2, none⟩ (.int .i64 wt)).setCell ⟨w.heap.size + 1, 3, none⟩ (.slice (some ⟨gg, 0, none⟩) ts.length c5)).alloc (.cells #[.string ts[i].name, .int .i64 ts[i].pid, .int .i64 ts[i].ver, .int .i64 1, .slice A3 ts[i].parts.length m3, .int .i64 ts[i].since, .int .i64 4] 76)) := ((((((HB5.out).setCell (by show w.heap.size ≤ gg; omega) _).setCell (by show w.heap.size ≤ w.heap.size + 1; omega) _).setCell (by show w.heap.size ≤ w.heap.size + 1; omega) _).setCell (by show w.heap.size ≤ w.heap.size + 1; omega) _).setCell (by show w.heap.size ≤ w.heap.size + 1; omega) _).alloc (by first | omega | (simp; done) | (simp; omega)) _
  have b_bxF : Blk ((((((W5.setCell ⟨gg, i * 7 + 6, none⟩ (.int .i64 4)).setCell ⟨w.heap.size + 1, 0, none⟩ (.int .i64 ck)).setCell ⟨w.heap.size + 1, 1, none⟩ (.int .i64 nx)).setCell ⟨w.heap.size + 1, 2, none⟩ (.int .i64 wt)).setCell ⟨w.heap.size + 1, 3, none⟩ (.slice (some ⟨gg, 0, none⟩) ts.length c5)).alloc (.cells #[.string ts[i].name, .int .i64 ts[i].pid, .int .i64 ts[i].ver, .int .i64 1, .slice A3 ts[i].parts.length m3, .int .i64 ts[i].since, .int .i64 4] 76)) (w.heap.size) 28 #[.int .i64 ck, .int .i64 nx, .int .i64 wt, .slice (some ⟨b, off, none⟩) ts.length m] := ((((((B5_bx.out).far (p := ⟨gg, i * 7 + 6, none⟩) (by show w.heap.size ≠ gg; omega) _).far (p := ⟨w.heap.size + 1, 0, none⟩) (by show w.heap.size ≠ w.heap.size + 1; omega) _).far (p := ⟨w.heap.size + 1, 1, none⟩) (by show w.heap.size ≠ w.heap.size + 1; omega) _).far (p := ⟨w.heap.size + 1, 2, none⟩) (by show w.heap.size ≠ w.heap.size + 1; omega) _).far (p := ⟨w.heap.size + 1, 3, none⟩) (by show w.heap.size ≠ w.heap.size + 1; omega) _).alloc _
  have b_bzF : Blk ((((((W5.setCell ⟨gg, i * 7 + 6, none⟩ (.int .i64 4)).setCell ⟨w.heap.size + 1, 0, none⟩ (.int .i64 ck)).setCell ⟨w.heap.size + 1, 1, none⟩ (.int .i64 nx)).setCell ⟨w.heap.size + 1, 2, none⟩ (.int .i64 wt)).setCell ⟨w.heap.size + 1, 3, none⟩ (.slice (some ⟨gg, 0, none⟩) ts.length c5)).alloc (.cells #[.string ts[i].name, .int .i64 ts[i].pid, .int .i64 ts[i].ver, .int .i64 1, .slice A3 ts[i].parts.length m3, .int .i64 ts[i].since, .int .i64 4] 76)) (w.heap.size + 1) 28 #[.int .i64 ck, .int .i64 nx, .int .i64 wt, .slice (some ⟨gg, 0, none⟩) ts.length c5] := ((((((B5_bz.out).far (p := ⟨gg, i * 7 + 6, none⟩) (by show w.heap.size + 1 ≠ gg; omega) _).set_ 0 _).set_ 1 _).set_ 2 _).set_ 3 _).alloc _
  have b_boF : Blk ((((((W5.setCell ⟨gg, i * 7 + 6, none⟩ (.int .i64 4)).setCell ⟨w.heap.size + 1, 0, none⟩ (.int .i64 ck)).setCell ⟨w.heap.size + 1, 1, none⟩ (.int .i64 nx)).setCell ⟨w.heap.size + 1, 2, none⟩ (.int .i64 wt)).setCell ⟨w.heap.size + 1, 3, none⟩ (.slice (some ⟨gg, 0, none⟩) ts.length c5)).alloc (.cells #[.string ts[i].name, .int .i64 ts[i].pid, .int .i64 ts[i].ver, .int .i64 1, .slice A3 ts[i].parts.length m3, .int .i64 ts[i].since, .int .i64 4] 76)) (W3.heap.size) 28 #[.int .i64 ck, .int .i64 nx, .int .i64 wt, .slice (some ⟨gg, 0, none⟩) ts.length c5] := ((((((B5_bo.out).far (p := ⟨gg, i * 7 + 6, none⟩) (by show W3.heap.size ≠ gg; omega) _).far (p := ⟨w.heap.size + 1, 0, none⟩) (by show W3.heap.size ≠ w.heap.size + 1; omega) _).far (p := ⟨w.heap.size + 1, 1, none⟩) (by show W3.heap.size ≠ w.heap.size + 1; omega) _).far (p := ⟨w.heap.size + 1, 2, none⟩) (by show W3.heap.size ≠ w.heap.size + 1; omega) _).far (p := ⟨w.heap.size + 1, 3, none⟩) (by show W3.heap.size ≠ w.heap.size + 1; omega) _).alloc _
  have b_btF : Blk ((((((W5.setCell ⟨gg, i * 7 + 6, none⟩ (.int .i64 4)).setCell ⟨w.heap.size + 1, 0, none⟩ (.int .i64 ck)).setCell ⟨w.heap.size + 1, 1, none⟩ (.int .i64 nx)).setCell ⟨w.heap.size + 1, 2, none⟩ (.int .i64 wt)).setCell ⟨w.heap.size + 1, 3, none⟩ (.slice (some ⟨gg, 0, none⟩) ts.length c5)).alloc (.cells #[.string ts[i].name, .int .i64 ts[i].pid, .int .i64 ts[i].ver, .int .i64 1, .slice A3 ts[i].parts.length m3, .int .i64 ts[i].since, .int .i64 4] 76)) (W5.heap.size) 76 #[.string ts[i].name, .int .i64 ts[i].pid, .int .i64 ts[i].ver, .int .i64 1, .slice A3 ts[i].parts.length m3, .int .i64 ts[i].since, .int .i64 4] := Blk.new_ _ 76 #[.string ts[i].name, .int .i64 ts[i].pid, .int .i64 ts[i].ver, .int .i64 1, .slice A3 ts[i].parts.length m3, .int .i64 ts[i].since, .int .i64 4] (by first | rfl | (simp; done) | (simp; omega))
  have hoF := (KG.out.put4 (g := w.heap.size + 1) (by constructor <;> omega) (.int .i64 ck) (.int .i64 nx) (.int .i64 wt) (.slice (some ⟨gg, 0, none⟩) ts.length c5)).alloc (.cells #[.string ts[i].name, .int .i64 ts[i].pid, .int .i64 ts[i].ver, .int .i64 1, .slice A3 ts[i].parts.length m3, .int .i64 ts[i].since, .int .i64 4] 76)
  have y0 := b_bzF.cell 0
  have y1 := b_bzF.cell 1
  have y2 := b_bzF.cell 2
  have y3 := b_bzF.cell 3
  exact bodyPost_ret (v := .tuple #[.agg #[.int .i64 ck, .int .i64 nx, .int .i64 wt, .slice (some ⟨gg, 0, none⟩) ts.length c5], .int .i64 0]) (by simp [results, Try.results48, go_sem, y0, y1, y2, y3]) rfl (⟨.slice (some ⟨gg, 0, none⟩) ts.length c5, _, rfl, own_len (hoF.rebase (by simp) (by omega) hbF) (by simp [CoordD.upd]), hbF⟩)
set_option maxRecDepth 100000 in
set_option maxHeartbeats 4000000 in
theorem ended_other_false (v : Value) (c : CoordD) (s : ByteArray) (ver : Int) (i : Nat) (hk : CoordOk c) (hn : NameOk s) (hi : idxOf c.txns s = some i) (hl : i < c.txns.length) (hv : c.txns[i].ver = ver) (hst : c.txns[i].state = 1) (hdn : c.txns[i].done = 3) (w : World) (h : Cv w v c) (hnm : ∀ t ∈ c.txns, t.name.size ≤ 9223372036854775807) (hs : s.size ≤ 9223372036854775807) :
    Calls Try.prog 48 #[v, .string s, .int .i64 ver, .bool false] w (CRes zeroC [.int .i64 12] w) := by
  obtain ⟨tv, rfl, hx, hlen⟩ := id h
  obtain ⟨A, m, rfl, -⟩ := hx.at_
  obtain ⟨b, off, -, -, rfl, -⟩ := hx.row (Below.refl _ _) i hl
  have H := Lib.hid h
  have HX := Lib.hid hx
  clear h hx
  unfold coordV at *
  obtain ⟨ck, nx, wt, ts⟩ := c
  simp only at *
  have HK := Lib.hid hk
  have HN := Lib.hid hn
  have HI := Lib.hid hi
  have HV := Lib.hid hv
  have HST := Lib.hid hst
  have HDN := Lib.hid hdn
  clear hdn
  have HNM := Lib.hid hnm
  have hix : ixOf ts s = i := (ix_some hi).2
  have HIX := Lib.hid hix
  clear hk hn hi hv hst hnm hix
  go_enter Try.func48, Try.ntmps48
  go_wp2_with fail
  have hb1 : Below w.heap.size w ((w.alloc (.cells #[.int .i64 ck, .int .i64 nx, .int .i64 wt, .slice (some ⟨b, off, none⟩) ts.length m] 28)).alloc (.cells #[.int .i64 0, .int .i64 0, .int .i64 0, .slice none 0 0] 28)) := ((Below.refl _ _).alloc (by first | omega | (simp; done) | (simp; omega)) _).alloc (by first | omega | (simp; done) | (simp; omega)) _
  have hal1 : Below w.heap.size w ((w.alloc (.cells #[.int .i64 ck, .int .i64 nx, .int .i64 wt, .slice (some ⟨b, off, none⟩) ts.length m] 28)).alloc (.cells #[.int .i64 0, .int .i64 0, .int .i64 0, .slice none 0 0] 28)) := ((Below.refl _ _).alloc (by first | omega | (simp; done) | (simp; omega)) _).alloc (by first | omega | (simp; done) | (simp; omega)) _
  have b_bx1 : Blk ((w.alloc (.cells #[.int .i64 ck, .int .i64 nx, .int .i64 wt, .slice (some ⟨b, off, none⟩) ts.length m] 28)).alloc (.cells #[.int .i64 0, .int .i64 0, .int .i64 0, .slice none 0 0] 28)) (w.heap.size) 28 #[.int .i64 ck, .int .i64 nx, .int .i64 wt, .slice (some ⟨b, off, none⟩) ts.length m] := (Blk.new_ _ 28 #[.int .i64 ck, .int .i64 nx, .int .i64 wt, .slice (some ⟨b, off, none⟩) ts.length m] (by first | rfl | (simp; done) | (simp; omega))).alloc _
  have b_bz1 : Blk ((w.alloc (.cells #[.int .i64 ck, .int .i64 nx, .int .i64 wt, .slice (some ⟨b, off, none⟩) ts.length m] 28)).alloc (.cells #[.int .i64 0, .int .i64 0, .int .i64 0, .slice none 0 0] 28)) (w.heap.size + 1) 28 #[.int .i64 0, .int .i64 0, .int .i64 0, .slice none 0 0] := Blk.new_ _ 28 #[.int .i64 0, .int .i64 0, .int .i64 0, .slice none 0 0] (by first | rfl | (simp; done) | (simp; omega))
  have k_c1 := H.out.below hal1
  have hz1 : w.heap.size + 2 ≤ ((w.alloc (.cells #[.int .i64 ck, .int .i64 nx, .int .i64 wt, .slice (some ⟨b, off, none⟩) ts.length m] 28)).alloc (.cells #[.int .i64 0, .int .i64 0, .int .i64 0, .slice none 0 0] 28)).heap.size := by first | omega | (simp; done) | (simp; omega)
  generalize (w.alloc (.cells #[.int .i64 ck, .int .i64 nx, .int .i64 wt, .slice (some ⟨b, off, none⟩) ts.length m] 28)).alloc (.cells #[.int .i64 0, .int .i64 0, .int .i64 0, .slice none 0 0] 28) = W1 at *
  have HB1 := Lib.hid hb1
  have B1_bx := Lib.hid b_bx1
  have B1_bz := Lib.hid b_bz1
  have K1_c := Lib.hid k_c1
  clear hb1 b_bx1 b_bz1 k_c1
  clear H
  refine (knownFault_good _ ⟨ck, nx, wt, ts⟩ s ver i HK.out HN.out HI.out hl HV.out _ K1_c.out HNM.out hs).mono ?_
  rintro e W2 ⟨rfl, hb⟩
  have hb2 : Below w.heap.size w W2 := below_then HB1.out hb
  have b_bx2 := B1_bx.out.below hb B1_bx.out.lt
  have b_bz2 := B1_bz.out.below hb B1_bz.out.lt
  have k_c2 := K1_c.out.below hb
  have hz2 := hb.size
  have HB2 := Lib.hid hb2
  have B2_bx := Lib.hid b_bx2
  have B2_bz := Lib.hid b_bz2
  have K2_c := Lib.hid k_c2
  clear hb2 b_bx2 b_bz2 k_c2
  clear B1_bx B1_bz HB1 K1_c
  have c_bx0 := B2_bx.out.cell 0
  have c_bx1 := B2_bx.out.cell 1
  have c_bx2 := B2_bx.out.cell 2
  have c_bx3 := B2_bx.out.cell 3
  have l_bx := B2_bx.out.lt
  go_wp2_with fail
  clear c_bx0 c_bx1 c_bx2 c_bx3 l_bx
  have hfit := HK.out.fits
  refine (refCoordCopy_any _ ⟨ck, nx, wt, ts⟩ _ K2_c.out hfit.1 hfit.2.1).mono ?_
  rintro e W3 ⟨tv5, rows, rfl, hown, hb⟩
  obtain ⟨A5, c5, rfl, hc5⟩ := (Sl.of_own hown.own).form
  simp only at *
  unfold coordV
  simp only
  clear hfit
  have hb3 : Below w.heap.size w W3 := below_then HB2.out hb
  have b_bx3 := B2_bx.out.below hb B2_bx.out.lt
  have b_bz3 := B2_bz.out.below hb B2_bz.out.lt
  have k_c3 := K2_c.out.below hb
  have hz3 := hb.size
  have HB3 := Lib.hid hb3
  have B3_bx := Lib.hid b_bx3
  have B3_bz := Lib.hid b_bz3
  have K3_c := Lib.hid k_c3
  clear hb3 b_bx3 b_bz3 k_c3
  clear B2_bx B2_bz HB2 K2_c
  have ho := hown.rebase (w0 := w) rfl (Nat.le_refl _) HB3.out
  obtain ⟨gg, c6, hv6, hg1, hg2, hc6, -⟩ := ho.at_ (Nat.lt_of_le_of_lt (Nat.zero_le i) hl)
  injection hv6 with hv7 hv8 hv9
  subst hv7
  clear hv8 hv9 hc6 hc5
  have HO := Lib.hid ho
  clear ho hown
  have c_bx0 := B3_bx.out.cell 0
  have c_bx1 := B3_bx.out.cell 1
  have c_bx2 := B3_bx.out.cell 2
  have c_bx3 := B3_bx.out.cell 3
  have l_bx := B3_bx.out.lt
  go_wp2_with fail
  clear c_bx0 c_bx1 c_bx2 c_bx3 l_bx
  have hsz4 := HB3.out.size
  have hb4 : Below w.heap.size w (W3.alloc (.cells #[.int .i64 ck, .int .i64 nx, .int .i64 wt, .slice (some ⟨gg, 0, none⟩) ts.length c5] 28)) := (HB3.out).alloc (by first | omega | (simp; done) | (simp; omega)) _
  have hal4 : Below W3.heap.size W3 (W3.alloc (.cells #[.int .i64 ck, .int .i64 nx, .int .i64 wt, .slice (some ⟨gg, 0, none⟩) ts.length c5] 28)) := (Below.refl _ _).alloc (by first | omega | (simp; done) | (simp; omega)) _
  have b_bx4 : Blk (W3.alloc (.cells #[.int .i64 ck, .int .i64 nx, .int .i64 wt, .slice (some ⟨gg, 0, none⟩) ts.length c5] 28)) (w.heap.size) 28 #[.int .i64 ck, .int .i64 nx, .int .i64 wt, .slice (some ⟨b, off, none⟩) ts.length m] := (B3_bx.out).alloc _
  have b_bz4 : Blk (W3.alloc (.cells #[.int .i64 ck, .int .i64 nx, .int .i64 wt, .slice (some ⟨gg, 0, none⟩) ts.length c5] 28)) (w.heap.size + 1) 28 #[.int .i64 0, .int .i64 0, .int .i64 0, .slice none 0 0] := (B3_bz.out).alloc _
  have b_bo4 : Blk (W3.alloc (.cells #[.int .i64 ck, .int .i64 nx, .int .i64 wt, .slice (some ⟨gg, 0, none⟩) ts.length c5] 28)) (W3.heap.size) 28 #[.int .i64 ck, .int .i64 nx, .int .i64 wt, .slice (some ⟨gg, 0, none⟩) ts.length c5] := Blk.new_ _ 28 #[.int .i64 ck, .int .i64 nx, .int .i64 wt, .slice (some ⟨gg, 0, none⟩) ts.length c5] (by first | rfl | (simp; done) | (simp; omega))
  have k_c4 := K3_c.out.below hal4
  have k_own4 := (HO.out).alloc (.cells #[.int .i64 ck, .int .i64 nx, .int .i64 wt, .slice (some ⟨gg, 0, none⟩) ts.length c5] 28)
  have hz4 : W3.heap.size + 1 ≤ (W3.alloc (.cells #[.int .i64 ck, .int .i64 nx, .int .i64 wt, .slice (some ⟨gg, 0, none⟩) ts.length c5] 28)).heap.size := by first | omega | (simp; done) | (simp; omega)
  generalize W3.alloc (.cells #[.int .i64 ck, .int .i64 nx, .int .i64 wt, .slice (some ⟨gg, 0, none⟩) ts.length c5] 28) = W4 at *
  have HB4 := Lib.hid hb4
  have B4_bx := Lib.hid b_bx4
  have B4_bz := Lib.hid b_bz4
  have B4_bo := Lib.hid b_bo4
  have K4_c := Lib.hid k_c4
  have K4_own := Lib.hid k_own4
  clear hb4 b_bx4 b_bz4 b_bo4 k_c4 k_own4
  clear B3_bx B3_bz HB3 K3_c HO
  refine (txnOf_any _ ⟨ck, nx, wt, ts⟩ s _ K4_c.out).mono ?_
  rintro e W5 ⟨rfl, hb⟩
  simp only
  rw [HIX.out]
  have hb5 : Below w.heap.size w W5 := below_then HB4.out hb
  have b_bx5 := B4_bx.out.below hb B4_bx.out.lt
  have b_bz5 := B4_bz.out.below hb B4_bz.out.lt
  have b_bo5 := B4_bo.out.below hb B4_bo.out.lt
  have k_c5 := K4_c.out.below hb
  have k_own5 := K4_own.out.keep hb
  have hz5 := hb.size
  have HB5 := Lib.hid hb5
  have B5_bx := Lib.hid b_bx5
  have B5_bz := Lib.hid b_bz5
  have B5_bo := Lib.hid b_bo5
  have K5_c := Lib.hid k_c5
  have K5_own := Lib.hid k_own5
  clear hb5 b_bx5 b_bz5 b_bo5 k_c5 k_own5
  clear B4_bx B4_bz B4_bo HB4 K4_c K4_own
  obtain ⟨hbl, A3, m3, x0, x1, x2, x3, x4, x5, x6, -⟩ := HX.out.rowAt HB5.out i hl
  rw [HST.out] at x3
  rw [HDN.out] at x6
  have c_bx0 := B5_bx.out.cell 0
  have c_bx1 := B5_bx.out.cell 1
  have c_bx2 := B5_bx.out.cell 2
  have c_bx3 := B5_bx.out.cell 3
  have l_bx := B5_bx.out.lt
  have c_bo0 := B5_bo.out.cell 0
  have c_bo1 := B5_bo.out.cell 1
  have c_bo2 := B5_bo.out.cell 2
  have c_bo3 := B5_bo.out.cell 3
  have l_bo := B5_bo.out.lt
  have hblz := HB5.out.size
  have l_bz5 := B5_bz.out.lt
  obtain ⟨hg3, hg4, A4, m4, ⟨-, -, -, r3, -, -, r6⟩, hrf, -⟩ := K5_own.out.row rfl i hl
  have rf3 := hrf 3 (by decide)
  have rf6 := hrf 6 (by decide)
  clear hrf
  have i0 : (0 : Int) ≤ (i : Int) := by omega
  have i1 : (i : Int) < (ts.length : Int) := Int.ofNat_lt.2 hl
  have c_bz0 := B5_bz.out.cell 0
  have f_bz0 := B5_bz.out.frozen 0
  have c_bz1 := B5_bz.out.cell 1
  have f_bz1 := B5_bz.out.frozen 1
  have c_bz2 := B5_bz.out.cell 2
  have f_bz2 := B5_bz.out.frozen 2
  have c_bz3 := B5_bz.out.cell 3
  have f_bz3 := B5_bz.out.frozen 3
  have l_bz := B5_bz.out.lt
  have KG := Lib.hid K5_own.out
  go_wp2_with fail
  clear c_bx0 c_bx1 c_bx2 c_bx3 l_bx c_bo0 c_bo1 c_bo2 c_bo3 l_bo c_bz0 f_bz0 c_bz1 f_bz1 c_bz2 f_bz2 c_bz3 f_bz3 l_bz
  have hszF := HB5.out.size
  have hbF : Below w.heap.size w (((((W5.setCell ⟨w.heap.size + 1, 0, none⟩ (.int .i64 0)).setCell ⟨w.heap.size + 1, 1, none⟩ (.int .i64 0)).setCell ⟨w.heap.size + 1, 2, none⟩ (.int .i64 0)).setCell ⟨w.heap.size + 1, 3, none⟩ (.slice none 0 0)).alloc (.cells #[.string ts[i].name, .int .i64 ts[i].pid, .int .i64 ts[i].ver, .int .i64 1, .slice A3 ts[i].parts.length m3, .int .i64 ts[i].since, .int .i64 3] 76)) := (((((HB5.out).setCell (by show w.heap.size ≤ w.heap.size + 1; omega) _).setCell (by show w.heap.size ≤ w.heap.size + 1; omega) _).setCell (by show w.heap.size ≤ w.heap.size + 1; omega) _).setCell (by show w.heap.size ≤ w.heap.size + 1; omega) _).alloc (by first | omega | (simp; done) | (simp; omega)) _
  have b_bxF : Blk (((((W5.setCell ⟨w.heap.size + 1, 0, none⟩ (.int .i64 0)).setCell ⟨w.heap.size + 1, 1, none⟩ (.int .i64 0)).setCell ⟨w.heap.size + 1, 2, none⟩ (.int .i64 0)).setCell ⟨w.heap.size + 1, 3, none⟩ (.slice none 0 0)).alloc (.cells #[.string ts[i].name, .int .i64 ts[i].pid, .int .i64 ts[i].ver, .int .i64 1, .slice A3 ts[i].parts.length m3, .int .i64 ts[i].since, .int .i64 3] 76)) (w.heap.size) 28 #[.int .i64 ck, .int .i64 nx, .int .i64 wt, .slice (some ⟨b, off, none⟩) ts.length m] := (((((B5_bx.out).far (p := ⟨w.heap.size + 1, 0, none⟩) (by show w.heap.size ≠ w.heap.size + 1; omega) _).far (p := ⟨w.heap.size + 1, 1, none⟩) (by show w.heap.size ≠ w.heap.size + 1; omega) _).far (p := ⟨w.heap.size + 1, 2, none⟩) (by show w.heap.size ≠ w.heap.size + 1; omega) _).far (p := ⟨w.heap.size + 1, 3, none⟩) (by show w.heap.size ≠ w.heap.size + 1; omega) _).alloc _
  have b_bzF : Blk (((((W5.setCell ⟨w.heap.size + 1, 0, none⟩ (.int .i64 0)).setCell ⟨w.heap.size + 1, 1, none⟩ (.int .i64 0)).setCell ⟨w.heap.size + 1, 2, none⟩ (.int .i64 0)).setCell ⟨w.heap.size + 1, 3, none⟩ (.slice none 0 0)).alloc (.cells #[.string ts[i].name, .int .i64 ts[i].pid, .int .i64 ts[i].ver, .int .i64 1, .slice A3 ts[i].parts.length m3, .int .i64 ts[i].since, .int .i64 3] 76)) (w.heap.size + 1) 28 #[.int .i64 0, .int .i64 0, .int .i64 0, .slice none 0 0] := (((((B5_bz.out).set_ 0 _).set_ 1 _).set_ 2 _).set_ 3 _).alloc _
  have b_boF : Blk (((((W5.setCell ⟨w.heap.size + 1, 0, none⟩ (.int .i64 0)).setCell ⟨w.heap.size + 1, 1, none⟩ (.int .i64 0)).setCell ⟨w.heap.size + 1, 2, none⟩ (.int .i64 0)).setCell ⟨w.heap.size + 1, 3, none⟩ (.slice none 0 0)).alloc (.cells #[.string ts[i].name, .int .i64 ts[i].pid, .int .i64 ts[i].ver, .int .i64 1, .slice A3 ts[i].parts.length m3, .int .i64 ts[i].since, .int .i64 3] 76)) (W3.heap.size) 28 #[.int .i64 ck, .int .i64 nx, .int .i64 wt, .slice (some ⟨gg, 0, none⟩) ts.length c5] := (((((B5_bo.out).far (p := ⟨w.heap.size + 1, 0, none⟩) (by show W3.heap.size ≠ w.heap.size + 1; omega) _).far (p := ⟨w.heap.size + 1, 1, none⟩) (by show W3.heap.size ≠ w.heap.size + 1; omega) _).far (p := ⟨w.heap.size + 1, 2, none⟩) (by show W3.heap.size ≠ w.heap.size + 1; omega) _).far (p := ⟨w.heap.size + 1, 3, none⟩) (by show W3.heap.size ≠ w.heap.size + 1; omega) _).alloc _
  have b_btF : Blk (((((W5.setCell ⟨w.heap.size + 1, 0, none⟩ (.int .i64 0)).setCell ⟨w.heap.size + 1, 1, none⟩ (.int .i64 0)).setCell ⟨w.heap.size + 1, 2, none⟩ (.int .i64 0)).setCell ⟨w.heap.size + 1, 3, none⟩ (.slice none 0 0)).alloc (.cells #[.string ts[i].name, .int .i64 ts[i].pid, .int .i64 ts[i].ver, .int .i64 1, .slice A3 ts[i].parts.length m3, .int .i64 ts[i].since, .int .i64 3] 76)) (W5.heap.size) 76 #[.string ts[i].name, .int .i64 ts[i].pid, .int .i64 ts[i].ver, .int .i64 1, .slice A3 ts[i].parts.length m3, .int .i64 ts[i].since, .int .i64 3] := Blk.new_ _ 76 #[.string ts[i].name, .int .i64 ts[i].pid, .int .i64 ts[i].ver, .int .i64 1, .slice A3 ts[i].parts.length m3, .int .i64 ts[i].since, .int .i64 3] (by first | rfl | (simp; done) | (simp; omega))
  have y0 := b_bzF.cell 0
  have y1 := b_bzF.cell 1
  have y2 := b_bzF.cell 2
  have y3 := b_bzF.cell 3
  exact bodyPost_ret (v := .tuple #[.agg #[.int .i64 0, .int .i64 0, .int .i64 0, .slice none 0 0], .int .i64 12]) (by simp [results, Try.results48, go_sem, y0, y1, y2, y3]) rfl (CRes.zero hbF)
set_option maxRecDepth 100000 in
set_option maxHeartbeats 4000000 in
theorem ended_set_false (v : Value) (c : CoordD) (s : ByteArray) (ver : Int) (i : Nat) (hk : CoordOk c) (hn : NameOk s) (hi : idxOf c.txns s = some i) (hl : i < c.txns.length) (hv : c.txns[i].ver = ver) (hst : c.txns[i].state = 4) (w : World) (h : Cv w v c) (hnm : ∀ t ∈ c.txns, t.name.size ≤ 9223372036854775807) (hs : s.size ≤ 9223372036854775807) :
    Calls Try.prog 48 #[v, .string s, .int .i64 ver, .bool false] w (CRes c [.int .i64 0] w) := by
  obtain ⟨tv, rfl, hx, hlen⟩ := id h
  obtain ⟨A, m, rfl, -⟩ := hx.at_
  obtain ⟨b, off, -, -, rfl, -⟩ := hx.row (Below.refl _ _) i hl
  have H := Lib.hid h
  have HX := Lib.hid hx
  clear h hx
  unfold coordV at *
  obtain ⟨ck, nx, wt, ts⟩ := c
  simp only at *
  have HK := Lib.hid hk
  have HN := Lib.hid hn
  have HI := Lib.hid hi
  have HV := Lib.hid hv
  have HST := Lib.hid hst
  have HNM := Lib.hid hnm
  have hix : ixOf ts s = i := (ix_some hi).2
  have HIX := Lib.hid hix
  clear hk hn hi hv hst hnm hix
  go_enter Try.func48, Try.ntmps48
  go_wp2_with fail
  have hb1 : Below w.heap.size w ((w.alloc (.cells #[.int .i64 ck, .int .i64 nx, .int .i64 wt, .slice (some ⟨b, off, none⟩) ts.length m] 28)).alloc (.cells #[.int .i64 0, .int .i64 0, .int .i64 0, .slice none 0 0] 28)) := ((Below.refl _ _).alloc (by first | omega | (simp; done) | (simp; omega)) _).alloc (by first | omega | (simp; done) | (simp; omega)) _
  have hal1 : Below w.heap.size w ((w.alloc (.cells #[.int .i64 ck, .int .i64 nx, .int .i64 wt, .slice (some ⟨b, off, none⟩) ts.length m] 28)).alloc (.cells #[.int .i64 0, .int .i64 0, .int .i64 0, .slice none 0 0] 28)) := ((Below.refl _ _).alloc (by first | omega | (simp; done) | (simp; omega)) _).alloc (by first | omega | (simp; done) | (simp; omega)) _
  have b_bx1 : Blk ((w.alloc (.cells #[.int .i64 ck, .int .i64 nx, .int .i64 wt, .slice (some ⟨b, off, none⟩) ts.length m] 28)).alloc (.cells #[.int .i64 0, .int .i64 0, .int .i64 0, .slice none 0 0] 28)) (w.heap.size) 28 #[.int .i64 ck, .int .i64 nx, .int .i64 wt, .slice (some ⟨b, off, none⟩) ts.length m] := (Blk.new_ _ 28 #[.int .i64 ck, .int .i64 nx, .int .i64 wt, .slice (some ⟨b, off, none⟩) ts.length m] (by first | rfl | (simp; done) | (simp; omega))).alloc _
  have b_bz1 : Blk ((w.alloc (.cells #[.int .i64 ck, .int .i64 nx, .int .i64 wt, .slice (some ⟨b, off, none⟩) ts.length m] 28)).alloc (.cells #[.int .i64 0, .int .i64 0, .int .i64 0, .slice none 0 0] 28)) (w.heap.size + 1) 28 #[.int .i64 0, .int .i64 0, .int .i64 0, .slice none 0 0] := Blk.new_ _ 28 #[.int .i64 0, .int .i64 0, .int .i64 0, .slice none 0 0] (by first | rfl | (simp; done) | (simp; omega))
  have k_c1 := H.out.below hal1
  have hz1 : w.heap.size + 2 ≤ ((w.alloc (.cells #[.int .i64 ck, .int .i64 nx, .int .i64 wt, .slice (some ⟨b, off, none⟩) ts.length m] 28)).alloc (.cells #[.int .i64 0, .int .i64 0, .int .i64 0, .slice none 0 0] 28)).heap.size := by first | omega | (simp; done) | (simp; omega)
  generalize (w.alloc (.cells #[.int .i64 ck, .int .i64 nx, .int .i64 wt, .slice (some ⟨b, off, none⟩) ts.length m] 28)).alloc (.cells #[.int .i64 0, .int .i64 0, .int .i64 0, .slice none 0 0] 28) = W1 at *
  have HB1 := Lib.hid hb1
  have B1_bx := Lib.hid b_bx1
  have B1_bz := Lib.hid b_bz1
  have K1_c := Lib.hid k_c1
  clear hb1 b_bx1 b_bz1 k_c1
  clear H
  refine (knownFault_good _ ⟨ck, nx, wt, ts⟩ s ver i HK.out HN.out HI.out hl HV.out _ K1_c.out HNM.out hs).mono ?_
  rintro e W2 ⟨rfl, hb⟩
  have hb2 : Below w.heap.size w W2 := below_then HB1.out hb
  have b_bx2 := B1_bx.out.below hb B1_bx.out.lt
  have b_bz2 := B1_bz.out.below hb B1_bz.out.lt
  have k_c2 := K1_c.out.below hb
  have hz2 := hb.size
  have HB2 := Lib.hid hb2
  have B2_bx := Lib.hid b_bx2
  have B2_bz := Lib.hid b_bz2
  have K2_c := Lib.hid k_c2
  clear hb2 b_bx2 b_bz2 k_c2
  clear B1_bx B1_bz HB1 K1_c
  have c_bx0 := B2_bx.out.cell 0
  have c_bx1 := B2_bx.out.cell 1
  have c_bx2 := B2_bx.out.cell 2
  have c_bx3 := B2_bx.out.cell 3
  have l_bx := B2_bx.out.lt
  go_wp2_with fail
  clear c_bx0 c_bx1 c_bx2 c_bx3 l_bx
  have hfit := HK.out.fits
  refine (refCoordCopy_any _ ⟨ck, nx, wt, ts⟩ _ K2_c.out hfit.1 hfit.2.1).mono ?_
  rintro e W3 ⟨tv5, rows, rfl, hown, hb⟩
  obtain ⟨A5, c5, rfl, hc5⟩ := (Sl.of_own hown.own).form
  simp only at *
  unfold coordV
  simp only
  clear hfit
  have hb3 : Below w.heap.size w W3 := below_then HB2.out hb
  have b_bx3 := B2_bx.out.below hb B2_bx.out.lt
  have b_bz3 := B2_bz.out.below hb B2_bz.out.lt
  have k_c3 := K2_c.out.below hb
  have hz3 := hb.size
  have HB3 := Lib.hid hb3
  have B3_bx := Lib.hid b_bx3
  have B3_bz := Lib.hid b_bz3
  have K3_c := Lib.hid k_c3
  clear hb3 b_bx3 b_bz3 k_c3
  clear B2_bx B2_bz HB2 K2_c
  have ho := hown.rebase (w0 := w) rfl (Nat.le_refl _) HB3.out
  obtain ⟨gg, c6, hv6, hg1, hg2, hc6, -⟩ := ho.at_ (Nat.lt_of_le_of_lt (Nat.zero_le i) hl)
  injection hv6 with hv7 hv8 hv9
  subst hv7
  clear hv8 hv9 hc6 hc5
  have HO := Lib.hid ho
  clear ho hown
  have c_bx0 := B3_bx.out.cell 0
  have c_bx1 := B3_bx.out.cell 1
  have c_bx2 := B3_bx.out.cell 2
  have c_bx3 := B3_bx.out.cell 3
  have l_bx := B3_bx.out.lt
  go_wp2_with fail
  clear c_bx0 c_bx1 c_bx2 c_bx3 l_bx
  have hsz4 := HB3.out.size
  have hb4 : Below w.heap.size w (W3.alloc (.cells #[.int .i64 ck, .int .i64 nx, .int .i64 wt, .slice (some ⟨gg, 0, none⟩) ts.length c5] 28)) := (HB3.out).alloc (by first | omega | (simp; done) | (simp; omega)) _
  have hal4 : Below W3.heap.size W3 (W3.alloc (.cells #[.int .i64 ck, .int .i64 nx, .int .i64 wt, .slice (some ⟨gg, 0, none⟩) ts.length c5] 28)) := (Below.refl _ _).alloc (by first | omega | (simp; done) | (simp; omega)) _
  have b_bx4 : Blk (W3.alloc (.cells #[.int .i64 ck, .int .i64 nx, .int .i64 wt, .slice (some ⟨gg, 0, none⟩) ts.length c5] 28)) (w.heap.size) 28 #[.int .i64 ck, .int .i64 nx, .int .i64 wt, .slice (some ⟨b, off, none⟩) ts.length m] := (B3_bx.out).alloc _
  have b_bz4 : Blk (W3.alloc (.cells #[.int .i64 ck, .int .i64 nx, .int .i64 wt, .slice (some ⟨gg, 0, none⟩) ts.length c5] 28)) (w.heap.size + 1) 28 #[.int .i64 0, .int .i64 0, .int .i64 0, .slice none 0 0] := (B3_bz.out).alloc _
  have b_bo4 : Blk (W3.alloc (.cells #[.int .i64 ck, .int .i64 nx, .int .i64 wt, .slice (some ⟨gg, 0, none⟩) ts.length c5] 28)) (W3.heap.size) 28 #[.int .i64 ck, .int .i64 nx, .int .i64 wt, .slice (some ⟨gg, 0, none⟩) ts.length c5] := Blk.new_ _ 28 #[.int .i64 ck, .int .i64 nx, .int .i64 wt, .slice (some ⟨gg, 0, none⟩) ts.length c5] (by first | rfl | (simp; done) | (simp; omega))
  have k_c4 := K3_c.out.below hal4
  have k_own4 := (HO.out).alloc (.cells #[.int .i64 ck, .int .i64 nx, .int .i64 wt, .slice (some ⟨gg, 0, none⟩) ts.length c5] 28)
  have hz4 : W3.heap.size + 1 ≤ (W3.alloc (.cells #[.int .i64 ck, .int .i64 nx, .int .i64 wt, .slice (some ⟨gg, 0, none⟩) ts.length c5] 28)).heap.size := by first | omega | (simp; done) | (simp; omega)
  generalize W3.alloc (.cells #[.int .i64 ck, .int .i64 nx, .int .i64 wt, .slice (some ⟨gg, 0, none⟩) ts.length c5] 28) = W4 at *
  have HB4 := Lib.hid hb4
  have B4_bx := Lib.hid b_bx4
  have B4_bz := Lib.hid b_bz4
  have B4_bo := Lib.hid b_bo4
  have K4_c := Lib.hid k_c4
  have K4_own := Lib.hid k_own4
  clear hb4 b_bx4 b_bz4 b_bo4 k_c4 k_own4
  clear B3_bx B3_bz HB3 K3_c HO
  refine (txnOf_any _ ⟨ck, nx, wt, ts⟩ s _ K4_c.out).mono ?_
  rintro e W5 ⟨rfl, hb⟩
  simp only
  rw [HIX.out]
  have hb5 : Below w.heap.size w W5 := below_then HB4.out hb
  have b_bx5 := B4_bx.out.below hb B4_bx.out.lt
  have b_bz5 := B4_bz.out.below hb B4_bz.out.lt
  have b_bo5 := B4_bo.out.below hb B4_bo.out.lt
  have k_c5 := K4_c.out.below hb
  have k_own5 := K4_own.out.keep hb
  have hz5 := hb.size
  have HB5 := Lib.hid hb5
  have B5_bx := Lib.hid b_bx5
  have B5_bz := Lib.hid b_bz5
  have B5_bo := Lib.hid b_bo5
  have K5_c := Lib.hid k_c5
  have K5_own := Lib.hid k_own5
  clear hb5 b_bx5 b_bz5 b_bo5 k_c5 k_own5
  clear B4_bx B4_bz B4_bo HB4 K4_c K4_own
  obtain ⟨hbl, A3, m3, x0, x1, x2, x3, x4, x5, x6, -⟩ := HX.out.rowAt HB5.out i hl
  rw [HST.out] at x3
  have c_bx0 := B5_bx.out.cell 0
  have c_bx1 := B5_bx.out.cell 1
  have c_bx2 := B5_bx.out.cell 2
  have c_bx3 := B5_bx.out.cell 3
  have l_bx := B5_bx.out.lt
  have c_bo0 := B5_bo.out.cell 0
  have c_bo1 := B5_bo.out.cell 1
  have c_bo2 := B5_bo.out.cell 2
  have c_bo3 := B5_bo.out.cell 3
  have l_bo := B5_bo.out.lt
  have hblz := HB5.out.size
  have l_bz5 := B5_bz.out.lt
  obtain ⟨hg3, hg4, A4, m4, ⟨-, -, -, r3, -, -, r6⟩, hrf, -⟩ := K5_own.out.row rfl i hl
  have rf3 := hrf 3 (by decide)
  have rf6 := hrf 6 (by decide)
  clear hrf
  have i0 : (0 : Int) ≤ (i : Int) := by omega
  have i1 : (i : Int) < (ts.length : Int) := Int.ofNat_lt.2 hl
  have c_bz0 := B5_bz.out.cell 0
  have f_bz0 := B5_bz.out.frozen 0
  have c_bz1 := B5_bz.out.cell 1
  have f_bz1 := B5_bz.out.frozen 1
  have c_bz2 := B5_bz.out.cell 2
  have f_bz2 := B5_bz.out.frozen 2
  have c_bz3 := B5_bz.out.cell 3
  have f_bz3 := B5_bz.out.frozen 3
  have l_bz := B5_bz.out.lt
  have KG := Lib.hid K5_own.out
  go_wp2_with fail
  clear c_bx0 c_bx1 c_bx2 c_bx3 l_bx c_bo0 c_bo1 c_bo2 c_bo3 l_bo c_bz0 f_bz0 c_bz1 f_bz1 c_bz2 f_bz2 c_bz3 f_bz3 l_bz
  have hszF := HB5.out.size
  have hbF : Below w.heap.size w (((((W5.setCell ⟨w.heap.size + 1, 0, none⟩ (.int .i64 ck)).setCell ⟨w.heap.size + 1, 1, none⟩ (.int .i64 nx)).setCell ⟨w.heap.size + 1, 2, none⟩ (.int .i64 wt)).setCell ⟨w.heap.size + 1, 3, none⟩ (.slice (some ⟨gg, 0, none⟩) ts.length c5)).alloc (.cells #[.string ts[i].name, .int .i64 ts[i].pid, .int .i64 ts[i].ver, .int .i64 4, .slice A3 ts[i].parts.length m3, .int .i64 ts[i].since, .int .i64 ts[i].done] 76)) := (((((HB5.out).setCell (by show w.heap.size ≤ w.heap.size + 1; omega) _).setCell (by show w.heap.size ≤ w.heap.size + 1; omega) _).setCell (by show w.heap.size ≤ w.heap.size + 1; omega) _).setCell (by show w.heap.size ≤ w.heap.size + 1; omega) _).alloc (by first | omega | (simp; done) | (simp; omega)) _
  have b_bxF : Blk (((((W5.setCell ⟨w.heap.size + 1, 0, none⟩ (.int .i64 ck)).setCell ⟨w.heap.size + 1, 1, none⟩ (.int .i64 nx)).setCell ⟨w.heap.size + 1, 2, none⟩ (.int .i64 wt)).setCell ⟨w.heap.size + 1, 3, none⟩ (.slice (some ⟨gg, 0, none⟩) ts.length c5)).alloc (.cells #[.string ts[i].name, .int .i64 ts[i].pid, .int .i64 ts[i].ver, .int .i64 4, .slice A3 ts[i].parts.length m3, .int .i64 ts[i].since, .int .i64 ts[i].done] 76)) (w.heap.size) 28 #[.int .i64 ck, .int .i64 nx, .int .i64 wt, .slice (some ⟨b, off, none⟩) ts.length m] := (((((B5_bx.out).far (p := ⟨w.heap.size + 1, 0, none⟩) (by show w.heap.size ≠ w.heap.size + 1; omega) _).far (p := ⟨w.heap.size + 1, 1, none⟩) (by show w.heap.size ≠ w.heap.size + 1; omega) _).far (p := ⟨w.heap.size + 1, 2, none⟩) (by show w.heap.size ≠ w.heap.size + 1; omega) _).far (p := ⟨w.heap.size + 1, 3, none⟩) (by show w.heap.size ≠ w.heap.size + 1; omega) _).alloc _
  have b_bzF : Blk (((((W5.setCell ⟨w.heap.size + 1, 0, none⟩ (.int .i64 ck)).setCell ⟨w.heap.size + 1, 1, none⟩ (.int .i64 nx)).setCell ⟨w.heap.size + 1, 2, none⟩ (.int .i64 wt)).setCell ⟨w.heap.size + 1, 3, none⟩ (.slice (some ⟨gg, 0, none⟩) ts.length c5)).alloc (.cells #[.string ts[i].name, .int .i64 ts[i].pid, .int .i64 ts[i].ver, .int .i64 4, .slice A3 ts[i].parts.length m3, .int .i64 ts[i].since, .int .i64 ts[i].done] 76)) (w.heap.size + 1) 28 #[.int .i64 ck, .int .i64 nx, .int .i64 wt, .slice (some ⟨gg, 0, none⟩) ts.length c5] := (((((B5_bz.out).set_ 0 _).set_ 1 _).set_ 2 _).set_ 3 _).alloc _
  have b_boF : Blk (((((W5.setCell ⟨w.heap.size + 1, 0, none⟩ (.int .i64 ck)).setCell ⟨w.heap.size + 1, 1, none⟩ (.int .i64 nx)).setCell ⟨w.heap.size + 1, 2, none⟩ (.int .i64 wt)).setCell ⟨w.heap.size + 1, 3, none⟩ (.slice (some ⟨gg, 0, none⟩) ts.length c5)).alloc (.cells #[.string ts[i].name, .int .i64 ts[i].pid, .int .i64 ts[i].ver, .int .i64 4, .slice A3 ts[i].parts.length m3, .int .i64 ts[i].since, .int .i64 ts[i].done] 76)) (W3.heap.size) 28 #[.int .i64 ck, .int .i64 nx, .int .i64 wt, .slice (some ⟨gg, 0, none⟩) ts.length c5] := (((((B5_bo.out).far (p := ⟨w.heap.size + 1, 0, none⟩) (by show W3.heap.size ≠ w.heap.size + 1; omega) _).far (p := ⟨w.heap.size + 1, 1, none⟩) (by show W3.heap.size ≠ w.heap.size + 1; omega) _).far (p := ⟨w.heap.size + 1, 2, none⟩) (by show W3.heap.size ≠ w.heap.size + 1; omega) _).far (p := ⟨w.heap.size + 1, 3, none⟩) (by show W3.heap.size ≠ w.heap.size + 1; omega) _).alloc _
  have b_btF : Blk (((((W5.setCell ⟨w.heap.size + 1, 0, none⟩ (.int .i64 ck)).setCell ⟨w.heap.size + 1, 1, none⟩ (.int .i64 nx)).setCell ⟨w.heap.size + 1, 2, none⟩ (.int .i64 wt)).setCell ⟨w.heap.size + 1, 3, none⟩ (.slice (some ⟨gg, 0, none⟩) ts.length c5)).alloc (.cells #[.string ts[i].name, .int .i64 ts[i].pid, .int .i64 ts[i].ver, .int .i64 4, .slice A3 ts[i].parts.length m3, .int .i64 ts[i].since, .int .i64 ts[i].done] 76)) (W5.heap.size) 76 #[.string ts[i].name, .int .i64 ts[i].pid, .int .i64 ts[i].ver, .int .i64 4, .slice A3 ts[i].parts.length m3, .int .i64 ts[i].since, .int .i64 ts[i].done] := Blk.new_ _ 76 #[.string ts[i].name, .int .i64 ts[i].pid, .int .i64 ts[i].ver, .int .i64 4, .slice A3 ts[i].parts.length m3, .int .i64 ts[i].since, .int .i64 ts[i].done] (by first | rfl | (simp; done) | (simp; omega))
  have hoF := (KG.out.put4 (g := w.heap.size + 1) (by constructor <;> omega) (.int .i64 ck) (.int .i64 nx) (.int .i64 wt) (.slice (some ⟨gg, 0, none⟩) ts.length c5)).alloc (.cells #[.string ts[i].name, .int .i64 ts[i].pid, .int .i64 ts[i].ver, .int .i64 4, .slice A3 ts[i].parts.length m3, .int .i64 ts[i].since, .int .i64 ts[i].done] 76)
  have y0 := b_bzF.cell 0
  have y1 := b_bzF.cell 1
  have y2 := b_bzF.cell 2
  have y3 := b_bzF.cell 3
  exact bodyPost_ret (v := .tuple #[.agg #[.int .i64 ck, .int .i64 nx, .int .i64 wt, .slice (some ⟨gg, 0, none⟩) ts.length c5], .int .i64 0]) (by simp [results, Try.results48, go_sem, y0, y1, y2, y3]) rfl (⟨.slice (some ⟨gg, 0, none⟩) ts.length c5, _, rfl, own_len (hoF.rebase (by simp) (by omega) hbF) rfl, hbF⟩)
set_option maxRecDepth 100000 in
set_option maxHeartbeats 4000000 in
theorem ended_not_false (v : Value) (c : CoordD) (s : ByteArray) (ver : Int) (i : Nat) (hk : CoordOk c) (hn : NameOk s) (hi : idxOf c.txns s = some i) (hl : i < c.txns.length) (hv : c.txns[i].ver = ver) (hst : c.txns[i].state = 3) (w : World) (h : Cv w v c) (hnm : ∀ t ∈ c.txns, t.name.size ≤ 9223372036854775807) (hs : s.size ≤ 9223372036854775807) :
    Calls Try.prog 48 #[v, .string s, .int .i64 ver, .bool false] w (CRes zeroC [.int .i64 12] w) := by
  obtain ⟨tv, rfl, hx, hlen⟩ := id h
  obtain ⟨A, m, rfl, -⟩ := hx.at_
  obtain ⟨b, off, -, -, rfl, -⟩ := hx.row (Below.refl _ _) i hl
  have H := Lib.hid h
  have HX := Lib.hid hx
  clear h hx
  unfold coordV at *
  obtain ⟨ck, nx, wt, ts⟩ := c
  simp only at *
  have HK := Lib.hid hk
  have HN := Lib.hid hn
  have HI := Lib.hid hi
  have HV := Lib.hid hv
  have HST := Lib.hid hst
  have HNM := Lib.hid hnm
  have hix : ixOf ts s = i := (ix_some hi).2
  have HIX := Lib.hid hix
  clear hk hn hi hv hst hnm hix
  go_enter Try.func48, Try.ntmps48
  go_wp2_with fail
  have hb1 : Below w.heap.size w ((w.alloc (.cells #[.int .i64 ck, .int .i64 nx, .int .i64 wt, .slice (some ⟨b, off, none⟩) ts.length m] 28)).alloc (.cells #[.int .i64 0, .int .i64 0, .int .i64 0, .slice none 0 0] 28)) := ((Below.refl _ _).alloc (by first | omega | (simp; done) | (simp; omega)) _).alloc (by first | omega | (simp; done) | (simp; omega)) _
  have hal1 : Below w.heap.size w ((w.alloc (.cells #[.int .i64 ck, .int .i64 nx, .int .i64 wt, .slice (some ⟨b, off, none⟩) ts.length m] 28)).alloc (.cells #[.int .i64 0, .int .i64 0, .int .i64 0, .slice none 0 0] 28)) := ((Below.refl _ _).alloc (by first | omega | (simp; done) | (simp; omega)) _).alloc (by first | omega | (simp; done) | (simp; omega)) _
  have b_bx1 : Blk ((w.alloc (.cells #[.int .i64 ck, .int .i64 nx, .int .i64 wt, .slice (some ⟨b, off, none⟩) ts.length m] 28)).alloc (.cells #[.int .i64 0, .int .i64 0, .int .i64 0, .slice none 0 0] 28)) (w.heap.size) 28 #[.int .i64 ck, .int .i64 nx, .int .i64 wt, .slice (some ⟨b, off, none⟩) ts.length m] := (Blk.new_ _ 28 #[.int .i64 ck, .int .i64 nx, .int .i64 wt, .slice (some ⟨b, off, none⟩) ts.length m] (by first | rfl | (simp; done) | (simp; omega))).alloc _
  have b_bz1 : Blk ((w.alloc (.cells #[.int .i64 ck, .int .i64 nx, .int .i64 wt, .slice (some ⟨b, off, none⟩) ts.length m] 28)).alloc (.cells #[.int .i64 0, .int .i64 0, .int .i64 0, .slice none 0 0] 28)) (w.heap.size + 1) 28 #[.int .i64 0, .int .i64 0, .int .i64 0, .slice none 0 0] := Blk.new_ _ 28 #[.int .i64 0, .int .i64 0, .int .i64 0, .slice none 0 0] (by first | rfl | (simp; done) | (simp; omega))
  have k_c1 := H.out.below hal1
  have hz1 : w.heap.size + 2 ≤ ((w.alloc (.cells #[.int .i64 ck, .int .i64 nx, .int .i64 wt, .slice (some ⟨b, off, none⟩) ts.length m] 28)).alloc (.cells #[.int .i64 0, .int .i64 0, .int .i64 0, .slice none 0 0] 28)).heap.size := by first | omega | (simp; done) | (simp; omega)
  generalize (w.alloc (.cells #[.int .i64 ck, .int .i64 nx, .int .i64 wt, .slice (some ⟨b, off, none⟩) ts.length m] 28)).alloc (.cells #[.int .i64 0, .int .i64 0, .int .i64 0, .slice none 0 0] 28) = W1 at *
  have HB1 := Lib.hid hb1
  have B1_bx := Lib.hid b_bx1
  have B1_bz := Lib.hid b_bz1
  have K1_c := Lib.hid k_c1
  clear hb1 b_bx1 b_bz1 k_c1
  clear H
  refine (knownFault_good _ ⟨ck, nx, wt, ts⟩ s ver i HK.out HN.out HI.out hl HV.out _ K1_c.out HNM.out hs).mono ?_
  rintro e W2 ⟨rfl, hb⟩
  have hb2 : Below w.heap.size w W2 := below_then HB1.out hb
  have b_bx2 := B1_bx.out.below hb B1_bx.out.lt
  have b_bz2 := B1_bz.out.below hb B1_bz.out.lt
  have k_c2 := K1_c.out.below hb
  have hz2 := hb.size
  have HB2 := Lib.hid hb2
  have B2_bx := Lib.hid b_bx2
  have B2_bz := Lib.hid b_bz2
  have K2_c := Lib.hid k_c2
  clear hb2 b_bx2 b_bz2 k_c2
  clear B1_bx B1_bz HB1 K1_c
  have c_bx0 := B2_bx.out.cell 0
  have c_bx1 := B2_bx.out.cell 1
  have c_bx2 := B2_bx.out.cell 2
  have c_bx3 := B2_bx.out.cell 3
  have l_bx := B2_bx.out.lt
  go_wp2_with fail
  clear c_bx0 c_bx1 c_bx2 c_bx3 l_bx
  have hfit := HK.out.fits
  refine (refCoordCopy_any _ ⟨ck, nx, wt, ts⟩ _ K2_c.out hfit.1 hfit.2.1).mono ?_
  rintro e W3 ⟨tv5, rows, rfl, hown, hb⟩
  obtain ⟨A5, c5, rfl, hc5⟩ := (Sl.of_own hown.own).form
  simp only at *
  unfold coordV
  simp only
  clear hfit
  have hb3 : Below w.heap.size w W3 := below_then HB2.out hb
  have b_bx3 := B2_bx.out.below hb B2_bx.out.lt
  have b_bz3 := B2_bz.out.below hb B2_bz.out.lt
  have k_c3 := K2_c.out.below hb
  have hz3 := hb.size
  have HB3 := Lib.hid hb3
  have B3_bx := Lib.hid b_bx3
  have B3_bz := Lib.hid b_bz3
  have K3_c := Lib.hid k_c3
  clear hb3 b_bx3 b_bz3 k_c3
  clear B2_bx B2_bz HB2 K2_c
  have ho := hown.rebase (w0 := w) rfl (Nat.le_refl _) HB3.out
  obtain ⟨gg, c6, hv6, hg1, hg2, hc6, -⟩ := ho.at_ (Nat.lt_of_le_of_lt (Nat.zero_le i) hl)
  injection hv6 with hv7 hv8 hv9
  subst hv7
  clear hv8 hv9 hc6 hc5
  have HO := Lib.hid ho
  clear ho hown
  have c_bx0 := B3_bx.out.cell 0
  have c_bx1 := B3_bx.out.cell 1
  have c_bx2 := B3_bx.out.cell 2
  have c_bx3 := B3_bx.out.cell 3
  have l_bx := B3_bx.out.lt
  go_wp2_with fail
  clear c_bx0 c_bx1 c_bx2 c_bx3 l_bx
  have hsz4 := HB3.out.size
  have hb4 : Below w.heap.size w (W3.alloc (.cells #[.int .i64 ck, .int .i64 nx, .int .i64 wt, .slice (some ⟨gg, 0, none⟩) ts.length c5] 28)) := (HB3.out).alloc (by first | omega | (simp; done) | (simp; omega)) _
  have hal4 : Below W3.heap.size W3 (W3.alloc (.cells #[.int .i64 ck, .int .i64 nx, .int .i64 wt, .slice (some ⟨gg, 0, none⟩) ts.length c5] 28)) := (Below.refl _ _).alloc (by first | omega | (simp; done) | (simp; omega)) _
  have b_bx4 : Blk (W3.alloc (.cells #[.int .i64 ck, .int .i64 nx, .int .i64 wt, .slice (some ⟨gg, 0, none⟩) ts.length c5] 28)) (w.heap.size) 28 #[.int .i64 ck, .int .i64 nx, .int .i64 wt, .slice (some ⟨b, off, none⟩) ts.length m] := (B3_bx.out).alloc _
  have b_bz4 : Blk (W3.alloc (.cells #[.int .i64 ck, .int .i64 nx, .int .i64 wt, .slice (some ⟨gg, 0, none⟩) ts.length c5] 28)) (w.heap.size + 1) 28 #[.int .i64 0, .int .i64 0, .int .i64 0, .slice none 0 0] := (B3_bz.out).alloc _
  have b_bo4 : Blk (W3.alloc (.cells #[.int .i64 ck, .int .i64 nx, .int .i64 wt, .slice (some ⟨gg, 0, none⟩) ts.length c5] 28)) (W3.heap.size) 28 #[.int .i64 ck, .int .i64 nx, .int .i64 wt, .slice (some ⟨gg, 0, none⟩) ts.length c5] := Blk.new_ _ 28 #[.int .i64 ck, .int .i64 nx, .int .i64 wt, .slice (some ⟨gg, 0, none⟩) ts.length c5] (by first | rfl | (simp; done) | (simp; omega))
  have k_c4 := K3_c.out.below hal4
  have k_own4 := (HO.out).alloc (.cells #[.int .i64 ck, .int .i64 nx, .int .i64 wt, .slice (some ⟨gg, 0, none⟩) ts.length c5] 28)
  have hz4 : W3.heap.size + 1 ≤ (W3.alloc (.cells #[.int .i64 ck, .int .i64 nx, .int .i64 wt, .slice (some ⟨gg, 0, none⟩) ts.length c5] 28)).heap.size := by first | omega | (simp; done) | (simp; omega)
  generalize W3.alloc (.cells #[.int .i64 ck, .int .i64 nx, .int .i64 wt, .slice (some ⟨gg, 0, none⟩) ts.length c5] 28) = W4 at *
  have HB4 := Lib.hid hb4
  have B4_bx := Lib.hid b_bx4
  have B4_bz := Lib.hid b_bz4
  have B4_bo := Lib.hid b_bo4
  have K4_c := Lib.hid k_c4
  have K4_own := Lib.hid k_own4
  clear hb4 b_bx4 b_bz4 b_bo4 k_c4 k_own4
  clear B3_bx B3_bz HB3 K3_c HO
  refine (txnOf_any _ ⟨ck, nx, wt, ts⟩ s _ K4_c.out).mono ?_
  rintro e W5 ⟨rfl, hb⟩
  simp only
  rw [HIX.out]
  have hb5 : Below w.heap.size w W5 := below_then HB4.out hb
  have b_bx5 := B4_bx.out.below hb B4_bx.out.lt
  have b_bz5 := B4_bz.out.below hb B4_bz.out.lt
  have b_bo5 := B4_bo.out.below hb B4_bo.out.lt
  have k_c5 := K4_c.out.below hb
  have k_own5 := K4_own.out.keep hb
  have hz5 := hb.size
  have HB5 := Lib.hid hb5
  have B5_bx := Lib.hid b_bx5
  have B5_bz := Lib.hid b_bz5
  have B5_bo := Lib.hid b_bo5
  have K5_c := Lib.hid k_c5
  have K5_own := Lib.hid k_own5
  clear hb5 b_bx5 b_bz5 b_bo5 k_c5 k_own5
  clear B4_bx B4_bz B4_bo HB4 K4_c K4_own
  obtain ⟨hbl, A3, m3, x0, x1, x2, x3, x4, x5, x6, -⟩ := HX.out.rowAt HB5.out i hl
  rw [HST.out] at x3
  have c_bx0 := B5_bx.out.cell 0
  have c_bx1 := B5_bx.out.cell 1
  have c_bx2 := B5_bx.out.cell 2
  have c_bx3 := B5_bx.out.cell 3
  have l_bx := B5_bx.out.lt
  have c_bo0 := B5_bo.out.cell 0
  have c_bo1 := B5_bo.out.cell 1
  have c_bo2 := B5_bo.out.cell 2
  have c_bo3 := B5_bo.out.cell 3
  have l_bo := B5_bo.out.lt
  have hblz := HB5.out.size
  have l_bz5 := B5_bz.out.lt
  obtain ⟨hg3, hg4, A4, m4, ⟨-, -, -, r3, -, -, r6⟩, hrf, -⟩ := K5_own.out.row rfl i hl
  have rf3 := hrf 3 (by decide)
  have rf6 := hrf 6 (by decide)
  clear hrf
  have i0 : (0 : Int) ≤ (i : Int) := by omega
  have i1 : (i : Int) < (ts.length : Int) := Int.ofNat_lt.2 hl
  have c_bz0 := B5_bz.out.cell 0
  have f_bz0 := B5_bz.out.frozen 0
  have c_bz1 := B5_bz.out.cell 1
  have f_bz1 := B5_bz.out.frozen 1
  have c_bz2 := B5_bz.out.cell 2
  have f_bz2 := B5_bz.out.frozen 2
  have c_bz3 := B5_bz.out.cell 3
  have f_bz3 := B5_bz.out.frozen 3
  have l_bz := B5_bz.out.lt
  have KG := Lib.hid K5_own.out
  go_wp2_with fail
  clear c_bx0 c_bx1 c_bx2 c_bx3 l_bx c_bo0 c_bo1 c_bo2 c_bo3 l_bo c_bz0 f_bz0 c_bz1 f_bz1 c_bz2 f_bz2 c_bz3 f_bz3 l_bz
  have hszF := HB5.out.size
  have hbF : Below w.heap.size w (((((W5.setCell ⟨w.heap.size + 1, 0, none⟩ (.int .i64 0)).setCell ⟨w.heap.size + 1, 1, none⟩ (.int .i64 0)).setCell ⟨w.heap.size + 1, 2, none⟩ (.int .i64 0)).setCell ⟨w.heap.size + 1, 3, none⟩ (.slice none 0 0)).alloc (.cells #[.string ts[i].name, .int .i64 ts[i].pid, .int .i64 ts[i].ver, .int .i64 3, .slice A3 ts[i].parts.length m3, .int .i64 ts[i].since, .int .i64 ts[i].done] 76)) := (((((HB5.out).setCell (by show w.heap.size ≤ w.heap.size + 1; omega) _).setCell (by show w.heap.size ≤ w.heap.size + 1; omega) _).setCell (by show w.heap.size ≤ w.heap.size + 1; omega) _).setCell (by show w.heap.size ≤ w.heap.size + 1; omega) _).alloc (by first | omega | (simp; done) | (simp; omega)) _
  have b_bxF : Blk (((((W5.setCell ⟨w.heap.size + 1, 0, none⟩ (.int .i64 0)).setCell ⟨w.heap.size + 1, 1, none⟩ (.int .i64 0)).setCell ⟨w.heap.size + 1, 2, none⟩ (.int .i64 0)).setCell ⟨w.heap.size + 1, 3, none⟩ (.slice none 0 0)).alloc (.cells #[.string ts[i].name, .int .i64 ts[i].pid, .int .i64 ts[i].ver, .int .i64 3, .slice A3 ts[i].parts.length m3, .int .i64 ts[i].since, .int .i64 ts[i].done] 76)) (w.heap.size) 28 #[.int .i64 ck, .int .i64 nx, .int .i64 wt, .slice (some ⟨b, off, none⟩) ts.length m] := (((((B5_bx.out).far (p := ⟨w.heap.size + 1, 0, none⟩) (by show w.heap.size ≠ w.heap.size + 1; omega) _).far (p := ⟨w.heap.size + 1, 1, none⟩) (by show w.heap.size ≠ w.heap.size + 1; omega) _).far (p := ⟨w.heap.size + 1, 2, none⟩) (by show w.heap.size ≠ w.heap.size + 1; omega) _).far (p := ⟨w.heap.size + 1, 3, none⟩) (by show w.heap.size ≠ w.heap.size + 1; omega) _).alloc _
  have b_bzF : Blk (((((W5.setCell ⟨w.heap.size + 1, 0, none⟩ (.int .i64 0)).setCell ⟨w.heap.size + 1, 1, none⟩ (.int .i64 0)).setCell ⟨w.heap.size + 1, 2, none⟩ (.int .i64 0)).setCell ⟨w.heap.size + 1, 3, none⟩ (.slice none 0 0)).alloc (.cells #[.string ts[i].name, .int .i64 ts[i].pid, .int .i64 ts[i].ver, .int .i64 3, .slice A3 ts[i].parts.length m3, .int .i64 ts[i].since, .int .i64 ts[i].done] 76)) (w.heap.size + 1) 28 #[.int .i64 0, .int .i64 0, .int .i64 0, .slice none 0 0] := (((((B5_bz.out).set_ 0 _).set_ 1 _).set_ 2 _).set_ 3 _).alloc _
  have b_boF : Blk (((((W5.setCell ⟨w.heap.size + 1, 0, none⟩ (.int .i64 0)).setCell ⟨w.heap.size + 1, 1, none⟩ (.int .i64 0)).setCell ⟨w.heap.size + 1, 2, none⟩ (.int .i64 0)).setCell ⟨w.heap.size + 1, 3, none⟩ (.slice none 0 0)).alloc (.cells #[.string ts[i].name, .int .i64 ts[i].pid, .int .i64 ts[i].ver, .int .i64 3, .slice A3 ts[i].parts.length m3, .int .i64 ts[i].since, .int .i64 ts[i].done] 76)) (W3.heap.size) 28 #[.int .i64 ck, .int .i64 nx, .int .i64 wt, .slice (some ⟨gg, 0, none⟩) ts.length c5] := (((((B5_bo.out).far (p := ⟨w.heap.size + 1, 0, none⟩) (by show W3.heap.size ≠ w.heap.size + 1; omega) _).far (p := ⟨w.heap.size + 1, 1, none⟩) (by show W3.heap.size ≠ w.heap.size + 1; omega) _).far (p := ⟨w.heap.size + 1, 2, none⟩) (by show W3.heap.size ≠ w.heap.size + 1; omega) _).far (p := ⟨w.heap.size + 1, 3, none⟩) (by show W3.heap.size ≠ w.heap.size + 1; omega) _).alloc _
  have b_btF : Blk (((((W5.setCell ⟨w.heap.size + 1, 0, none⟩ (.int .i64 0)).setCell ⟨w.heap.size + 1, 1, none⟩ (.int .i64 0)).setCell ⟨w.heap.size + 1, 2, none⟩ (.int .i64 0)).setCell ⟨w.heap.size + 1, 3, none⟩ (.slice none 0 0)).alloc (.cells #[.string ts[i].name, .int .i64 ts[i].pid, .int .i64 ts[i].ver, .int .i64 3, .slice A3 ts[i].parts.length m3, .int .i64 ts[i].since, .int .i64 ts[i].done] 76)) (W5.heap.size) 76 #[.string ts[i].name, .int .i64 ts[i].pid, .int .i64 ts[i].ver, .int .i64 3, .slice A3 ts[i].parts.length m3, .int .i64 ts[i].since, .int .i64 ts[i].done] := Blk.new_ _ 76 #[.string ts[i].name, .int .i64 ts[i].pid, .int .i64 ts[i].ver, .int .i64 3, .slice A3 ts[i].parts.length m3, .int .i64 ts[i].since, .int .i64 ts[i].done] (by first | rfl | (simp; done) | (simp; omega))
  have y0 := b_bzF.cell 0
  have y1 := b_bzF.cell 1
  have y2 := b_bzF.cell 2
  have y3 := b_bzF.cell 3
  exact bodyPost_ret (v := .tuple #[.agg #[.int .i64 0, .int .i64 0, .int .i64 0, .slice none 0 0], .int .i64 12]) (by simp [results, Try.results48, go_sem, y0, y1, y2, y3]) rfl (CRes.zero hbF)
end Go.Proofs.Ytjkoceacjbhblaa
