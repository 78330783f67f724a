/- tailraceref.CrashOf. -/
import Derived.Test.YtpjjfnpdopdnkaaPartU
import Derived.Test.YtpjjfnpdopdnkaaPartV
import Derived.Deep.RegionHeld3
import Derived.Deep.DrawnRows
import Derived.Test.YtpjjfnpdopdnkaaPmCrash
namespace Go.Proofs.Ytpjjfnpdopdnkaa
open Go.RowKit
attribute [local go_sem ↓] Go.wp_at_zero Go.wp_at_succ

set_option maxRecDepth 100000 in
set_option maxHeartbeats 4000000 in
theorem pcrashOf_bad (v : Value) (c : PartD) (r n : Int) (keep : Int) (hf : AtFault c r n) (w : World) (h : Pv w v c) : Calls Try.prog 55 #[v, .int .i64 r, .int .i64 keep] w (RefusesP n w) := by
  obtain ⟨xi, xk, xr, rfl, ix, kx, rx, hli, hlk, hlr⟩ := id h
  obtain ⟨A5, c5, rfl, hc5, -⟩ := rx.at_
  obtain ⟨A1, c1, rfl, hc1, -⟩ := ix.at_
  obtain ⟨A3, c3, rfl, hc3, -⟩ := kx.at_
  have H := Lib.hid h
  clear h ix kx rx
  unfold partV at *
  obtain ⟨ep, ld, is, ks, rs, fw, ba⟩ := c
  simp only at *
  have hn0 := hf.ne
  have n1 : (n == 0) = false := beq_eq_false_iff_ne.2 hn0
  have n2 : (n != 0) = true := by simpa using hn0
  have HF := Lib.hid hf
  clear hf hn0
  go_enter Try.func55, Try.ntmps55
  go_wp2_with fail
  have hb1 : Below w.heap.size w ((w.alloc (.cells #[.int .i64 ep, .int .i64 ld, .slice A1 is.length c1, .slice A3 ks.length c3, .slice A5 rs.length c5, .int .i64 fw, .int .i64 ba] 26)).alloc (.cells #[.int .i64 0, .int .i64 0, .slice none 0 0, .slice none 0 0, .slice none 0 0, .int .i64 0, .int .i64 0] 26)) := ((Below.refl _ _).alloc (by first | omega | (simp; done) | (simp; omega)) _).alloc (by first | omega | (simp; done) | (simp; omega)) _
  have hal1 : Below w.heap.size w ((w.alloc (.cells #[.int .i64 ep, .int .i64 ld, .slice A1 is.length c1, .slice A3 ks.length c3, .slice A5 rs.length c5, .int .i64 fw, .int .i64 ba] 26)).alloc (.cells #[.int .i64 0, .int .i64 0, .slice none 0 0, .slice none 0 0, .slice none 0 0, .int .i64 0, .int .i64 0] 26)) := ((Below.refl _ _).alloc (by first | omega | (simp; done) | (simp; omega)) _).alloc (by first | omega | (simp; done) | (simp; omega)) _
  have b_bx1 : Blk ((w.alloc (.cells #[.int .i64 ep, .int .i64 ld, .slice A1 is.length c1, .slice A3 ks.length c3, .slice A5 rs.length c5, .int .i64 fw, .int .i64 ba] 26)).alloc (.cells #[.int .i64 0, .int .i64 0, .slice none 0 0, .slice none 0 0, .slice none 0 0, .int .i64 0, .int .i64 0] 26)) (w.heap.size) 26 #[.int .i64 ep, .int .i64 ld, .slice A1 is.length c1, .slice A3 ks.length c3, .slice A5 rs.length c5, .int .i64 fw, .int .i64 ba] := (Blk.new_ _ 26 #[.int .i64 ep, .int .i64 ld, .slice A1 is.length c1, .slice A3 ks.length c3, .slice A5 rs.length c5, .int .i64 fw, .int .i64 ba] (by first | rfl | (simp; done) | (simp; omega))).alloc _
  have b_bz1 : Blk ((w.alloc (.cells #[.int .i64 ep, .int .i64 ld, .slice A1 is.length c1, .slice A3 ks.length c3, .slice A5 rs.length c5, .int .i64 fw, .int .i64 ba] 26)).alloc (.cells #[.int .i64 0, .int .i64 0, .slice none 0 0, .slice none 0 0, .slice none 0 0, .int .i64 0, .int .i64 0] 26)) (w.heap.size + 1) 26 #[.int .i64 0, .int .i64 0, .slice none 0 0, .slice none 0 0, .slice none 0 0, .int .i64 0, .int .i64 0] := Blk.new_ _ 26 #[.int .i64 0, .int .i64 0, .slice none 0 0, .slice none 0 0, .slice none 0 0, .int .i64 0, .int .i64 0] (by first | rfl | (simp; done) | (simp; omega))
  have k_v1 := H.out.below hal1
  have hz1 : w.heap.size + 2 ≤ ((w.alloc (.cells #[.int .i64 ep, .int .i64 ld, .slice A1 is.length c1, .slice A3 ks.length c3, .slice A5 rs.length c5, .int .i64 fw, .int .i64 ba] 26)).alloc (.cells #[.int .i64 0, .int .i64 0, .slice none 0 0, .slice none 0 0, .slice none 0 0, .int .i64 0, .int .i64 0] 26)).heap.size := by first | omega | (simp; done) | (simp; omega)
  generalize (w.alloc (.cells #[.int .i64 ep, .int .i64 ld, .slice A1 is.length c1, .slice A3 ks.length c3, .slice A5 rs.length c5, .int .i64 fw, .int .i64 ba] 26)).alloc (.cells #[.int .i64 0, .int .i64 0, .slice none 0 0, .slice none 0 0, .slice none 0 0, .int .i64 0, .int .i64 0] 26) = W1 at *
  have HB1 := Lib.hid hb1
  have B1_bx := Lib.hid b_bx1
  have B1_bz := Lib.hid b_bz1
  have K1_v := Lib.hid k_v1
  clear hb1 b_bx1 b_bz1 k_v1
  clear H
  refine (partFault_bad K1_v.out HF.out).mono ?_
  rintro e W2 ⟨rfl, hb⟩
  have hb2 : Below w.heap.size w W2 := below_then HB1.out hb
  have b_bx2 := B1_bx.out.below hb B1_bx.out.lt
  have b_bz2 := B1_bz.out.below hb B1_bz.out.lt
  have k_v2 := K1_v.out.below hb
  have hz2 := hb.size
  have HB2 := Lib.hid hb2
  have B2_bx := Lib.hid b_bx2
  have B2_bz := Lib.hid b_bz2
  have K2_v := Lib.hid k_v2
  clear hb2 b_bx2 b_bz2 k_v2
  clear B1_bx B1_bz HB1 K1_v
  have c_bx0 := B2_bx.out.cell 0
  have c_bx1 := B2_bx.out.cell 1
  have c_bx2 := B2_bx.out.cell 2
  have c_bx3 := B2_bx.out.cell 3
  have c_bx4 := B2_bx.out.cell 4
  have c_bx5 := B2_bx.out.cell 5
  have c_bx6 := B2_bx.out.cell 6
  have l_bx := B2_bx.out.lt
  have c_bz0 := B2_bz.out.cell 0
  have f_bz0 := B2_bz.out.frozen 0
  have c_bz1 := B2_bz.out.cell 1
  have f_bz1 := B2_bz.out.frozen 1
  have c_bz2 := B2_bz.out.cell 2
  have f_bz2 := B2_bz.out.frozen 2
  have c_bz3 := B2_bz.out.cell 3
  have f_bz3 := B2_bz.out.frozen 3
  have c_bz4 := B2_bz.out.cell 4
  have f_bz4 := B2_bz.out.frozen 4
  have c_bz5 := B2_bz.out.cell 5
  have f_bz5 := B2_bz.out.frozen 5
  have c_bz6 := B2_bz.out.cell 6
  have f_bz6 := B2_bz.out.frozen 6
  have l_bz := B2_bz.out.lt
  go_wp2_with fail
  clear c_bx0 c_bx1 c_bx2 c_bx3 c_bx4 c_bx5 c_bx6 l_bx c_bz0 f_bz0 c_bz1 f_bz1 c_bz2 f_bz2 c_bz3 f_bz3 c_bz4 f_bz4 c_bz5 f_bz5 c_bz6 f_bz6 l_bz
  have hszF := HB2.out.size
  have hbF : Below w.heap.size w (((((((W2.setCell ⟨w.heap.size + 1, 0, none⟩ (.int .i64 0)).setCell ⟨w.heap.size + 1, 1, none⟩ (.int .i64 0)).setCell ⟨w.heap.size + 1, 2, none⟩ (.slice none 0 0)).setCell ⟨w.heap.size + 1, 3, none⟩ (.slice none 0 0)).setCell ⟨w.heap.size + 1, 4, none⟩ (.slice none 0 0)).setCell ⟨w.heap.size + 1, 5, none⟩ (.int .i64 0)).setCell ⟨w.heap.size + 1, 6, none⟩ (.int .i64 0)) := (((((((HB2.out).setCell (by show w.heap.size ≤ w.heap.size + 1; omega) _).setCell (by show w.heap.size ≤ w.heap.size + 1; omega) _).setCell (by show w.heap.size ≤ w.heap.size + 1; omega) _).setCell (by show w.heap.size ≤ w.heap.size + 1; omega) _).setCell (by show w.heap.size ≤ w.heap.size + 1; omega) _).setCell (by show w.heap.size ≤ w.heap.size + 1; omega) _).setCell (by show w.heap.size ≤ w.heap.size + 1; omega) _
  have b_bxF : Blk (((((((W2.setCell ⟨w.heap.size + 1, 0, none⟩ (.int .i64 0)).setCell ⟨w.heap.size + 1, 1, none⟩ (.int .i64 0)).setCell ⟨w.heap.size + 1, 2, none⟩ (.slice none 0 0)).setCell ⟨w.heap.size + 1, 3, none⟩ (.slice none 0 0)).setCell ⟨w.heap.size + 1, 4, none⟩ (.slice none 0 0)).setCell ⟨w.heap.size + 1, 5, none⟩ (.int .i64 0)).setCell ⟨w.heap.size + 1, 6, none⟩ (.int .i64 0)) (w.heap.size) 26 #[.int .i64 ep, .int .i64 ld, .slice A1 is.length c1, .slice A3 ks.length c3, .slice A5 rs.length c5, .int .i64 fw, .int .i64 ba] := (((((((B2_bx.out).far (p := ⟨w.heap.size + 1, 0, none⟩) (by show w.heap.size ≠ w.heap.size + 1; omega) _).far (p := ⟨w.heap.size + 1, 1, none⟩) (by show w.heap.size ≠ w.heap.size + 1; omega) _).far (p := ⟨w.heap.size + 1, 2, none⟩) (by show w.heap.size ≠ w.heap.size + 1; omega) _).far (p := ⟨w.heap.size + 1, 3, none⟩) (by show w.heap.size ≠ w.heap.size + 1; omega) _).far (p := ⟨w.heap.size + 1, 4, none⟩) (by show w.heap.size ≠ w.heap.size + 1; omega) _).far (p := ⟨w.heap.size + 1, 5, none⟩) (by show w.heap.size ≠ w.heap.size + 1; omega) _).far (p := ⟨w.heap.size + 1, 6, none⟩) (by show w.heap.size ≠ w.heap.size + 1; omega) _
  have b_bzF : Blk (((((((W2.setCell ⟨w.heap.size + 1, 0, none⟩ (.int .i64 0)).setCell ⟨w.heap.size + 1, 1, none⟩ (.int .i64 0)).setCell ⟨w.heap.size + 1, 2, none⟩ (.slice none 0 0)).setCell ⟨w.heap.size + 1, 3, none⟩ (.slice none 0 0)).setCell ⟨w.heap.size + 1, 4, none⟩ (.slice none 0 0)).setCell ⟨w.heap.size + 1, 5, none⟩ (.int .i64 0)).setCell ⟨w.heap.size + 1, 6, none⟩ (.int .i64 0)) (w.heap.size + 1) 26 #[.int .i64 0, .int .i64 0, .slice none 0 0, .slice none 0 0, .slice none 0 0, .int .i64 0, .int .i64 0] := (((((((B2_bz.out).set_ 0 _).set_ 1 _).set_ 2 _).set_ 3 _).set_ 4 _).set_ 5 _).set_ 6 _
  have y0 := b_bzF.cell 0
  have y1 := b_bzF.cell 1
  have y2 := b_bzF.cell 2
  have y3 := b_bzF.cell 3
  have y4 := b_bzF.cell 4
  have y5 := b_bzF.cell 5
  have y6 := b_bzF.cell 6
  exact bodyPost_ret (v := .tuple #[.agg #[.int .i64 0, .int .i64 0, .slice none 0 0, .slice none 0 0, .slice none 0 0, .int .i64 0, .int .i64 0], .int .i64 n]) (by simp [results, Try.results55, go_sem, y0, y1, y2, y3, y4, y5, y6]) rfl (⟨rfl, hbF⟩)
set_option maxRecDepth 100000 in
set_option maxHeartbeats 4000000 in
theorem pcrashOf_down (v : Value) (c : PartD) (i : Nat) (keep : Int) (hn : PartOk c) (hi : i < c.reps.length) (hu : c.reps[i].up = false) (w : World) (h : Pv w v c) : Calls Try.prog 55 #[v, .int .i64 i, .int .i64 keep] w (RefusesP 7 w) := by
  have eqk := hn.known
  have eqi := hn.isr
  obtain ⟨xi, xk, xr, rfl, ix, kx, rx, hli, hlk, hlr⟩ := id h
  obtain ⟨A5, c5, rfl, hc5, hx5⟩ := rx.at_
  obtain ⟨A1, c1, rfl, hc1, hx1⟩ := ix.at_
  obtain ⟨A3, c3, rfl, hc3, hx3⟩ := kx.at_
  have H := Lib.hid h
  clear h ix kx rx
  unfold partV at *
  obtain ⟨ep, ld, is, ks, rs, fw, ba⟩ := c
  simp only at *
  have HN := Lib.hid hn
  have HSM := Lib.hid hn.small
  clear hn
  (try simp only at eqk eqi)
  have E1 := Lib.hid eqi
  have E2 := Lib.hid eqk
  have i0 : (0 : Int) ≤ (i : Int) := by omega
  have i1 : (i : Int) < (rs.length : Int) := Int.ofNat_lt.2 hi
  have i2 : (i : Int) < (is.length : Int) := by omega
  have i3 : (i : Int) < (ks.length : Int) := by omega
  have j2 : i < is.length := by omega
  have j3 : i < ks.length := by omega
  clear eqk eqi
  obtain ⟨b5, o5, rfl, hb5, hcell5⟩ := hx5 (Nat.lt_of_le_of_lt (Nat.zero_le _) hi)
  obtain ⟨pv, x0, x1, x2, x3, xb, xl⟩ := hcell5 i hi
  obtain ⟨b1, o1, rfl, hb1, hcell1⟩ := hx1 (by omega)
  have y0 := hcell1 i (by omega)
  obtain ⟨b3, o3, rfl, hb3, hcell3⟩ := hx3 (by omega)
  have u0 := hcell3 i (by omega)
  have XC := Lib.hid (And.intro x0 (And.intro x3 (And.intro y0 u0)))
  clear hcell5 hcell1 hcell3 x0 x1 x2 x3 xb xl y0 u0 hx1 hx3 hx5
  have hup : rs[i].up = false := hu
  have HU := Lib.hid hup
  clear hu hup
  go_enter Try.func55, Try.ntmps55
  go_wp2_with fail
  have hb1 : Below w.heap.size w ((w.alloc (.cells #[.int .i64 ep, .int .i64 ld, .slice (some ⟨b1, o1, none⟩) is.length c1, .slice (some ⟨b3, o3, none⟩) ks.length c3, .slice (some ⟨b5, o5, none⟩) rs.length c5, .int .i64 fw, .int .i64 ba] 26)).alloc (.cells #[.int .i64 0, .int .i64 0, .slice none 0 0, .slice none 0 0, .slice none 0 0, .int .i64 0, .int .i64 0] 26)) := ((Below.refl _ _).alloc (by first | omega | (simp; done) | (simp; omega)) _).alloc (by first | omega | (simp; done) | (simp; omega)) _
  have hal1 : Below w.heap.size w ((w.alloc (.cells #[.int .i64 ep, .int .i64 ld, .slice (some ⟨b1, o1, none⟩) is.length c1, .slice (some ⟨b3, o3, none⟩) ks.length c3, .slice (some ⟨b5, o5, none⟩) rs.length c5, .int .i64 fw, .int .i64 ba] 26)).alloc (.cells #[.int .i64 0, .int .i64 0, .slice none 0 0, .slice none 0 0, .slice none 0 0, .int .i64 0, .int .i64 0] 26)) := ((Below.refl _ _).alloc (by first | omega | (simp; done) | (simp; omega)) _).alloc (by first | omega | (simp; done) | (simp; omega)) _
  have b_bx1 : Blk ((w.alloc (.cells #[.int .i64 ep, .int .i64 ld, .slice (some ⟨b1, o1, none⟩) is.length c1, .slice (some ⟨b3, o3, none⟩) ks.length c3, .slice (some ⟨b5, o5, none⟩) rs.length c5, .int .i64 fw, .int .i64 ba] 26)).alloc (.cells #[.int .i64 0, .int .i64 0, .slice none 0 0, .slice none 0 0, .slice none 0 0, .int .i64 0, .int .i64 0] 26)) (w.heap.size) 26 #[.int .i64 ep, .int .i64 ld, .slice (some ⟨b1, o1, none⟩) is.length c1, .slice (some ⟨b3, o3, none⟩) ks.length c3, .slice (some ⟨b5, o5, none⟩) rs.length c5, .int .i64 fw, .int .i64 ba] := (Blk.new_ _ 26 #[.int .i64 ep, .int .i64 ld, .slice (some ⟨b1, o1, none⟩) is.length c1, .slice (some ⟨b3, o3, none⟩) ks.length c3, .slice (some ⟨b5, o5, none⟩) rs.length c5, .int .i64 fw, .int .i64 ba] (by first | rfl | (simp; done) | (simp; omega))).alloc _
  have b_bz1 : Blk ((w.alloc (.cells #[.int .i64 ep, .int .i64 ld, .slice (some ⟨b1, o1, none⟩) is.length c1, .slice (some ⟨b3, o3, none⟩) ks.length c3, .slice (some ⟨b5, o5, none⟩) rs.length c5, .int .i64 fw, .int .i64 ba] 26)).alloc (.cells #[.int .i64 0, .int .i64 0, .slice none 0 0, .slice none 0 0, .slice none 0 0, .int .i64 0, .int .i64 0] 26)) (w.heap.size + 1) 26 #[.int .i64 0, .int .i64 0, .slice none 0 0, .slice none 0 0, .slice none 0 0, .int .i64 0, .int .i64 0] := Blk.new_ _ 26 #[.int .i64 0, .int .i64 0, .slice none 0 0, .slice none 0 0, .slice none 0 0, .int .i64 0, .int .i64 0] (by first | rfl | (simp; done) | (simp; omega))
  have k_v1 := H.out.below hal1
  have hz1 : w.heap.size + 2 ≤ ((w.alloc (.cells #[.int .i64 ep, .int .i64 ld, .slice (some ⟨b1, o1, none⟩) is.length c1, .slice (some ⟨b3, o3, none⟩) ks.length c3, .slice (some ⟨b5, o5, none⟩) rs.length c5, .int .i64 fw, .int .i64 ba] 26)).alloc (.cells #[.int .i64 0, .int .i64 0, .slice none 0 0, .slice none 0 0, .slice none 0 0, .int .i64 0, .int .i64 0] 26)).heap.size := by first | omega | (simp; done) | (simp; omega)
  generalize (w.alloc (.cells #[.int .i64 ep, .int .i64 ld, .slice (some ⟨b1, o1, none⟩) is.length c1, .slice (some ⟨b3, o3, none⟩) ks.length c3, .slice (some ⟨b5, o5, none⟩) rs.length c5, .int .i64 fw, .int .i64 ba] 26)).alloc (.cells #[.int .i64 0, .int .i64 0, .slice none 0 0, .slice none 0 0, .slice none 0 0, .int .i64 0, .int .i64 0] 26) = W1 at *
  have HB1 := Lib.hid hb1
  have B1_bx := Lib.hid b_bx1
  have B1_bz := Lib.hid b_bz1
  have K1_v := Lib.hid k_v1
  clear hb1 b_bx1 b_bz1 k_v1
  clear H
  refine (partFault_ok _ ⟨ep, ld, is, ks, rs, fw, ba⟩ i HN.out hi _ K1_v.out).mono ?_
  rintro e W2 ⟨rfl, hb⟩
  have hb2 : Below w.heap.size w W2 := below_then HB1.out hb
  have b_bx2 := B1_bx.out.below hb B1_bx.out.lt
  have b_bz2 := B1_bz.out.below hb B1_bz.out.lt
  have k_v2 := K1_v.out.below hb
  have hz2 := hb.size
  have HB2 := Lib.hid hb2
  have B2_bx := Lib.hid b_bx2
  have B2_bz := Lib.hid b_bz2
  have K2_v := Lib.hid k_v2
  clear hb2 b_bx2 b_bz2 k_v2
  clear B1_bx B1_bz HB1 K1_v
  have c_bx0 := B2_bx.out.cell 0
  have c_bx1 := B2_bx.out.cell 1
  have c_bx2 := B2_bx.out.cell 2
  have c_bx3 := B2_bx.out.cell 3
  have c_bx4 := B2_bx.out.cell 4
  have c_bx5 := B2_bx.out.cell 5
  have c_bx6 := B2_bx.out.cell 6
  have l_bx := B2_bx.out.lt
  have v0 := (HB2.out.cell (p := ⟨b5, o5 + i * 4, none⟩) hb5).trans XC.out.1
  have v3 := (HB2.out.cell (p := ⟨b5, o5 + i * 4 + 3, none⟩) hb5).trans XC.out.2.1
  have v1 := (HB2.out.cell (p := ⟨b1, o1 + i, none⟩) hb1).trans XC.out.2.2.1
  have v2 := (HB2.out.cell (p := ⟨b3, o3 + i, none⟩) hb3).trans XC.out.2.2.2
  have vl5 := Nat.lt_of_lt_of_le hb5 HB2.out.size
  have vl1 := Nat.lt_of_lt_of_le hb1 HB2.out.size
  have vl3 := Nat.lt_of_lt_of_le hb3 HB2.out.size
  rw [HU.out] at v0
  have c_bz0 := B2_bz.out.cell 0
  have f_bz0 := B2_bz.out.frozen 0
  have c_bz1 := B2_bz.out.cell 1
  have f_bz1 := B2_bz.out.frozen 1
  have c_bz2 := B2_bz.out.cell 2
  have f_bz2 := B2_bz.out.frozen 2
  have c_bz3 := B2_bz.out.cell 3
  have f_bz3 := B2_bz.out.frozen 3
  have c_bz4 := B2_bz.out.cell 4
  have f_bz4 := B2_bz.out.frozen 4
  have c_bz5 := B2_bz.out.cell 5
  have f_bz5 := B2_bz.out.frozen 5
  have c_bz6 := B2_bz.out.cell 6
  have f_bz6 := B2_bz.out.frozen 6
  have l_bz := B2_bz.out.lt
  go_wp2_with fail
  clear c_bx0 c_bx1 c_bx2 c_bx3 c_bx4 c_bx5 c_bx6 l_bx v0 v3 v1 v2 vl5 vl1 vl3 c_bz0 f_bz0 c_bz1 f_bz1 c_bz2 f_bz2 c_bz3 f_bz3 c_bz4 f_bz4 c_bz5 f_bz5 c_bz6 f_bz6 l_bz
  have hszF := HB2.out.size
  have hbF : Below w.heap.size w (((((((W2.setCell ⟨w.heap.size + 1, 0, none⟩ (.int .i64 0)).setCell ⟨w.heap.size + 1, 1, none⟩ (.int .i64 0)).setCell ⟨w.heap.size + 1, 2, none⟩ (.slice none 0 0)).setCell ⟨w.heap.size + 1, 3, none⟩ (.slice none 0 0)).setCell ⟨w.heap.size + 1, 4, none⟩ (.slice none 0 0)).setCell ⟨w.heap.size + 1, 5, none⟩ (.int .i64 0)).setCell ⟨w.heap.size + 1, 6, none⟩ (.int .i64 0)) := (((((((HB2.out).setCell (by show w.heap.size ≤ w.heap.size + 1; omega) _).setCell (by show w.heap.size ≤ w.heap.size + 1; omega) _).setCell (by show w.heap.size ≤ w.heap.size + 1; omega) _).setCell (by show w.heap.size ≤ w.heap.size + 1; omega) _).setCell (by show w.heap.size ≤ w.heap.size + 1; omega) _).setCell (by show w.heap.size ≤ w.heap.size + 1; omega) _).setCell (by show w.heap.size ≤ w.heap.size + 1; omega) _
  have b_bxF : Blk (((((((W2.setCell ⟨w.heap.size + 1, 0, none⟩ (.int .i64 0)).setCell ⟨w.heap.size + 1, 1, none⟩ (.int .i64 0)).setCell ⟨w.heap.size + 1, 2, none⟩ (.slice none 0 0)).setCell ⟨w.heap.size + 1, 3, none⟩ (.slice none 0 0)).setCell ⟨w.heap.size + 1, 4, none⟩ (.slice none 0 0)).setCell ⟨w.heap.size + 1, 5, none⟩ (.int .i64 0)).setCell ⟨w.heap.size + 1, 6, none⟩ (.int .i64 0)) (w.heap.size) 26 #[.int .i64 ep, .int .i64 ld, .slice (some ⟨b1, o1, none⟩) is.length c1, .slice (some ⟨b3, o3, none⟩) ks.length c3, .slice (some ⟨b5, o5, none⟩) rs.length c5, .int .i64 fw, .int .i64 ba] := (((((((B2_bx.out).far (p := ⟨w.heap.size + 1, 0, none⟩) (by show w.heap.size ≠ w.heap.size + 1; omega) _).far (p := ⟨w.heap.size + 1, 1, none⟩) (by show w.heap.size ≠ w.heap.size + 1; omega) _).far (p := ⟨w.heap.size + 1, 2, none⟩) (by show w.heap.size ≠ w.heap.size + 1; omega) _).far (p := ⟨w.heap.size + 1, 3, none⟩) (by show w.heap.size ≠ w.heap.size + 1; omega) _).far (p := ⟨w.heap.size + 1, 4, none⟩) (by show w.heap.size ≠ w.heap.size + 1; omega) _).far (p := ⟨w.heap.size + 1, 5, none⟩) (by show w.heap.size ≠ w.heap.size + 1; omega) _).far (p := ⟨w.heap.size + 1, 6, none⟩) (by show w.heap.size ≠ w.heap.size + 1; omega) _
  have b_bzF : Blk (((((((W2.setCell ⟨w.heap.size + 1, 0, none⟩ (.int .i64 0)).setCell ⟨w.heap.size + 1, 1, none⟩ (.int .i64 0)).setCell ⟨w.heap.size + 1, 2, none⟩ (.slice none 0 0)).setCell ⟨w.heap.size + 1, 3, none⟩ (.slice none 0 0)).setCell ⟨w.heap.size + 1, 4, none⟩ (.slice none 0 0)).setCell ⟨w.heap.size + 1, 5, none⟩ (.int .i64 0)).setCell ⟨w.heap.size + 1, 6, none⟩ (.int .i64 0)) (w.heap.size + 1) 26 #[.int .i64 0, .int .i64 0, .slice none 0 0, .slice none 0 0, .slice none 0 0, .int .i64 0, .int .i64 0] := (((((((B2_bz.out).set_ 0 _).set_ 1 _).set_ 2 _).set_ 3 _).set_ 4 _).set_ 5 _).set_ 6 _
  have y0 := b_bzF.cell 0
  have y1 := b_bzF.cell 1
  have y2 := b_bzF.cell 2
  have y3 := b_bzF.cell 3
  have y4 := b_bzF.cell 4
  have y5 := b_bzF.cell 5
  have y6 := b_bzF.cell 6
  exact bodyPost_ret (v := .tuple #[.agg #[.int .i64 0, .int .i64 0, .slice none 0 0, .slice none 0 0, .slice none 0 0, .int .i64 0, .int .i64 0], .int .i64 7]) (by simp [results, Try.results55, go_sem, y0, y1, y2, y3, y4, y5, y6]) rfl (⟨rfl, hbF⟩)
set_option maxRecDepth 100000 in
set_option maxHeartbeats 4000000 in
theorem pcrashOf_range (v : Value) (c : PartD) (i : Nat) (keep : Int) (hn : PartOk c) (hi : i < c.reps.length) (hu : c.reps[i].up = true) (hk : keep < 0) (w : World) (h : Pv w v c) : Calls Try.prog 55 #[v, .int .i64 i, .int .i64 keep] w (RefusesP 2 w) := by
  have eqk := hn.known
  have eqi := hn.isr
  obtain ⟨xi, xk, xr, rfl, ix, kx, rx, hli, hlk, hlr⟩ := id h
  obtain ⟨A5, c5, rfl, hc5, hx5⟩ := rx.at_
  obtain ⟨A1, c1, rfl, hc1, hx1⟩ := ix.at_
  obtain ⟨A3, c3, rfl, hc3, hx3⟩ := kx.at_
  have H := Lib.hid h
  clear h ix kx rx
  unfold partV at *
  obtain ⟨ep, ld, is, ks, rs, fw, ba⟩ := c
  simp only at *
  have HN := Lib.hid hn
  have HSM := Lib.hid hn.small
  clear hn
  (try simp only at eqk eqi)
  have E1 := Lib.hid eqi
  have E2 := Lib.hid eqk
  have i0 : (0 : Int) ≤ (i : Int) := by omega
  have i1 : (i : Int) < (rs.length : Int) := Int.ofNat_lt.2 hi
  have i2 : (i : Int) < (is.length : Int) := by omega
  have i3 : (i : Int) < (ks.length : Int) := by omega
  have j2 : i < is.length := by omega
  have j3 : i < ks.length := by omega
  clear eqk eqi
  obtain ⟨b5, o5, rfl, hb5, hcell5⟩ := hx5 (Nat.lt_of_le_of_lt (Nat.zero_le _) hi)
  obtain ⟨pv, x0, x1, x2, x3, xb, xl⟩ := hcell5 i hi
  obtain ⟨b1, o1, rfl, hb1, hcell1⟩ := hx1 (by omega)
  have y0 := hcell1 i (by omega)
  obtain ⟨b3, o3, rfl, hb3, hcell3⟩ := hx3 (by omega)
  have u0 := hcell3 i (by omega)
  obtain ⟨A6, c6, rfl, -, -⟩ := xb.at_
  have XB := Lib.hid (And.intro x1 (And.intro x2 xb))
  have XC := Lib.hid (And.intro x0 (And.intro x3 (And.intro y0 u0)))
  clear hcell5 hcell1 hcell3 x0 x1 x2 x3 xb xl y0 u0 hx1 hx3 hx5
  have hup : rs[i].up = true := hu
  have HU := Lib.hid hup
  clear hu hup
  obtain ⟨es, j, hlog⟩ := HN.out.log i hi
  have HLG := Lib.hid hlog
  clear hlog
  go_enter Try.func55, Try.ntmps55
  go_wp2_with fail
  have hb1 : Below w.heap.size w ((w.alloc (.cells #[.int .i64 ep, .int .i64 ld, .slice (some ⟨b1, o1, none⟩) is.length c1, .slice (some ⟨b3, o3, none⟩) ks.length c3, .slice (some ⟨b5, o5, none⟩) rs.length c5, .int .i64 fw, .int .i64 ba] 26)).alloc (.cells #[.int .i64 0, .int .i64 0, .slice none 0 0, .slice none 0 0, .slice none 0 0, .int .i64 0, .int .i64 0] 26)) := ((Below.refl _ _).alloc (by first | omega | (simp; done) | (simp; omega)) _).alloc (by first | omega | (simp; done) | (simp; omega)) _
  have hal1 : Below w.heap.size w ((w.alloc (.cells #[.int .i64 ep, .int .i64 ld, .slice (some ⟨b1, o1, none⟩) is.length c1, .slice (some ⟨b3, o3, none⟩) ks.length c3, .slice (some ⟨b5, o5, none⟩) rs.length c5, .int .i64 fw, .int .i64 ba] 26)).alloc (.cells #[.int .i64 0, .int .i64 0, .slice none 0 0, .slice none 0 0, .slice none 0 0, .int .i64 0, .int .i64 0] 26)) := ((Below.refl _ _).alloc (by first | omega | (simp; done) | (simp; omega)) _).alloc (by first | omega | (simp; done) | (simp; omega)) _
  have b_bx1 : Blk ((w.alloc (.cells #[.int .i64 ep, .int .i64 ld, .slice (some ⟨b1, o1, none⟩) is.length c1, .slice (some ⟨b3, o3, none⟩) ks.length c3, .slice (some ⟨b5, o5, none⟩) rs.length c5, .int .i64 fw, .int .i64 ba] 26)).alloc (.cells #[.int .i64 0, .int .i64 0, .slice none 0 0, .slice none 0 0, .slice none 0 0, .int .i64 0, .int .i64 0] 26)) (w.heap.size) 26 #[.int .i64 ep, .int .i64 ld, .slice (some ⟨b1, o1, none⟩) is.length c1, .slice (some ⟨b3, o3, none⟩) ks.length c3, .slice (some ⟨b5, o5, none⟩) rs.length c5, .int .i64 fw, .int .i64 ba] := (Blk.new_ _ 26 #[.int .i64 ep, .int .i64 ld, .slice (some ⟨b1, o1, none⟩) is.length c1, .slice (some ⟨b3, o3, none⟩) ks.length c3, .slice (some ⟨b5, o5, none⟩) rs.length c5, .int .i64 fw, .int .i64 ba] (by first | rfl | (simp; done) | (simp; omega))).alloc _
  have b_bz1 : Blk ((w.alloc (.cells #[.int .i64 ep, .int .i64 ld, .slice (some ⟨b1, o1, none⟩) is.length c1, .slice (some ⟨b3, o3, none⟩) ks.length c3, .slice (some ⟨b5, o5, none⟩) rs.length c5, .int .i64 fw, .int .i64 ba] 26)).alloc (.cells #[.int .i64 0, .int .i64 0, .slice none 0 0, .slice none 0 0, .slice none 0 0, .int .i64 0, .int .i64 0] 26)) (w.heap.size + 1) 26 #[.int .i64 0, .int .i64 0, .slice none 0 0, .slice none 0 0, .slice none 0 0, .int .i64 0, .int .i64 0] := Blk.new_ _ 26 #[.int .i64 0, .int .i64 0, .slice none 0 0, .slice none 0 0, .slice none 0 0, .int .i64 0, .int .i64 0] (by first | rfl | (simp; done) | (simp; omega))
  have k_v1 := H.out.below hal1
  have hz1 : w.heap.size + 2 ≤ ((w.alloc (.cells #[.int .i64 ep, .int .i64 ld, .slice (some ⟨b1, o1, none⟩) is.length c1, .slice (some ⟨b3, o3, none⟩) ks.length c3, .slice (some ⟨b5, o5, none⟩) rs.length c5, .int .i64 fw, .int .i64 ba] 26)).alloc (.cells #[.int .i64 0, .int .i64 0, .slice none 0 0, .slice none 0 0, .slice none 0 0, .int .i64 0, .int .i64 0] 26)).heap.size := by first | omega | (simp; done) | (simp; omega)
  generalize (w.alloc (.cells #[.int .i64 ep, .int .i64 ld, .slice (some ⟨b1, o1, none⟩) is.length c1, .slice (some ⟨b3, o3, none⟩) ks.length c3, .slice (some ⟨b5, o5, none⟩) rs.length c5, .int .i64 fw, .int .i64 ba] 26)).alloc (.cells #[.int .i64 0, .int .i64 0, .slice none 0 0, .slice none 0 0, .slice none 0 0, .int .i64 0, .int .i64 0] 26) = W1 at *
  have HB1 := Lib.hid hb1
  have B1_bx := Lib.hid b_bx1
  have B1_bz := Lib.hid b_bz1
  have K1_v := Lib.hid k_v1
  clear hb1 b_bx1 b_bz1 k_v1
  clear H
  refine (partFault_ok _ ⟨ep, ld, is, ks, rs, fw, ba⟩ i HN.out hi _ K1_v.out).mono ?_
  rintro e W2 ⟨rfl, hb⟩
  have hb2 : Below w.heap.size w W2 := below_then HB1.out hb
  have b_bx2 := B1_bx.out.below hb B1_bx.out.lt
  have b_bz2 := B1_bz.out.below hb B1_bz.out.lt
  have k_v2 := K1_v.out.below hb
  have hz2 := hb.size
  have HB2 := Lib.hid hb2
  have B2_bx := Lib.hid b_bx2
  have B2_bz := Lib.hid b_bz2
  have K2_v := Lib.hid k_v2
  clear hb2 b_bx2 b_bz2 k_v2
  clear B1_bx B1_bz HB1 K1_v
  have c_bx0 := B2_bx.out.cell 0
  have c_bx1 := B2_bx.out.cell 1
  have c_bx2 := B2_bx.out.cell 2
  have c_bx3 := B2_bx.out.cell 3
  have c_bx4 := B2_bx.out.cell 4
  have c_bx5 := B2_bx.out.cell 5
  have c_bx6 := B2_bx.out.cell 6
  have l_bx := B2_bx.out.lt
  have v0 := (HB2.out.cell (p := ⟨b5, o5 + i * 4, none⟩) hb5).trans XC.out.1
  have v3 := (HB2.out.cell (p := ⟨b5, o5 + i * 4 + 3, none⟩) hb5).trans XC.out.2.1
  have v1 := (HB2.out.cell (p := ⟨b1, o1 + i, none⟩) hb1).trans XC.out.2.2.1
  have v2 := (HB2.out.cell (p := ⟨b3, o3 + i, none⟩) hb3).trans XC.out.2.2.2
  have vl5 := Nat.lt_of_lt_of_le hb5 HB2.out.size
  have vl1 := Nat.lt_of_lt_of_le hb1 HB2.out.size
  have vl3 := Nat.lt_of_lt_of_le hb3 HB2.out.size
  rw [HU.out] at v0
  have v4 := (HB2.out.cell (p := ⟨b5, o5 + i * 4 + 1, none⟩) hb5).trans XB.out.1
  have v5 := (HB2.out.cell (p := ⟨b5, o5 + i * 4 + 2, none⟩) hb5).trans XB.out.2.1
  go_wp2_with fail
  clear c_bx0 c_bx1 c_bx2 c_bx3 c_bx4 c_bx5 c_bx6 l_bx v0 v3 v1 v2 vl5 vl1 vl3 v4 v5
  refine (crashedOf_range _ _ _ _ _ (XB.out.2.2.below HB2.out) HLG.out hk).mono ?_
  rintro e W3 ⟨v5, rfl, hp5, hb⟩
  have hp6 : World.ownsRow _ _ _ 1 v5 0 [] := hp5
  obtain ⟨A9, c9, rfl, hc9⟩ := (Sl.of_own hp6).form
  clear hp5 hp6
  have hb3 : Below w.heap.size w W3 := below_then HB2.out hb
  have b_bx3 := B2_bx.out.below hb B2_bx.out.lt
  have b_bz3 := B2_bz.out.below hb B2_bz.out.lt
  have k_v3 := K2_v.out.below hb
  have hz3 := hb.size
  have HB3 := Lib.hid hb3
  have B3_bx := Lib.hid b_bx3
  have B3_bz := Lib.hid b_bz3
  have K3_v := Lib.hid k_v3
  clear hb3 b_bx3 b_bz3 k_v3
  clear B2_bx B2_bz HB2 K2_v
  have c_bz0 := B3_bz.out.cell 0
  have f_bz0 := B3_bz.out.frozen 0
  have c_bz1 := B3_bz.out.cell 1
  have f_bz1 := B3_bz.out.frozen 1
  have c_bz2 := B3_bz.out.cell 2
  have f_bz2 := B3_bz.out.frozen 2
  have c_bz3 := B3_bz.out.cell 3
  have f_bz3 := B3_bz.out.frozen 3
  have c_bz4 := B3_bz.out.cell 4
  have f_bz4 := B3_bz.out.frozen 4
  have c_bz5 := B3_bz.out.cell 5
  have f_bz5 := B3_bz.out.frozen 5
  have c_bz6 := B3_bz.out.cell 6
  have f_bz6 := B3_bz.out.frozen 6
  have l_bz := B3_bz.out.lt
  go_upto_region 7 with fail
  clear c_bz0 f_bz0 c_bz1 f_bz1 c_bz2 f_bz2 c_bz3 f_bz3 c_bz4 f_bz4 c_bz5 f_bz5 c_bz6 f_bz6 l_bz
  have hsz4 := HB3.out.size
  have hb4 : Below w.heap.size w (W3.alloc (.cells #[.slice A9 0 c9, .int .i64 0] 42)) := (HB3.out).alloc (by first | omega | (simp; done) | (simp; omega)) _
  have hal4 : Below W3.heap.size W3 (W3.alloc (.cells #[.slice A9 0 c9, .int .i64 0] 42)) := (Below.refl _ _).alloc (by first | omega | (simp; done) | (simp; omega)) _
  have b_bx4 : Blk (W3.alloc (.cells #[.slice A9 0 c9, .int .i64 0] 42)) (w.heap.size) 26 #[.int .i64 ep, .int .i64 ld, .slice (some ⟨b1, o1, none⟩) is.length c1, .slice (some ⟨b3, o3, none⟩) ks.length c3, .slice (some ⟨b5, o5, none⟩) rs.length c5, .int .i64 fw, .int .i64 ba] := (B3_bx.out).alloc _
  have b_bz4 : Blk (W3.alloc (.cells #[.slice A9 0 c9, .int .i64 0] 42)) (w.heap.size + 1) 26 #[.int .i64 0, .int .i64 0, .slice none 0 0, .slice none 0 0, .slice none 0 0, .int .i64 0, .int .i64 0] := (B3_bz.out).alloc _
  have b_bl4 : Blk (W3.alloc (.cells #[.slice A9 0 c9, .int .i64 0] 42)) (W3.heap.size) 42 #[.slice A9 0 c9, .int .i64 0] := Blk.new_ _ 42 #[.slice A9 0 c9, .int .i64 0] (by first | rfl | (simp; done) | (simp; omega))
  have k_v4 := K3_v.out.below hal4
  have hz4 : W3.heap.size + 1 ≤ (W3.alloc (.cells #[.slice A9 0 c9, .int .i64 0] 42)).heap.size := by first | omega | (simp; done) | (simp; omega)
  generalize W3.alloc (.cells #[.slice A9 0 c9, .int .i64 0] 42) = W4 at *
  have HB4 := Lib.hid hb4
  have B4_bx := Lib.hid b_bx4
  have B4_bz := Lib.hid b_bz4
  have B4_bl := Lib.hid b_bl4
  have K4_v := Lib.hid k_v4
  clear hb4 b_bx4 b_bz4 b_bl4 k_v4
  clear B3_bx B3_bz HB3 K3_v
  have c_bz0 := B4_bz.out.cell 0
  have f_bz0 := B4_bz.out.frozen 0
  have c_bz1 := B4_bz.out.cell 1
  have f_bz1 := B4_bz.out.frozen 1
  have c_bz2 := B4_bz.out.cell 2
  have f_bz2 := B4_bz.out.frozen 2
  have c_bz3 := B4_bz.out.cell 3
  have f_bz3 := B4_bz.out.frozen 3
  have c_bz4 := B4_bz.out.cell 4
  have f_bz4 := B4_bz.out.frozen 4
  have c_bz5 := B4_bz.out.cell 5
  have f_bz5 := B4_bz.out.frozen 5
  have c_bz6 := B4_bz.out.cell 6
  have f_bz6 := B4_bz.out.frozen 6
  have l_bz := B4_bz.out.lt
  go_wp2_with fail
  clear c_bz0 f_bz0 c_bz1 f_bz1 c_bz2 f_bz2 c_bz3 f_bz3 c_bz4 f_bz4 c_bz5 f_bz5 c_bz6 f_bz6 l_bz
  have hszF := HB4.out.size
  have hbF : Below w.heap.size w (((((((W4.setCell ⟨w.heap.size + 1, 0, none⟩ (.int .i64 0)).setCell ⟨w.heap.size + 1, 1, none⟩ (.int .i64 0)).setCell ⟨w.heap.size + 1, 2, none⟩ (.slice none 0 0)).setCell ⟨w.heap.size + 1, 3, none⟩ (.slice none 0 0)).setCell ⟨w.heap.size + 1, 4, none⟩ (.slice none 0 0)).setCell ⟨w.heap.size + 1, 5, none⟩ (.int .i64 0)).setCell ⟨w.heap.size + 1, 6, none⟩ (.int .i64 0)) := (((((((HB4.out).setCell (by show w.heap.size ≤ w.heap.size + 1; omega) _).setCell (by show w.heap.size ≤ w.heap.size + 1; omega) _).setCell (by show w.heap.size ≤ w.heap.size + 1; omega) _).setCell (by show w.heap.size ≤ w.heap.size + 1; omega) _).setCell (by show w.heap.size ≤ w.heap.size + 1; omega) _).setCell (by show w.heap.size ≤ w.heap.size + 1; omega) _).setCell (by show w.heap.size ≤ w.heap.size + 1; omega) _
  have b_bxF : Blk (((((((W4.setCell ⟨w.heap.size + 1, 0, none⟩ (.int .i64 0)).setCell ⟨w.heap.size + 1, 1, none⟩ (.int .i64 0)).setCell ⟨w.heap.size + 1, 2, none⟩ (.slice none 0 0)).setCell ⟨w.heap.size + 1, 3, none⟩ (.slice none 0 0)).setCell ⟨w.heap.size + 1, 4, none⟩ (.slice none 0 0)).setCell ⟨w.heap.size + 1, 5, none⟩ (.int .i64 0)).setCell ⟨w.heap.size + 1, 6, none⟩ (.int .i64 0)) (w.heap.size) 26 #[.int .i64 ep, .int .i64 ld, .slice (some ⟨b1, o1, none⟩) is.length c1, .slice (some ⟨b3, o3, none⟩) ks.length c3, .slice (some ⟨b5, o5, none⟩) rs.length c5, .int .i64 fw, .int .i64 ba] := (((((((B4_bx.out).far (p := ⟨w.heap.size + 1, 0, none⟩) (by show w.heap.size ≠ w.heap.size + 1; omega) _).far (p := ⟨w.heap.size + 1, 1, none⟩) (by show w.heap.size ≠ w.heap.size + 1; omega) _).far (p := ⟨w.heap.size + 1, 2, none⟩) (by show w.heap.size ≠ w.heap.size + 1; omega) _).far (p := ⟨w.heap.size + 1, 3, none⟩) (by show w.heap.size ≠ w.heap.size + 1; omega) _).far (p := ⟨w.heap.size + 1, 4, none⟩) (by show w.heap.size ≠ w.heap.size + 1; omega) _).far (p := ⟨w.heap.size + 1, 5, none⟩) (by show w.heap.size ≠ w.heap.size + 1; omega) _).far (p := ⟨w.heap.size + 1, 6, none⟩) (by show w.heap.size ≠ w.heap.size + 1; omega) _
  have b_bzF : Blk (((((((W4.setCell ⟨w.heap.size + 1, 0, none⟩ (.int .i64 0)).setCell ⟨w.heap.size + 1, 1, none⟩ (.int .i64 0)).setCell ⟨w.heap.size + 1, 2, none⟩ (.slice none 0 0)).setCell ⟨w.heap.size + 1, 3, none⟩ (.slice none 0 0)).setCell ⟨w.heap.size + 1, 4, none⟩ (.slice none 0 0)).setCell ⟨w.heap.size + 1, 5, none⟩ (.int .i64 0)).setCell ⟨w.heap.size + 1, 6, none⟩ (.int .i64 0)) (w.heap.size + 1) 26 #[.int .i64 0, .int .i64 0, .slice none 0 0, .slice none 0 0, .slice none 0 0, .int .i64 0, .int .i64 0] := (((((((B4_bz.out).set_ 0 _).set_ 1 _).set_ 2 _).set_ 3 _).set_ 4 _).set_ 5 _).set_ 6 _
  have b_blF : Blk (((((((W4.setCell ⟨w.heap.size + 1, 0, none⟩ (.int .i64 0)).setCell ⟨w.heap.size + 1, 1, none⟩ (.int .i64 0)).setCell ⟨w.heap.size + 1, 2, none⟩ (.slice none 0 0)).setCell ⟨w.heap.size + 1, 3, none⟩ (.slice none 0 0)).setCell ⟨w.heap.size + 1, 4, none⟩ (.slice none 0 0)).setCell ⟨w.heap.size + 1, 5, none⟩ (.int .i64 0)).setCell ⟨w.heap.size + 1, 6, none⟩ (.int .i64 0)) (W3.heap.size) 42 #[.slice A9 0 c9, .int .i64 0] := (((((((B4_bl.out).far (p := ⟨w.heap.size + 1, 0, none⟩) (by show W3.heap.size ≠ w.heap.size + 1; omega) _).far (p := ⟨w.heap.size + 1, 1, none⟩) (by show W3.heap.size ≠ w.heap.size + 1; omega) _).far (p := ⟨w.heap.size + 1, 2, none⟩) (by show W3.heap.size ≠ w.heap.size + 1; omega) _).far (p := ⟨w.heap.size + 1, 3, none⟩) (by show W3.heap.size ≠ w.heap.size + 1; omega) _).far (p := ⟨w.heap.size + 1, 4, none⟩) (by show W3.heap.size ≠ w.heap.size + 1; omega) _).far (p := ⟨w.heap.size + 1, 5, none⟩) (by show W3.heap.size ≠ w.heap.size + 1; omega) _).far (p := ⟨w.heap.size + 1, 6, none⟩) (by show W3.heap.size ≠ w.heap.size + 1; omega) _
  have y0 := b_bzF.cell 0
  have y1 := b_bzF.cell 1
  have y2 := b_bzF.cell 2
  have y3 := b_bzF.cell 3
  have y4 := b_bzF.cell 4
  have y5 := b_bzF.cell 5
  have y6 := b_bzF.cell 6
  exact bodyPost_ret (v := .tuple #[.agg #[.int .i64 0, .int .i64 0, .slice none 0 0, .slice none 0 0, .slice none 0 0, .int .i64 0, .int .i64 0], .int .i64 2]) (by simp [results, Try.results55, go_sem, y0, y1, y2, y3, y4, y5, y6]) rfl (⟨rfl, hbF⟩)
set_option maxRecDepth 100000 in
set_option maxHeartbeats 4000000 in
theorem pcrashOf_other_high (v : Value) (c : PartD) (i : Nat) (keep : Nat) (hn : PartOk c) (hi : i < c.reps.length) (hl : c.leader ≠ i) (hu : c.reps[i].up = true) {es2 : List Ent} {m : Nat} {lb : List UInt8} (hlb : c.reps[i].bytes.take m = lb) (hd : dec (c.reps[i].bytes.take (crashN c.reps[i] keep)) = (es2, m)) (hq : (es2.length : Int) < c.reps[i].high) (w : World) (h : Pv w v c) : Calls Try.prog 55 #[v, .int .i64 i, .int .i64 keep] w (OwnsP ⟨c.epoch, c.leader, c.isr, c.known.set i 0, c.reps.set i ⟨false, lb, (m : Int), min c.reps[i].high (es2.length : Int)⟩, c.few, c.base⟩ w) := by
  have eqk := hn.known
  have eqi := hn.isr
  obtain ⟨xi, xk, xr, rfl, ix, kx, rx, hli, hlk, hlr⟩ := id h
  obtain ⟨A5, c5, rfl, hc5, hx5⟩ := rx.at_
  obtain ⟨A1, c1, rfl, hc1, hx1⟩ := ix.at_
  obtain ⟨A3, c3, rfl, hc3, hx3⟩ := kx.at_
  have H := Lib.hid h
  clear h ix kx rx
  unfold partV at *
  obtain ⟨ep, ld, is, ks, rs, fw, ba⟩ := c
  simp only at *
  have HN := Lib.hid hn
  have HSM := Lib.hid hn.small
  clear hn
  (try simp only at eqk eqi)
  have E1 := Lib.hid eqi
  have E2 := Lib.hid eqk
  have i0 : (0 : Int) ≤ (i : Int) := by omega
  have i1 : (i : Int) < (rs.length : Int) := Int.ofNat_lt.2 hi
  have i2 : (i : Int) < (is.length : Int) := by omega
  have i3 : (i : Int) < (ks.length : Int) := by omega
  have j2 : i < is.length := by omega
  have j3 : i < ks.length := by omega
  clear eqk eqi
  obtain ⟨b5, o5, rfl, hb5, hcell5⟩ := hx5 (Nat.lt_of_le_of_lt (Nat.zero_le _) hi)
  obtain ⟨pv, x0, x1, x2, x3, xb, xl⟩ := hcell5 i hi
  obtain ⟨b1, o1, rfl, hb1, hcell1⟩ := hx1 (by omega)
  have y0 := hcell1 i (by omega)
  obtain ⟨b3, o3, rfl, hb3, hcell3⟩ := hx3 (by omega)
  have u0 := hcell3 i (by omega)
  obtain ⟨A6, c6, rfl, -, -⟩ := xb.at_
  have XB := Lib.hid (And.intro x1 (And.intro x2 xb))
  have XC := Lib.hid (And.intro x0 (And.intro x3 (And.intro y0 u0)))
  clear hcell5 hcell1 hcell3 x0 x1 x2 x3 xb xl y0 u0 hx1 hx3 hx5
  have hup : rs[i].up = true := hu
  have HU := Lib.hid hup
  clear hu hup
  obtain ⟨es, j, hlog⟩ := HN.out.log i hi
  have hlog2 := LogIs.cut (p := crashN rs[i] keep) hlog hd
  rw [hlb] at hlog2
  have HLB := Lib.hid hlb
  have hlc : lb.length ≤ 40000 := by have := hlog2.long; rw [← hlog2.bytes] at this; exact this
  have HLG := Lib.hid hlog
  have HLG2 := Lib.hid hlog2
  have HDC := Lib.hid hd
  have HLC := Lib.hid hlc
  clear hlog hlog2 hd hlc hlb
  have y9 : (ld == (i : Int)) = false := beq_eq_false_iff_ne.2 hl
  clear hl
  have y8 : decide ((es2.length : Int) < rs[i].high) = true := decide_eq_true hq
  have HMI := Lib.hid (show min rs[i].high (es2.length : Int) = (es2.length : Int) by omega)
  clear hq
  go_enter Try.func55, Try.ntmps55
  go_wp2_with fail
  have hb1 : Below w.heap.size w ((w.alloc (.cells #[.int .i64 ep, .int .i64 ld, .slice (some ⟨b1, o1, none⟩) is.length c1, .slice (some ⟨b3, o3, none⟩) ks.length c3, .slice (some ⟨b5, o5, none⟩) rs.length c5, .int .i64 fw, .int .i64 ba] 26)).alloc (.cells #[.int .i64 0, .int .i64 0, .slice none 0 0, .slice none 0 0, .slice none 0 0, .int .i64 0, .int .i64 0] 26)) := ((Below.refl _ _).alloc (by first | omega | (simp; done) | (simp; omega)) _).alloc (by first | omega | (simp; done) | (simp; omega)) _
  have hal1 : Below w.heap.size w ((w.alloc (.cells #[.int .i64 ep, .int .i64 ld, .slice (some ⟨b1, o1, none⟩) is.length c1, .slice (some ⟨b3, o3, none⟩) ks.length c3, .slice (some ⟨b5, o5, none⟩) rs.length c5, .int .i64 fw, .int .i64 ba] 26)).alloc (.cells #[.int .i64 0, .int .i64 0, .slice none 0 0, .slice none 0 0, .slice none 0 0, .int .i64 0, .int .i64 0] 26)) := ((Below.refl _ _).alloc (by first | omega | (simp; done) | (simp; omega)) _).alloc (by first | omega | (simp; done) | (simp; omega)) _
  have b_bx1 : Blk ((w.alloc (.cells #[.int .i64 ep, .int .i64 ld, .slice (some ⟨b1, o1, none⟩) is.length c1, .slice (some ⟨b3, o3, none⟩) ks.length c3, .slice (some ⟨b5, o5, none⟩) rs.length c5, .int .i64 fw, .int .i64 ba] 26)).alloc (.cells #[.int .i64 0, .int .i64 0, .slice none 0 0, .slice none 0 0, .slice none 0 0, .int .i64 0, .int .i64 0] 26)) (w.heap.size) 26 #[.int .i64 ep, .int .i64 ld, .slice (some ⟨b1, o1, none⟩) is.length c1, .slice (some ⟨b3, o3, none⟩) ks.length c3, .slice (some ⟨b5, o5, none⟩) rs.length c5, .int .i64 fw, .int .i64 ba] := (Blk.new_ _ 26 #[.int .i64 ep, .int .i64 ld, .slice (some ⟨b1, o1, none⟩) is.length c1, .slice (some ⟨b3, o3, none⟩) ks.length c3, .slice (some ⟨b5, o5, none⟩) rs.length c5, .int .i64 fw, .int .i64 ba] (by first | rfl | (simp; done) | (simp; omega))).alloc _
  have b_bz1 : Blk ((w.alloc (.cells #[.int .i64 ep, .int .i64 ld, .slice (some ⟨b1, o1, none⟩) is.length c1, .slice (some ⟨b3, o3, none⟩) ks.length c3, .slice (some ⟨b5, o5, none⟩) rs.length c5, .int .i64 fw, .int .i64 ba] 26)).alloc (.cells #[.int .i64 0, .int .i64 0, .slice none 0 0, .slice none 0 0, .slice none 0 0, .int .i64 0, .int .i64 0] 26)) (w.heap.size + 1) 26 #[.int .i64 0, .int .i64 0, .slice none 0 0, .slice none 0 0, .slice none 0 0, .int .i64 0, .int .i64 0] := Blk.new_ _ 26 #[.int .i64 0, .int .i64 0, .slice none 0 0, .slice none 0 0, .slice none 0 0, .int .i64 0, .int .i64 0] (by first | rfl | (simp; done) | (simp; omega))
  have k_v1 := H.out.below hal1
  have hz1 : w.heap.size + 2 ≤ ((w.alloc (.cells #[.int .i64 ep, .int .i64 ld, .slice (some ⟨b1, o1, none⟩) is.length c1, .slice (some ⟨b3, o3, none⟩) ks.length c3, .slice (some ⟨b5, o5, none⟩) rs.length c5, .int .i64 fw, .int .i64 ba] 26)).alloc (.cells #[.int .i64 0, .int .i64 0, .slice none 0 0, .slice none 0 0, .slice none 0 0, .int .i64 0, .int .i64 0] 26)).heap.size := by first | omega | (simp; done) | (simp; omega)
  generalize (w.alloc (.cells #[.int .i64 ep, .int .i64 ld, .slice (some ⟨b1, o1, none⟩) is.length c1, .slice (some ⟨b3, o3, none⟩) ks.length c3, .slice (some ⟨b5, o5, none⟩) rs.length c5, .int .i64 fw, .int .i64 ba] 26)).alloc (.cells #[.int .i64 0, .int .i64 0, .slice none 0 0, .slice none 0 0, .slice none 0 0, .int .i64 0, .int .i64 0] 26) = W1 at *
  have HB1 := Lib.hid hb1
  have B1_bx := Lib.hid b_bx1
  have B1_bz := Lib.hid b_bz1
  have K1_v := Lib.hid k_v1
  clear hb1 b_bx1 b_bz1 k_v1
  clear H
  refine (partFault_ok _ ⟨ep, ld, is, ks, rs, fw, ba⟩ i HN.out hi _ K1_v.out).mono ?_
  rintro e W2 ⟨rfl, hb⟩
  have hb2 : Below w.heap.size w W2 := below_then HB1.out hb
  have b_bx2 := B1_bx.out.below hb B1_bx.out.lt
  have b_bz2 := B1_bz.out.below hb B1_bz.out.lt
  have k_v2 := K1_v.out.below hb
  have hz2 := hb.size
  have HB2 := Lib.hid hb2
  have B2_bx := Lib.hid b_bx2
  have B2_bz := Lib.hid b_bz2
  have K2_v := Lib.hid k_v2
  clear hb2 b_bx2 b_bz2 k_v2
  clear B1_bx B1_bz HB1 K1_v
  have c_bx0 := B2_bx.out.cell 0
  have c_bx1 := B2_bx.out.cell 1
  have c_bx2 := B2_bx.out.cell 2
  have c_bx3 := B2_bx.out.cell 3
  have c_bx4 := B2_bx.out.cell 4
  have c_bx5 := B2_bx.out.cell 5
  have c_bx6 := B2_bx.out.cell 6
  have l_bx := B2_bx.out.lt
  have v0 := (HB2.out.cell (p := ⟨b5, o5 + i * 4, none⟩) hb5).trans XC.out.1
  have v3 := (HB2.out.cell (p := ⟨b5, o5 + i * 4 + 3, none⟩) hb5).trans XC.out.2.1
  have v1 := (HB2.out.cell (p := ⟨b1, o1 + i, none⟩) hb1).trans XC.out.2.2.1
  have v2 := (HB2.out.cell (p := ⟨b3, o3 + i, none⟩) hb3).trans XC.out.2.2.2
  have vl5 := Nat.lt_of_lt_of_le hb5 HB2.out.size
  have vl1 := Nat.lt_of_lt_of_le hb1 HB2.out.size
  have vl3 := Nat.lt_of_lt_of_le hb3 HB2.out.size
  rw [HU.out] at v0
  have v4 := (HB2.out.cell (p := ⟨b5, o5 + i * 4 + 1, none⟩) hb5).trans XB.out.1
  have v5 := (HB2.out.cell (p := ⟨b5, o5 + i * 4 + 2, none⟩) hb5).trans XB.out.2.1
  go_wp2_with fail
  clear c_bx0 c_bx1 c_bx2 c_bx3 c_bx4 c_bx5 c_bx6 l_bx v0 v3 v1 v2 vl5 vl1 vl3 v4 v5
  refine (crashedOf_ok _ _ _ keep _ (XB.out.2.2.below HB2.out) HLG.out (p := crashN rs[i] keep) rfl HDC.out).mono ?_
  rintro e W3 ⟨v5, rfl, hp5, hb⟩
  dsimp only at hp5
  rw [HLB.out] at hp5
  obtain ⟨A9, c9, rfl, hc9⟩ := (Sl.of_own hp5).form
  have HLO := Lib.hid (LgO.mk hp5)
  clear hp5
  have hb3 : Below w.heap.size w W3 := below_then HB2.out hb
  have b_bx3 := B2_bx.out.below hb B2_bx.out.lt
  have b_bz3 := B2_bz.out.below hb B2_bz.out.lt
  have k_v3 := K2_v.out.below hb
  have hz3 := hb.size
  have HB3 := Lib.hid hb3
  have B3_bx := Lib.hid b_bx3
  have B3_bz := Lib.hid b_bz3
  have K3_v := Lib.hid k_v3
  clear hb3 b_bx3 b_bz3 k_v3
  clear B2_bx B2_bz HB2 K2_v
  go_upto_region 7 with fail
  have hsz4 := HB3.out.size
  have hb4 : Below w.heap.size w (W3.alloc (.cells #[.slice A9 lb.length c9, .int .i64 (m : Int)] 42)) := (HB3.out).alloc (by first | omega | (simp; done) | (simp; omega)) _
  have hal4 : Below W3.heap.size W3 (W3.alloc (.cells #[.slice A9 lb.length c9, .int .i64 (m : Int)] 42)) := (Below.refl _ _).alloc (by first | omega | (simp; done) | (simp; omega)) _
  have b_bx4 : Blk (W3.alloc (.cells #[.slice A9 lb.length c9, .int .i64 (m : Int)] 42)) (w.heap.size) 26 #[.int .i64 ep, .int .i64 ld, .slice (some ⟨b1, o1, none⟩) is.length c1, .slice (some ⟨b3, o3, none⟩) ks.length c3, .slice (some ⟨b5, o5, none⟩) rs.length c5, .int .i64 fw, .int .i64 ba] := (B3_bx.out).alloc _
  have b_bz4 : Blk (W3.alloc (.cells #[.slice A9 lb.length c9, .int .i64 (m : Int)] 42)) (w.heap.size + 1) 26 #[.int .i64 0, .int .i64 0, .slice none 0 0, .slice none 0 0, .slice none 0 0, .int .i64 0, .int .i64 0] := (B3_bz.out).alloc _
  have b_bl4 : Blk (W3.alloc (.cells #[.slice A9 lb.length c9, .int .i64 (m : Int)] 42)) (W3.heap.size) 42 #[.slice A9 lb.length c9, .int .i64 (m : Int)] := Blk.new_ _ 42 #[.slice A9 lb.length c9, .int .i64 (m : Int)] (by first | rfl | (simp; done) | (simp; omega))
  have k_v4 := K3_v.out.below hal4
  have k_lg4 := (HLO.out).alloc (.cells #[.slice A9 lb.length c9, .int .i64 (m : Int)] 42)
  have hz4 : W3.heap.size + 1 ≤ (W3.alloc (.cells #[.slice A9 lb.length c9, .int .i64 (m : Int)] 42)).heap.size := by first | omega | (simp; done) | (simp; omega)
  generalize W3.alloc (.cells #[.slice A9 lb.length c9, .int .i64 (m : Int)] 42) = W4 at *
  have HB4 := Lib.hid hb4
  have B4_bx := Lib.hid b_bx4
  have B4_bz := Lib.hid b_bz4
  have B4_bl := Lib.hid b_bl4
  have K4_v := Lib.hid k_v4
  have K4_lg := Lib.hid k_lg4
  clear hb4 b_bx4 b_bz4 b_bl4 k_v4 k_lg4
  clear B3_bx B3_bz HB3 K3_v HLO
  have c_bx0 := B4_bx.out.cell 0
  have c_bx1 := B4_bx.out.cell 1
  have c_bx2 := B4_bx.out.cell 2
  have c_bx3 := B4_bx.out.cell 3
  have c_bx4 := B4_bx.out.cell 4
  have c_bx5 := B4_bx.out.cell 5
  have c_bx6 := B4_bx.out.cell 6
  have l_bx := B4_bx.out.lt
  go_wp2_with fail
  clear c_bx0 c_bx1 c_bx2 c_bx3 c_bx4 c_bx5 c_bx6 l_bx
  refine (refPartCopy_ok (c := ⟨ep, ld, is, ks, rs, fw, ba⟩) (K4_v.out) HSM.out).mono ?_
  rintro e W5 ⟨iv, kv, rv, rfl, ho, hb⟩
  obtain ⟨gi, d1, gk, d3, gr, d5, rfl, rfl, rfl, hgi, hgk, hgr, hgi', hgk', hgr'⟩ := ho.rows (by have := HN.out.isr; have := HN.out.many; simp only at *; omega) (by have := HN.out.known; have := HN.out.many; simp only at *; omega) (by have := HN.out.many; simp only at *; omega)
  unfold partV
  simp only at *
  have HO := Lib.hid ho
  clear ho
  have hb5 : Below w.heap.size w W5 := below_then HB4.out hb
  have b_bx5 := B4_bx.out.below hb B4_bx.out.lt
  have b_bz5 := B4_bz.out.below hb B4_bz.out.lt
  have b_bl5 := B4_bl.out.below hb B4_bl.out.lt
  have k_v5 := K4_v.out.below hb
  have k_lg5 := K4_lg.out.keep hb
  have hz5 := hb.size
  have HB5 := Lib.hid hb5
  have B5_bx := Lib.hid b_bx5
  have B5_bz := Lib.hid b_bz5
  have B5_bl := Lib.hid b_bl5
  have K5_v := Lib.hid k_v5
  have K5_lg := Lib.hid k_lg5
  clear hb5 b_bx5 b_bz5 b_bl5 k_v5 k_lg5
  clear B4_bx B4_bz B4_bl HB4 K4_v K4_lg
  go_upto_region 10 with fail
  have hsz6 := HB5.out.size
  have hb6 : Below w.heap.size w (W5.alloc (.cells #[.int .i64 ep, .int .i64 ld, .slice (some ⟨gi, 0, none⟩) is.length d1, .slice (some ⟨gk, 0, none⟩) ks.length d3, .slice (some ⟨gr, 0, none⟩) rs.length d5, .int .i64 fw, .int .i64 ba] 26)) := (HB5.out).alloc (by first | omega | (simp; done) | (simp; omega)) _
  have hal6 : Below W5.heap.size W5 (W5.alloc (.cells #[.int .i64 ep, .int .i64 ld, .slice (some ⟨gi, 0, none⟩) is.length d1, .slice (some ⟨gk, 0, none⟩) ks.length d3, .slice (some ⟨gr, 0, none⟩) rs.length d5, .int .i64 fw, .int .i64 ba] 26)) := (Below.refl _ _).alloc (by first | omega | (simp; done) | (simp; omega)) _
  have b_bx6 : Blk (W5.alloc (.cells #[.int .i64 ep, .int .i64 ld, .slice (some ⟨gi, 0, none⟩) is.length d1, .slice (some ⟨gk, 0, none⟩) ks.length d3, .slice (some ⟨gr, 0, none⟩) rs.length d5, .int .i64 fw, .int .i64 ba] 26)) (w.heap.size) 26 #[.int .i64 ep, .int .i64 ld, .slice (some ⟨b1, o1, none⟩) is.length c1, .slice (some ⟨b3, o3, none⟩) ks.length c3, .slice (some ⟨b5, o5, none⟩) rs.length c5, .int .i64 fw, .int .i64 ba] := (B5_bx.out).alloc _
  have b_bz6 : Blk (W5.alloc (.cells #[.int .i64 ep, .int .i64 ld, .slice (some ⟨gi, 0, none⟩) is.length d1, .slice (some ⟨gk, 0, none⟩) ks.length d3, .slice (some ⟨gr, 0, none⟩) rs.length d5, .int .i64 fw, .int .i64 ba] 26)) (w.heap.size + 1) 26 #[.int .i64 0, .int .i64 0, .slice none 0 0, .slice none 0 0, .slice none 0 0, .int .i64 0, .int .i64 0] := (B5_bz.out).alloc _
  have b_bl6 : Blk (W5.alloc (.cells #[.int .i64 ep, .int .i64 ld, .slice (some ⟨gi, 0, none⟩) is.length d1, .slice (some ⟨gk, 0, none⟩) ks.length d3, .slice (some ⟨gr, 0, none⟩) rs.length d5, .int .i64 fw, .int .i64 ba] 26)) (W3.heap.size) 42 #[.slice A9 lb.length c9, .int .i64 (m : Int)] := (B5_bl.out).alloc _
  have b_out6 : Blk (W5.alloc (.cells #[.int .i64 ep, .int .i64 ld, .slice (some ⟨gi, 0, none⟩) is.length d1, .slice (some ⟨gk, 0, none⟩) ks.length d3, .slice (some ⟨gr, 0, none⟩) rs.length d5, .int .i64 fw, .int .i64 ba] 26)) (W5.heap.size) 26 #[.int .i64 ep, .int .i64 ld, .slice (some ⟨gi, 0, none⟩) is.length d1, .slice (some ⟨gk, 0, none⟩) ks.length d3, .slice (some ⟨gr, 0, none⟩) rs.length d5, .int .i64 fw, .int .i64 ba] := Blk.new_ _ 26 #[.int .i64 ep, .int .i64 ld, .slice (some ⟨gi, 0, none⟩) is.length d1, .slice (some ⟨gk, 0, none⟩) ks.length d3, .slice (some ⟨gr, 0, none⟩) rs.length d5, .int .i64 fw, .int .i64 ba] (by first | rfl | (simp; done) | (simp; omega))
  have k_lg6 := (K5_lg.out).alloc (.cells #[.int .i64 ep, .int .i64 ld, .slice (some ⟨gi, 0, none⟩) is.length d1, .slice (some ⟨gk, 0, none⟩) ks.length d3, .slice (some ⟨gr, 0, none⟩) rs.length d5, .int .i64 fw, .int .i64 ba] 26)
  have k_own6 := (HO.out).alloc (.cells #[.int .i64 ep, .int .i64 ld, .slice (some ⟨gi, 0, none⟩) is.length d1, .slice (some ⟨gk, 0, none⟩) ks.length d3, .slice (some ⟨gr, 0, none⟩) rs.length d5, .int .i64 fw, .int .i64 ba] 26)
  have hz6 : W5.heap.size + 1 ≤ (W5.alloc (.cells #[.int .i64 ep, .int .i64 ld, .slice (some ⟨gi, 0, none⟩) is.length d1, .slice (some ⟨gk, 0, none⟩) ks.length d3, .slice (some ⟨gr, 0, none⟩) rs.length d5, .int .i64 fw, .int .i64 ba] 26)).heap.size := by first | omega | (simp; done) | (simp; omega)
  generalize W5.alloc (.cells #[.int .i64 ep, .int .i64 ld, .slice (some ⟨gi, 0, none⟩) is.length d1, .slice (some ⟨gk, 0, none⟩) ks.length d3, .slice (some ⟨gr, 0, none⟩) rs.length d5, .int .i64 fw, .int .i64 ba] 26) = W6 at *
  have HB6 := Lib.hid hb6
  have B6_bx := Lib.hid b_bx6
  have B6_bz := Lib.hid b_bz6
  have B6_bl := Lib.hid b_bl6
  have B6_out := Lib.hid b_out6
  have K6_lg := Lib.hid k_lg6
  have K6_own := Lib.hid k_own6
  clear hb6 b_bx6 b_bz6 b_bl6 b_out6 k_lg6 k_own6
  clear B5_bx B5_bz B5_bl HB5 K5_lg HO
  have c_out0 := B6_out.out.cell 0
  have f_out0 := B6_out.out.frozen 0
  have c_out1 := B6_out.out.cell 1
  have f_out1 := B6_out.out.frozen 1
  have c_out2 := B6_out.out.cell 2
  have f_out2 := B6_out.out.frozen 2
  have c_out3 := B6_out.out.cell 3
  have f_out3 := B6_out.out.frozen 3
  have c_out4 := B6_out.out.cell 4
  have f_out4 := B6_out.out.frozen 4
  have c_out5 := B6_out.out.cell 5
  have f_out5 := B6_out.out.frozen 5
  have c_out6 := B6_out.out.cell 6
  have f_out6 := B6_out.out.frozen 6
  have l_out := B6_out.out.lt
  have c_bl0 := B6_bl.out.cell 0
  have c_bl1 := B6_bl.out.cell 1
  have l_bl := B6_bl.out.lt
  obtain ⟨A7, c7, ⟨r0, r1, r2, r3⟩, ⟨rf0, rf1, rf2, rf3⟩, rby⟩ := K6_own.out.repAt i hi
  obtain ⟨s0, sf0⟩ := K6_own.out.isrAt i j2
  obtain ⟨t0, tf0⟩ := K6_own.out.knownAt i j3
  (try simp only at r0 r1 r2 r3 rby s0 t0)
  go_upto_region 12 with fail
  clear c_out0 f_out0 c_out1 f_out1 c_out2 f_out2 c_out3 f_out3 c_out4 f_out4 c_out5 f_out5 c_out6 f_out6 l_out c_bl0 c_bl1 l_bl r0 r1 r2 r3 rf0 rf1 rf2 rf3 rby s0 sf0 t0 tf0
  have hsz7 := HB6.out.size
  have hb7 : Below w.heap.size w (((W6.setCell ⟨gr, i * 4 + 1, none⟩ (.slice A9 lb.length c9)).setCell ⟨gr, i * 4 + 2, none⟩ (.int .i64 (m : Int))).setCell ⟨gr, i * 4, none⟩ (.bool false)) := (((HB6.out).setCell (by show w.heap.size ≤ gr; omega) _).setCell (by show w.heap.size ≤ gr; omega) _).setCell (by show w.heap.size ≤ gr; omega) _
  have b_bx7 : Blk (((W6.setCell ⟨gr, i * 4 + 1, none⟩ (.slice A9 lb.length c9)).setCell ⟨gr, i * 4 + 2, none⟩ (.int .i64 (m : Int))).setCell ⟨gr, i * 4, none⟩ (.bool false)) (w.heap.size) 26 #[.int .i64 ep, .int .i64 ld, .slice (some ⟨b1, o1, none⟩) is.length c1, .slice (some ⟨b3, o3, none⟩) ks.length c3, .slice (some ⟨b5, o5, none⟩) rs.length c5, .int .i64 fw, .int .i64 ba] := (((B6_bx.out).far (p := ⟨gr, i * 4 + 1, none⟩) (by show w.heap.size ≠ gr; omega) _).far (p := ⟨gr, i * 4 + 2, none⟩) (by show w.heap.size ≠ gr; omega) _).far (p := ⟨gr, i * 4, none⟩) (by show w.heap.size ≠ gr; omega) _
  have b_bz7 : Blk (((W6.setCell ⟨gr, i * 4 + 1, none⟩ (.slice A9 lb.length c9)).setCell ⟨gr, i * 4 + 2, none⟩ (.int .i64 (m : Int))).setCell ⟨gr, i * 4, none⟩ (.bool false)) (w.heap.size + 1) 26 #[.int .i64 0, .int .i64 0, .slice none 0 0, .slice none 0 0, .slice none 0 0, .int .i64 0, .int .i64 0] := (((B6_bz.out).far (p := ⟨gr, i * 4 + 1, none⟩) (by show w.heap.size + 1 ≠ gr; omega) _).far (p := ⟨gr, i * 4 + 2, none⟩) (by show w.heap.size + 1 ≠ gr; omega) _).far (p := ⟨gr, i * 4, none⟩) (by show w.heap.size + 1 ≠ gr; omega) _
  have b_bl7 : Blk (((W6.setCell ⟨gr, i * 4 + 1, none⟩ (.slice A9 lb.length c9)).setCell ⟨gr, i * 4 + 2, none⟩ (.int .i64 (m : Int))).setCell ⟨gr, i * 4, none⟩ (.bool false)) (W3.heap.size) 42 #[.slice A9 lb.length c9, .int .i64 (m : Int)] := (((B6_bl.out).far (p := ⟨gr, i * 4 + 1, none⟩) (by show W3.heap.size ≠ gr; omega) _).far (p := ⟨gr, i * 4 + 2, none⟩) (by show W3.heap.size ≠ gr; omega) _).far (p := ⟨gr, i * 4, none⟩) (by show W3.heap.size ≠ gr; omega) _
  have b_out7 : Blk (((W6.setCell ⟨gr, i * 4 + 1, none⟩ (.slice A9 lb.length c9)).setCell ⟨gr, i * 4 + 2, none⟩ (.int .i64 (m : Int))).setCell ⟨gr, i * 4, none⟩ (.bool false)) (W5.heap.size) 26 #[.int .i64 ep, .int .i64 ld, .slice (some ⟨gi, 0, none⟩) is.length d1, .slice (some ⟨gk, 0, none⟩) ks.length d3, .slice (some ⟨gr, 0, none⟩) rs.length d5, .int .i64 fw, .int .i64 ba] := (((B6_out.out).far (p := ⟨gr, i * 4 + 1, none⟩) (by show W5.heap.size ≠ gr; omega) _).far (p := ⟨gr, i * 4 + 2, none⟩) (by show W5.heap.size ≠ gr; omega) _).far (p := ⟨gr, i * 4, none⟩) (by show W5.heap.size ≠ gr; omega) _
  have k_own7 := ((K6_own.out.more (by omega)).crash i hi (m : Int) K6_lg.out.own)
  have hz7 : W6.heap.size + 0 ≤ (((W6.setCell ⟨gr, i * 4 + 1, none⟩ (.slice A9 lb.length c9)).setCell ⟨gr, i * 4 + 2, none⟩ (.int .i64 (m : Int))).setCell ⟨gr, i * 4, none⟩ (.bool false)).heap.size := by first | omega | (simp; done) | (simp; omega)
  generalize ((W6.setCell ⟨gr, i * 4 + 1, none⟩ (.slice A9 lb.length c9)).setCell ⟨gr, i * 4 + 2, none⟩ (.int .i64 (m : Int))).setCell ⟨gr, i * 4, none⟩ (.bool false) = W7 at *
  have HB7 := Lib.hid hb7
  have B7_bx := Lib.hid b_bx7
  have B7_bz := Lib.hid b_bz7
  have B7_bl := Lib.hid b_bl7
  have B7_out := Lib.hid b_out7
  have K7_own := Lib.hid k_own7
  clear hb7 b_bx7 b_bz7 b_bl7 b_out7 k_own7
  clear B6_bx B6_bz B6_bl B6_out HB6 K6_own
  have hi9 : i < (rs.set i ⟨false, lb, (m : Int), rs[i].high⟩).length := by simpa using hi
  have HSZ := Lib.hid (show LogIs (rs.set i ⟨false, lb, (m : Int), rs[i].high⟩)[i].log es2 es2.length by rw [List.getElem_set_self]; exact HLG2.out)
  have c_out0 := B7_out.out.cell 0
  have c_out1 := B7_out.out.cell 1
  have c_out2 := B7_out.out.cell 2
  have c_out3 := B7_out.out.cell 3
  have c_out4 := B7_out.out.cell 4
  have c_out5 := B7_out.out.cell 5
  have c_out6 := B7_out.out.cell 6
  have l_out := B7_out.out.lt
  obtain ⟨A7, c7, ⟨-, -, -, r3⟩, ⟨-, -, -, rf3⟩, -⟩ := PO.repAt (c := ⟨ep, ld, is, ks, rs.set i ⟨false, lb, (m : Int), rs[i].high⟩, fw, ba⟩) (gr := gr) (cr := d5) (by simpa only [List.length_set] using K7_own.out) i hi9
  (try simp only [List.getElem_set_self] at r3)
  go_wp2_with fail
  have c_out0 := B7_out.out.cell 0
  have c_out1 := B7_out.out.cell 1
  have c_out2 := B7_out.out.cell 2
  have c_out3 := B7_out.out.cell 3
  have c_out4 := B7_out.out.cell 4
  have c_out5 := B7_out.out.cell 5
  have c_out6 := B7_out.out.cell 6
  have l_out := B7_out.out.lt
  refine wp_region_held_drew (S := fun w0 => w0.cell? ⟨W5.heap.size, 0, none⟩ = some (.int .i64 ep) ∧ w0.cell? ⟨W5.heap.size, 1, none⟩ = some (.int .i64 ld) ∧ w0.cell? ⟨W5.heap.size, 2, none⟩ = some (.slice (some ⟨gi, 0, none⟩) is.length d1) ∧ w0.cell? ⟨W5.heap.size, 3, none⟩ = some (.slice (some ⟨gk, 0, none⟩) ks.length d3) ∧ w0.cell? ⟨W5.heap.size, 4, none⟩ = some (.slice (some ⟨gr, 0, none⟩) rs.length d5) ∧ w0.cell? ⟨W5.heap.size, 5, none⟩ = some (.int .i64 fw) ∧ w0.cell? ⟨W5.heap.size, 6, none⟩ = some (.int .i64 ba) ∧ w0.cell? ⟨gr, i * 4 + 3, none⟩ = some (.int .i64 rs[i].high)) (by kernel_rfl) ?_ (fun hHeld => ?_)
  · exact ⟨c_out0, c_out1, c_out2, c_out3, c_out4, c_out5, c_out6, r3⟩
  clear c_out0 c_out1 c_out2 c_out3 c_out4 c_out5 c_out6 l_out r3 rf3
  generalize hd : World.drew W7 = W8 at *
  have hb : Below W7.heap.size W7 W8 := by rw [← hd]; exact (Below.refl _ _).drew
  have hb8 : Below w.heap.size w W8 := below_then HB7.out hb
  have b_bx8 := B7_bx.out.below hb B7_bx.out.lt
  have b_bz8 := B7_bz.out.below hb B7_bz.out.lt
  have b_bl8 := B7_bl.out.below hb B7_bl.out.lt
  have b_out8 := B7_out.out.below hb B7_out.out.lt
  have k_own8 := K7_own.out.keep hb
  have hz8 := hb.size
  have HB8 := Lib.hid hb8
  have B8_bx := Lib.hid b_bx8
  have B8_bz := Lib.hid b_bz8
  have B8_bl := Lib.hid b_bl8
  have B8_out := Lib.hid b_out8
  have K8_own := Lib.hid k_own8
  clear hb8 b_bx8 b_bz8 b_bl8 b_out8 k_own8
  clear B7_bx B7_bz B7_bl B7_out HB7 K7_own
  clear hd hb
  refine wpAnyH_take (i := 0) (v := ?_) rfl (by kernel_rfl) (by kernel_rfl) (by kernel_rfl) (fun _ _ _ h => h) (Or.inl ⟨by rfl, ?_⟩) (by assumption) ?_
  rotate_left
  · intro w0 hSw
    (try dsimp only at hSw)
    go_simp
    all_goals with_reducible rfl
  try simp only [Act.put, List.getElem_toArray, List.getElem_cons_zero, List.setIfInBounds_toArray, List.set_cons_zero, List.set_cons_succ]
  refine wpAnyH_take (i := 1) (v := ?_) rfl (by kernel_rfl) (by kernel_rfl) (by kernel_rfl) (fun _ _ _ h => h) (Or.inl ⟨by rfl, ?_⟩) (by assumption) ?_
  rotate_left
  · intro w0 hSw
    (try dsimp only at hSw)
    go_simp
    all_goals with_reducible rfl
  try simp only [Act.put, List.getElem_toArray, List.getElem_cons_zero, List.getElem_cons_succ, List.setIfInBounds_toArray, List.set_cons_zero, List.set_cons_succ]
  refine wpAnyH_take (i := 2) (v := ?_) rfl (by kernel_rfl) (by kernel_rfl) (by kernel_rfl) (fun _ _ _ h => h) (Or.inl ⟨by rfl, ?_⟩) (by assumption) ?_
  rotate_left
  · intro w0 hSw
    (try dsimp only at hSw)
    go_simp
    all_goals with_reducible rfl
  try simp only [Act.put, List.getElem_toArray, List.getElem_cons_zero, List.getElem_cons_succ, List.setIfInBounds_toArray, List.set_cons_zero, List.set_cons_succ]
  refine wpAnyH_take (i := 3) (v := ?_) rfl (by kernel_rfl) (by kernel_rfl) (by kernel_rfl) (fun _ _ _ h => h) (Or.inl ⟨by rfl, ?_⟩) (by assumption) ?_
  rotate_left
  · intro w0 hSw
    (try dsimp only at hSw)
    go_simp
    all_goals with_reducible rfl
  try simp only [Act.put, List.getElem_toArray, List.getElem_cons_zero, List.getElem_cons_succ, List.setIfInBounds_toArray, List.set_cons_zero, List.set_cons_succ]
  refine wpAnyH_take (i := 4) (v := ?_) rfl (by kernel_rfl) (by kernel_rfl) (by kernel_rfl) (fun _ _ _ h => h) (Or.inl ⟨by rfl, ?_⟩) (by assumption) ?_
  rotate_left
  · intro w0 hSw
    (try dsimp only at hSw)
    go_simp
    all_goals with_reducible rfl
  try simp only [Act.put, List.getElem_toArray, List.getElem_cons_zero, List.getElem_cons_succ, List.setIfInBounds_toArray, List.set_cons_zero, List.set_cons_succ]
  refine wpAnyH_take (i := 5) (v := ?_) rfl (by kernel_rfl) (by kernel_rfl) (by kernel_rfl) (fun _ _ _ h => h) (Or.inl ⟨by rfl, ?_⟩) (by assumption) ?_
  rotate_left
  · intro w0 hSw
    (try dsimp only at hSw)
    go_simp
    all_goals with_reducible rfl
  try simp only [Act.put, List.getElem_toArray, List.getElem_cons_zero, List.getElem_cons_succ, List.setIfInBounds_toArray, List.set_cons_zero, List.set_cons_succ]
  refine wpAnyH_take (i := 6) (v := ?_) rfl (by kernel_rfl) (by kernel_rfl) (by kernel_rfl) (fun _ _ _ h => h) (Or.inl ⟨by rfl, ?_⟩) (by assumption) ?_
  rotate_left
  · intro w0 hSw
    (try dsimp only at hSw)
    go_simp
    all_goals with_reducible rfl
  try simp only [Act.put, List.getElem_toArray, List.getElem_cons_zero, List.getElem_cons_succ, List.setIfInBounds_toArray, List.set_cons_zero, List.set_cons_succ]
  refine wpAnyH_take (i := 7) (v := ?_) rfl (by kernel_rfl) (by kernel_rfl) (by kernel_rfl) (fun _ _ _ h => h) (Or.inl ⟨by rfl, ?_⟩) (by assumption) ?_
  rotate_left
  · intro w0 hSw
    (try dsimp only at hSw)
    go_simp
    all_goals with_reducible rfl
  try simp only [Act.put, List.getElem_toArray, List.getElem_cons_zero, List.getElem_cons_succ, List.setIfInBounds_toArray, List.set_cons_zero, List.set_cons_succ]
  refine wpAnyH_ready (rs := [8]) (by kernel_rfl) (by simp) (AllReadyH.cons rfl (fun K hK => ?_) AllReadyH.nil)
  go_simp
  go_at_call 82
  refine (logOf_any _ ⟨ep, ld, is, ks, rs.set i ⟨false, lb, (m : Int), rs[i].high⟩, fw, ba⟩ i _ (K8_own.out.pv ⟨HSM.out.isr, HSM.out.known, by simp only [List.length_set]; exact HSM.out.reps, (PSm.crashed HSM.out i ld ⟨false, lb, (m : Int), rs[i].high⟩ HLC.out).bytes⟩) hi9 HSZ.out).mono ?_
  rintro e W9 ⟨v5, rfl, hp5, hb⟩
  obtain ⟨A8, c8, rfl, hc8⟩ := (Sl.of_own hp5).form
  clear hp5
  have hb9 : Below w.heap.size w W9 := below_then HB8.out hb
  have b_bx9 := B8_bx.out.below hb B8_bx.out.lt
  have b_bz9 := B8_bz.out.below hb B8_bz.out.lt
  have b_bl9 := B8_bl.out.below hb B8_bl.out.lt
  have b_out9 := B8_out.out.below hb B8_out.out.lt
  have k_own9 := K8_own.out.keep hb
  have hz9 := hb.size
  have HB9 := Lib.hid hb9
  have B9_bx := Lib.hid b_bx9
  have B9_bz := Lib.hid b_bz9
  have B9_bl := Lib.hid b_bl9
  have B9_out := Lib.hid b_out9
  have K9_own := Lib.hid k_own9
  clear hb9 b_bx9 b_bz9 b_bl9 b_out9 k_own9
  clear B8_bx B8_bz B8_bl B8_out HB8 K8_own
  obtain ⟨A7, c7, ⟨-, -, -, r3⟩, ⟨-, -, -, rf3⟩, -⟩ := PO.repAt (c := ⟨ep, ld, is, ks, rs.set i ⟨false, lb, (m : Int), rs[i].high⟩, fw, ba⟩) (gr := gr) (cr := d5) (by simpa only [List.length_set] using K9_own.out) i hi9
  (try simp only [List.getElem_set_self] at r3)
  refine hK.out _ _ ?_ (fun hHeld => ?_)
  · exact ⟨(B9_out.out).cell 0, (B9_out.out).cell 1, (B9_out.out).cell 2, (B9_out.out).cell 3, (B9_out.out).cell 4, (B9_out.out).cell 5, (B9_out.out).cell 6, r3⟩
  clear hK K
  try simp only [Act.put, List.getElem_toArray, List.getElem_cons_zero, List.getElem_cons_succ, List.setIfInBounds_toArray, List.set_cons_zero, List.set_cons_succ]
  refine wpAnyH_take (i := 9) (v := ?_) rfl (by kernel_rfl) (by kernel_rfl) (by kernel_rfl) (fun _ _ _ h => h) (Or.inl ⟨by rfl, ?_⟩) (by assumption) ?_
  rotate_left
  · intro w0 hSw
    (try dsimp only at hSw)
    go_simp
    all_goals with_reducible rfl
  try simp only [Act.put, List.getElem_toArray, List.getElem_cons_zero, List.getElem_cons_succ, List.setIfInBounds_toArray, List.set_cons_zero, List.set_cons_succ]
  refine wpAnyH_take (i := 10) (v := ?_) rfl (by kernel_rfl) (by kernel_rfl) (by kernel_rfl) (fun _ _ _ h => h) (Or.inl ⟨by rfl, ?_⟩) (by assumption) ?_
  rotate_left
  · intro w0 hSw
    (try dsimp only at hSw)
    go_simp
    all_goals with_reducible rfl
  try simp only [Act.put, List.getElem_toArray, List.getElem_cons_zero, List.getElem_cons_succ, List.setIfInBounds_toArray, List.set_cons_zero, List.set_cons_succ]
  refine wpAnyH_done (by kernel_rfl) ?_ _
  have c_out0 := B9_out.out.cell 0
  have c_out1 := B9_out.out.cell 1
  have c_out2 := B9_out.out.cell 2
  have c_out3 := B9_out.out.cell 3
  have c_out4 := B9_out.out.cell 4
  have c_out5 := B9_out.out.cell 5
  have c_out6 := B9_out.out.cell 6
  have l_out := B9_out.out.lt
  have c_bx0 := B9_bx.out.cell 0
  have c_bx1 := B9_bx.out.cell 1
  have c_bx2 := B9_bx.out.cell 2
  have c_bx3 := B9_bx.out.cell 3
  have c_bx4 := B9_bx.out.cell 4
  have c_bx5 := B9_bx.out.cell 5
  have c_bx6 := B9_bx.out.cell 6
  have l_bx := B9_bx.out.lt
  go_wp2_with fail
  clear r3 rf3 c_out0 c_out1 c_out2 c_out3 c_out4 c_out5 c_out6 l_out c_bx0 c_bx1 c_bx2 c_bx3 c_bx4 c_bx5 c_bx6 l_bx
  have c_out0 := B9_out.out.cell 0
  have c_out1 := B9_out.out.cell 1
  have c_out2 := B9_out.out.cell 2
  have c_out3 := B9_out.out.cell 3
  have c_out4 := B9_out.out.cell 4
  have c_out5 := B9_out.out.cell 5
  have c_out6 := B9_out.out.cell 6
  have l_out := B9_out.out.lt
  refine wp_region_held_drew (S := fun w0 => w0.cell? ⟨W5.heap.size, 0, none⟩ = some (.int .i64 ep) ∧ w0.cell? ⟨W5.heap.size, 1, none⟩ = some (.int .i64 ld) ∧ w0.cell? ⟨W5.heap.size, 2, none⟩ = some (.slice (some ⟨gi, 0, none⟩) is.length d1) ∧ w0.cell? ⟨W5.heap.size, 3, none⟩ = some (.slice (some ⟨gk, 0, none⟩) ks.length d3) ∧ w0.cell? ⟨W5.heap.size, 4, none⟩ = some (.slice (some ⟨gr, 0, none⟩) rs.length d5) ∧ w0.cell? ⟨W5.heap.size, 5, none⟩ = some (.int .i64 fw) ∧ w0.cell? ⟨W5.heap.size, 6, none⟩ = some (.int .i64 ba)) (by kernel_rfl) ?_ (fun hHeld => ?_)
  · exact ⟨c_out0, c_out1, c_out2, c_out3, c_out4, c_out5, c_out6⟩
  clear c_out0 c_out1 c_out2 c_out3 c_out4 c_out5 c_out6 l_out
  generalize hd : World.drew W9 = W10 at *
  have hb : Below W9.heap.size W9 W10 := by rw [← hd]; exact (Below.refl _ _).drew
  have hb10 : Below w.heap.size w W10 := below_then HB9.out hb
  have b_bx10 := B9_bx.out.below hb B9_bx.out.lt
  have b_bz10 := B9_bz.out.below hb B9_bz.out.lt
  have b_bl10 := B9_bl.out.below hb B9_bl.out.lt
  have b_out10 := B9_out.out.below hb B9_out.out.lt
  have k_own10 := K9_own.out.keep hb
  have hz10 := hb.size
  have HB10 := Lib.hid hb10
  have B10_bx := Lib.hid b_bx10
  have B10_bz := Lib.hid b_bz10
  have B10_bl := Lib.hid b_bl10
  have B10_out := Lib.hid b_out10
  have K10_own := Lib.hid k_own10
  clear hb10 b_bx10 b_bz10 b_bl10 b_out10 k_own10
  clear B9_bx B9_bz B9_bl B9_out HB9 K9_own
  clear hd hb
  refine wpAnyH_take (i := 0) (v := ?_) rfl (by kernel_rfl) (by kernel_rfl) (by kernel_rfl) (fun _ _ _ h => h) (Or.inl ⟨by rfl, ?_⟩) (by assumption) ?_
  rotate_left
  · intro w0 hSw
    (try dsimp only at hSw)
    go_simp
    all_goals with_reducible rfl
  try simp only [Act.put, List.getElem_toArray, List.getElem_cons_zero, List.setIfInBounds_toArray, List.set_cons_zero, List.set_cons_succ]
  refine wpAnyH_take (i := 1) (v := ?_) rfl (by kernel_rfl) (by kernel_rfl) (by kernel_rfl) (fun _ _ _ h => h) (Or.inl ⟨by rfl, ?_⟩) (by assumption) ?_
  rotate_left
  · intro w0 hSw
    (try dsimp only at hSw)
    go_simp
    all_goals with_reducible rfl
  try simp only [Act.put, List.getElem_toArray, List.getElem_cons_zero, List.getElem_cons_succ, List.setIfInBounds_toArray, List.set_cons_zero, List.set_cons_succ]
  refine wpAnyH_take (i := 2) (v := ?_) rfl (by kernel_rfl) (by kernel_rfl) (by kernel_rfl) (fun _ _ _ h => h) (Or.inl ⟨by rfl, ?_⟩) (by assumption) ?_
  rotate_left
  · intro w0 hSw
    (try dsimp only at hSw)
    go_simp
    all_goals with_reducible rfl
  try simp only [Act.put, List.getElem_toArray, List.getElem_cons_zero, List.getElem_cons_succ, List.setIfInBounds_toArray, List.set_cons_zero, List.set_cons_succ]
  refine wpAnyH_take (i := 3) (v := ?_) rfl (by kernel_rfl) (by kernel_rfl) (by kernel_rfl) (fun _ _ _ h => h) (Or.inl ⟨by rfl, ?_⟩) (by assumption) ?_
  rotate_left
  · intro w0 hSw
    (try dsimp only at hSw)
    go_simp
    all_goals with_reducible rfl
  try simp only [Act.put, List.getElem_toArray, List.getElem_cons_zero, List.getElem_cons_succ, List.setIfInBounds_toArray, List.set_cons_zero, List.set_cons_succ]
  refine wpAnyH_take (i := 4) (v := ?_) rfl (by kernel_rfl) (by kernel_rfl) (by kernel_rfl) (fun _ _ _ h => h) (Or.inl ⟨by rfl, ?_⟩) (by assumption) ?_
  rotate_left
  · intro w0 hSw
    (try dsimp only at hSw)
    go_simp
    all_goals with_reducible rfl
  try simp only [Act.put, List.getElem_toArray, List.getElem_cons_zero, List.getElem_cons_succ, List.setIfInBounds_toArray, List.set_cons_zero, List.set_cons_succ]
  refine wpAnyH_ready (rs := [5]) (by kernel_rfl) (by simp) (AllReadyH.cons rfl (fun K hK => ?_) AllReadyH.nil)
  go_simp
  go_at_call 82
  refine (logOf_any _ ⟨ep, ld, is, ks, rs.set i ⟨false, lb, (m : Int), rs[i].high⟩, fw, ba⟩ i _ (K10_own.out.pv ⟨HSM.out.isr, HSM.out.known, by simp only [List.length_set]; exact HSM.out.reps, (PSm.crashed HSM.out i ld ⟨false, lb, (m : Int), rs[i].high⟩ HLC.out).bytes⟩) hi9 HSZ.out).mono ?_
  rintro e W11 ⟨v5, rfl, hp5, hb⟩
  obtain ⟨A8, c8, rfl, hc8⟩ := (Sl.of_own hp5).form
  clear hp5
  have hb11 : Below w.heap.size w W11 := below_then HB10.out hb
  have b_bx11 := B10_bx.out.below hb B10_bx.out.lt
  have b_bz11 := B10_bz.out.below hb B10_bz.out.lt
  have b_bl11 := B10_bl.out.below hb B10_bl.out.lt
  have b_out11 := B10_out.out.below hb B10_out.out.lt
  have k_own11 := K10_own.out.keep hb
  have hz11 := hb.size
  have HB11 := Lib.hid hb11
  have B11_bx := Lib.hid b_bx11
  have B11_bz := Lib.hid b_bz11
  have B11_bl := Lib.hid b_bl11
  have B11_out := Lib.hid b_out11
  have K11_own := Lib.hid k_own11
  clear hb11 b_bx11 b_bz11 b_bl11 b_out11 k_own11
  clear B10_bx B10_bz B10_bl B10_out HB10 K10_own
  refine hK.out _ _ ?_ (fun hHeld => ?_)
  · exact ⟨(B11_out.out).cell 0, (B11_out.out).cell 1, (B11_out.out).cell 2, (B11_out.out).cell 3, (B11_out.out).cell 4, (B11_out.out).cell 5, (B11_out.out).cell 6⟩
  clear hK K
  try simp only [Act.put, List.getElem_toArray, List.getElem_cons_zero, List.getElem_cons_succ, List.setIfInBounds_toArray, List.set_cons_zero, List.set_cons_succ]
  refine wpAnyH_take (i := 6) (v := ?_) rfl (by kernel_rfl) (by kernel_rfl) (by kernel_rfl) (fun _ _ _ h => h) (Or.inl ⟨by rfl, ?_⟩) (by assumption) ?_
  rotate_left
  · intro w0 hSw
    (try dsimp only at hSw)
    go_simp
    all_goals with_reducible rfl
  try simp only [Act.put, List.getElem_toArray, List.getElem_cons_zero, List.getElem_cons_succ, List.setIfInBounds_toArray, List.set_cons_zero, List.set_cons_succ]
  refine wpAnyH_take (i := 7) (v := ?_) rfl (by kernel_rfl) (by kernel_rfl) (by kernel_rfl) (fun _ _ _ h => h) (Or.inl ⟨by rfl, ?_⟩) (by assumption) ?_
  rotate_left
  · intro w0 hSw
    (try dsimp only at hSw)
    go_simp
    all_goals with_reducible rfl
  try simp only [Act.put, List.getElem_toArray, List.getElem_cons_zero, List.getElem_cons_succ, List.setIfInBounds_toArray, List.set_cons_zero, List.set_cons_succ]
  refine wpAnyH_take (i := 8) (v := ?_) rfl (by kernel_rfl) (by kernel_rfl) (by kernel_rfl) (fun _ _ _ h => h) (Or.inl ⟨by rfl, ?_⟩) (by assumption) ?_
  rotate_left
  · intro w0 hSw
    (try dsimp only at hSw)
    go_simp
    all_goals with_reducible rfl
  try simp only [Act.put, List.getElem_toArray, List.getElem_cons_zero, List.getElem_cons_succ, List.setIfInBounds_toArray, List.set_cons_zero, List.set_cons_succ]
  obtain ⟨A7, c7, ⟨-, -, -, r3⟩, ⟨-, -, -, rf3⟩, -⟩ := PO.repAt (c := ⟨ep, ld, is, ks, rs.set i ⟨false, lb, (m : Int), rs[i].high⟩, fw, ba⟩) (gr := gr) (cr := d5) (by simpa only [List.length_set] using K11_own.out) i hi9
  (try simp only [List.getElem_set_self] at r3)
  refine wpAnyH_ready (rs := [9]) (by kernel_rfl) (by simp) (AllReadyH.cons rfl (fun K hK => ?_) AllReadyH.nil)
  go_simp
  refine hK.out _ _ ?_ (fun hHeld => ?_)
  · exact ⟨((B11_out.out).far (p := ⟨gr, i * 4 + 3, none⟩) (by show W5.heap.size ≠ gr; omega) _).cell 0, ((B11_out.out).far (p := ⟨gr, i * 4 + 3, none⟩) (by show W5.heap.size ≠ gr; omega) _).cell 1, ((B11_out.out).far (p := ⟨gr, i * 4 + 3, none⟩) (by show W5.heap.size ≠ gr; omega) _).cell 2, ((B11_out.out).far (p := ⟨gr, i * 4 + 3, none⟩) (by show W5.heap.size ≠ gr; omega) _).cell 3, ((B11_out.out).far (p := ⟨gr, i * 4 + 3, none⟩) (by show W5.heap.size ≠ gr; omega) _).cell 4, ((B11_out.out).far (p := ⟨gr, i * 4 + 3, none⟩) (by show W5.heap.size ≠ gr; omega) _).cell 5, ((B11_out.out).far (p := ⟨gr, i * 4 + 3, none⟩) (by show W5.heap.size ≠ gr; omega) _).cell 6⟩
  clear hK K
  refine wpAnyH_done (by kernel_rfl) ?_ _
  clear r3 rf3
  go_upto_region 14 with fail
  have hsz12 := HB11.out.size
  have hb12 : Below w.heap.size w (W11.setCell ⟨gr, i * 4 + 3, none⟩ (.int .i64 (es2.length : Int))) := (HB11.out).setCell (by show w.heap.size ≤ gr; omega) _
  have b_bx12 : Blk (W11.setCell ⟨gr, i * 4 + 3, none⟩ (.int .i64 (es2.length : Int))) (w.heap.size) 26 #[.int .i64 ep, .int .i64 ld, .slice (some ⟨b1, o1, none⟩) is.length c1, .slice (some ⟨b3, o3, none⟩) ks.length c3, .slice (some ⟨b5, o5, none⟩) rs.length c5, .int .i64 fw, .int .i64 ba] := (B11_bx.out).far (p := ⟨gr, i * 4 + 3, none⟩) (by show w.heap.size ≠ gr; omega) _
  have b_bz12 : Blk (W11.setCell ⟨gr, i * 4 + 3, none⟩ (.int .i64 (es2.length : Int))) (w.heap.size + 1) 26 #[.int .i64 0, .int .i64 0, .slice none 0 0, .slice none 0 0, .slice none 0 0, .int .i64 0, .int .i64 0] := (B11_bz.out).far (p := ⟨gr, i * 4 + 3, none⟩) (by show w.heap.size + 1 ≠ gr; omega) _
  have b_bl12 : Blk (W11.setCell ⟨gr, i * 4 + 3, none⟩ (.int .i64 (es2.length : Int))) (W3.heap.size) 42 #[.slice A9 lb.length c9, .int .i64 (m : Int)] := (B11_bl.out).far (p := ⟨gr, i * 4 + 3, none⟩) (by show W3.heap.size ≠ gr; omega) _
  have b_out12 : Blk (W11.setCell ⟨gr, i * 4 + 3, none⟩ (.int .i64 (es2.length : Int))) (W5.heap.size) 26 #[.int .i64 ep, .int .i64 ld, .slice (some ⟨gi, 0, none⟩) is.length d1, .slice (some ⟨gk, 0, none⟩) ks.length d3, .slice (some ⟨gr, 0, none⟩) rs.length d5, .int .i64 fw, .int .i64 ba] := (B11_out.out).far (p := ⟨gr, i * 4 + 3, none⟩) (by show W5.heap.size ≠ gr; omega) _
  have k_own12 := (PO.setHigh K11_own.out hi (es2.length : Int))
  have hz12 : W11.heap.size + 0 ≤ (W11.setCell ⟨gr, i * 4 + 3, none⟩ (.int .i64 (es2.length : Int))).heap.size := by first | omega | (simp; done) | (simp; omega)
  generalize W11.setCell ⟨gr, i * 4 + 3, none⟩ (.int .i64 (es2.length : Int)) = W12 at *
  have HB12 := Lib.hid hb12
  have B12_bx := Lib.hid b_bx12
  have B12_bz := Lib.hid b_bz12
  have B12_bl := Lib.hid b_bl12
  have B12_out := Lib.hid b_out12
  have K12_own := Lib.hid k_own12
  clear hb12 b_bx12 b_bz12 b_bl12 b_out12 k_own12
  clear B11_bx B11_bz B11_bl B11_out HB11 K11_own
  have c_out0 := B12_out.out.cell 0
  have c_out1 := B12_out.out.cell 1
  have c_out2 := B12_out.out.cell 2
  have c_out3 := B12_out.out.cell 3
  have c_out4 := B12_out.out.cell 4
  have c_out5 := B12_out.out.cell 5
  have c_out6 := B12_out.out.cell 6
  have l_out := B12_out.out.lt
  have c_bx0 := B12_bx.out.cell 0
  have c_bx1 := B12_bx.out.cell 1
  have c_bx2 := B12_bx.out.cell 2
  have c_bx3 := B12_bx.out.cell 3
  have c_bx4 := B12_bx.out.cell 4
  have c_bx5 := B12_bx.out.cell 5
  have c_bx6 := B12_bx.out.cell 6
  have l_bx := B12_bx.out.lt
  have c_bz0 := B12_bz.out.cell 0
  have f_bz0 := B12_bz.out.frozen 0
  have c_bz1 := B12_bz.out.cell 1
  have f_bz1 := B12_bz.out.frozen 1
  have c_bz2 := B12_bz.out.cell 2
  have f_bz2 := B12_bz.out.frozen 2
  have c_bz3 := B12_bz.out.cell 3
  have f_bz3 := B12_bz.out.frozen 3
  have c_bz4 := B12_bz.out.cell 4
  have f_bz4 := B12_bz.out.frozen 4
  have c_bz5 := B12_bz.out.cell 5
  have f_bz5 := B12_bz.out.frozen 5
  have c_bz6 := B12_bz.out.cell 6
  have f_bz6 := B12_bz.out.frozen 6
  have l_bz := B12_bz.out.lt
  have c_out0 := B12_out.out.cell 0
  have f_out0 := B12_out.out.frozen 0
  have c_out1 := B12_out.out.cell 1
  have f_out1 := B12_out.out.frozen 1
  have c_out2 := B12_out.out.cell 2
  have f_out2 := B12_out.out.frozen 2
  have c_out3 := B12_out.out.cell 3
  have f_out3 := B12_out.out.frozen 3
  have c_out4 := B12_out.out.cell 4
  have f_out4 := B12_out.out.frozen 4
  have c_out5 := B12_out.out.cell 5
  have f_out5 := B12_out.out.frozen 5
  have c_out6 := B12_out.out.cell 6
  have f_out6 := B12_out.out.frozen 6
  have l_out := B12_out.out.lt
  obtain ⟨t1, tf1⟩ := K12_own.out.knownAt i j3
  (try simp only at t1)
  go_upto_region 15 with fail
  clear c_out0 c_out1 c_out2 c_out3 c_out4 c_out5 c_out6 l_out c_bx0 c_bx1 c_bx2 c_bx3 c_bx4 c_bx5 c_bx6 l_bx c_bz0 f_bz0 c_bz1 f_bz1 c_bz2 f_bz2 c_bz3 f_bz3 c_bz4 f_bz4 c_bz5 f_bz5 c_bz6 f_bz6 l_bz f_out0 f_out1 f_out2 f_out3 f_out4 f_out5 f_out6 t1 tf1
  have hsz13 := HB12.out.size
  have hb13 : Below w.heap.size w (W12.setCell ⟨gk, i, none⟩ (.int .i64 0)) := (HB12.out).setCell (by show w.heap.size ≤ gk; omega) _
  have b_bx13 : Blk (W12.setCell ⟨gk, i, none⟩ (.int .i64 0)) (w.heap.size) 26 #[.int .i64 ep, .int .i64 ld, .slice (some ⟨b1, o1, none⟩) is.length c1, .slice (some ⟨b3, o3, none⟩) ks.length c3, .slice (some ⟨b5, o5, none⟩) rs.length c5, .int .i64 fw, .int .i64 ba] := (B12_bx.out).far (p := ⟨gk, i, none⟩) (by show w.heap.size ≠ gk; omega) _
  have b_bz13 : Blk (W12.setCell ⟨gk, i, none⟩ (.int .i64 0)) (w.heap.size + 1) 26 #[.int .i64 0, .int .i64 0, .slice none 0 0, .slice none 0 0, .slice none 0 0, .int .i64 0, .int .i64 0] := (B12_bz.out).far (p := ⟨gk, i, none⟩) (by show w.heap.size + 1 ≠ gk; omega) _
  have b_bl13 : Blk (W12.setCell ⟨gk, i, none⟩ (.int .i64 0)) (W3.heap.size) 42 #[.slice A9 lb.length c9, .int .i64 (m : Int)] := (B12_bl.out).far (p := ⟨gk, i, none⟩) (by show W3.heap.size ≠ gk; omega) _
  have b_out13 : Blk (W12.setCell ⟨gk, i, none⟩ (.int .i64 0)) (W5.heap.size) 26 #[.int .i64 ep, .int .i64 ld, .slice (some ⟨gi, 0, none⟩) is.length d1, .slice (some ⟨gk, 0, none⟩) ks.length d3, .slice (some ⟨gr, 0, none⟩) rs.length d5, .int .i64 fw, .int .i64 ba] := (B12_out.out).far (p := ⟨gk, i, none⟩) (by show W5.heap.size ≠ gk; omega) _
  have k_own13 := (K12_own.out).setKnown i 0 (Nat.lt_of_le_of_lt (Nat.zero_le _) j3)
  have hz13 : W12.heap.size + 0 ≤ (W12.setCell ⟨gk, i, none⟩ (.int .i64 0)).heap.size := by first | omega | (simp; done) | (simp; omega)
  generalize W12.setCell ⟨gk, i, none⟩ (.int .i64 0) = W13 at *
  have HB13 := Lib.hid hb13
  have B13_bx := Lib.hid b_bx13
  have B13_bz := Lib.hid b_bz13
  have B13_bl := Lib.hid b_bl13
  have B13_out := Lib.hid b_out13
  have K13_own := Lib.hid k_own13
  clear hb13 b_bx13 b_bz13 b_bl13 b_out13 k_own13
  clear B12_bx B12_bz B12_bl B12_out HB12 K12_own
  have c_out0 := B13_out.out.cell 0
  have f_out0 := B13_out.out.frozen 0
  have c_out1 := B13_out.out.cell 1
  have f_out1 := B13_out.out.frozen 1
  have c_out2 := B13_out.out.cell 2
  have f_out2 := B13_out.out.frozen 2
  have c_out3 := B13_out.out.cell 3
  have f_out3 := B13_out.out.frozen 3
  have c_out4 := B13_out.out.cell 4
  have f_out4 := B13_out.out.frozen 4
  have c_out5 := B13_out.out.cell 5
  have f_out5 := B13_out.out.frozen 5
  have c_out6 := B13_out.out.cell 6
  have f_out6 := B13_out.out.frozen 6
  have l_out := B13_out.out.lt
  have c_bx0 := B13_bx.out.cell 0
  have c_bx1 := B13_bx.out.cell 1
  have c_bx2 := B13_bx.out.cell 2
  have c_bx3 := B13_bx.out.cell 3
  have c_bx4 := B13_bx.out.cell 4
  have c_bx5 := B13_bx.out.cell 5
  have c_bx6 := B13_bx.out.cell 6
  have l_bx := B13_bx.out.lt
  have c_bz0 := B13_bz.out.cell 0
  have f_bz0 := B13_bz.out.frozen 0
  have c_bz1 := B13_bz.out.cell 1
  have f_bz1 := B13_bz.out.frozen 1
  have c_bz2 := B13_bz.out.cell 2
  have f_bz2 := B13_bz.out.frozen 2
  have c_bz3 := B13_bz.out.cell 3
  have f_bz3 := B13_bz.out.frozen 3
  have c_bz4 := B13_bz.out.cell 4
  have f_bz4 := B13_bz.out.frozen 4
  have c_bz5 := B13_bz.out.cell 5
  have f_bz5 := B13_bz.out.frozen 5
  have c_bz6 := B13_bz.out.cell 6
  have f_bz6 := B13_bz.out.frozen 6
  have l_bz := B13_bz.out.lt
  go_wp2_with fail
  clear c_out0 f_out0 c_out1 f_out1 c_out2 f_out2 c_out3 f_out3 c_out4 f_out4 c_out5 f_out5 c_out6 f_out6 l_out c_bx0 c_bx1 c_bx2 c_bx3 c_bx4 c_bx5 c_bx6 l_bx c_bz0 f_bz0 c_bz1 f_bz1 c_bz2 f_bz2 c_bz3 f_bz3 c_bz4 f_bz4 c_bz5 f_bz5 c_bz6 f_bz6 l_bz
  have hszF := HB13.out.size
  have hbF : Below w.heap.size w (((((((W13.setCell ⟨w.heap.size + 1, 0, none⟩ (.int .i64 ep)).setCell ⟨w.heap.size + 1, 1, none⟩ (.int .i64 ld)).setCell ⟨w.heap.size + 1, 2, none⟩ (.slice (some ⟨gi, 0, none⟩) is.length d1)).setCell ⟨w.heap.size + 1, 3, none⟩ (.slice (some ⟨gk, 0, none⟩) ks.length d3)).setCell ⟨w.heap.size + 1, 4, none⟩ (.slice (some ⟨gr, 0, none⟩) rs.length d5)).setCell ⟨w.heap.size + 1, 5, none⟩ (.int .i64 fw)).setCell ⟨w.heap.size + 1, 6, none⟩ (.int .i64 ba)) := (((((((HB13.out).setCell (by show w.heap.size ≤ w.heap.size + 1; omega) _).setCell (by show w.heap.size ≤ w.heap.size + 1; omega) _).setCell (by show w.heap.size ≤ w.heap.size + 1; omega) _).setCell (by show w.heap.size ≤ w.heap.size + 1; omega) _).setCell (by show w.heap.size ≤ w.heap.size + 1; omega) _).setCell (by show w.heap.size ≤ w.heap.size + 1; omega) _).setCell (by show w.heap.size ≤ w.heap.size + 1; omega) _
  have b_bxF : Blk (((((((W13.setCell ⟨w.heap.size + 1, 0, none⟩ (.int .i64 ep)).setCell ⟨w.heap.size + 1, 1, none⟩ (.int .i64 ld)).setCell ⟨w.heap.size + 1, 2, none⟩ (.slice (some ⟨gi, 0, none⟩) is.length d1)).setCell ⟨w.heap.size + 1, 3, none⟩ (.slice (some ⟨gk, 0, none⟩) ks.length d3)).setCell ⟨w.heap.size + 1, 4, none⟩ (.slice (some ⟨gr, 0, none⟩) rs.length d5)).setCell ⟨w.heap.size + 1, 5, none⟩ (.int .i64 fw)).setCell ⟨w.heap.size + 1, 6, none⟩ (.int .i64 ba)) (w.heap.size) 26 #[.int .i64 ep, .int .i64 ld, .slice (some ⟨b1, o1, none⟩) is.length c1, .slice (some ⟨b3, o3, none⟩) ks.length c3, .slice (some ⟨b5, o5, none⟩) rs.length c5, .int .i64 fw, .int .i64 ba] := (((((((B13_bx.out).far (p := ⟨w.heap.size + 1, 0, none⟩) (by show w.heap.size ≠ w.heap.size + 1; omega) _).far (p := ⟨w.heap.size + 1, 1, none⟩) (by show w.heap.size ≠ w.heap.size + 1; omega) _).far (p := ⟨w.heap.size + 1, 2, none⟩) (by show w.heap.size ≠ w.heap.size + 1; omega) _).far (p := ⟨w.heap.size + 1, 3, none⟩) (by show w.heap.size ≠ w.heap.size + 1; omega) _).far (p := ⟨w.heap.size + 1, 4, none⟩) (by show w.heap.size ≠ w.heap.size + 1; omega) _).far (p := ⟨w.heap.size + 1, 5, none⟩) (by show w.heap.size ≠ w.heap.size + 1; omega) _).far (p := ⟨w.heap.size + 1, 6, none⟩) (by show w.heap.size ≠ w.heap.size + 1; omega) _
  have b_bzF : Blk (((((((W13.setCell ⟨w.heap.size + 1, 0, none⟩ (.int .i64 ep)).setCell ⟨w.heap.size + 1, 1, none⟩ (.int .i64 ld)).setCell ⟨w.heap.size + 1, 2, none⟩ (.slice (some ⟨gi, 0, none⟩) is.length d1)).setCell ⟨w.heap.size + 1, 3, none⟩ (.slice (some ⟨gk, 0, none⟩) ks.length d3)).setCell ⟨w.heap.size + 1, 4, none⟩ (.slice (some ⟨gr, 0, none⟩) rs.length d5)).setCell ⟨w.heap.size + 1, 5, none⟩ (.int .i64 fw)).setCell ⟨w.heap.size + 1, 6, none⟩ (.int .i64 ba)) (w.heap.size + 1) 26 #[.int .i64 ep, .int .i64 ld, .slice (some ⟨gi, 0, none⟩) is.length d1, .slice (some ⟨gk, 0, none⟩) ks.length d3, .slice (some ⟨gr, 0, none⟩) rs.length d5, .int .i64 fw, .int .i64 ba] := (((((((B13_bz.out).set_ 0 _).set_ 1 _).set_ 2 _).set_ 3 _).set_ 4 _).set_ 5 _).set_ 6 _
  have b_blF : Blk (((((((W13.setCell ⟨w.heap.size + 1, 0, none⟩ (.int .i64 ep)).setCell ⟨w.heap.size + 1, 1, none⟩ (.int .i64 ld)).setCell ⟨w.heap.size + 1, 2, none⟩ (.slice (some ⟨gi, 0, none⟩) is.length d1)).setCell ⟨w.heap.size + 1, 3, none⟩ (.slice (some ⟨gk, 0, none⟩) ks.length d3)).setCell ⟨w.heap.size + 1, 4, none⟩ (.slice (some ⟨gr, 0, none⟩) rs.length d5)).setCell ⟨w.heap.size + 1, 5, none⟩ (.int .i64 fw)).setCell ⟨w.heap.size + 1, 6, none⟩ (.int .i64 ba)) (W3.heap.size) 42 #[.slice A9 lb.length c9, .int .i64 (m : Int)] := (((((((B13_bl.out).far (p := ⟨w.heap.size + 1, 0, none⟩) (by show W3.heap.size ≠ w.heap.size + 1; omega) _).far (p := ⟨w.heap.size + 1, 1, none⟩) (by show W3.heap.size ≠ w.heap.size + 1; omega) _).far (p := ⟨w.heap.size + 1, 2, none⟩) (by show W3.heap.size ≠ w.heap.size + 1; omega) _).far (p := ⟨w.heap.size + 1, 3, none⟩) (by show W3.heap.size ≠ w.heap.size + 1; omega) _).far (p := ⟨w.heap.size + 1, 4, none⟩) (by show W3.heap.size ≠ w.heap.size + 1; omega) _).far (p := ⟨w.heap.size + 1, 5, none⟩) (by show W3.heap.size ≠ w.heap.size + 1; omega) _).far (p := ⟨w.heap.size + 1, 6, none⟩) (by show W3.heap.size ≠ w.heap.size + 1; omega) _
  have b_outF : Blk (((((((W13.setCell ⟨w.heap.size + 1, 0, none⟩ (.int .i64 ep)).setCell ⟨w.heap.size + 1, 1, none⟩ (.int .i64 ld)).setCell ⟨w.heap.size + 1, 2, none⟩ (.slice (some ⟨gi, 0, none⟩) is.length d1)).setCell ⟨w.heap.size + 1, 3, none⟩ (.slice (some ⟨gk, 0, none⟩) ks.length d3)).setCell ⟨w.heap.size + 1, 4, none⟩ (.slice (some ⟨gr, 0, none⟩) rs.length d5)).setCell ⟨w.heap.size + 1, 5, none⟩ (.int .i64 fw)).setCell ⟨w.heap.size + 1, 6, none⟩ (.int .i64 ba)) (W5.heap.size) 26 #[.int .i64 ep, .int .i64 ld, .slice (some ⟨gi, 0, none⟩) is.length d1, .slice (some ⟨gk, 0, none⟩) ks.length d3, .slice (some ⟨gr, 0, none⟩) rs.length d5, .int .i64 fw, .int .i64 ba] := (((((((B13_out.out).far (p := ⟨w.heap.size + 1, 0, none⟩) (by show W5.heap.size ≠ w.heap.size + 1; omega) _).far (p := ⟨w.heap.size + 1, 1, none⟩) (by show W5.heap.size ≠ w.heap.size + 1; omega) _).far (p := ⟨w.heap.size + 1, 2, none⟩) (by show W5.heap.size ≠ w.heap.size + 1; omega) _).far (p := ⟨w.heap.size + 1, 3, none⟩) (by show W5.heap.size ≠ w.heap.size + 1; omega) _).far (p := ⟨w.heap.size + 1, 4, none⟩) (by show W5.heap.size ≠ w.heap.size + 1; omega) _).far (p := ⟨w.heap.size + 1, 5, none⟩) (by show W5.heap.size ≠ w.heap.size + 1; omega) _).far (p := ⟨w.heap.size + 1, 6, none⟩) (by show W5.heap.size ≠ w.heap.size + 1; omega) _
  have k_ownF := (((((((K13_own.out).under (a := ⟨w.heap.size + 1, 0, none⟩) (by (try dsimp only); omega) (.int .i64 ep)).under (a := ⟨w.heap.size + 1, 1, none⟩) (by (try dsimp only); omega) (.int .i64 ld)).under (a := ⟨w.heap.size + 1, 2, none⟩) (by (try dsimp only); omega) (.slice (some ⟨gi, 0, none⟩) is.length d1)).under (a := ⟨w.heap.size + 1, 3, none⟩) (by (try dsimp only); omega) (.slice (some ⟨gk, 0, none⟩) ks.length d3)).under (a := ⟨w.heap.size + 1, 4, none⟩) (by (try dsimp only); omega) (.slice (some ⟨gr, 0, none⟩) rs.length d5)).under (a := ⟨w.heap.size + 1, 5, none⟩) (by (try dsimp only); omega) (.int .i64 fw)).under (a := ⟨w.heap.size + 1, 6, none⟩) (by (try dsimp only); omega) (.int .i64 ba)
  rw [HMI.out]
  have y0 := b_bzF.cell 0
  have y1 := b_bzF.cell 1
  have y2 := b_bzF.cell 2
  have y3 := b_bzF.cell 3
  have y4 := b_bzF.cell 4
  have y5 := b_bzF.cell 5
  have y6 := b_bzF.cell 6
  exact bodyPost_ret (v := .tuple #[.agg #[.int .i64 ep, .int .i64 ld, .slice (some ⟨gi, 0, none⟩) is.length d1, .slice (some ⟨gk, 0, none⟩) ks.length d3, .slice (some ⟨gr, 0, none⟩) rs.length d5, .int .i64 fw, .int .i64 ba], .int .i64 0]) (by simp [results, Try.results55, go_sem, y0, y1, y2, y3, y4, y5, y6]) rfl (⟨_, _, _, rfl, k_ownF.more (by omega), hbF⟩)
set_option maxRecDepth 100000 in
set_option maxHeartbeats 4000000 in
theorem pcrashOf_other_low (v : Value) (c : PartD) (i : Nat) (keep : Nat) (hn : PartOk c) (hi : i < c.reps.length) (hl : c.leader ≠ i) (hu : c.reps[i].up = true) {es2 : List Ent} {m : Nat} {lb : List UInt8} (hlb : c.reps[i].bytes.take m = lb) (hd : dec (c.reps[i].bytes.take (crashN c.reps[i] keep)) = (es2, m)) (hq : ¬ (es2.length : Int) < c.reps[i].high) (w : World) (h : Pv w v c) : Calls Try.prog 55 #[v, .int .i64 i, .int .i64 keep] w (OwnsP ⟨c.epoch, c.leader, c.isr, c.known.set i 0, c.reps.set i ⟨false, lb, (m : Int), min c.reps[i].high (es2.length : Int)⟩, c.few, c.base⟩ w) := by
  have eqk := hn.known
  have eqi := hn.isr
  obtain ⟨xi, xk, xr, rfl, ix, kx, rx, hli, hlk, hlr⟩ := id h
  obtain ⟨A5, c5, rfl, hc5, hx5⟩ := rx.at_
  obtain ⟨A1, c1, rfl, hc1, hx1⟩ := ix.at_
  obtain ⟨A3, c3, rfl, hc3, hx3⟩ := kx.at_
  have H := Lib.hid h
  clear h ix kx rx
  unfold partV at *
  obtain ⟨ep, ld, is, ks, rs, fw, ba⟩ := c
  simp only at *
  have HN := Lib.hid hn
  have HSM := Lib.hid hn.small
  clear hn
  (try simp only at eqk eqi)
  have E1 := Lib.hid eqi
  have E2 := Lib.hid eqk
  have i0 : (0 : Int) ≤ (i : Int) := by omega
  have i1 : (i : Int) < (rs.length : Int) := Int.ofNat_lt.2 hi
  have i2 : (i : Int) < (is.length : Int) := by omega
  have i3 : (i : Int) < (ks.length : Int) := by omega
  have j2 : i < is.length := by omega
  have j3 : i < ks.length := by omega
  clear eqk eqi
  obtain ⟨b5, o5, rfl, hb5, hcell5⟩ := hx5 (Nat.lt_of_le_of_lt (Nat.zero_le _) hi)
  obtain ⟨pv, x0, x1, x2, x3, xb, xl⟩ := hcell5 i hi
  obtain ⟨b1, o1, rfl, hb1, hcell1⟩ := hx1 (by omega)
  have y0 := hcell1 i (by omega)
  obtain ⟨b3, o3, rfl, hb3, hcell3⟩ := hx3 (by omega)
  have u0 := hcell3 i (by omega)
  obtain ⟨A6, c6, rfl, -, -⟩ := xb.at_
  have XB := Lib.hid (And.intro x1 (And.intro x2 xb))
  have XC := Lib.hid (And.intro x0 (And.intro x3 (And.intro y0 u0)))
  clear hcell5 hcell1 hcell3 x0 x1 x2 x3 xb xl y0 u0 hx1 hx3 hx5
  have hup : rs[i].up = true := hu
  have HU := Lib.hid hup
  clear hu hup
  obtain ⟨es, j, hlog⟩ := HN.out.log i hi
  have hlog2 := LogIs.cut (p := crashN rs[i] keep) hlog hd
  rw [hlb] at hlog2
  have HLB := Lib.hid hlb
  have hlc : lb.length ≤ 40000 := by have := hlog2.long; rw [← hlog2.bytes] at this; exact this
  have HLG := Lib.hid hlog
  have HLG2 := Lib.hid hlog2
  have HDC := Lib.hid hd
  have HLC := Lib.hid hlc
  clear hlog hlog2 hd hlc hlb
  have y9 : (ld == (i : Int)) = false := beq_eq_false_iff_ne.2 hl
  clear hl
  have y8 : decide ((es2.length : Int) < rs[i].high) = false := decide_eq_false hq
  have HMI := Lib.hid (show min rs[i].high (es2.length : Int) = rs[i].high by omega)
  clear hq
  go_enter Try.func55, Try.ntmps55
  go_wp2_with fail
  have hb1 : Below w.heap.size w ((w.alloc (.cells #[.int .i64 ep, .int .i64 ld, .slice (some ⟨b1, o1, none⟩) is.length c1, .slice (some ⟨b3, o3, none⟩) ks.length c3, .slice (some ⟨b5, o5, none⟩) rs.length c5, .int .i64 fw, .int .i64 ba] 26)).alloc (.cells #[.int .i64 0, .int .i64 0, .slice none 0 0, .slice none 0 0, .slice none 0 0, .int .i64 0, .int .i64 0] 26)) := ((Below.refl _ _).alloc (by first | omega | (simp; done) | (simp; omega)) _).alloc (by first | omega | (simp; done) | (simp; omega)) _
  have hal1 : Below w.heap.size w ((w.alloc (.cells #[.int .i64 ep, .int .i64 ld, .slice (some ⟨b1, o1, none⟩) is.length c1, .slice (some ⟨b3, o3, none⟩) ks.length c3, .slice (some ⟨b5, o5, none⟩) rs.length c5, .int .i64 fw, .int .i64 ba] 26)).alloc (.cells #[.int .i64 0, .int .i64 0, .slice none 0 0, .slice none 0 0, .slice none 0 0, .int .i64 0, .int .i64 0] 26)) := ((Below.refl _ _).alloc (by first | omega | (simp; done) | (simp; omega)) _).alloc (by first | omega | (simp; done) | (simp; omega)) _
  have b_bx1 : Blk ((w.alloc (.cells #[.int .i64 ep, .int .i64 ld, .slice (some ⟨b1, o1, none⟩) is.length c1, .slice (some ⟨b3, o3, none⟩) ks.length c3, .slice (some ⟨b5, o5, none⟩) rs.length c5, .int .i64 fw, .int .i64 ba] 26)).alloc (.cells #[.int .i64 0, .int .i64 0, .slice none 0 0, .slice none 0 0, .slice none 0 0, .int .i64 0, .int .i64 0] 26)) (w.heap.size) 26 #[.int .i64 ep, .int .i64 ld, .slice (some ⟨b1, o1, none⟩) is.length c1, .slice (some ⟨b3, o3, none⟩) ks.length c3, .slice (some ⟨b5, o5, none⟩) rs.length c5, .int .i64 fw, .int .i64 ba] := (Blk.new_ _ 26 #[.int .i64 ep, .int .i64 ld, .slice (some ⟨b1, o1, none⟩) is.length c1, .slice (some ⟨b3, o3, none⟩) ks.length c3, .slice (some ⟨b5, o5, none⟩) rs.length c5, .int .i64 fw, .int .i64 ba] (by first | rfl | (simp; done) | (simp; omega))).alloc _
  have b_bz1 : Blk ((w.alloc (.cells #[.int .i64 ep, .int .i64 ld, .slice (some ⟨b1, o1, none⟩) is.length c1, .slice (some ⟨b3, o3, none⟩) ks.length c3, .slice (some ⟨b5, o5, none⟩) rs.length c5, .int .i64 fw, .int .i64 ba] 26)).alloc (.cells #[.int .i64 0, .int .i64 0, .slice none 0 0, .slice none 0 0, .slice none 0 0, .int .i64 0, .int .i64 0] 26)) (w.heap.size + 1) 26 #[.int .i64 0, .int .i64 0, .slice none 0 0, .slice none 0 0, .slice none 0 0, .int .i64 0, .int .i64 0] := Blk.new_ _ 26 #[.int .i64 0, .int .i64 0, .slice none 0 0, .slice none 0 0, .slice none 0 0, .int .i64 0, .int .i64 0] (by first | rfl | (simp; done) | (simp; omega))
  have k_v1 := H.out.below hal1
  have hz1 : w.heap.size + 2 ≤ ((w.alloc (.cells #[.int .i64 ep, .int .i64 ld, .slice (some ⟨b1, o1, none⟩) is.length c1, .slice (some ⟨b3, o3, none⟩) ks.length c3, .slice (some ⟨b5, o5, none⟩) rs.length c5, .int .i64 fw, .int .i64 ba] 26)).alloc (.cells #[.int .i64 0, .int .i64 0, .slice none 0 0, .slice none 0 0, .slice none 0 0, .int .i64 0, .int .i64 0] 26)).heap.size := by first | omega | (simp; done) | (simp; omega)
  generalize (w.alloc (.cells #[.int .i64 ep, .int .i64 ld, .slice (some ⟨b1, o1, none⟩) is.length c1, .slice (some ⟨b3, o3, none⟩) ks.length c3, .slice (some ⟨b5, o5, none⟩) rs.length c5, .int .i64 fw, .int .i64 ba] 26)).alloc (.cells #[.int .i64 0, .int .i64 0, .slice none 0 0, .slice none 0 0, .slice none 0 0, .int .i64 0, .int .i64 0] 26) = W1 at *
  have HB1 := Lib.hid hb1
  have B1_bx := Lib.hid b_bx1
  have B1_bz := Lib.hid b_bz1
  have K1_v := Lib.hid k_v1
  clear hb1 b_bx1 b_bz1 k_v1
  clear H
  refine (partFault_ok _ ⟨ep, ld, is, ks, rs, fw, ba⟩ i HN.out hi _ K1_v.out).mono ?_
  rintro e W2 ⟨rfl, hb⟩
  have hb2 : Below w.heap.size w W2 := below_then HB1.out hb
  have b_bx2 := B1_bx.out.below hb B1_bx.out.lt
  have b_bz2 := B1_bz.out.below hb B1_bz.out.lt
  have k_v2 := K1_v.out.below hb
  have hz2 := hb.size
  have HB2 := Lib.hid hb2
  have B2_bx := Lib.hid b_bx2
  have B2_bz := Lib.hid b_bz2
  have K2_v := Lib.hid k_v2
  clear hb2 b_bx2 b_bz2 k_v2
  clear B1_bx B1_bz HB1 K1_v
  have c_bx0 := B2_bx.out.cell 0
  have c_bx1 := B2_bx.out.cell 1
  have c_bx2 := B2_bx.out.cell 2
  have c_bx3 := B2_bx.out.cell 3
  have c_bx4 := B2_bx.out.cell 4
  have c_bx5 := B2_bx.out.cell 5
  have c_bx6 := B2_bx.out.cell 6
  have l_bx := B2_bx.out.lt
  have v0 := (HB2.out.cell (p := ⟨b5, o5 + i * 4, none⟩) hb5).trans XC.out.1
  have v3 := (HB2.out.cell (p := ⟨b5, o5 + i * 4 + 3, none⟩) hb5).trans XC.out.2.1
  have v1 := (HB2.out.cell (p := ⟨b1, o1 + i, none⟩) hb1).trans XC.out.2.2.1
  have v2 := (HB2.out.cell (p := ⟨b3, o3 + i, none⟩) hb3).trans XC.out.2.2.2
  have vl5 := Nat.lt_of_lt_of_le hb5 HB2.out.size
  have vl1 := Nat.lt_of_lt_of_le hb1 HB2.out.size
  have vl3 := Nat.lt_of_lt_of_le hb3 HB2.out.size
  rw [HU.out] at v0
  have v4 := (HB2.out.cell (p := ⟨b5, o5 + i * 4 + 1, none⟩) hb5).trans XB.out.1
  have v5 := (HB2.out.cell (p := ⟨b5, o5 + i * 4 + 2, none⟩) hb5).trans XB.out.2.1
  go_wp2_with fail
  clear c_bx0 c_bx1 c_bx2 c_bx3 c_bx4 c_bx5 c_bx6 l_bx v0 v3 v1 v2 vl5 vl1 vl3 v4 v5
  refine (crashedOf_ok _ _ _ keep _ (XB.out.2.2.below HB2.out) HLG.out (p := crashN rs[i] keep) rfl HDC.out).mono ?_
  rintro e W3 ⟨v5, rfl, hp5, hb⟩
  dsimp only at hp5
  rw [HLB.out] at hp5
  obtain ⟨A9, c9, rfl, hc9⟩ := (Sl.of_own hp5).form
  have HLO := Lib.hid (LgO.mk hp5)
  clear hp5
  have hb3 : Below w.heap.size w W3 := below_then HB2.out hb
  have b_bx3 := B2_bx.out.below hb B2_bx.out.lt
  have b_bz3 := B2_bz.out.below hb B2_bz.out.lt
  have k_v3 := K2_v.out.below hb
  have hz3 := hb.size
  have HB3 := Lib.hid hb3
  have B3_bx := Lib.hid b_bx3
  have B3_bz := Lib.hid b_bz3
  have K3_v := Lib.hid k_v3
  clear hb3 b_bx3 b_bz3 k_v3
  clear B2_bx B2_bz HB2 K2_v
  go_upto_region 7 with fail
  have hsz4 := HB3.out.size
  have hb4 : Below w.heap.size w (W3.alloc (.cells #[.slice A9 lb.length c9, .int .i64 (m : Int)] 42)) := (HB3.out).alloc (by first | omega | (simp; done) | (simp; omega)) _
  have hal4 : Below W3.heap.size W3 (W3.alloc (.cells #[.slice A9 lb.length c9, .int .i64 (m : Int)] 42)) := (Below.refl _ _).alloc (by first | omega | (simp; done) | (simp; omega)) _
  have b_bx4 : Blk (W3.alloc (.cells #[.slice A9 lb.length c9, .int .i64 (m : Int)] 42)) (w.heap.size) 26 #[.int .i64 ep, .int .i64 ld, .slice (some ⟨b1, o1, none⟩) is.length c1, .slice (some ⟨b3, o3, none⟩) ks.length c3, .slice (some ⟨b5, o5, none⟩) rs.length c5, .int .i64 fw, .int .i64 ba] := (B3_bx.out).alloc _
  have b_bz4 : Blk (W3.alloc (.cells #[.slice A9 lb.length c9, .int .i64 (m : Int)] 42)) (w.heap.size + 1) 26 #[.int .i64 0, .int .i64 0, .slice none 0 0, .slice none 0 0, .slice none 0 0, .int .i64 0, .int .i64 0] := (B3_bz.out).alloc _
  have b_bl4 : Blk (W3.alloc (.cells #[.slice A9 lb.length c9, .int .i64 (m : Int)] 42)) (W3.heap.size) 42 #[.slice A9 lb.length c9, .int .i64 (m : Int)] := Blk.new_ _ 42 #[.slice A9 lb.length c9, .int .i64 (m : Int)] (by first | rfl | (simp; done) | (simp; omega))
  have k_v4 := K3_v.out.below hal4
  have k_lg4 := (HLO.out).alloc (.cells #[.slice A9 lb.length c9, .int .i64 (m : Int)] 42)
  have hz4 : W3.heap.size + 1 ≤ (W3.alloc (.cells #[.slice A9 lb.length c9, .int .i64 (m : Int)] 42)).heap.size := by first | omega | (simp; done) | (simp; omega)
  generalize W3.alloc (.cells #[.slice A9 lb.length c9, .int .i64 (m : Int)] 42) = W4 at *
  have HB4 := Lib.hid hb4
  have B4_bx := Lib.hid b_bx4
  have B4_bz := Lib.hid b_bz4
  have B4_bl := Lib.hid b_bl4
  have K4_v := Lib.hid k_v4
  have K4_lg := Lib.hid k_lg4
  clear hb4 b_bx4 b_bz4 b_bl4 k_v4 k_lg4
  clear B3_bx B3_bz HB3 K3_v HLO
  have c_bx0 := B4_bx.out.cell 0
  have c_bx1 := B4_bx.out.cell 1
  have c_bx2 := B4_bx.out.cell 2
  have c_bx3 := B4_bx.out.cell 3
  have c_bx4 := B4_bx.out.cell 4
  have c_bx5 := B4_bx.out.cell 5
  have c_bx6 := B4_bx.out.cell 6
  have l_bx := B4_bx.out.lt
  go_wp2_with fail
  clear c_bx0 c_bx1 c_bx2 c_bx3 c_bx4 c_bx5 c_bx6 l_bx
  refine (refPartCopy_ok (c := ⟨ep, ld, is, ks, rs, fw, ba⟩) (K4_v.out) HSM.out).mono ?_
  rintro e W5 ⟨iv, kv, rv, rfl, ho, hb⟩
  obtain ⟨gi, d1, gk, d3, gr, d5, rfl, rfl, rfl, hgi, hgk, hgr, hgi', hgk', hgr'⟩ := ho.rows (by have := HN.out.isr; have := HN.out.many; simp only at *; omega) (by have := HN.out.known; have := HN.out.many; simp only at *; omega) (by have := HN.out.many; simp only at *; omega)
  unfold partV
  simp only at *
  have HO := Lib.hid ho
  clear ho
  have hb5 : Below w.heap.size w W5 := below_then HB4.out hb
  have b_bx5 := B4_bx.out.below hb B4_bx.out.lt
  have b_bz5 := B4_bz.out.below hb B4_bz.out.lt
  have b_bl5 := B4_bl.out.below hb B4_bl.out.lt
  have k_v5 := K4_v.out.below hb
  have k_lg5 := K4_lg.out.keep hb
  have hz5 := hb.size
  have HB5 := Lib.hid hb5
  have B5_bx := Lib.hid b_bx5
  have B5_bz := Lib.hid b_bz5
  have B5_bl := Lib.hid b_bl5
  have K5_v := Lib.hid k_v5
  have K5_lg := Lib.hid k_lg5
  clear hb5 b_bx5 b_bz5 b_bl5 k_v5 k_lg5
  clear B4_bx B4_bz B4_bl HB4 K4_v K4_lg
  go_upto_region 10 with fail
  have hsz6 := HB5.out.size
  have hb6 : Below w.heap.size w (W5.alloc (.cells #[.int .i64 ep, .int .i64 ld, .slice (some ⟨gi, 0, none⟩) is.length d1, .slice (some ⟨gk, 0, none⟩) ks.length d3, .slice (some ⟨gr, 0, none⟩) rs.length d5, .int .i64 fw, .int .i64 ba] 26)) := (HB5.out).alloc (by first | omega | (simp; done) | (simp; omega)) _
  have hal6 : Below W5.heap.size W5 (W5.alloc (.cells #[.int .i64 ep, .int .i64 ld, .slice (some ⟨gi, 0, none⟩) is.length d1, .slice (some ⟨gk, 0, none⟩) ks.length d3, .slice (some ⟨gr, 0, none⟩) rs.length d5, .int .i64 fw, .int .i64 ba] 26)) := (Below.refl _ _).alloc (by first | omega | (simp; done) | (simp; omega)) _
  have b_bx6 : Blk (W5.alloc (.cells #[.int .i64 ep, .int .i64 ld, .slice (some ⟨gi, 0, none⟩) is.length d1, .slice (some ⟨gk, 0, none⟩) ks.length d3, .slice (some ⟨gr, 0, none⟩) rs.length d5, .int .i64 fw, .int .i64 ba] 26)) (w.heap.size) 26 #[.int .i64 ep, .int .i64 ld, .slice (some ⟨b1, o1, none⟩) is.length c1, .slice (some ⟨b3, o3, none⟩) ks.length c3, .slice (some ⟨b5, o5, none⟩) rs.length c5, .int .i64 fw, .int .i64 ba] := (B5_bx.out).alloc _
  have b_bz6 : Blk (W5.alloc (.cells #[.int .i64 ep, .int .i64 ld, .slice (some ⟨gi, 0, none⟩) is.length d1, .slice (some ⟨gk, 0, none⟩) ks.length d3, .slice (some ⟨gr, 0, none⟩) rs.length d5, .int .i64 fw, .int .i64 ba] 26)) (w.heap.size + 1) 26 #[.int .i64 0, .int .i64 0, .slice none 0 0, .slice none 0 0, .slice none 0 0, .int .i64 0, .int .i64 0] := (B5_bz.out).alloc _
  have b_bl6 : Blk (W5.alloc (.cells #[.int .i64 ep, .int .i64 ld, .slice (some ⟨gi, 0, none⟩) is.length d1, .slice (some ⟨gk, 0, none⟩) ks.length d3, .slice (some ⟨gr, 0, none⟩) rs.length d5, .int .i64 fw, .int .i64 ba] 26)) (W3.heap.size) 42 #[.slice A9 lb.length c9, .int .i64 (m : Int)] := (B5_bl.out).alloc _
  have b_out6 : Blk (W5.alloc (.cells #[.int .i64 ep, .int .i64 ld, .slice (some ⟨gi, 0, none⟩) is.length d1, .slice (some ⟨gk, 0, none⟩) ks.length d3, .slice (some ⟨gr, 0, none⟩) rs.length d5, .int .i64 fw, .int .i64 ba] 26)) (W5.heap.size) 26 #[.int .i64 ep, .int .i64 ld, .slice (some ⟨gi, 0, none⟩) is.length d1, .slice (some ⟨gk, 0, none⟩) ks.length d3, .slice (some ⟨gr, 0, none⟩) rs.length d5, .int .i64 fw, .int .i64 ba] := Blk.new_ _ 26 #[.int .i64 ep, .int .i64 ld, .slice (some ⟨gi, 0, none⟩) is.length d1, .slice (some ⟨gk, 0, none⟩) ks.length d3, .slice (some ⟨gr, 0, none⟩) rs.length d5, .int .i64 fw, .int .i64 ba] (by first | rfl | (simp; done) | (simp; omega))
  have k_lg6 := (K5_lg.out).alloc (.cells #[.int .i64 ep, .int .i64 ld, .slice (some ⟨gi, 0, none⟩) is.length d1, .slice (some ⟨gk, 0, none⟩) ks.length d3, .slice (some ⟨gr, 0, none⟩) rs.length d5, .int .i64 fw, .int .i64 ba] 26)
  have k_own6 := (HO.out).alloc (.cells #[.int .i64 ep, .int .i64 ld, .slice (some ⟨gi, 0, none⟩) is.length d1, .slice (some ⟨gk, 0, none⟩) ks.length d3, .slice (some ⟨gr, 0, none⟩) rs.length d5, .int .i64 fw, .int .i64 ba] 26)
  have hz6 : W5.heap.size + 1 ≤ (W5.alloc (.cells #[.int .i64 ep, .int .i64 ld, .slice (some ⟨gi, 0, none⟩) is.length d1, .slice (some ⟨gk, 0, none⟩) ks.length d3, .slice (some ⟨gr, 0, none⟩) rs.length d5, .int .i64 fw, .int .i64 ba] 26)).heap.size := by first | omega | (simp; done) | (simp; omega)
  generalize W5.alloc (.cells #[.int .i64 ep, .int .i64 ld, .slice (some ⟨gi, 0, none⟩) is.length d1, .slice (some ⟨gk, 0, none⟩) ks.length d3, .slice (some ⟨gr, 0, none⟩) rs.length d5, .int .i64 fw, .int .i64 ba] 26) = W6 at *
  have HB6 := Lib.hid hb6
  have B6_bx := Lib.hid b_bx6
  have B6_bz := Lib.hid b_bz6
  have B6_bl := Lib.hid b_bl6
  have B6_out := Lib.hid b_out6
  have K6_lg := Lib.hid k_lg6
  have K6_own := Lib.hid k_own6
  clear hb6 b_bx6 b_bz6 b_bl6 b_out6 k_lg6 k_own6
  clear B5_bx B5_bz B5_bl HB5 K5_lg HO
  have c_out0 := B6_out.out.cell 0
  have f_out0 := B6_out.out.frozen 0
  have c_out1 := B6_out.out.cell 1
  have f_out1 := B6_out.out.frozen 1
  have c_out2 := B6_out.out.cell 2
  have f_out2 := B6_out.out.frozen 2
  have c_out3 := B6_out.out.cell 3
  have f_out3 := B6_out.out.frozen 3
  have c_out4 := B6_out.out.cell 4
  have f_out4 := B6_out.out.frozen 4
  have c_out5 := B6_out.out.cell 5
  have f_out5 := B6_out.out.frozen 5
  have c_out6 := B6_out.out.cell 6
  have f_out6 := B6_out.out.frozen 6
  have l_out := B6_out.out.lt
  have c_bl0 := B6_bl.out.cell 0
  have c_bl1 := B6_bl.out.cell 1
  have l_bl := B6_bl.out.lt
  obtain ⟨A7, c7, ⟨r0, r1, r2, r3⟩, ⟨rf0, rf1, rf2, rf3⟩, rby⟩ := K6_own.out.repAt i hi
  obtain ⟨s0, sf0⟩ := K6_own.out.isrAt i j2
  obtain ⟨t0, tf0⟩ := K6_own.out.knownAt i j3
  (try simp only at r0 r1 r2 r3 rby s0 t0)
  go_upto_region 12 with fail
  clear c_out0 f_out0 c_out1 f_out1 c_out2 f_out2 c_out3 f_out3 c_out4 f_out4 c_out5 f_out5 c_out6 f_out6 l_out c_bl0 c_bl1 l_bl r0 r1 r2 r3 rf0 rf1 rf2 rf3 rby s0 sf0 t0 tf0
  have hsz7 := HB6.out.size
  have hb7 : Below w.heap.size w (((W6.setCell ⟨gr, i * 4 + 1, none⟩ (.slice A9 lb.length c9)).setCell ⟨gr, i * 4 + 2, none⟩ (.int .i64 (m : Int))).setCell ⟨gr, i * 4, none⟩ (.bool false)) := (((HB6.out).setCell (by show w.heap.size ≤ gr; omega) _).setCell (by show w.heap.size ≤ gr; omega) _).setCell (by show w.heap.size ≤ gr; omega) _
  have b_bx7 : Blk (((W6.setCell ⟨gr, i * 4 + 1, none⟩ (.slice A9 lb.length c9)).setCell ⟨gr, i * 4 + 2, none⟩ (.int .i64 (m : Int))).setCell ⟨gr, i * 4, none⟩ (.bool false)) (w.heap.size) 26 #[.int .i64 ep, .int .i64 ld, .slice (some ⟨b1, o1, none⟩) is.length c1, .slice (some ⟨b3, o3, none⟩) ks.length c3, .slice (some ⟨b5, o5, none⟩) rs.length c5, .int .i64 fw, .int .i64 ba] := (((B6_bx.out).far (p := ⟨gr, i * 4 + 1, none⟩) (by show w.heap.size ≠ gr; omega) _).far (p := ⟨gr, i * 4 + 2, none⟩) (by show w.heap.size ≠ gr; omega) _).far (p := ⟨gr, i * 4, none⟩) (by show w.heap.size ≠ gr; omega) _
  have b_bz7 : Blk (((W6.setCell ⟨gr, i * 4 + 1, none⟩ (.slice A9 lb.length c9)).setCell ⟨gr, i * 4 + 2, none⟩ (.int .i64 (m : Int))).setCell ⟨gr, i * 4, none⟩ (.bool false)) (w.heap.size + 1) 26 #[.int .i64 0, .int .i64 0, .slice none 0 0, .slice none 0 0, .slice none 0 0, .int .i64 0, .int .i64 0] := (((B6_bz.out).far (p := ⟨gr, i * 4 + 1, none⟩) (by show w.heap.size + 1 ≠ gr; omega) _).far (p := ⟨gr, i * 4 + 2, none⟩) (by show w.heap.size + 1 ≠ gr; omega) _).far (p := ⟨gr, i * 4, none⟩) (by show w.heap.size + 1 ≠ gr; omega) _
  have b_bl7 : Blk (((W6.setCell ⟨gr, i * 4 + 1, none⟩ (.slice A9 lb.length c9)).setCell ⟨gr, i * 4 + 2, none⟩ (.int .i64 (m : Int))).setCell ⟨gr, i * 4, none⟩ (.bool false)) (W3.heap.size) 42 #[.slice A9 lb.length c9, .int .i64 (m : Int)] := (((B6_bl.out).far (p := ⟨gr, i * 4 + 1, none⟩) (by show W3.heap.size ≠ gr; omega) _).far (p := ⟨gr, i * 4 + 2, none⟩) (by show W3.heap.size ≠ gr; omega) _).far (p := ⟨gr, i * 4, none⟩) (by show W3.heap.size ≠ gr; omega) _
  have b_out7 : Blk (((W6.setCell ⟨gr, i * 4 + 1, none⟩ (.slice A9 lb.length c9)).setCell ⟨gr, i * 4 + 2, none⟩ (.int .i64 (m : Int))).setCell ⟨gr, i * 4, none⟩ (.bool false)) (W5.heap.size) 26 #[.int .i64 ep, .int .i64 ld, .slice (some ⟨gi, 0, none⟩) is.length d1, .slice (some ⟨gk, 0, none⟩) ks.length d3, .slice (some ⟨gr, 0, none⟩) rs.length d5, .int .i64 fw, .int .i64 ba] := (((B6_out.out).far (p := ⟨gr, i * 4 + 1, none⟩) (by show W5.heap.size ≠ gr; omega) _).far (p := ⟨gr, i * 4 + 2, none⟩) (by show W5.heap.size ≠ gr; omega) _).far (p := ⟨gr, i * 4, none⟩) (by show W5.heap.size ≠ gr; omega) _
  have k_own7 := ((K6_own.out.more (by omega)).crash i hi (m : Int) K6_lg.out.own)
  have hz7 : W6.heap.size + 0 ≤ (((W6.setCell ⟨gr, i * 4 + 1, none⟩ (.slice A9 lb.length c9)).setCell ⟨gr, i * 4 + 2, none⟩ (.int .i64 (m : Int))).setCell ⟨gr, i * 4, none⟩ (.bool false)).heap.size := by first | omega | (simp; done) | (simp; omega)
  generalize ((W6.setCell ⟨gr, i * 4 + 1, none⟩ (.slice A9 lb.length c9)).setCell ⟨gr, i * 4 + 2, none⟩ (.int .i64 (m : Int))).setCell ⟨gr, i * 4, none⟩ (.bool false) = W7 at *
  have HB7 := Lib.hid hb7
  have B7_bx := Lib.hid b_bx7
  have B7_bz := Lib.hid b_bz7
  have B7_bl := Lib.hid b_bl7
  have B7_out := Lib.hid b_out7
  have K7_own := Lib.hid k_own7
  clear hb7 b_bx7 b_bz7 b_bl7 b_out7 k_own7
  clear B6_bx B6_bz B6_bl B6_out HB6 K6_own
  have hi9 : i < (rs.set i ⟨false, lb, (m : Int), rs[i].high⟩).length := by simpa using hi
  have HSZ := Lib.hid (show LogIs (rs.set i ⟨false, lb, (m : Int), rs[i].high⟩)[i].log es2 es2.length by rw [List.getElem_set_self]; exact HLG2.out)
  have c_out0 := B7_out.out.cell 0
  have c_out1 := B7_out.out.cell 1
  have c_out2 := B7_out.out.cell 2
  have c_out3 := B7_out.out.cell 3
  have c_out4 := B7_out.out.cell 4
  have c_out5 := B7_out.out.cell 5
  have c_out6 := B7_out.out.cell 6
  have l_out := B7_out.out.lt
  obtain ⟨A7, c7, ⟨-, -, -, r3⟩, ⟨-, -, -, rf3⟩, -⟩ := PO.repAt (c := ⟨ep, ld, is, ks, rs.set i ⟨false, lb, (m : Int), rs[i].high⟩, fw, ba⟩) (gr := gr) (cr := d5) (by simpa only [List.length_set] using K7_own.out) i hi9
  (try simp only [List.getElem_set_self] at r3)
  go_wp2_with fail
  have c_out0 := B7_out.out.cell 0
  have c_out1 := B7_out.out.cell 1
  have c_out2 := B7_out.out.cell 2
  have c_out3 := B7_out.out.cell 3
  have c_out4 := B7_out.out.cell 4
  have c_out5 := B7_out.out.cell 5
  have c_out6 := B7_out.out.cell 6
  have l_out := B7_out.out.lt
  refine wp_region_held_drew (S := fun w0 => w0.cell? ⟨W5.heap.size, 0, none⟩ = some (.int .i64 ep) ∧ w0.cell? ⟨W5.heap.size, 1, none⟩ = some (.int .i64 ld) ∧ w0.cell? ⟨W5.heap.size, 2, none⟩ = some (.slice (some ⟨gi, 0, none⟩) is.length d1) ∧ w0.cell? ⟨W5.heap.size, 3, none⟩ = some (.slice (some ⟨gk, 0, none⟩) ks.length d3) ∧ w0.cell? ⟨W5.heap.size, 4, none⟩ = some (.slice (some ⟨gr, 0, none⟩) rs.length d5) ∧ w0.cell? ⟨W5.heap.size, 5, none⟩ = some (.int .i64 fw) ∧ w0.cell? ⟨W5.heap.size, 6, none⟩ = some (.int .i64 ba) ∧ w0.cell? ⟨gr, i * 4 + 3, none⟩ = some (.int .i64 rs[i].high)) (by kernel_rfl) ?_ (fun hHeld => ?_)
  · exact ⟨c_out0, c_out1, c_out2, c_out3, c_out4, c_out5, c_out6, r3⟩
  clear c_out0 c_out1 c_out2 c_out3 c_out4 c_out5 c_out6 l_out r3 rf3
  generalize hd : World.drew W7 = W8 at *
  have hb : Below W7.heap.size W7 W8 := by rw [← hd]; exact (Below.refl _ _).drew
  have hb8 : Below w.heap.size w W8 := below_then HB7.out hb
  have b_bx8 := B7_bx.out.below hb B7_bx.out.lt
  have b_bz8 := B7_bz.out.below hb B7_bz.out.lt
  have b_bl8 := B7_bl.out.below hb B7_bl.out.lt
  have b_out8 := B7_out.out.below hb B7_out.out.lt
  have k_own8 := K7_own.out.keep hb
  have hz8 := hb.size
  have HB8 := Lib.hid hb8
  have B8_bx := Lib.hid b_bx8
  have B8_bz := Lib.hid b_bz8
  have B8_bl := Lib.hid b_bl8
  have B8_out := Lib.hid b_out8
  have K8_own := Lib.hid k_own8
  clear hb8 b_bx8 b_bz8 b_bl8 b_out8 k_own8
  clear B7_bx B7_bz B7_bl B7_out HB7 K7_own
  clear hd hb
  refine wpAnyH_take (i := 0) (v := ?_) rfl (by kernel_rfl) (by kernel_rfl) (by kernel_rfl) (fun _ _ _ h => h) (Or.inl ⟨by rfl, ?_⟩) (by assumption) ?_
  rotate_left
  · intro w0 hSw
    (try dsimp only at hSw)
    go_simp
    all_goals with_reducible rfl
  try simp only [Act.put, List.getElem_toArray, List.getElem_cons_zero, List.setIfInBounds_toArray, List.set_cons_zero, List.set_cons_succ]
  refine wpAnyH_take (i := 1) (v := ?_) rfl (by kernel_rfl) (by kernel_rfl) (by kernel_rfl) (fun _ _ _ h => h) (Or.inl ⟨by rfl, ?_⟩) (by assumption) ?_
  rotate_left
  · intro w0 hSw
    (try dsimp only at hSw)
    go_simp
    all_goals with_reducible rfl
  try simp only [Act.put, List.getElem_toArray, List.getElem_cons_zero, List.getElem_cons_succ, List.setIfInBounds_toArray, List.set_cons_zero, List.set_cons_succ]
  refine wpAnyH_take (i := 2) (v := ?_) rfl (by kernel_rfl) (by kernel_rfl) (by kernel_rfl) (fun _ _ _ h => h) (Or.inl ⟨by rfl, ?_⟩) (by assumption) ?_
  rotate_left
  · intro w0 hSw
    (try dsimp only at hSw)
    go_simp
    all_goals with_reducible rfl
  try simp only [Act.put, List.getElem_toArray, List.getElem_cons_zero, List.getElem_cons_succ, List.setIfInBounds_toArray, List.set_cons_zero, List.set_cons_succ]
  refine wpAnyH_take (i := 3) (v := ?_) rfl (by kernel_rfl) (by kernel_rfl) (by kernel_rfl) (fun _ _ _ h => h) (Or.inl ⟨by rfl, ?_⟩) (by assumption) ?_
  rotate_left
  · intro w0 hSw
    (try dsimp only at hSw)
    go_simp
    all_goals with_reducible rfl
  try simp only [Act.put, List.getElem_toArray, List.getElem_cons_zero, List.getElem_cons_succ, List.setIfInBounds_toArray, List.set_cons_zero, List.set_cons_succ]
  refine wpAnyH_take (i := 4) (v := ?_) rfl (by kernel_rfl) (by kernel_rfl) (by kernel_rfl) (fun _ _ _ h => h) (Or.inl ⟨by rfl, ?_⟩) (by assumption) ?_
  rotate_left
  · intro w0 hSw
    (try dsimp only at hSw)
    go_simp
    all_goals with_reducible rfl
  try simp only [Act.put, List.getElem_toArray, List.getElem_cons_zero, List.getElem_cons_succ, List.setIfInBounds_toArray, List.set_cons_zero, List.set_cons_succ]
  refine wpAnyH_take (i := 5) (v := ?_) rfl (by kernel_rfl) (by kernel_rfl) (by kernel_rfl) (fun _ _ _ h => h) (Or.inl ⟨by rfl, ?_⟩) (by assumption) ?_
  rotate_left
  · intro w0 hSw
    (try dsimp only at hSw)
    go_simp
    all_goals with_reducible rfl
  try simp only [Act.put, List.getElem_toArray, List.getElem_cons_zero, List.getElem_cons_succ, List.setIfInBounds_toArray, List.set_cons_zero, List.set_cons_succ]
  refine wpAnyH_take (i := 6) (v := ?_) rfl (by kernel_rfl) (by kernel_rfl) (by kernel_rfl) (fun _ _ _ h => h) (Or.inl ⟨by rfl, ?_⟩) (by assumption) ?_
  rotate_left
  · intro w0 hSw
    (try dsimp only at hSw)
    go_simp
    all_goals with_reducible rfl
  try simp only [Act.put, List.getElem_toArray, List.getElem_cons_zero, List.getElem_cons_succ, List.setIfInBounds_toArray, List.set_cons_zero, List.set_cons_succ]
  refine wpAnyH_take (i := 7) (v := ?_) rfl (by kernel_rfl) (by kernel_rfl) (by kernel_rfl) (fun _ _ _ h => h) (Or.inl ⟨by rfl, ?_⟩) (by assumption) ?_
  rotate_left
  · intro w0 hSw
    (try dsimp only at hSw)
    go_simp
    all_goals with_reducible rfl
  try simp only [Act.put, List.getElem_toArray, List.getElem_cons_zero, List.getElem_cons_succ, List.setIfInBounds_toArray, List.set_cons_zero, List.set_cons_succ]
  refine wpAnyH_ready (rs := [8]) (by kernel_rfl) (by simp) (AllReadyH.cons rfl (fun K hK => ?_) AllReadyH.nil)
  go_simp
  go_at_call 82
  refine (logOf_any _ ⟨ep, ld, is, ks, rs.set i ⟨false, lb, (m : Int), rs[i].high⟩, fw, ba⟩ i _ (K8_own.out.pv ⟨HSM.out.isr, HSM.out.known, by simp only [List.length_set]; exact HSM.out.reps, (PSm.crashed HSM.out i ld ⟨false, lb, (m : Int), rs[i].high⟩ HLC.out).bytes⟩) hi9 HSZ.out).mono ?_
  rintro e W9 ⟨v5, rfl, hp5, hb⟩
  obtain ⟨A8, c8, rfl, hc8⟩ := (Sl.of_own hp5).form
  clear hp5
  have hb9 : Below w.heap.size w W9 := below_then HB8.out hb
  have b_bx9 := B8_bx.out.below hb B8_bx.out.lt
  have b_bz9 := B8_bz.out.below hb B8_bz.out.lt
  have b_bl9 := B8_bl.out.below hb B8_bl.out.lt
  have b_out9 := B8_out.out.below hb B8_out.out.lt
  have k_own9 := K8_own.out.keep hb
  have hz9 := hb.size
  have HB9 := Lib.hid hb9
  have B9_bx := Lib.hid b_bx9
  have B9_bz := Lib.hid b_bz9
  have B9_bl := Lib.hid b_bl9
  have B9_out := Lib.hid b_out9
  have K9_own := Lib.hid k_own9
  clear hb9 b_bx9 b_bz9 b_bl9 b_out9 k_own9
  clear B8_bx B8_bz B8_bl B8_out HB8 K8_own
  obtain ⟨A7, c7, ⟨-, -, -, r3⟩, ⟨-, -, -, rf3⟩, -⟩ := PO.repAt (c := ⟨ep, ld, is, ks, rs.set i ⟨false, lb, (m : Int), rs[i].high⟩, fw, ba⟩) (gr := gr) (cr := d5) (by simpa only [List.length_set] using K9_own.out) i hi9
  (try simp only [List.getElem_set_self] at r3)
  refine hK.out _ _ ?_ (fun hHeld => ?_)
  · exact ⟨(B9_out.out).cell 0, (B9_out.out).cell 1, (B9_out.out).cell 2, (B9_out.out).cell 3, (B9_out.out).cell 4, (B9_out.out).cell 5, (B9_out.out).cell 6, r3⟩
  clear hK K
  try simp only [Act.put, List.getElem_toArray, List.getElem_cons_zero, List.getElem_cons_succ, List.setIfInBounds_toArray, List.set_cons_zero, List.set_cons_succ]
  refine wpAnyH_take (i := 9) (v := ?_) rfl (by kernel_rfl) (by kernel_rfl) (by kernel_rfl) (fun _ _ _ h => h) (Or.inl ⟨by rfl, ?_⟩) (by assumption) ?_
  rotate_left
  · intro w0 hSw
    (try dsimp only at hSw)
    go_simp
    all_goals with_reducible rfl
  try simp only [Act.put, List.getElem_toArray, List.getElem_cons_zero, List.getElem_cons_succ, List.setIfInBounds_toArray, List.set_cons_zero, List.set_cons_succ]
  refine wpAnyH_take (i := 10) (v := ?_) rfl (by kernel_rfl) (by kernel_rfl) (by kernel_rfl) (fun _ _ _ h => h) (Or.inl ⟨by rfl, ?_⟩) (by assumption) ?_
  rotate_left
  · intro w0 hSw
    (try dsimp only at hSw)
    go_simp
    all_goals with_reducible rfl
  try simp only [Act.put, List.getElem_toArray, List.getElem_cons_zero, List.getElem_cons_succ, List.setIfInBounds_toArray, List.set_cons_zero, List.set_cons_succ]
  refine wpAnyH_done (by kernel_rfl) ?_ _
  have c_out0 := B9_out.out.cell 0
  have c_out1 := B9_out.out.cell 1
  have c_out2 := B9_out.out.cell 2
  have c_out3 := B9_out.out.cell 3
  have c_out4 := B9_out.out.cell 4
  have c_out5 := B9_out.out.cell 5
  have c_out6 := B9_out.out.cell 6
  have l_out := B9_out.out.lt
  have c_bx0 := B9_bx.out.cell 0
  have c_bx1 := B9_bx.out.cell 1
  have c_bx2 := B9_bx.out.cell 2
  have c_bx3 := B9_bx.out.cell 3
  have c_bx4 := B9_bx.out.cell 4
  have c_bx5 := B9_bx.out.cell 5
  have c_bx6 := B9_bx.out.cell 6
  have l_bx := B9_bx.out.lt
  have c_bz0 := B9_bz.out.cell 0
  have f_bz0 := B9_bz.out.frozen 0
  have c_bz1 := B9_bz.out.cell 1
  have f_bz1 := B9_bz.out.frozen 1
  have c_bz2 := B9_bz.out.cell 2
  have f_bz2 := B9_bz.out.frozen 2
  have c_bz3 := B9_bz.out.cell 3
  have f_bz3 := B9_bz.out.frozen 3
  have c_bz4 := B9_bz.out.cell 4
  have f_bz4 := B9_bz.out.frozen 4
  have c_bz5 := B9_bz.out.cell 5
  have f_bz5 := B9_bz.out.frozen 5
  have c_bz6 := B9_bz.out.cell 6
  have f_bz6 := B9_bz.out.frozen 6
  have l_bz := B9_bz.out.lt
  have c_out0 := B9_out.out.cell 0
  have f_out0 := B9_out.out.frozen 0
  have c_out1 := B9_out.out.cell 1
  have f_out1 := B9_out.out.frozen 1
  have c_out2 := B9_out.out.cell 2
  have f_out2 := B9_out.out.frozen 2
  have c_out3 := B9_out.out.cell 3
  have f_out3 := B9_out.out.frozen 3
  have c_out4 := B9_out.out.cell 4
  have f_out4 := B9_out.out.frozen 4
  have c_out5 := B9_out.out.cell 5
  have f_out5 := B9_out.out.frozen 5
  have c_out6 := B9_out.out.cell 6
  have f_out6 := B9_out.out.frozen 6
  have l_out := B9_out.out.lt
  obtain ⟨t1, tf1⟩ := K9_own.out.knownAt i j3
  (try simp only at t1)
  go_upto_region 15 with fail
  clear r3 rf3 c_out0 c_out1 c_out2 c_out3 c_out4 c_out5 c_out6 l_out c_bx0 c_bx1 c_bx2 c_bx3 c_bx4 c_bx5 c_bx6 l_bx c_bz0 f_bz0 c_bz1 f_bz1 c_bz2 f_bz2 c_bz3 f_bz3 c_bz4 f_bz4 c_bz5 f_bz5 c_bz6 f_bz6 l_bz f_out0 f_out1 f_out2 f_out3 f_out4 f_out5 f_out6 t1 tf1
  have hsz10 := HB9.out.size
  have hb10 : Below w.heap.size w (W9.setCell ⟨gk, i, none⟩ (.int .i64 0)) := (HB9.out).setCell (by show w.heap.size ≤ gk; omega) _
  have b_bx10 : Blk (W9.setCell ⟨gk, i, none⟩ (.int .i64 0)) (w.heap.size) 26 #[.int .i64 ep, .int .i64 ld, .slice (some ⟨b1, o1, none⟩) is.length c1, .slice (some ⟨b3, o3, none⟩) ks.length c3, .slice (some ⟨b5, o5, none⟩) rs.length c5, .int .i64 fw, .int .i64 ba] := (B9_bx.out).far (p := ⟨gk, i, none⟩) (by show w.heap.size ≠ gk; omega) _
  have b_bz10 : Blk (W9.setCell ⟨gk, i, none⟩ (.int .i64 0)) (w.heap.size + 1) 26 #[.int .i64 0, .int .i64 0, .slice none 0 0, .slice none 0 0, .slice none 0 0, .int .i64 0, .int .i64 0] := (B9_bz.out).far (p := ⟨gk, i, none⟩) (by show w.heap.size + 1 ≠ gk; omega) _
  have b_bl10 : Blk (W9.setCell ⟨gk, i, none⟩ (.int .i64 0)) (W3.heap.size) 42 #[.slice A9 lb.length c9, .int .i64 (m : Int)] := (B9_bl.out).far (p := ⟨gk, i, none⟩) (by show W3.heap.size ≠ gk; omega) _
  have b_out10 : Blk (W9.setCell ⟨gk, i, none⟩ (.int .i64 0)) (W5.heap.size) 26 #[.int .i64 ep, .int .i64 ld, .slice (some ⟨gi, 0, none⟩) is.length d1, .slice (some ⟨gk, 0, none⟩) ks.length d3, .slice (some ⟨gr, 0, none⟩) rs.length d5, .int .i64 fw, .int .i64 ba] := (B9_out.out).far (p := ⟨gk, i, none⟩) (by show W5.heap.size ≠ gk; omega) _
  have k_own10 := (K9_own.out).setKnown i 0 (Nat.lt_of_le_of_lt (Nat.zero_le _) j3)
  have hz10 : W9.heap.size + 0 ≤ (W9.setCell ⟨gk, i, none⟩ (.int .i64 0)).heap.size := by first | omega | (simp; done) | (simp; omega)
  generalize W9.setCell ⟨gk, i, none⟩ (.int .i64 0) = W10 at *
  have HB10 := Lib.hid hb10
  have B10_bx := Lib.hid b_bx10
  have B10_bz := Lib.hid b_bz10
  have B10_bl := Lib.hid b_bl10
  have B10_out := Lib.hid b_out10
  have K10_own := Lib.hid k_own10
  clear hb10 b_bx10 b_bz10 b_bl10 b_out10 k_own10
  clear B9_bx B9_bz B9_bl B9_out HB9 K9_own
  have c_out0 := B10_out.out.cell 0
  have f_out0 := B10_out.out.frozen 0
  have c_out1 := B10_out.out.cell 1
  have f_out1 := B10_out.out.frozen 1
  have c_out2 := B10_out.out.cell 2
  have f_out2 := B10_out.out.frozen 2
  have c_out3 := B10_out.out.cell 3
  have f_out3 := B10_out.out.frozen 3
  have c_out4 := B10_out.out.cell 4
  have f_out4 := B10_out.out.frozen 4
  have c_out5 := B10_out.out.cell 5
  have f_out5 := B10_out.out.frozen 5
  have c_out6 := B10_out.out.cell 6
  have f_out6 := B10_out.out.frozen 6
  have l_out := B10_out.out.lt
  have c_bx0 := B10_bx.out.cell 0
  have c_bx1 := B10_bx.out.cell 1
  have c_bx2 := B10_bx.out.cell 2
  have c_bx3 := B10_bx.out.cell 3
  have c_bx4 := B10_bx.out.cell 4
  have c_bx5 := B10_bx.out.cell 5
  have c_bx6 := B10_bx.out.cell 6
  have l_bx := B10_bx.out.lt
  have c_bz0 := B10_bz.out.cell 0
  have f_bz0 := B10_bz.out.frozen 0
  have c_bz1 := B10_bz.out.cell 1
  have f_bz1 := B10_bz.out.frozen 1
  have c_bz2 := B10_bz.out.cell 2
  have f_bz2 := B10_bz.out.frozen 2
  have c_bz3 := B10_bz.out.cell 3
  have f_bz3 := B10_bz.out.frozen 3
  have c_bz4 := B10_bz.out.cell 4
  have f_bz4 := B10_bz.out.frozen 4
  have c_bz5 := B10_bz.out.cell 5
  have f_bz5 := B10_bz.out.frozen 5
  have c_bz6 := B10_bz.out.cell 6
  have f_bz6 := B10_bz.out.frozen 6
  have l_bz := B10_bz.out.lt
  go_wp2_with fail
  clear c_out0 f_out0 c_out1 f_out1 c_out2 f_out2 c_out3 f_out3 c_out4 f_out4 c_out5 f_out5 c_out6 f_out6 l_out c_bx0 c_bx1 c_bx2 c_bx3 c_bx4 c_bx5 c_bx6 l_bx c_bz0 f_bz0 c_bz1 f_bz1 c_bz2 f_bz2 c_bz3 f_bz3 c_bz4 f_bz4 c_bz5 f_bz5 c_bz6 f_bz6 l_bz
  have hszF := HB10.out.size
  have hbF : Below w.heap.size w (((((((W10.setCell ⟨w.heap.size + 1, 0, none⟩ (.int .i64 ep)).setCell ⟨w.heap.size + 1, 1, none⟩ (.int .i64 ld)).setCell ⟨w.heap.size + 1, 2, none⟩ (.slice (some ⟨gi, 0, none⟩) is.length d1)).setCell ⟨w.heap.size + 1, 3, none⟩ (.slice (some ⟨gk, 0, none⟩) ks.length d3)).setCell ⟨w.heap.size + 1, 4, none⟩ (.slice (some ⟨gr, 0, none⟩) rs.length d5)).setCell ⟨w.heap.size + 1, 5, none⟩ (.int .i64 fw)).setCell ⟨w.heap.size + 1, 6, none⟩ (.int .i64 ba)) := (((((((HB10.out).setCell (by show w.heap.size ≤ w.heap.size + 1; omega) _).setCell (by show w.heap.size ≤ w.heap.size + 1; omega) _).setCell (by show w.heap.size ≤ w.heap.size + 1; omega) _).setCell (by show w.heap.size ≤ w.heap.size + 1; omega) _).setCell (by show w.heap.size ≤ w.heap.size + 1; omega) _).setCell (by show w.heap.size ≤ w.heap.size + 1; omega) _).setCell (by show w.heap.size ≤ w.heap.size + 1; omega) _
  have b_bxF : Blk (((((((W10.setCell ⟨w.heap.size + 1, 0, none⟩ (.int .i64 ep)).setCell ⟨w.heap.size + 1, 1, none⟩ (.int .i64 ld)).setCell ⟨w.heap.size + 1, 2, none⟩ (.slice (some ⟨gi, 0, none⟩) is.length d1)).setCell ⟨w.heap.size + 1, 3, none⟩ (.slice (some ⟨gk, 0, none⟩) ks.length d3)).setCell ⟨w.heap.size + 1, 4, none⟩ (.slice (some ⟨gr, 0, none⟩) rs.length d5)).setCell ⟨w.heap.size + 1, 5, none⟩ (.int .i64 fw)).setCell ⟨w.heap.size + 1, 6, none⟩ (.int .i64 ba)) (w.heap.size) 26 #[.int .i64 ep, .int .i64 ld, .slice (some ⟨b1, o1, none⟩) is.length c1, .slice (some ⟨b3, o3, none⟩) ks.length c3, .slice (some ⟨b5, o5, none⟩) rs.length c5, .int .i64 fw, .int .i64 ba] := (((((((B10_bx.out).far (p := ⟨w.heap.size + 1, 0, none⟩) (by show w.heap.size ≠ w.heap.size + 1; omega) _).far (p := ⟨w.heap.size + 1, 1, none⟩) (by show w.heap.size ≠ w.heap.size + 1; omega) _).far (p := ⟨w.heap.size + 1, 2, none⟩) (by show w.heap.size ≠ w.heap.size + 1; omega) _).far (p := ⟨w.heap.size + 1, 3, none⟩) (by show w.heap.size ≠ w.heap.size + 1; omega) _).far (p := ⟨w.heap.size + 1, 4, none⟩) (by show w.heap.size ≠ w.heap.size + 1; omega) _).far (p := ⟨w.heap.size + 1, 5, none⟩) (by show w.heap.size ≠ w.heap.size + 1; omega) _).far (p := ⟨w.heap.size + 1, 6, none⟩) (by show w.heap.size ≠ w.heap.size + 1; omega) _
  have b_bzF : Blk (((((((W10.setCell ⟨w.heap.size + 1, 0, none⟩ (.int .i64 ep)).setCell ⟨w.heap.size + 1, 1, none⟩ (.int .i64 ld)).setCell ⟨w.heap.size + 1, 2, none⟩ (.slice (some ⟨gi, 0, none⟩) is.length d1)).setCell ⟨w.heap.size + 1, 3, none⟩ (.slice (some ⟨gk, 0, none⟩) ks.length d3)).setCell ⟨w.heap.size + 1, 4, none⟩ (.slice (some ⟨gr, 0, none⟩) rs.length d5)).setCell ⟨w.heap.size + 1, 5, none⟩ (.int .i64 fw)).setCell ⟨w.heap.size + 1, 6, none⟩ (.int .i64 ba)) (w.heap.size + 1) 26 #[.int .i64 ep, .int .i64 ld, .slice (some ⟨gi, 0, none⟩) is.length d1, .slice (some ⟨gk, 0, none⟩) ks.length d3, .slice (some ⟨gr, 0, none⟩) rs.length d5, .int .i64 fw, .int .i64 ba] := (((((((B10_bz.out).set_ 0 _).set_ 1 _).set_ 2 _).set_ 3 _).set_ 4 _).set_ 5 _).set_ 6 _
  have b_blF : Blk (((((((W10.setCell ⟨w.heap.size + 1, 0, none⟩ (.int .i64 ep)).setCell ⟨w.heap.size + 1, 1, none⟩ (.int .i64 ld)).setCell ⟨w.heap.size + 1, 2, none⟩ (.slice (some ⟨gi, 0, none⟩) is.length d1)).setCell ⟨w.heap.size + 1, 3, none⟩ (.slice (some ⟨gk, 0, none⟩) ks.length d3)).setCell ⟨w.heap.size + 1, 4, none⟩ (.slice (some ⟨gr, 0, none⟩) rs.length d5)).setCell ⟨w.heap.size + 1, 5, none⟩ (.int .i64 fw)).setCell ⟨w.heap.size + 1, 6, none⟩ (.int .i64 ba)) (W3.heap.size) 42 #[.slice A9 lb.length c9, .int .i64 (m : Int)] := (((((((B10_bl.out).far (p := ⟨w.heap.size + 1, 0, none⟩) (by show W3.heap.size ≠ w.heap.size + 1; omega) _).far (p := ⟨w.heap.size + 1, 1, none⟩) (by show W3.heap.size ≠ w.heap.size + 1; omega) _).far (p := ⟨w.heap.size + 1, 2, none⟩) (by show W3.heap.size ≠ w.heap.size + 1; omega) _).far (p := ⟨w.heap.size + 1, 3, none⟩) (by show W3.heap.size ≠ w.heap.size + 1; omega) _).far (p := ⟨w.heap.size + 1, 4, none⟩) (by show W3.heap.size ≠ w.heap.size + 1; omega) _).far (p := ⟨w.heap.size + 1, 5, none⟩) (by show W3.heap.size ≠ w.heap.size + 1; omega) _).far (p := ⟨w.heap.size + 1, 6, none⟩) (by show W3.heap.size ≠ w.heap.size + 1; omega) _
  have b_outF : Blk (((((((W10.setCell ⟨w.heap.size + 1, 0, none⟩ (.int .i64 ep)).setCell ⟨w.heap.size + 1, 1, none⟩ (.int .i64 ld)).setCell ⟨w.heap.size + 1, 2, none⟩ (.slice (some ⟨gi, 0, none⟩) is.length d1)).setCell ⟨w.heap.size + 1, 3, none⟩ (.slice (some ⟨gk, 0, none⟩) ks.length d3)).setCell ⟨w.heap.size + 1, 4, none⟩ (.slice (some ⟨gr, 0, none⟩) rs.length d5)).setCell ⟨w.heap.size + 1, 5, none⟩ (.int .i64 fw)).setCell ⟨w.heap.size + 1, 6, none⟩ (.int .i64 ba)) (W5.heap.size) 26 #[.int .i64 ep, .int .i64 ld, .slice (some ⟨gi, 0, none⟩) is.length d1, .slice (some ⟨gk, 0, none⟩) ks.length d3, .slice (some ⟨gr, 0, none⟩) rs.length d5, .int .i64 fw, .int .i64 ba] := (((((((B10_out.out).far (p := ⟨w.heap.size + 1, 0, none⟩) (by show W5.heap.size ≠ w.heap.size + 1; omega) _).far (p := ⟨w.heap.size + 1, 1, none⟩) (by show W5.heap.size ≠ w.heap.size + 1; omega) _).far (p := ⟨w.heap.size + 1, 2, none⟩) (by show W5.heap.size ≠ w.heap.size + 1; omega) _).far (p := ⟨w.heap.size + 1, 3, none⟩) (by show W5.heap.size ≠ w.heap.size + 1; omega) _).far (p := ⟨w.heap.size + 1, 4, none⟩) (by show W5.heap.size ≠ w.heap.size + 1; omega) _).far (p := ⟨w.heap.size + 1, 5, none⟩) (by show W5.heap.size ≠ w.heap.size + 1; omega) _).far (p := ⟨w.heap.size + 1, 6, none⟩) (by show W5.heap.size ≠ w.heap.size + 1; omega) _
  have k_ownF := (((((((K10_own.out).under (a := ⟨w.heap.size + 1, 0, none⟩) (by (try dsimp only); omega) (.int .i64 ep)).under (a := ⟨w.heap.size + 1, 1, none⟩) (by (try dsimp only); omega) (.int .i64 ld)).under (a := ⟨w.heap.size + 1, 2, none⟩) (by (try dsimp only); omega) (.slice (some ⟨gi, 0, none⟩) is.length d1)).under (a := ⟨w.heap.size + 1, 3, none⟩) (by (try dsimp only); omega) (.slice (some ⟨gk, 0, none⟩) ks.length d3)).under (a := ⟨w.heap.size + 1, 4, none⟩) (by (try dsimp only); omega) (.slice (some ⟨gr, 0, none⟩) rs.length d5)).under (a := ⟨w.heap.size + 1, 5, none⟩) (by (try dsimp only); omega) (.int .i64 fw)).under (a := ⟨w.heap.size + 1, 6, none⟩) (by (try dsimp only); omega) (.int .i64 ba)
  rw [HMI.out]
  have y0 := b_bzF.cell 0
  have y1 := b_bzF.cell 1
  have y2 := b_bzF.cell 2
  have y3 := b_bzF.cell 3
  have y4 := b_bzF.cell 4
  have y5 := b_bzF.cell 5
  have y6 := b_bzF.cell 6
  exact bodyPost_ret (v := .tuple #[.agg #[.int .i64 ep, .int .i64 ld, .slice (some ⟨gi, 0, none⟩) is.length d1, .slice (some ⟨gk, 0, none⟩) ks.length d3, .slice (some ⟨gr, 0, none⟩) rs.length d5, .int .i64 fw, .int .i64 ba], .int .i64 0]) (by simp [results, Try.results55, go_sem, y0, y1, y2, y3, y4, y5, y6]) rfl (⟨_, _, _, rfl, k_ownF.more (by omega), hbF⟩)
set_option maxRecDepth 100000 in
set_option maxHeartbeats 4000000 in
theorem pcrashOf_lead_high (v : Value) (c : PartD) (i : Nat) (keep : Nat) (hn : PartOk c) (hi : i < c.reps.length) (hl : c.leader = i) (hu : c.reps[i].up = true) {es2 : List Ent} {m : Nat} {lb : List UInt8} (hlb : c.reps[i].bytes.take m = lb) (hd : dec (c.reps[i].bytes.take (crashN c.reps[i] keep)) = (es2, m)) (hq : (es2.length : Int) < c.reps[i].high) (w : World) (h : Pv w v c) : Calls Try.prog 55 #[v, .int .i64 i, .int .i64 keep] w (OwnsP ⟨c.epoch, -1, c.isr, c.known.set i 0, c.reps.set i ⟨false, lb, (m : Int), min c.reps[i].high (es2.length : Int)⟩, c.few, c.base⟩ w) := by
  have eqk := hn.known
  have eqi := hn.isr
  obtain ⟨xi, xk, xr, rfl, ix, kx, rx, hli, hlk, hlr⟩ := id h
  obtain ⟨A5, c5, rfl, hc5, hx5⟩ := rx.at_
  obtain ⟨A1, c1, rfl, hc1, hx1⟩ := ix.at_
  obtain ⟨A3, c3, rfl, hc3, hx3⟩ := kx.at_
  have H := Lib.hid h
  clear h ix kx rx
  unfold partV at *
  obtain ⟨ep, ld, is, ks, rs, fw, ba⟩ := c
  simp only at *
  have HN := Lib.hid hn
  have HSM := Lib.hid hn.small
  clear hn
  (try simp only at eqk eqi)
  have E1 := Lib.hid eqi
  have E2 := Lib.hid eqk
  have i0 : (0 : Int) ≤ (i : Int) := by omega
  have i1 : (i : Int) < (rs.length : Int) := Int.ofNat_lt.2 hi
  have i2 : (i : Int) < (is.length : Int) := by omega
  have i3 : (i : Int) < (ks.length : Int) := by omega
  have j2 : i < is.length := by omega
  have j3 : i < ks.length := by omega
  clear eqk eqi
  obtain ⟨b5, o5, rfl, hb5, hcell5⟩ := hx5 (Nat.lt_of_le_of_lt (Nat.zero_le _) hi)
  obtain ⟨pv, x0, x1, x2, x3, xb, xl⟩ := hcell5 i hi
  obtain ⟨b1, o1, rfl, hb1, hcell1⟩ := hx1 (by omega)
  have y0 := hcell1 i (by omega)
  obtain ⟨b3, o3, rfl, hb3, hcell3⟩ := hx3 (by omega)
  have u0 := hcell3 i (by omega)
  obtain ⟨A6, c6, rfl, -, -⟩ := xb.at_
  have XB := Lib.hid (And.intro x1 (And.intro x2 xb))
  have XC := Lib.hid (And.intro x0 (And.intro x3 (And.intro y0 u0)))
  clear hcell5 hcell1 hcell3 x0 x1 x2 x3 xb xl y0 u0 hx1 hx3 hx5
  have hup : rs[i].up = true := hu
  have HU := Lib.hid hup
  clear hu hup
  obtain ⟨es, j, hlog⟩ := HN.out.log i hi
  have hlog2 := LogIs.cut (p := crashN rs[i] keep) hlog hd
  rw [hlb] at hlog2
  have HLB := Lib.hid hlb
  have hlc : lb.length ≤ 40000 := by have := hlog2.long; rw [← hlog2.bytes] at this; exact this
  have HLG := Lib.hid hlog
  have HLG2 := Lib.hid hlog2
  have HDC := Lib.hid hd
  have HLC := Lib.hid hlc
  clear hlog hlog2 hd hlc hlb
  have y9 : (ld == (i : Int)) = true := beq_iff_eq.2 hl
  clear hl
  have y8 : decide ((es2.length : Int) < rs[i].high) = true := decide_eq_true hq
  have HMI := Lib.hid (show min rs[i].high (es2.length : Int) = (es2.length : Int) by omega)
  clear hq
  go_enter Try.func55, Try.ntmps55
  go_wp2_with fail
  have hb1 : Below w.heap.size w ((w.alloc (.cells #[.int .i64 ep, .int .i64 ld, .slice (some ⟨b1, o1, none⟩) is.length c1, .slice (some ⟨b3, o3, none⟩) ks.length c3, .slice (some ⟨b5, o5, none⟩) rs.length c5, .int .i64 fw, .int .i64 ba] 26)).alloc (.cells #[.int .i64 0, .int .i64 0, .slice none 0 0, .slice none 0 0, .slice none 0 0, .int .i64 0, .int .i64 0] 26)) := ((Below.refl _ _).alloc (by first | omega | (simp; done) | (simp; omega)) _).alloc (by first | omega | (simp; done) | (simp; omega)) _
  have hal1 : Below w.heap.size w ((w.alloc (.cells #[.int .i64 ep, .int .i64 ld, .slice (some ⟨b1, o1, none⟩) is.length c1, .slice (some ⟨b3, o3, none⟩) ks.length c3, .slice (some ⟨b5, o5, none⟩) rs.length c5, .int .i64 fw, .int .i64 ba] 26)).alloc (.cells #[.int .i64 0, .int .i64 0, .slice none 0 0, .slice none 0 0, .slice none 0 0, .int .i64 0, .int .i64 0] 26)) := ((Below.refl _ _).alloc (by first | omega | (simp; done) | (simp; omega)) _).alloc (by first | omega | (simp; done) | (simp; omega)) _
  have b_bx1 : Blk ((w.alloc (.cells #[.int .i64 ep, .int .i64 ld, .slice (some ⟨b1, o1, none⟩) is.length c1, .slice (some ⟨b3, o3, none⟩) ks.length c3, .slice (some ⟨b5, o5, none⟩) rs.length c5, .int .i64 fw, .int .i64 ba] 26)).alloc (.cells #[.int .i64 0, .int .i64 0, .slice none 0 0, .slice none 0 0, .slice none 0 0, .int .i64 0, .int .i64 0] 26)) (w.heap.size) 26 #[.int .i64 ep, .int .i64 ld, .slice (some ⟨b1, o1, none⟩) is.length c1, .slice (some ⟨b3, o3, none⟩) ks.length c3, .slice (some ⟨b5, o5, none⟩) rs.length c5, .int .i64 fw, .int .i64 ba] := (Blk.new_ _ 26 #[.int .i64 ep, .int .i64 ld, .slice (some ⟨b1, o1, none⟩) is.length c1, .slice (some ⟨b3, o3, none⟩) ks.length c3, .slice (some ⟨b5, o5, none⟩) rs.length c5, .int .i64 fw, .int .i64 ba] (by first | rfl | (simp; done) | (simp; omega))).alloc _
  have b_bz1 : Blk ((w.alloc (.cells #[.int .i64 ep, .int .i64 ld, .slice (some ⟨b1, o1, none⟩) is.length c1, .slice (some ⟨b3, o3, none⟩) ks.length c3, .slice (some ⟨b5, o5, none⟩) rs.length c5, .int .i64 fw, .int .i64 ba] 26)).alloc (.cells #[.int .i64 0, .int .i64 0, .slice none 0 0, .slice none 0 0, .slice none 0 0, .int .i64 0, .int .i64 0] 26)) (w.heap.size + 1) 26 #[.int .i64 0, .int .i64 0, .slice none 0 0, .slice none 0 0, .slice none 0 0, .int .i64 0, .int .i64 0] := Blk.new_ _ 26 #[.int .i64 0, .int .i64 0, .slice none 0 0, .slice none 0 0, .slice none 0 0, .int .i64 0, .int .i64 0] (by first | rfl | (simp; done) | (simp; omega))
  have k_v1 := H.out.below hal1
  have hz1 : w.heap.size + 2 ≤ ((w.alloc (.cells #[.int .i64 ep, .int .i64 ld, .slice (some ⟨b1, o1, none⟩) is.length c1, .slice (some ⟨b3, o3, none⟩) ks.length c3, .slice (some ⟨b5, o5, none⟩) rs.length c5, .int .i64 fw, .int .i64 ba] 26)).alloc (.cells #[.int .i64 0, .int .i64 0, .slice none 0 0, .slice none 0 0, .slice none 0 0, .int .i64 0, .int .i64 0] 26)).heap.size := by first | omega | (simp; done) | (simp; omega)
  generalize (w.alloc (.cells #[.int .i64 ep, .int .i64 ld, .slice (some ⟨b1, o1, none⟩) is.length c1, .slice (some ⟨b3, o3, none⟩) ks.length c3, .slice (some ⟨b5, o5, none⟩) rs.length c5, .int .i64 fw, .int .i64 ba] 26)).alloc (.cells #[.int .i64 0, .int .i64 0, .slice none 0 0, .slice none 0 0, .slice none 0 0, .int .i64 0, .int .i64 0] 26) = W1 at *
  have HB1 := Lib.hid hb1
  have B1_bx := Lib.hid b_bx1
  have B1_bz := Lib.hid b_bz1
  have K1_v := Lib.hid k_v1
  clear hb1 b_bx1 b_bz1 k_v1
  clear H
  refine (partFault_ok _ ⟨ep, ld, is, ks, rs, fw, ba⟩ i HN.out hi _ K1_v.out).mono ?_
  rintro e W2 ⟨rfl, hb⟩
  have hb2 : Below w.heap.size w W2 := below_then HB1.out hb
  have b_bx2 := B1_bx.out.below hb B1_bx.out.lt
  have b_bz2 := B1_bz.out.below hb B1_bz.out.lt
  have k_v2 := K1_v.out.below hb
  have hz2 := hb.size
  have HB2 := Lib.hid hb2
  have B2_bx := Lib.hid b_bx2
  have B2_bz := Lib.hid b_bz2
  have K2_v := Lib.hid k_v2
  clear hb2 b_bx2 b_bz2 k_v2
  clear B1_bx B1_bz HB1 K1_v
  have c_bx0 := B2_bx.out.cell 0
  have c_bx1 := B2_bx.out.cell 1
  have c_bx2 := B2_bx.out.cell 2
  have c_bx3 := B2_bx.out.cell 3
  have c_bx4 := B2_bx.out.cell 4
  have c_bx5 := B2_bx.out.cell 5
  have c_bx6 := B2_bx.out.cell 6
  have l_bx := B2_bx.out.lt
  have v0 := (HB2.out.cell (p := ⟨b5, o5 + i * 4, none⟩) hb5).trans XC.out.1
  have v3 := (HB2.out.cell (p := ⟨b5, o5 + i * 4 + 3, none⟩) hb5).trans XC.out.2.1
  have v1 := (HB2.out.cell (p := ⟨b1, o1 + i, none⟩) hb1).trans XC.out.2.2.1
  have v2 := (HB2.out.cell (p := ⟨b3, o3 + i, none⟩) hb3).trans XC.out.2.2.2
  have vl5 := Nat.lt_of_lt_of_le hb5 HB2.out.size
  have vl1 := Nat.lt_of_lt_of_le hb1 HB2.out.size
  have vl3 := Nat.lt_of_lt_of_le hb3 HB2.out.size
  rw [HU.out] at v0
  have v4 := (HB2.out.cell (p := ⟨b5, o5 + i * 4 + 1, none⟩) hb5).trans XB.out.1
  have v5 := (HB2.out.cell (p := ⟨b5, o5 + i * 4 + 2, none⟩) hb5).trans XB.out.2.1
  go_wp2_with fail
  clear c_bx0 c_bx1 c_bx2 c_bx3 c_bx4 c_bx5 c_bx6 l_bx v0 v3 v1 v2 vl5 vl1 vl3 v4 v5
  refine (crashedOf_ok _ _ _ keep _ (XB.out.2.2.below HB2.out) HLG.out (p := crashN rs[i] keep) rfl HDC.out).mono ?_
  rintro e W3 ⟨v5, rfl, hp5, hb⟩
  dsimp only at hp5
  rw [HLB.out] at hp5
  obtain ⟨A9, c9, rfl, hc9⟩ := (Sl.of_own hp5).form
  have HLO := Lib.hid (LgO.mk hp5)
  clear hp5
  have hb3 : Below w.heap.size w W3 := below_then HB2.out hb
  have b_bx3 := B2_bx.out.below hb B2_bx.out.lt
  have b_bz3 := B2_bz.out.below hb B2_bz.out.lt
  have k_v3 := K2_v.out.below hb
  have hz3 := hb.size
  have HB3 := Lib.hid hb3
  have B3_bx := Lib.hid b_bx3
  have B3_bz := Lib.hid b_bz3
  have K3_v := Lib.hid k_v3
  clear hb3 b_bx3 b_bz3 k_v3
  clear B2_bx B2_bz HB2 K2_v
  go_upto_region 7 with fail
  have hsz4 := HB3.out.size
  have hb4 : Below w.heap.size w (W3.alloc (.cells #[.slice A9 lb.length c9, .int .i64 (m : Int)] 42)) := (HB3.out).alloc (by first | omega | (simp; done) | (simp; omega)) _
  have hal4 : Below W3.heap.size W3 (W3.alloc (.cells #[.slice A9 lb.length c9, .int .i64 (m : Int)] 42)) := (Below.refl _ _).alloc (by first | omega | (simp; done) | (simp; omega)) _
  have b_bx4 : Blk (W3.alloc (.cells #[.slice A9 lb.length c9, .int .i64 (m : Int)] 42)) (w.heap.size) 26 #[.int .i64 ep, .int .i64 ld, .slice (some ⟨b1, o1, none⟩) is.length c1, .slice (some ⟨b3, o3, none⟩) ks.length c3, .slice (some ⟨b5, o5, none⟩) rs.length c5, .int .i64 fw, .int .i64 ba] := (B3_bx.out).alloc _
  have b_bz4 : Blk (W3.alloc (.cells #[.slice A9 lb.length c9, .int .i64 (m : Int)] 42)) (w.heap.size + 1) 26 #[.int .i64 0, .int .i64 0, .slice none 0 0, .slice none 0 0, .slice none 0 0, .int .i64 0, .int .i64 0] := (B3_bz.out).alloc _
  have b_bl4 : Blk (W3.alloc (.cells #[.slice A9 lb.length c9, .int .i64 (m : Int)] 42)) (W3.heap.size) 42 #[.slice A9 lb.length c9, .int .i64 (m : Int)] := Blk.new_ _ 42 #[.slice A9 lb.length c9, .int .i64 (m : Int)] (by first | rfl | (simp; done) | (simp; omega))
  have k_v4 := K3_v.out.below hal4
  have k_lg4 := (HLO.out).alloc (.cells #[.slice A9 lb.length c9, .int .i64 (m : Int)] 42)
  have hz4 : W3.heap.size + 1 ≤ (W3.alloc (.cells #[.slice A9 lb.length c9, .int .i64 (m : Int)] 42)).heap.size := by first | omega | (simp; done) | (simp; omega)
  generalize W3.alloc (.cells #[.slice A9 lb.length c9, .int .i64 (m : Int)] 42) = W4 at *
  have HB4 := Lib.hid hb4
  have B4_bx := Lib.hid b_bx4
  have B4_bz := Lib.hid b_bz4
  have B4_bl := Lib.hid b_bl4
  have K4_v := Lib.hid k_v4
  have K4_lg := Lib.hid k_lg4
  clear hb4 b_bx4 b_bz4 b_bl4 k_v4 k_lg4
  clear B3_bx B3_bz HB3 K3_v HLO
  have c_bx0 := B4_bx.out.cell 0
  have c_bx1 := B4_bx.out.cell 1
  have c_bx2 := B4_bx.out.cell 2
  have c_bx3 := B4_bx.out.cell 3
  have c_bx4 := B4_bx.out.cell 4
  have c_bx5 := B4_bx.out.cell 5
  have c_bx6 := B4_bx.out.cell 6
  have l_bx := B4_bx.out.lt
  go_wp2_with fail
  clear c_bx0 c_bx1 c_bx2 c_bx3 c_bx4 c_bx5 c_bx6 l_bx
  refine (refPartCopy_ok (c := ⟨ep, ld, is, ks, rs, fw, ba⟩) (K4_v.out) HSM.out).mono ?_
  rintro e W5 ⟨iv, kv, rv, rfl, ho, hb⟩
  obtain ⟨gi, d1, gk, d3, gr, d5, rfl, rfl, rfl, hgi, hgk, hgr, hgi', hgk', hgr'⟩ := ho.rows (by have := HN.out.isr; have := HN.out.many; simp only at *; omega) (by have := HN.out.known; have := HN.out.many; simp only at *; omega) (by have := HN.out.many; simp only at *; omega)
  unfold partV
  simp only at *
  have HO := Lib.hid ho
  clear ho
  have hb5 : Below w.heap.size w W5 := below_then HB4.out hb
  have b_bx5 := B4_bx.out.below hb B4_bx.out.lt
  have b_bz5 := B4_bz.out.below hb B4_bz.out.lt
  have b_bl5 := B4_bl.out.below hb B4_bl.out.lt
  have k_v5 := K4_v.out.below hb
  have k_lg5 := K4_lg.out.keep hb
  have hz5 := hb.size
  have HB5 := Lib.hid hb5
  have B5_bx := Lib.hid b_bx5
  have B5_bz := Lib.hid b_bz5
  have B5_bl := Lib.hid b_bl5
  have K5_v := Lib.hid k_v5
  have K5_lg := Lib.hid k_lg5
  clear hb5 b_bx5 b_bz5 b_bl5 k_v5 k_lg5
  clear B4_bx B4_bz B4_bl HB4 K4_v K4_lg
  go_upto_region 10 with fail
  have hsz6 := HB5.out.size
  have hb6 : Below w.heap.size w (W5.alloc (.cells #[.int .i64 ep, .int .i64 ld, .slice (some ⟨gi, 0, none⟩) is.length d1, .slice (some ⟨gk, 0, none⟩) ks.length d3, .slice (some ⟨gr, 0, none⟩) rs.length d5, .int .i64 fw, .int .i64 ba] 26)) := (HB5.out).alloc (by first | omega | (simp; done) | (simp; omega)) _
  have hal6 : Below W5.heap.size W5 (W5.alloc (.cells #[.int .i64 ep, .int .i64 ld, .slice (some ⟨gi, 0, none⟩) is.length d1, .slice (some ⟨gk, 0, none⟩) ks.length d3, .slice (some ⟨gr, 0, none⟩) rs.length d5, .int .i64 fw, .int .i64 ba] 26)) := (Below.refl _ _).alloc (by first | omega | (simp; done) | (simp; omega)) _
  have b_bx6 : Blk (W5.alloc (.cells #[.int .i64 ep, .int .i64 ld, .slice (some ⟨gi, 0, none⟩) is.length d1, .slice (some ⟨gk, 0, none⟩) ks.length d3, .slice (some ⟨gr, 0, none⟩) rs.length d5, .int .i64 fw, .int .i64 ba] 26)) (w.heap.size) 26 #[.int .i64 ep, .int .i64 ld, .slice (some ⟨b1, o1, none⟩) is.length c1, .slice (some ⟨b3, o3, none⟩) ks.length c3, .slice (some ⟨b5, o5, none⟩) rs.length c5, .int .i64 fw, .int .i64 ba] := (B5_bx.out).alloc _
  have b_bz6 : Blk (W5.alloc (.cells #[.int .i64 ep, .int .i64 ld, .slice (some ⟨gi, 0, none⟩) is.length d1, .slice (some ⟨gk, 0, none⟩) ks.length d3, .slice (some ⟨gr, 0, none⟩) rs.length d5, .int .i64 fw, .int .i64 ba] 26)) (w.heap.size + 1) 26 #[.int .i64 0, .int .i64 0, .slice none 0 0, .slice none 0 0, .slice none 0 0, .int .i64 0, .int .i64 0] := (B5_bz.out).alloc _
  have b_bl6 : Blk (W5.alloc (.cells #[.int .i64 ep, .int .i64 ld, .slice (some ⟨gi, 0, none⟩) is.length d1, .slice (some ⟨gk, 0, none⟩) ks.length d3, .slice (some ⟨gr, 0, none⟩) rs.length d5, .int .i64 fw, .int .i64 ba] 26)) (W3.heap.size) 42 #[.slice A9 lb.length c9, .int .i64 (m : Int)] := (B5_bl.out).alloc _
  have b_out6 : Blk (W5.alloc (.cells #[.int .i64 ep, .int .i64 ld, .slice (some ⟨gi, 0, none⟩) is.length d1, .slice (some ⟨gk, 0, none⟩) ks.length d3, .slice (some ⟨gr, 0, none⟩) rs.length d5, .int .i64 fw, .int .i64 ba] 26)) (W5.heap.size) 26 #[.int .i64 ep, .int .i64 ld, .slice (some ⟨gi, 0, none⟩) is.length d1, .slice (some ⟨gk, 0, none⟩) ks.length d3, .slice (some ⟨gr, 0, none⟩) rs.length d5, .int .i64 fw, .int .i64 ba] := Blk.new_ _ 26 #[.int .i64 ep, .int .i64 ld, .slice (some ⟨gi, 0, none⟩) is.length d1, .slice (some ⟨gk, 0, none⟩) ks.length d3, .slice (some ⟨gr, 0, none⟩) rs.length d5, .int .i64 fw, .int .i64 ba] (by first | rfl | (simp; done) | (simp; omega))
  have k_lg6 := (K5_lg.out).alloc (.cells #[.int .i64 ep, .int .i64 ld, .slice (some ⟨gi, 0, none⟩) is.length d1, .slice (some ⟨gk, 0, none⟩) ks.length d3, .slice (some ⟨gr, 0, none⟩) rs.length d5, .int .i64 fw, .int .i64 ba] 26)
  have k_own6 := (HO.out).alloc (.cells #[.int .i64 ep, .int .i64 ld, .slice (some ⟨gi, 0, none⟩) is.length d1, .slice (some ⟨gk, 0, none⟩) ks.length d3, .slice (some ⟨gr, 0, none⟩) rs.length d5, .int .i64 fw, .int .i64 ba] 26)
  have hz6 : W5.heap.size + 1 ≤ (W5.alloc (.cells #[.int .i64 ep, .int .i64 ld, .slice (some ⟨gi, 0, none⟩) is.length d1, .slice (some ⟨gk, 0, none⟩) ks.length d3, .slice (some ⟨gr, 0, none⟩) rs.length d5, .int .i64 fw, .int .i64 ba] 26)).heap.size := by first | omega | (simp; done) | (simp; omega)
  generalize W5.alloc (.cells #[.int .i64 ep, .int .i64 ld, .slice (some ⟨gi, 0, none⟩) is.length d1, .slice (some ⟨gk, 0, none⟩) ks.length d3, .slice (some ⟨gr, 0, none⟩) rs.length d5, .int .i64 fw, .int .i64 ba] 26) = W6 at *
  have HB6 := Lib.hid hb6
  have B6_bx := Lib.hid b_bx6
  have B6_bz := Lib.hid b_bz6
  have B6_bl := Lib.hid b_bl6
  have B6_out := Lib.hid b_out6
  have K6_lg := Lib.hid k_lg6
  have K6_own := Lib.hid k_own6
  clear hb6 b_bx6 b_bz6 b_bl6 b_out6 k_lg6 k_own6
  clear B5_bx B5_bz B5_bl HB5 K5_lg HO
  have c_out0 := B6_out.out.cell 0
  have f_out0 := B6_out.out.frozen 0
  have c_out1 := B6_out.out.cell 1
  have f_out1 := B6_out.out.frozen 1
  have c_out2 := B6_out.out.cell 2
  have f_out2 := B6_out.out.frozen 2
  have c_out3 := B6_out.out.cell 3
  have f_out3 := B6_out.out.frozen 3
  have c_out4 := B6_out.out.cell 4
  have f_out4 := B6_out.out.frozen 4
  have c_out5 := B6_out.out.cell 5
  have f_out5 := B6_out.out.frozen 5
  have c_out6 := B6_out.out.cell 6
  have f_out6 := B6_out.out.frozen 6
  have l_out := B6_out.out.lt
  have c_bl0 := B6_bl.out.cell 0
  have c_bl1 := B6_bl.out.cell 1
  have l_bl := B6_bl.out.lt
  obtain ⟨A7, c7, ⟨r0, r1, r2, r3⟩, ⟨rf0, rf1, rf2, rf3⟩, rby⟩ := K6_own.out.repAt i hi
  obtain ⟨s0, sf0⟩ := K6_own.out.isrAt i j2
  obtain ⟨t0, tf0⟩ := K6_own.out.knownAt i j3
  (try simp only at r0 r1 r2 r3 rby s0 t0)
  go_upto_region 12 with fail
  clear c_out0 f_out0 c_out1 f_out1 c_out2 f_out2 c_out3 f_out3 c_out4 f_out4 c_out5 f_out5 c_out6 f_out6 l_out c_bl0 c_bl1 l_bl r0 r1 r2 r3 rf0 rf1 rf2 rf3 rby s0 sf0 t0 tf0
  have hsz7 := HB6.out.size
  have hb7 : Below w.heap.size w (((W6.setCell ⟨gr, i * 4 + 1, none⟩ (.slice A9 lb.length c9)).setCell ⟨gr, i * 4 + 2, none⟩ (.int .i64 (m : Int))).setCell ⟨gr, i * 4, none⟩ (.bool false)) := (((HB6.out).setCell (by show w.heap.size ≤ gr; omega) _).setCell (by show w.heap.size ≤ gr; omega) _).setCell (by show w.heap.size ≤ gr; omega) _
  have b_bx7 : Blk (((W6.setCell ⟨gr, i * 4 + 1, none⟩ (.slice A9 lb.length c9)).setCell ⟨gr, i * 4 + 2, none⟩ (.int .i64 (m : Int))).setCell ⟨gr, i * 4, none⟩ (.bool false)) (w.heap.size) 26 #[.int .i64 ep, .int .i64 ld, .slice (some ⟨b1, o1, none⟩) is.length c1, .slice (some ⟨b3, o3, none⟩) ks.length c3, .slice (some ⟨b5, o5, none⟩) rs.length c5, .int .i64 fw, .int .i64 ba] := (((B6_bx.out).far (p := ⟨gr, i * 4 + 1, none⟩) (by show w.heap.size ≠ gr; omega) _).far (p := ⟨gr, i * 4 + 2, none⟩) (by show w.heap.size ≠ gr; omega) _).far (p := ⟨gr, i * 4, none⟩) (by show w.heap.size ≠ gr; omega) _
  have b_bz7 : Blk (((W6.setCell ⟨gr, i * 4 + 1, none⟩ (.slice A9 lb.length c9)).setCell ⟨gr, i * 4 + 2, none⟩ (.int .i64 (m : Int))).setCell ⟨gr, i * 4, none⟩ (.bool false)) (w.heap.size + 1) 26 #[.int .i64 0, .int .i64 0, .slice none 0 0, .slice none 0 0, .slice none 0 0, .int .i64 0, .int .i64 0] := (((B6_bz.out).far (p := ⟨gr, i * 4 + 1, none⟩) (by show w.heap.size + 1 ≠ gr; omega) _).far (p := ⟨gr, i * 4 + 2, none⟩) (by show w.heap.size + 1 ≠ gr; omega) _).far (p := ⟨gr, i * 4, none⟩) (by show w.heap.size + 1 ≠ gr; omega) _
  have b_bl7 : Blk (((W6.setCell ⟨gr, i * 4 + 1, none⟩ (.slice A9 lb.length c9)).setCell ⟨gr, i * 4 + 2, none⟩ (.int .i64 (m : Int))).setCell ⟨gr, i * 4, none⟩ (.bool false)) (W3.heap.size) 42 #[.slice A9 lb.length c9, .int .i64 (m : Int)] := (((B6_bl.out).far (p := ⟨gr, i * 4 + 1, none⟩) (by show W3.heap.size ≠ gr; omega) _).far (p := ⟨gr, i * 4 + 2, none⟩) (by show W3.heap.size ≠ gr; omega) _).far (p := ⟨gr, i * 4, none⟩) (by show W3.heap.size ≠ gr; omega) _
  have b_out7 : Blk (((W6.setCell ⟨gr, i * 4 + 1, none⟩ (.slice A9 lb.length c9)).setCell ⟨gr, i * 4 + 2, none⟩ (.int .i64 (m : Int))).setCell ⟨gr, i * 4, none⟩ (.bool false)) (W5.heap.size) 26 #[.int .i64 ep, .int .i64 ld, .slice (some ⟨gi, 0, none⟩) is.length d1, .slice (some ⟨gk, 0, none⟩) ks.length d3, .slice (some ⟨gr, 0, none⟩) rs.length d5, .int .i64 fw, .int .i64 ba] := (((B6_out.out).far (p := ⟨gr, i * 4 + 1, none⟩) (by show W5.heap.size ≠ gr; omega) _).far (p := ⟨gr, i * 4 + 2, none⟩) (by show W5.heap.size ≠ gr; omega) _).far (p := ⟨gr, i * 4, none⟩) (by show W5.heap.size ≠ gr; omega) _
  have k_own7 := ((K6_own.out.more (by omega)).crash i hi (m : Int) K6_lg.out.own)
  have hz7 : W6.heap.size + 0 ≤ (((W6.setCell ⟨gr, i * 4 + 1, none⟩ (.slice A9 lb.length c9)).setCell ⟨gr, i * 4 + 2, none⟩ (.int .i64 (m : Int))).setCell ⟨gr, i * 4, none⟩ (.bool false)).heap.size := by first | omega | (simp; done) | (simp; omega)
  generalize ((W6.setCell ⟨gr, i * 4 + 1, none⟩ (.slice A9 lb.length c9)).setCell ⟨gr, i * 4 + 2, none⟩ (.int .i64 (m : Int))).setCell ⟨gr, i * 4, none⟩ (.bool false) = W7 at *
  have HB7 := Lib.hid hb7
  have B7_bx := Lib.hid b_bx7
  have B7_bz := Lib.hid b_bz7
  have B7_bl := Lib.hid b_bl7
  have B7_out := Lib.hid b_out7
  have K7_own := Lib.hid k_own7
  clear hb7 b_bx7 b_bz7 b_bl7 b_out7 k_own7
  clear B6_bx B6_bz B6_bl B6_out HB6 K6_own
  have hi9 : i < (rs.set i ⟨false, lb, (m : Int), rs[i].high⟩).length := by simpa using hi
  have HSZ := Lib.hid (show LogIs (rs.set i ⟨false, lb, (m : Int), rs[i].high⟩)[i].log es2 es2.length by rw [List.getElem_set_self]; exact HLG2.out)
  have c_out0 := B7_out.out.cell 0
  have c_out1 := B7_out.out.cell 1
  have c_out2 := B7_out.out.cell 2
  have c_out3 := B7_out.out.cell 3
  have c_out4 := B7_out.out.cell 4
  have c_out5 := B7_out.out.cell 5
  have c_out6 := B7_out.out.cell 6
  have l_out := B7_out.out.lt
  obtain ⟨A7, c7, ⟨-, -, -, r3⟩, ⟨-, -, -, rf3⟩, -⟩ := PO.repAt (c := ⟨ep, ld, is, ks, rs.set i ⟨false, lb, (m : Int), rs[i].high⟩, fw, ba⟩) (gr := gr) (cr := d5) (by simpa only [List.length_set] using K7_own.out) i hi9
  (try simp only [List.getElem_set_self] at r3)
  go_wp2_with fail
  have c_out0 := B7_out.out.cell 0
  have c_out1 := B7_out.out.cell 1
  have c_out2 := B7_out.out.cell 2
  have c_out3 := B7_out.out.cell 3
  have c_out4 := B7_out.out.cell 4
  have c_out5 := B7_out.out.cell 5
  have c_out6 := B7_out.out.cell 6
  have l_out := B7_out.out.lt
  refine wp_region_held_drew (S := fun w0 => w0.cell? ⟨W5.heap.size, 0, none⟩ = some (.int .i64 ep) ∧ w0.cell? ⟨W5.heap.size, 1, none⟩ = some (.int .i64 ld) ∧ w0.cell? ⟨W5.heap.size, 2, none⟩ = some (.slice (some ⟨gi, 0, none⟩) is.length d1) ∧ w0.cell? ⟨W5.heap.size, 3, none⟩ = some (.slice (some ⟨gk, 0, none⟩) ks.length d3) ∧ w0.cell? ⟨W5.heap.size, 4, none⟩ = some (.slice (some ⟨gr, 0, none⟩) rs.length d5) ∧ w0.cell? ⟨W5.heap.size, 5, none⟩ = some (.int .i64 fw) ∧ w0.cell? ⟨W5.heap.size, 6, none⟩ = some (.int .i64 ba) ∧ w0.cell? ⟨gr, i * 4 + 3, none⟩ = some (.int .i64 rs[i].high)) (by kernel_rfl) ?_ (fun hHeld => ?_)
  · exact ⟨c_out0, c_out1, c_out2, c_out3, c_out4, c_out5, c_out6, r3⟩
  clear c_out0 c_out1 c_out2 c_out3 c_out4 c_out5 c_out6 l_out r3 rf3
  generalize hd : World.drew W7 = W8 at *
  have hb : Below W7.heap.size W7 W8 := by rw [← hd]; exact (Below.refl _ _).drew
  have hb8 : Below w.heap.size w W8 := below_then HB7.out hb
  have b_bx8 := B7_bx.out.below hb B7_bx.out.lt
  have b_bz8 := B7_bz.out.below hb B7_bz.out.lt
  have b_bl8 := B7_bl.out.below hb B7_bl.out.lt
  have b_out8 := B7_out.out.below hb B7_out.out.lt
  have k_own8 := K7_own.out.keep hb
  have hz8 := hb.size
  have HB8 := Lib.hid hb8
  have B8_bx := Lib.hid b_bx8
  have B8_bz := Lib.hid b_bz8
  have B8_bl := Lib.hid b_bl8
  have B8_out := Lib.hid b_out8
  have K8_own := Lib.hid k_own8
  clear hb8 b_bx8 b_bz8 b_bl8 b_out8 k_own8
  clear B7_bx B7_bz B7_bl B7_out HB7 K7_own
  clear hd hb
  refine wpAnyH_take (i := 0) (v := ?_) rfl (by kernel_rfl) (by kernel_rfl) (by kernel_rfl) (fun _ _ _ h => h) (Or.inl ⟨by rfl, ?_⟩) (by assumption) ?_
  rotate_left
  · intro w0 hSw
    (try dsimp only at hSw)
    go_simp
    all_goals with_reducible rfl
  try simp only [Act.put, List.getElem_toArray, List.getElem_cons_zero, List.setIfInBounds_toArray, List.set_cons_zero, List.set_cons_succ]
  refine wpAnyH_take (i := 1) (v := ?_) rfl (by kernel_rfl) (by kernel_rfl) (by kernel_rfl) (fun _ _ _ h => h) (Or.inl ⟨by rfl, ?_⟩) (by assumption) ?_
  rotate_left
  · intro w0 hSw
    (try dsimp only at hSw)
    go_simp
    all_goals with_reducible rfl
  try simp only [Act.put, List.getElem_toArray, List.getElem_cons_zero, List.getElem_cons_succ, List.setIfInBounds_toArray, List.set_cons_zero, List.set_cons_succ]
  refine wpAnyH_take (i := 2) (v := ?_) rfl (by kernel_rfl) (by kernel_rfl) (by kernel_rfl) (fun _ _ _ h => h) (Or.inl ⟨by rfl, ?_⟩) (by assumption) ?_
  rotate_left
  · intro w0 hSw
    (try dsimp only at hSw)
    go_simp
    all_goals with_reducible rfl
  try simp only [Act.put, List.getElem_toArray, List.getElem_cons_zero, List.getElem_cons_succ, List.setIfInBounds_toArray, List.set_cons_zero, List.set_cons_succ]
  refine wpAnyH_take (i := 3) (v := ?_) rfl (by kernel_rfl) (by kernel_rfl) (by kernel_rfl) (fun _ _ _ h => h) (Or.inl ⟨by rfl, ?_⟩) (by assumption) ?_
  rotate_left
  · intro w0 hSw
    (try dsimp only at hSw)
    go_simp
    all_goals with_reducible rfl
  try simp only [Act.put, List.getElem_toArray, List.getElem_cons_zero, List.getElem_cons_succ, List.setIfInBounds_toArray, List.set_cons_zero, List.set_cons_succ]
  refine wpAnyH_take (i := 4) (v := ?_) rfl (by kernel_rfl) (by kernel_rfl) (by kernel_rfl) (fun _ _ _ h => h) (Or.inl ⟨by rfl, ?_⟩) (by assumption) ?_
  rotate_left
  · intro w0 hSw
    (try dsimp only at hSw)
    go_simp
    all_goals with_reducible rfl
  try simp only [Act.put, List.getElem_toArray, List.getElem_cons_zero, List.getElem_cons_succ, List.setIfInBounds_toArray, List.set_cons_zero, List.set_cons_succ]
  refine wpAnyH_take (i := 5) (v := ?_) rfl (by kernel_rfl) (by kernel_rfl) (by kernel_rfl) (fun _ _ _ h => h) (Or.inl ⟨by rfl, ?_⟩) (by assumption) ?_
  rotate_left
  · intro w0 hSw
    (try dsimp only at hSw)
    go_simp
    all_goals with_reducible rfl
  try simp only [Act.put, List.getElem_toArray, List.getElem_cons_zero, List.getElem_cons_succ, List.setIfInBounds_toArray, List.set_cons_zero, List.set_cons_succ]
  refine wpAnyH_take (i := 6) (v := ?_) rfl (by kernel_rfl) (by kernel_rfl) (by kernel_rfl) (fun _ _ _ h => h) (Or.inl ⟨by rfl, ?_⟩) (by assumption) ?_
  rotate_left
  · intro w0 hSw
    (try dsimp only at hSw)
    go_simp
    all_goals with_reducible rfl
  try simp only [Act.put, List.getElem_toArray, List.getElem_cons_zero, List.getElem_cons_succ, List.setIfInBounds_toArray, List.set_cons_zero, List.set_cons_succ]
  refine wpAnyH_take (i := 7) (v := ?_) rfl (by kernel_rfl) (by kernel_rfl) (by kernel_rfl) (fun _ _ _ h => h) (Or.inl ⟨by rfl, ?_⟩) (by assumption) ?_
  rotate_left
  · intro w0 hSw
    (try dsimp only at hSw)
    go_simp
    all_goals with_reducible rfl
  try simp only [Act.put, List.getElem_toArray, List.getElem_cons_zero, List.getElem_cons_succ, List.setIfInBounds_toArray, List.set_cons_zero, List.set_cons_succ]
  refine wpAnyH_ready (rs := [8]) (by kernel_rfl) (by simp) (AllReadyH.cons rfl (fun K hK => ?_) AllReadyH.nil)
  go_simp
  go_at_call 82
  refine (logOf_any _ ⟨ep, ld, is, ks, rs.set i ⟨false, lb, (m : Int), rs[i].high⟩, fw, ba⟩ i _ (K8_own.out.pv ⟨HSM.out.isr, HSM.out.known, by simp only [List.length_set]; exact HSM.out.reps, (PSm.crashed HSM.out i ld ⟨false, lb, (m : Int), rs[i].high⟩ HLC.out).bytes⟩) hi9 HSZ.out).mono ?_
  rintro e W9 ⟨v5, rfl, hp5, hb⟩
  obtain ⟨A8, c8, rfl, hc8⟩ := (Sl.of_own hp5).form
  clear hp5
  have hb9 : Below w.heap.size w W9 := below_then HB8.out hb
  have b_bx9 := B8_bx.out.below hb B8_bx.out.lt
  have b_bz9 := B8_bz.out.below hb B8_bz.out.lt
  have b_bl9 := B8_bl.out.below hb B8_bl.out.lt
  have b_out9 := B8_out.out.below hb B8_out.out.lt
  have k_own9 := K8_own.out.keep hb
  have hz9 := hb.size
  have HB9 := Lib.hid hb9
  have B9_bx := Lib.hid b_bx9
  have B9_bz := Lib.hid b_bz9
  have B9_bl := Lib.hid b_bl9
  have B9_out := Lib.hid b_out9
  have K9_own := Lib.hid k_own9
  clear hb9 b_bx9 b_bz9 b_bl9 b_out9 k_own9
  clear B8_bx B8_bz B8_bl B8_out HB8 K8_own
  obtain ⟨A7, c7, ⟨-, -, -, r3⟩, ⟨-, -, -, rf3⟩, -⟩ := PO.repAt (c := ⟨ep, ld, is, ks, rs.set i ⟨false, lb, (m : Int), rs[i].high⟩, fw, ba⟩) (gr := gr) (cr := d5) (by simpa only [List.length_set] using K9_own.out) i hi9
  (try simp only [List.getElem_set_self] at r3)
  refine hK.out _ _ ?_ (fun hHeld => ?_)
  · exact ⟨(B9_out.out).cell 0, (B9_out.out).cell 1, (B9_out.out).cell 2, (B9_out.out).cell 3, (B9_out.out).cell 4, (B9_out.out).cell 5, (B9_out.out).cell 6, r3⟩
  clear hK K
  try simp only [Act.put, List.getElem_toArray, List.getElem_cons_zero, List.getElem_cons_succ, List.setIfInBounds_toArray, List.set_cons_zero, List.set_cons_succ]
  refine wpAnyH_take (i := 9) (v := ?_) rfl (by kernel_rfl) (by kernel_rfl) (by kernel_rfl) (fun _ _ _ h => h) (Or.inl ⟨by rfl, ?_⟩) (by assumption) ?_
  rotate_left
  · intro w0 hSw
    (try dsimp only at hSw)
    go_simp
    all_goals with_reducible rfl
  try simp only [Act.put, List.getElem_toArray, List.getElem_cons_zero, List.getElem_cons_succ, List.setIfInBounds_toArray, List.set_cons_zero, List.set_cons_succ]
  refine wpAnyH_take (i := 10) (v := ?_) rfl (by kernel_rfl) (by kernel_rfl) (by kernel_rfl) (fun _ _ _ h => h) (Or.inl ⟨by rfl, ?_⟩) (by assumption) ?_
  rotate_left
  · intro w0 hSw
    (try dsimp only at hSw)
    go_simp
    all_goals with_reducible rfl
  try simp only [Act.put, List.getElem_toArray, List.getElem_cons_zero, List.getElem_cons_succ, List.setIfInBounds_toArray, List.set_cons_zero, List.set_cons_succ]
  refine wpAnyH_done (by kernel_rfl) ?_ _
  have c_out0 := B9_out.out.cell 0
  have c_out1 := B9_out.out.cell 1
  have c_out2 := B9_out.out.cell 2
  have c_out3 := B9_out.out.cell 3
  have c_out4 := B9_out.out.cell 4
  have c_out5 := B9_out.out.cell 5
  have c_out6 := B9_out.out.cell 6
  have l_out := B9_out.out.lt
  have c_bx0 := B9_bx.out.cell 0
  have c_bx1 := B9_bx.out.cell 1
  have c_bx2 := B9_bx.out.cell 2
  have c_bx3 := B9_bx.out.cell 3
  have c_bx4 := B9_bx.out.cell 4
  have c_bx5 := B9_bx.out.cell 5
  have c_bx6 := B9_bx.out.cell 6
  have l_bx := B9_bx.out.lt
  go_wp2_with fail
  clear r3 rf3 c_out0 c_out1 c_out2 c_out3 c_out4 c_out5 c_out6 l_out c_bx0 c_bx1 c_bx2 c_bx3 c_bx4 c_bx5 c_bx6 l_bx
  have c_out0 := B9_out.out.cell 0
  have c_out1 := B9_out.out.cell 1
  have c_out2 := B9_out.out.cell 2
  have c_out3 := B9_out.out.cell 3
  have c_out4 := B9_out.out.cell 4
  have c_out5 := B9_out.out.cell 5
  have c_out6 := B9_out.out.cell 6
  have l_out := B9_out.out.lt
  refine wp_region_held_drew (S := fun w0 => w0.cell? ⟨W5.heap.size, 0, none⟩ = some (.int .i64 ep) ∧ w0.cell? ⟨W5.heap.size, 1, none⟩ = some (.int .i64 ld) ∧ w0.cell? ⟨W5.heap.size, 2, none⟩ = some (.slice (some ⟨gi, 0, none⟩) is.length d1) ∧ w0.cell? ⟨W5.heap.size, 3, none⟩ = some (.slice (some ⟨gk, 0, none⟩) ks.length d3) ∧ w0.cell? ⟨W5.heap.size, 4, none⟩ = some (.slice (some ⟨gr, 0, none⟩) rs.length d5) ∧ w0.cell? ⟨W5.heap.size, 5, none⟩ = some (.int .i64 fw) ∧ w0.cell? ⟨W5.heap.size, 6, none⟩ = some (.int .i64 ba)) (by kernel_rfl) ?_ (fun hHeld => ?_)
  · exact ⟨c_out0, c_out1, c_out2, c_out3, c_out4, c_out5, c_out6⟩
  clear c_out0 c_out1 c_out2 c_out3 c_out4 c_out5 c_out6 l_out
  generalize hd : World.drew W9 = W10 at *
  have hb : Below W9.heap.size W9 W10 := by rw [← hd]; exact (Below.refl _ _).drew
  have hb10 : Below w.heap.size w W10 := below_then HB9.out hb
  have b_bx10 := B9_bx.out.below hb B9_bx.out.lt
  have b_bz10 := B9_bz.out.below hb B9_bz.out.lt
  have b_bl10 := B9_bl.out.below hb B9_bl.out.lt
  have b_out10 := B9_out.out.below hb B9_out.out.lt
  have k_own10 := K9_own.out.keep hb
  have hz10 := hb.size
  have HB10 := Lib.hid hb10
  have B10_bx := Lib.hid b_bx10
  have B10_bz := Lib.hid b_bz10
  have B10_bl := Lib.hid b_bl10
  have B10_out := Lib.hid b_out10
  have K10_own := Lib.hid k_own10
  clear hb10 b_bx10 b_bz10 b_bl10 b_out10 k_own10
  clear B9_bx B9_bz B9_bl B9_out HB9 K9_own
  clear hd hb
  refine wpAnyH_take (i := 0) (v := ?_) rfl (by kernel_rfl) (by kernel_rfl) (by kernel_rfl) (fun _ _ _ h => h) (Or.inl ⟨by rfl, ?_⟩) (by assumption) ?_
  rotate_left
  · intro w0 hSw
    (try dsimp only at hSw)
    go_simp
    all_goals with_reducible rfl
  try simp only [Act.put, List.getElem_toArray, List.getElem_cons_zero, List.setIfInBounds_toArray, List.set_cons_zero, List.set_cons_succ]
  refine wpAnyH_take (i := 1) (v := ?_) rfl (by kernel_rfl) (by kernel_rfl) (by kernel_rfl) (fun _ _ _ h => h) (Or.inl ⟨by rfl, ?_⟩) (by assumption) ?_
  rotate_left
  · intro w0 hSw
    (try dsimp only at hSw)
    go_simp
    all_goals with_reducible rfl
  try simp only [Act.put, List.getElem_toArray, List.getElem_cons_zero, List.getElem_cons_succ, List.setIfInBounds_toArray, List.set_cons_zero, List.set_cons_succ]
  refine wpAnyH_take (i := 2) (v := ?_) rfl (by kernel_rfl) (by kernel_rfl) (by kernel_rfl) (fun _ _ _ h => h) (Or.inl ⟨by rfl, ?_⟩) (by assumption) ?_
  rotate_left
  · intro w0 hSw
    (try dsimp only at hSw)
    go_simp
    all_goals with_reducible rfl
  try simp only [Act.put, List.getElem_toArray, List.getElem_cons_zero, List.getElem_cons_succ, List.setIfInBounds_toArray, List.set_cons_zero, List.set_cons_succ]
  refine wpAnyH_take (i := 3) (v := ?_) rfl (by kernel_rfl) (by kernel_rfl) (by kernel_rfl) (fun _ _ _ h => h) (Or.inl ⟨by rfl, ?_⟩) (by assumption) ?_
  rotate_left
  · intro w0 hSw
    (try dsimp only at hSw)
    go_simp
    all_goals with_reducible rfl
  try simp only [Act.put, List.getElem_toArray, List.getElem_cons_zero, List.getElem_cons_succ, List.setIfInBounds_toArray, List.set_cons_zero, List.set_cons_succ]
  refine wpAnyH_take (i := 4) (v := ?_) rfl (by kernel_rfl) (by kernel_rfl) (by kernel_rfl) (fun _ _ _ h => h) (Or.inl ⟨by rfl, ?_⟩) (by assumption) ?_
  rotate_left
  · intro w0 hSw
    (try dsimp only at hSw)
    go_simp
    all_goals with_reducible rfl
  try simp only [Act.put, List.getElem_toArray, List.getElem_cons_zero, List.getElem_cons_succ, List.setIfInBounds_toArray, List.set_cons_zero, List.set_cons_succ]
  refine wpAnyH_ready (rs := [5]) (by kernel_rfl) (by simp) (AllReadyH.cons rfl (fun K hK => ?_) AllReadyH.nil)
  go_simp
  go_at_call 82
  refine (logOf_any _ ⟨ep, ld, is, ks, rs.set i ⟨false, lb, (m : Int), rs[i].high⟩, fw, ba⟩ i _ (K10_own.out.pv ⟨HSM.out.isr, HSM.out.known, by simp only [List.length_set]; exact HSM.out.reps, (PSm.crashed HSM.out i ld ⟨false, lb, (m : Int), rs[i].high⟩ HLC.out).bytes⟩) hi9 HSZ.out).mono ?_
  rintro e W11 ⟨v5, rfl, hp5, hb⟩
  obtain ⟨A8, c8, rfl, hc8⟩ := (Sl.of_own hp5).form
  clear hp5
  have hb11 : Below w.heap.size w W11 := below_then HB10.out hb
  have b_bx11 := B10_bx.out.below hb B10_bx.out.lt
  have b_bz11 := B10_bz.out.below hb B10_bz.out.lt
  have b_bl11 := B10_bl.out.below hb B10_bl.out.lt
  have b_out11 := B10_out.out.below hb B10_out.out.lt
  have k_own11 := K10_own.out.keep hb
  have hz11 := hb.size
  have HB11 := Lib.hid hb11
  have B11_bx := Lib.hid b_bx11
  have B11_bz := Lib.hid b_bz11
  have B11_bl := Lib.hid b_bl11
  have B11_out := Lib.hid b_out11
  have K11_own := Lib.hid k_own11
  clear hb11 b_bx11 b_bz11 b_bl11 b_out11 k_own11
  clear B10_bx B10_bz B10_bl B10_out HB10 K10_own
  refine hK.out _ _ ?_ (fun hHeld => ?_)
  · exact ⟨(B11_out.out).cell 0, (B11_out.out).cell 1, (B11_out.out).cell 2, (B11_out.out).cell 3, (B11_out.out).cell 4, (B11_out.out).cell 5, (B11_out.out).cell 6⟩
  clear hK K
  try simp only [Act.put, List.getElem_toArray, List.getElem_cons_zero, List.getElem_cons_succ, List.setIfInBounds_toArray, List.set_cons_zero, List.set_cons_succ]
  refine wpAnyH_take (i := 6) (v := ?_) rfl (by kernel_rfl) (by kernel_rfl) (by kernel_rfl) (fun _ _ _ h => h) (Or.inl ⟨by rfl, ?_⟩) (by assumption) ?_
  rotate_left
  · intro w0 hSw
    (try dsimp only at hSw)
    go_simp
    all_goals with_reducible rfl
  try simp only [Act.put, List.getElem_toArray, List.getElem_cons_zero, List.getElem_cons_succ, List.setIfInBounds_toArray, List.set_cons_zero, List.set_cons_succ]
  refine wpAnyH_take (i := 7) (v := ?_) rfl (by kernel_rfl) (by kernel_rfl) (by kernel_rfl) (fun _ _ _ h => h) (Or.inl ⟨by rfl, ?_⟩) (by assumption) ?_
  rotate_left
  · intro w0 hSw
    (try dsimp only at hSw)
    go_simp
    all_goals with_reducible rfl
  try simp only [Act.put, List.getElem_toArray, List.getElem_cons_zero, List.getElem_cons_succ, List.setIfInBounds_toArray, List.set_cons_zero, List.set_cons_succ]
  refine wpAnyH_take (i := 8) (v := ?_) rfl (by kernel_rfl) (by kernel_rfl) (by kernel_rfl) (fun _ _ _ h => h) (Or.inl ⟨by rfl, ?_⟩) (by assumption) ?_
  rotate_left
  · intro w0 hSw
    (try dsimp only at hSw)
    go_simp
    all_goals with_reducible rfl
  try simp only [Act.put, List.getElem_toArray, List.getElem_cons_zero, List.getElem_cons_succ, List.setIfInBounds_toArray, List.set_cons_zero, List.set_cons_succ]
  obtain ⟨A7, c7, ⟨-, -, -, r3⟩, ⟨-, -, -, rf3⟩, -⟩ := PO.repAt (c := ⟨ep, ld, is, ks, rs.set i ⟨false, lb, (m : Int), rs[i].high⟩, fw, ba⟩) (gr := gr) (cr := d5) (by simpa only [List.length_set] using K11_own.out) i hi9
  (try simp only [List.getElem_set_self] at r3)
  refine wpAnyH_ready (rs := [9]) (by kernel_rfl) (by simp) (AllReadyH.cons rfl (fun K hK => ?_) AllReadyH.nil)
  go_simp
  refine hK.out _ _ ?_ (fun hHeld => ?_)
  · exact ⟨((B11_out.out).far (p := ⟨gr, i * 4 + 3, none⟩) (by show W5.heap.size ≠ gr; omega) _).cell 0, ((B11_out.out).far (p := ⟨gr, i * 4 + 3, none⟩) (by show W5.heap.size ≠ gr; omega) _).cell 1, ((B11_out.out).far (p := ⟨gr, i * 4 + 3, none⟩) (by show W5.heap.size ≠ gr; omega) _).cell 2, ((B11_out.out).far (p := ⟨gr, i * 4 + 3, none⟩) (by show W5.heap.size ≠ gr; omega) _).cell 3, ((B11_out.out).far (p := ⟨gr, i * 4 + 3, none⟩) (by show W5.heap.size ≠ gr; omega) _).cell 4, ((B11_out.out).far (p := ⟨gr, i * 4 + 3, none⟩) (by show W5.heap.size ≠ gr; omega) _).cell 5, ((B11_out.out).far (p := ⟨gr, i * 4 + 3, none⟩) (by show W5.heap.size ≠ gr; omega) _).cell 6⟩
  clear hK K
  refine wpAnyH_done (by kernel_rfl) ?_ _
  clear r3 rf3
  go_upto_region 14 with fail
  have hsz12 := HB11.out.size
  have hb12 : Below w.heap.size w (W11.setCell ⟨gr, i * 4 + 3, none⟩ (.int .i64 (es2.length : Int))) := (HB11.out).setCell (by show w.heap.size ≤ gr; omega) _
  have b_bx12 : Blk (W11.setCell ⟨gr, i * 4 + 3, none⟩ (.int .i64 (es2.length : Int))) (w.heap.size) 26 #[.int .i64 ep, .int .i64 ld, .slice (some ⟨b1, o1, none⟩) is.length c1, .slice (some ⟨b3, o3, none⟩) ks.length c3, .slice (some ⟨b5, o5, none⟩) rs.length c5, .int .i64 fw, .int .i64 ba] := (B11_bx.out).far (p := ⟨gr, i * 4 + 3, none⟩) (by show w.heap.size ≠ gr; omega) _
  have b_bz12 : Blk (W11.setCell ⟨gr, i * 4 + 3, none⟩ (.int .i64 (es2.length : Int))) (w.heap.size + 1) 26 #[.int .i64 0, .int .i64 0, .slice none 0 0, .slice none 0 0, .slice none 0 0, .int .i64 0, .int .i64 0] := (B11_bz.out).far (p := ⟨gr, i * 4 + 3, none⟩) (by show w.heap.size + 1 ≠ gr; omega) _
  have b_bl12 : Blk (W11.setCell ⟨gr, i * 4 + 3, none⟩ (.int .i64 (es2.length : Int))) (W3.heap.size) 42 #[.slice A9 lb.length c9, .int .i64 (m : Int)] := (B11_bl.out).far (p := ⟨gr, i * 4 + 3, none⟩) (by show W3.heap.size ≠ gr; omega) _
  have b_out12 : Blk (W11.setCell ⟨gr, i * 4 + 3, none⟩ (.int .i64 (es2.length : Int))) (W5.heap.size) 26 #[.int .i64 ep, .int .i64 ld, .slice (some ⟨gi, 0, none⟩) is.length d1, .slice (some ⟨gk, 0, none⟩) ks.length d3, .slice (some ⟨gr, 0, none⟩) rs.length d5, .int .i64 fw, .int .i64 ba] := (B11_out.out).far (p := ⟨gr, i * 4 + 3, none⟩) (by show W5.heap.size ≠ gr; omega) _
  have k_own12 := (PO.setHigh K11_own.out hi (es2.length : Int))
  have hz12 : W11.heap.size + 0 ≤ (W11.setCell ⟨gr, i * 4 + 3, none⟩ (.int .i64 (es2.length : Int))).heap.size := by first | omega | (simp; done) | (simp; omega)
  generalize W11.setCell ⟨gr, i * 4 + 3, none⟩ (.int .i64 (es2.length : Int)) = W12 at *
  have HB12 := Lib.hid hb12
  have B12_bx := Lib.hid b_bx12
  have B12_bz := Lib.hid b_bz12
  have B12_bl := Lib.hid b_bl12
  have B12_out := Lib.hid b_out12
  have K12_own := Lib.hid k_own12
  clear hb12 b_bx12 b_bz12 b_bl12 b_out12 k_own12
  clear B11_bx B11_bz B11_bl B11_out HB11 K11_own
  have c_out0 := B12_out.out.cell 0
  have c_out1 := B12_out.out.cell 1
  have c_out2 := B12_out.out.cell 2
  have c_out3 := B12_out.out.cell 3
  have c_out4 := B12_out.out.cell 4
  have c_out5 := B12_out.out.cell 5
  have c_out6 := B12_out.out.cell 6
  have l_out := B12_out.out.lt
  have c_bx0 := B12_bx.out.cell 0
  have c_bx1 := B12_bx.out.cell 1
  have c_bx2 := B12_bx.out.cell 2
  have c_bx3 := B12_bx.out.cell 3
  have c_bx4 := B12_bx.out.cell 4
  have c_bx5 := B12_bx.out.cell 5
  have c_bx6 := B12_bx.out.cell 6
  have l_bx := B12_bx.out.lt
  have c_bz0 := B12_bz.out.cell 0
  have f_bz0 := B12_bz.out.frozen 0
  have c_bz1 := B12_bz.out.cell 1
  have f_bz1 := B12_bz.out.frozen 1
  have c_bz2 := B12_bz.out.cell 2
  have f_bz2 := B12_bz.out.frozen 2
  have c_bz3 := B12_bz.out.cell 3
  have f_bz3 := B12_bz.out.frozen 3
  have c_bz4 := B12_bz.out.cell 4
  have f_bz4 := B12_bz.out.frozen 4
  have c_bz5 := B12_bz.out.cell 5
  have f_bz5 := B12_bz.out.frozen 5
  have c_bz6 := B12_bz.out.cell 6
  have f_bz6 := B12_bz.out.frozen 6
  have l_bz := B12_bz.out.lt
  have c_out0 := B12_out.out.cell 0
  have f_out0 := B12_out.out.frozen 0
  have c_out1 := B12_out.out.cell 1
  have f_out1 := B12_out.out.frozen 1
  have c_out2 := B12_out.out.cell 2
  have f_out2 := B12_out.out.frozen 2
  have c_out3 := B12_out.out.cell 3
  have f_out3 := B12_out.out.frozen 3
  have c_out4 := B12_out.out.cell 4
  have f_out4 := B12_out.out.frozen 4
  have c_out5 := B12_out.out.cell 5
  have f_out5 := B12_out.out.frozen 5
  have c_out6 := B12_out.out.cell 6
  have f_out6 := B12_out.out.frozen 6
  have l_out := B12_out.out.lt
  obtain ⟨t1, tf1⟩ := K12_own.out.knownAt i j3
  (try simp only at t1)
  go_upto_region 15 with fail
  clear c_out0 c_out1 c_out2 c_out3 c_out4 c_out5 c_out6 l_out c_bx0 c_bx1 c_bx2 c_bx3 c_bx4 c_bx5 c_bx6 l_bx c_bz0 f_bz0 c_bz1 f_bz1 c_bz2 f_bz2 c_bz3 f_bz3 c_bz4 f_bz4 c_bz5 f_bz5 c_bz6 f_bz6 l_bz f_out0 f_out1 f_out2 f_out3 f_out4 f_out5 f_out6 t1 tf1
  have hsz13 := HB12.out.size
  have hb13 : Below w.heap.size w (W12.setCell ⟨gk, i, none⟩ (.int .i64 0)) := (HB12.out).setCell (by show w.heap.size ≤ gk; omega) _
  have b_bx13 : Blk (W12.setCell ⟨gk, i, none⟩ (.int .i64 0)) (w.heap.size) 26 #[.int .i64 ep, .int .i64 ld, .slice (some ⟨b1, o1, none⟩) is.length c1, .slice (some ⟨b3, o3, none⟩) ks.length c3, .slice (some ⟨b5, o5, none⟩) rs.length c5, .int .i64 fw, .int .i64 ba] := (B12_bx.out).far (p := ⟨gk, i, none⟩) (by show w.heap.size ≠ gk; omega) _
  have b_bz13 : Blk (W12.setCell ⟨gk, i, none⟩ (.int .i64 0)) (w.heap.size + 1) 26 #[.int .i64 0, .int .i64 0, .slice none 0 0, .slice none 0 0, .slice none 0 0, .int .i64 0, .int .i64 0] := (B12_bz.out).far (p := ⟨gk, i, none⟩) (by show w.heap.size + 1 ≠ gk; omega) _
  have b_bl13 : Blk (W12.setCell ⟨gk, i, none⟩ (.int .i64 0)) (W3.heap.size) 42 #[.slice A9 lb.length c9, .int .i64 (m : Int)] := (B12_bl.out).far (p := ⟨gk, i, none⟩) (by show W3.heap.size ≠ gk; omega) _
  have b_out13 : Blk (W12.setCell ⟨gk, i, none⟩ (.int .i64 0)) (W5.heap.size) 26 #[.int .i64 ep, .int .i64 ld, .slice (some ⟨gi, 0, none⟩) is.length d1, .slice (some ⟨gk, 0, none⟩) ks.length d3, .slice (some ⟨gr, 0, none⟩) rs.length d5, .int .i64 fw, .int .i64 ba] := (B12_out.out).far (p := ⟨gk, i, none⟩) (by show W5.heap.size ≠ gk; omega) _
  have k_own13 := (K12_own.out).setKnown i 0 (Nat.lt_of_le_of_lt (Nat.zero_le _) j3)
  have hz13 : W12.heap.size + 0 ≤ (W12.setCell ⟨gk, i, none⟩ (.int .i64 0)).heap.size := by first | omega | (simp; done) | (simp; omega)
  generalize W12.setCell ⟨gk, i, none⟩ (.int .i64 0) = W13 at *
  have HB13 := Lib.hid hb13
  have B13_bx := Lib.hid b_bx13
  have B13_bz := Lib.hid b_bz13
  have B13_bl := Lib.hid b_bl13
  have B13_out := Lib.hid b_out13
  have K13_own := Lib.hid k_own13
  clear hb13 b_bx13 b_bz13 b_bl13 b_out13 k_own13
  clear B12_bx B12_bz B12_bl B12_out HB12 K12_own
  have c_out0 := B13_out.out.cell 0
  have f_out0 := B13_out.out.frozen 0
  have c_out1 := B13_out.out.cell 1
  have f_out1 := B13_out.out.frozen 1
  have c_out2 := B13_out.out.cell 2
  have f_out2 := B13_out.out.frozen 2
  have c_out3 := B13_out.out.cell 3
  have f_out3 := B13_out.out.frozen 3
  have c_out4 := B13_out.out.cell 4
  have f_out4 := B13_out.out.frozen 4
  have c_out5 := B13_out.out.cell 5
  have f_out5 := B13_out.out.frozen 5
  have c_out6 := B13_out.out.cell 6
  have f_out6 := B13_out.out.frozen 6
  have l_out := B13_out.out.lt
  have c_bx0 := B13_bx.out.cell 0
  have c_bx1 := B13_bx.out.cell 1
  have c_bx2 := B13_bx.out.cell 2
  have c_bx3 := B13_bx.out.cell 3
  have c_bx4 := B13_bx.out.cell 4
  have c_bx5 := B13_bx.out.cell 5
  have c_bx6 := B13_bx.out.cell 6
  have l_bx := B13_bx.out.lt
  have c_bz0 := B13_bz.out.cell 0
  have f_bz0 := B13_bz.out.frozen 0
  have c_bz1 := B13_bz.out.cell 1
  have f_bz1 := B13_bz.out.frozen 1
  have c_bz2 := B13_bz.out.cell 2
  have f_bz2 := B13_bz.out.frozen 2
  have c_bz3 := B13_bz.out.cell 3
  have f_bz3 := B13_bz.out.frozen 3
  have c_bz4 := B13_bz.out.cell 4
  have f_bz4 := B13_bz.out.frozen 4
  have c_bz5 := B13_bz.out.cell 5
  have f_bz5 := B13_bz.out.frozen 5
  have c_bz6 := B13_bz.out.cell 6
  have f_bz6 := B13_bz.out.frozen 6
  have l_bz := B13_bz.out.lt
  go_upto_region 17 with fail
  clear c_out0 f_out0 c_out1 f_out1 c_out2 f_out2 c_out3 f_out3 c_out4 f_out4 c_out5 f_out5 c_out6 f_out6 l_out c_bx0 c_bx1 c_bx2 c_bx3 c_bx4 c_bx5 c_bx6 l_bx c_bz0 f_bz0 c_bz1 f_bz1 c_bz2 f_bz2 c_bz3 f_bz3 c_bz4 f_bz4 c_bz5 f_bz5 c_bz6 f_bz6 l_bz
  have hsz14 := HB13.out.size
  have hb14 : Below w.heap.size w (W13.setCell ⟨W5.heap.size, 1, none⟩ (.int .i64 (-1))) := (HB13.out).setCell (by show w.heap.size ≤ W5.heap.size; omega) _
  have b_bx14 : Blk (W13.setCell ⟨W5.heap.size, 1, none⟩ (.int .i64 (-1))) (w.heap.size) 26 #[.int .i64 ep, .int .i64 ld, .slice (some ⟨b1, o1, none⟩) is.length c1, .slice (some ⟨b3, o3, none⟩) ks.length c3, .slice (some ⟨b5, o5, none⟩) rs.length c5, .int .i64 fw, .int .i64 ba] := (B13_bx.out).far (p := ⟨W5.heap.size, 1, none⟩) (by show w.heap.size ≠ W5.heap.size; omega) _
  have b_bz14 : Blk (W13.setCell ⟨W5.heap.size, 1, none⟩ (.int .i64 (-1))) (w.heap.size + 1) 26 #[.int .i64 0, .int .i64 0, .slice none 0 0, .slice none 0 0, .slice none 0 0, .int .i64 0, .int .i64 0] := (B13_bz.out).far (p := ⟨W5.heap.size, 1, none⟩) (by show w.heap.size + 1 ≠ W5.heap.size; omega) _
  have b_bl14 : Blk (W13.setCell ⟨W5.heap.size, 1, none⟩ (.int .i64 (-1))) (W3.heap.size) 42 #[.slice A9 lb.length c9, .int .i64 (m : Int)] := (B13_bl.out).far (p := ⟨W5.heap.size, 1, none⟩) (by show W3.heap.size ≠ W5.heap.size; omega) _
  have b_out14 : Blk (W13.setCell ⟨W5.heap.size, 1, none⟩ (.int .i64 (-1))) (W5.heap.size) 26 #[.int .i64 ep, .int .i64 (-1), .slice (some ⟨gi, 0, none⟩) is.length d1, .slice (some ⟨gk, 0, none⟩) ks.length d3, .slice (some ⟨gr, 0, none⟩) rs.length d5, .int .i64 fw, .int .i64 ba] := (B13_out.out).set_ 1 _
  have k_own14 := (PO.lead (K13_own.out.blk B13_out.out 1 (.int .i64 (-1))) (-1))
  have hz14 : W13.heap.size + 0 ≤ (W13.setCell ⟨W5.heap.size, 1, none⟩ (.int .i64 (-1))).heap.size := by first | omega | (simp; done) | (simp; omega)
  generalize W13.setCell ⟨W5.heap.size, 1, none⟩ (.int .i64 (-1)) = W14 at *
  have HB14 := Lib.hid hb14
  have B14_bx := Lib.hid b_bx14
  have B14_bz := Lib.hid b_bz14
  have B14_bl := Lib.hid b_bl14
  have B14_out := Lib.hid b_out14
  have K14_own := Lib.hid k_own14
  clear hb14 b_bx14 b_bz14 b_bl14 b_out14 k_own14
  clear B13_bx B13_bz B13_bl B13_out HB13 K13_own
  have c_out0 := B14_out.out.cell 0
  have c_out1 := B14_out.out.cell 1
  have c_out2 := B14_out.out.cell 2
  have c_out3 := B14_out.out.cell 3
  have c_out4 := B14_out.out.cell 4
  have c_out5 := B14_out.out.cell 5
  have c_out6 := B14_out.out.cell 6
  have l_out := B14_out.out.lt
  have c_bz0 := B14_bz.out.cell 0
  have f_bz0 := B14_bz.out.frozen 0
  have c_bz1 := B14_bz.out.cell 1
  have f_bz1 := B14_bz.out.frozen 1
  have c_bz2 := B14_bz.out.cell 2
  have f_bz2 := B14_bz.out.frozen 2
  have c_bz3 := B14_bz.out.cell 3
  have f_bz3 := B14_bz.out.frozen 3
  have c_bz4 := B14_bz.out.cell 4
  have f_bz4 := B14_bz.out.frozen 4
  have c_bz5 := B14_bz.out.cell 5
  have f_bz5 := B14_bz.out.frozen 5
  have c_bz6 := B14_bz.out.cell 6
  have f_bz6 := B14_bz.out.frozen 6
  have l_bz := B14_bz.out.lt
  go_wp2_with fail
  clear c_out0 c_out1 c_out2 c_out3 c_out4 c_out5 c_out6 l_out c_bz0 f_bz0 c_bz1 f_bz1 c_bz2 f_bz2 c_bz3 f_bz3 c_bz4 f_bz4 c_bz5 f_bz5 c_bz6 f_bz6 l_bz
  have hszF := HB14.out.size
  have hbF : Below w.heap.size w (((((((W14.setCell ⟨w.heap.size + 1, 0, none⟩ (.int .i64 ep)).setCell ⟨w.heap.size + 1, 1, none⟩ (.int .i64 (-1))).setCell ⟨w.heap.size + 1, 2, none⟩ (.slice (some ⟨gi, 0, none⟩) is.length d1)).setCell ⟨w.heap.size + 1, 3, none⟩ (.slice (some ⟨gk, 0, none⟩) ks.length d3)).setCell ⟨w.heap.size + 1, 4, none⟩ (.slice (some ⟨gr, 0, none⟩) rs.length d5)).setCell ⟨w.heap.size + 1, 5, none⟩ (.int .i64 fw)).setCell ⟨w.heap.size + 1, 6, none⟩ (.int .i64 ba)) := (((((((HB14.out).setCell (by show w.heap.size ≤ w.heap.size + 1; omega) _).setCell (by show w.heap.size ≤ w.heap.size + 1; omega) _).setCell (by show w.heap.size ≤ w.heap.size + 1; omega) _).setCell (by show w.heap.size ≤ w.heap.size + 1; omega) _).setCell (by show w.heap.size ≤ w.heap.size + 1; omega) _).setCell (by show w.heap.size ≤ w.heap.size + 1; omega) _).setCell (by show w.heap.size ≤ w.heap.size + 1; omega) _
  have b_bxF : Blk (((((((W14.setCell ⟨w.heap.size + 1, 0, none⟩ (.int .i64 ep)).setCell ⟨w.heap.size + 1, 1, none⟩ (.int .i64 (-1))).setCell ⟨w.heap.size + 1, 2, none⟩ (.slice (some ⟨gi, 0, none⟩) is.length d1)).setCell ⟨w.heap.size + 1, 3, none⟩ (.slice (some ⟨gk, 0, none⟩) ks.length d3)).setCell ⟨w.heap.size + 1, 4, none⟩ (.slice (some ⟨gr, 0, none⟩) rs.length d5)).setCell ⟨w.heap.size + 1, 5, none⟩ (.int .i64 fw)).setCell ⟨w.heap.size + 1, 6, none⟩ (.int .i64 ba)) (w.heap.size) 26 #[.int .i64 ep, .int .i64 ld, .slice (some ⟨b1, o1, none⟩) is.length c1, .slice (some ⟨b3, o3, none⟩) ks.length c3, .slice (some ⟨b5, o5, none⟩) rs.length c5, .int .i64 fw, .int .i64 ba] := (((((((B14_bx.out).far (p := ⟨w.heap.size + 1, 0, none⟩) (by show w.heap.size ≠ w.heap.size + 1; omega) _).far (p := ⟨w.heap.size + 1, 1, none⟩) (by show w.heap.size ≠ w.heap.size + 1; omega) _).far (p := ⟨w.heap.size + 1, 2, none⟩) (by show w.heap.size ≠ w.heap.size + 1; omega) _).far (p := ⟨w.heap.size + 1, 3, none⟩) (by show w.heap.size ≠ w.heap.size + 1; omega) _).far (p := ⟨w.heap.size + 1, 4, none⟩) (by show w.heap.size ≠ w.heap.size + 1; omega) _).far (p := ⟨w.heap.size + 1, 5, none⟩) (by show w.heap.size ≠ w.heap.size + 1; omega) _).far (p := ⟨w.heap.size + 1, 6, none⟩) (by show w.heap.size ≠ w.heap.size + 1; omega) _
  have b_bzF : Blk (((((((W14.setCell ⟨w.heap.size + 1, 0, none⟩ (.int .i64 ep)).setCell ⟨w.heap.size + 1, 1, none⟩ (.int .i64 (-1))).setCell ⟨w.heap.size + 1, 2, none⟩ (.slice (some ⟨gi, 0, none⟩) is.length d1)).setCell ⟨w.heap.size + 1, 3, none⟩ (.slice (some ⟨gk, 0, none⟩) ks.length d3)).setCell ⟨w.heap.size + 1, 4, none⟩ (.slice (some ⟨gr, 0, none⟩) rs.length d5)).setCell ⟨w.heap.size + 1, 5, none⟩ (.int .i64 fw)).setCell ⟨w.heap.size + 1, 6, none⟩ (.int .i64 ba)) (w.heap.size + 1) 26 #[.int .i64 ep, .int .i64 (-1), .slice (some ⟨gi, 0, none⟩) is.length d1, .slice (some ⟨gk, 0, none⟩) ks.length d3, .slice (some ⟨gr, 0, none⟩) rs.length d5, .int .i64 fw, .int .i64 ba] := (((((((B14_bz.out).set_ 0 _).set_ 1 _).set_ 2 _).set_ 3 _).set_ 4 _).set_ 5 _).set_ 6 _
  have b_blF : Blk (((((((W14.setCell ⟨w.heap.size + 1, 0, none⟩ (.int .i64 ep)).setCell ⟨w.heap.size + 1, 1, none⟩ (.int .i64 (-1))).setCell ⟨w.heap.size + 1, 2, none⟩ (.slice (some ⟨gi, 0, none⟩) is.length d1)).setCell ⟨w.heap.size + 1, 3, none⟩ (.slice (some ⟨gk, 0, none⟩) ks.length d3)).setCell ⟨w.heap.size + 1, 4, none⟩ (.slice (some ⟨gr, 0, none⟩) rs.length d5)).setCell ⟨w.heap.size + 1, 5, none⟩ (.int .i64 fw)).setCell ⟨w.heap.size + 1, 6, none⟩ (.int .i64 ba)) (W3.heap.size) 42 #[.slice A9 lb.length c9, .int .i64 (m : Int)] := (((((((B14_bl.out).far (p := ⟨w.heap.size + 1, 0, none⟩) (by show W3.heap.size ≠ w.heap.size + 1; omega) _).far (p := ⟨w.heap.size + 1, 1, none⟩) (by show W3.heap.size ≠ w.heap.size + 1; omega) _).far (p := ⟨w.heap.size + 1, 2, none⟩) (by show W3.heap.size ≠ w.heap.size + 1; omega) _).far (p := ⟨w.heap.size + 1, 3, none⟩) (by show W3.heap.size ≠ w.heap.size + 1; omega) _).far (p := ⟨w.heap.size + 1, 4, none⟩) (by show W3.heap.size ≠ w.heap.size + 1; omega) _).far (p := ⟨w.heap.size + 1, 5, none⟩) (by show W3.heap.size ≠ w.heap.size + 1; omega) _).far (p := ⟨w.heap.size + 1, 6, none⟩) (by show W3.heap.size ≠ w.heap.size + 1; omega) _
  have b_outF : Blk (((((((W14.setCell ⟨w.heap.size + 1, 0, none⟩ (.int .i64 ep)).setCell ⟨w.heap.size + 1, 1, none⟩ (.int .i64 (-1))).setCell ⟨w.heap.size + 1, 2, none⟩ (.slice (some ⟨gi, 0, none⟩) is.length d1)).setCell ⟨w.heap.size + 1, 3, none⟩ (.slice (some ⟨gk, 0, none⟩) ks.length d3)).setCell ⟨w.heap.size + 1, 4, none⟩ (.slice (some ⟨gr, 0, none⟩) rs.length d5)).setCell ⟨w.heap.size + 1, 5, none⟩ (.int .i64 fw)).setCell ⟨w.heap.size + 1, 6, none⟩ (.int .i64 ba)) (W5.heap.size) 26 #[.int .i64 ep, .int .i64 (-1), .slice (some ⟨gi, 0, none⟩) is.length d1, .slice (some ⟨gk, 0, none⟩) ks.length d3, .slice (some ⟨gr, 0, none⟩) rs.length d5, .int .i64 fw, .int .i64 ba] := (((((((B14_out.out).far (p := ⟨w.heap.size + 1, 0, none⟩) (by show W5.heap.size ≠ w.heap.size + 1; omega) _).far (p := ⟨w.heap.size + 1, 1, none⟩) (by show W5.heap.size ≠ w.heap.size + 1; omega) _).far (p := ⟨w.heap.size + 1, 2, none⟩) (by show W5.heap.size ≠ w.heap.size + 1; omega) _).far (p := ⟨w.heap.size + 1, 3, none⟩) (by show W5.heap.size ≠ w.heap.size + 1; omega) _).far (p := ⟨w.heap.size + 1, 4, none⟩) (by show W5.heap.size ≠ w.heap.size + 1; omega) _).far (p := ⟨w.heap.size + 1, 5, none⟩) (by show W5.heap.size ≠ w.heap.size + 1; omega) _).far (p := ⟨w.heap.size + 1, 6, none⟩) (by show W5.heap.size ≠ w.heap.size + 1; omega) _
  have k_ownF := (((((((K14_own.out).under (a := ⟨w.heap.size + 1, 0, none⟩) (by (try dsimp only); omega) (.int .i64 ep)).under (a := ⟨w.heap.size + 1, 1, none⟩) (by (try dsimp only); omega) (.int .i64 (-1))).under (a := ⟨w.heap.size + 1, 2, none⟩) (by (try dsimp only); omega) (.slice (some ⟨gi, 0, none⟩) is.length d1)).under (a := ⟨w.heap.size + 1, 3, none⟩) (by (try dsimp only); omega) (.slice (some ⟨gk, 0, none⟩) ks.length d3)).under (a := ⟨w.heap.size + 1, 4, none⟩) (by (try dsimp only); omega) (.slice (some ⟨gr, 0, none⟩) rs.length d5)).under (a := ⟨w.heap.size + 1, 5, none⟩) (by (try dsimp only); omega) (.int .i64 fw)).under (a := ⟨w.heap.size + 1, 6, none⟩) (by (try dsimp only); omega) (.int .i64 ba)
  rw [HMI.out]
  have y0 := b_bzF.cell 0
  have y1 := b_bzF.cell 1
  have y2 := b_bzF.cell 2
  have y3 := b_bzF.cell 3
  have y4 := b_bzF.cell 4
  have y5 := b_bzF.cell 5
  have y6 := b_bzF.cell 6
  exact bodyPost_ret (v := .tuple #[.agg #[.int .i64 ep, .int .i64 (-1), .slice (some ⟨gi, 0, none⟩) is.length d1, .slice (some ⟨gk, 0, none⟩) ks.length d3, .slice (some ⟨gr, 0, none⟩) rs.length d5, .int .i64 fw, .int .i64 ba], .int .i64 0]) (by simp [results, Try.results55, go_sem, y0, y1, y2, y3, y4, y5, y6]) rfl (⟨_, _, _, rfl, k_ownF.more (by omega), hbF⟩)
set_option maxRecDepth 100000 in
set_option maxHeartbeats 4000000 in
theorem pcrashOf_lead_low (v : Value) (c : PartD) (i : Nat) (keep : Nat) (hn : PartOk c) (hi : i < c.reps.length) (hl : c.leader = i) (hu : c.reps[i].up = true) {es2 : List Ent} {m : Nat} {lb : List UInt8} (hlb : c.reps[i].bytes.take m = lb) (hd : dec (c.reps[i].bytes.take (crashN c.reps[i] keep)) = (es2, m)) (hq : ¬ (es2.length : Int) < c.reps[i].high) (w : World) (h : Pv w v c) : Calls Try.prog 55 #[v, .int .i64 i, .int .i64 keep] w (OwnsP ⟨c.epoch, -1, c.isr, c.known.set i 0, c.reps.set i ⟨false, lb, (m : Int), min c.reps[i].high (es2.length : Int)⟩, c.few, c.base⟩ w) := by
  have eqk := hn.known
  have eqi := hn.isr
  obtain ⟨xi, xk, xr, rfl, ix, kx, rx, hli, hlk, hlr⟩ := id h
  obtain ⟨A5, c5, rfl, hc5, hx5⟩ := rx.at_
  obtain ⟨A1, c1, rfl, hc1, hx1⟩ := ix.at_
  obtain ⟨A3, c3, rfl, hc3, hx3⟩ := kx.at_
  have H := Lib.hid h
  clear h ix kx rx
  unfold partV at *
  obtain ⟨ep, ld, is, ks, rs, fw, ba⟩ := c
  simp only at *
  have HN := Lib.hid hn
  have HSM := Lib.hid hn.small
  clear hn
  (try simp only at eqk eqi)
  have E1 := Lib.hid eqi
  have E2 := Lib.hid eqk
  have i0 : (0 : Int) ≤ (i : Int) := by omega
  have i1 : (i : Int) < (rs.length : Int) := Int.ofNat_lt.2 hi
  have i2 : (i : Int) < (is.length : Int) := by omega
  have i3 : (i : Int) < (ks.length : Int) := by omega
  have j2 : i < is.length := by omega
  have j3 : i < ks.length := by omega
  clear eqk eqi
  obtain ⟨b5, o5, rfl, hb5, hcell5⟩ := hx5 (Nat.lt_of_le_of_lt (Nat.zero_le _) hi)
  obtain ⟨pv, x0, x1, x2, x3, xb, xl⟩ := hcell5 i hi
  obtain ⟨b1, o1, rfl, hb1, hcell1⟩ := hx1 (by omega)
  have y0 := hcell1 i (by omega)
  obtain ⟨b3, o3, rfl, hb3, hcell3⟩ := hx3 (by omega)
  have u0 := hcell3 i (by omega)
  obtain ⟨A6, c6, rfl, -, -⟩ := xb.at_
  have XB := Lib.hid (And.intro x1 (And.intro x2 xb))
  have XC := Lib.hid (And.intro x0 (And.intro x3 (And.intro y0 u0)))
  clear hcell5 hcell1 hcell3 x0 x1 x2 x3 xb xl y0 u0 hx1 hx3 hx5
  have hup : rs[i].up = true := hu
  have HU := Lib.hid hup
  clear hu hup
  obtain ⟨es, j, hlog⟩ := HN.out.log i hi
  have hlog2 := LogIs.cut (p := crashN rs[i] keep) hlog hd
  rw [hlb] at hlog2
  have HLB := Lib.hid hlb
  have hlc : lb.length ≤ 40000 := by have := hlog2.long; rw [← hlog2.bytes] at this; exact this
  have HLG := Lib.hid hlog
  have HLG2 := Lib.hid hlog2
  have HDC := Lib.hid hd
  have HLC := Lib.hid hlc
  clear hlog hlog2 hd hlc hlb
  have y9 : (ld == (i : Int)) = true := beq_iff_eq.2 hl
  clear hl
  have y8 : decide ((es2.length : Int) < rs[i].high) = false := decide_eq_false hq
  have HMI := Lib.hid (show min rs[i].high (es2.length : Int) = rs[i].high by omega)
  clear hq
  go_enter Try.func55, Try.ntmps55
  go_wp2_with fail
  have hb1 : Below w.heap.size w ((w.alloc (.cells #[.int .i64 ep, .int .i64 ld, .slice (some ⟨b1, o1, none⟩) is.length c1, .slice (some ⟨b3, o3, none⟩) ks.length c3, .slice (some ⟨b5, o5, none⟩) rs.length c5, .int .i64 fw, .int .i64 ba] 26)).alloc (.cells #[.int .i64 0, .int .i64 0, .slice none 0 0, .slice none 0 0, .slice none 0 0, .int .i64 0, .int .i64 0] 26)) := ((Below.refl _ _).alloc (by first | omega | (simp; done) | (simp; omega)) _).alloc (by first | omega | (simp; done) | (simp; omega)) _
  have hal1 : Below w.heap.size w ((w.alloc (.cells #[.int .i64 ep, .int .i64 ld, .slice (some ⟨b1, o1, none⟩) is.length c1, .slice (some ⟨b3, o3, none⟩) ks.length c3, .slice (some ⟨b5, o5, none⟩) rs.length c5, .int .i64 fw, .int .i64 ba] 26)).alloc (.cells #[.int .i64 0, .int .i64 0, .slice none 0 0, .slice none 0 0, .slice none 0 0, .int .i64 0, .int .i64 0] 26)) := ((Below.refl _ _).alloc (by first | omega | (simp; done) | (simp; omega)) _).alloc (by first | omega | (simp; done) | (simp; omega)) _
  have b_bx1 : Blk ((w.alloc (.cells #[.int .i64 ep, .int .i64 ld, .slice (some ⟨b1, o1, none⟩) is.length c1, .slice (some ⟨b3, o3, none⟩) ks.length c3, .slice (some ⟨b5, o5, none⟩) rs.length c5, .int .i64 fw, .int .i64 ba] 26)).alloc (.cells #[.int .i64 0, .int .i64 0, .slice none 0 0, .slice none 0 0, .slice none 0 0, .int .i64 0, .int .i64 0] 26)) (w.heap.size) 26 #[.int .i64 ep, .int .i64 ld, .slice (some ⟨b1, o1, none⟩) is.length c1, .slice (some ⟨b3, o3, none⟩) ks.length c3, .slice (some ⟨b5, o5, none⟩) rs.length c5, .int .i64 fw, .int .i64 ba] := (Blk.new_ _ 26 #[.int .i64 ep, .int .i64 ld, .slice (some ⟨b1, o1, none⟩) is.length c1, .slice (some ⟨b3, o3, none⟩) ks.length c3, .slice (some ⟨b5, o5, none⟩) rs.length c5, .int .i64 fw, .int .i64 ba] (by first | rfl | (simp; done) | (simp; omega))).alloc _
  have b_bz1 : Blk ((w.alloc (.cells #[.int .i64 ep, .int .i64 ld, .slice (some ⟨b1, o1, none⟩) is.length c1, .slice (some ⟨b3, o3, none⟩) ks.length c3, .slice (some ⟨b5, o5, none⟩) rs.length c5, .int .i64 fw, .int .i64 ba] 26)).alloc (.cells #[.int .i64 0, .int .i64 0, .slice none 0 0, .slice none 0 0, .slice none 0 0, .int .i64 0, .int .i64 0] 26)) (w.heap.size + 1) 26 #[.int .i64 0, .int .i64 0, .slice none 0 0, .slice none 0 0, .slice none 0 0, .int .i64 0, .int .i64 0] := Blk.new_ _ 26 #[.int .i64 0, .int .i64 0, .slice none 0 0, .slice none 0 0, .slice none 0 0, .int .i64 0, .int .i64 0] (by first | rfl | (simp; done) | (simp; omega))
  have k_v1 := H.out.below hal1
  have hz1 : w.heap.size + 2 ≤ ((w.alloc (.cells #[.int .i64 ep, .int .i64 ld, .slice (some ⟨b1, o1, none⟩) is.length c1, .slice (some ⟨b3, o3, none⟩) ks.length c3, .slice (some ⟨b5, o5, none⟩) rs.length c5, .int .i64 fw, .int .i64 ba] 26)).alloc (.cells #[.int .i64 0, .int .i64 0, .slice none 0 0, .slice none 0 0, .slice none 0 0, .int .i64 0, .int .i64 0] 26)).heap.size := by first | omega | (simp; done) | (simp; omega)
  generalize (w.alloc (.cells #[.int .i64 ep, .int .i64 ld, .slice (some ⟨b1, o1, none⟩) is.length c1, .slice (some ⟨b3, o3, none⟩) ks.length c3, .slice (some ⟨b5, o5, none⟩) rs.length c5, .int .i64 fw, .int .i64 ba] 26)).alloc (.cells #[.int .i64 0, .int .i64 0, .slice none 0 0, .slice none 0 0, .slice none 0 0, .int .i64 0, .int .i64 0] 26) = W1 at *
  have HB1 := Lib.hid hb1
  have B1_bx := Lib.hid b_bx1
  have B1_bz := Lib.hid b_bz1
  have K1_v := Lib.hid k_v1
  clear hb1 b_bx1 b_bz1 k_v1
  clear H
  refine (partFault_ok _ ⟨ep, ld, is, ks, rs, fw, ba⟩ i HN.out hi _ K1_v.out).mono ?_
  rintro e W2 ⟨rfl, hb⟩
  have hb2 : Below w.heap.size w W2 := below_then HB1.out hb
  have b_bx2 := B1_bx.out.below hb B1_bx.out.lt
  have b_bz2 := B1_bz.out.below hb B1_bz.out.lt
  have k_v2 := K1_v.out.below hb
  have hz2 := hb.size
  have HB2 := Lib.hid hb2
  have B2_bx := Lib.hid b_bx2
  have B2_bz := Lib.hid b_bz2
  have K2_v := Lib.hid k_v2
  clear hb2 b_bx2 b_bz2 k_v2
  clear B1_bx B1_bz HB1 K1_v
  have c_bx0 := B2_bx.out.cell 0
  have c_bx1 := B2_bx.out.cell 1
  have c_bx2 := B2_bx.out.cell 2
  have c_bx3 := B2_bx.out.cell 3
  have c_bx4 := B2_bx.out.cell 4
  have c_bx5 := B2_bx.out.cell 5
  have c_bx6 := B2_bx.out.cell 6
  have l_bx := B2_bx.out.lt
  have v0 := (HB2.out.cell (p := ⟨b5, o5 + i * 4, none⟩) hb5).trans XC.out.1
  have v3 := (HB2.out.cell (p := ⟨b5, o5 + i * 4 + 3, none⟩) hb5).trans XC.out.2.1
  have v1 := (HB2.out.cell (p := ⟨b1, o1 + i, none⟩) hb1).trans XC.out.2.2.1
  have v2 := (HB2.out.cell (p := ⟨b3, o3 + i, none⟩) hb3).trans XC.out.2.2.2
  have vl5 := Nat.lt_of_lt_of_le hb5 HB2.out.size
  have vl1 := Nat.lt_of_lt_of_le hb1 HB2.out.size
  have vl3 := Nat.lt_of_lt_of_le hb3 HB2.out.size
  rw [HU.out] at v0
  have v4 := (HB2.out.cell (p := ⟨b5, o5 + i * 4 + 1, none⟩) hb5).trans XB.out.1
  have v5 := (HB2.out.cell (p := ⟨b5, o5 + i * 4 + 2, none⟩) hb5).trans XB.out.2.1
  go_wp2_with fail
  clear c_bx0 c_bx1 c_bx2 c_bx3 c_bx4 c_bx5 c_bx6 l_bx v0 v3 v1 v2 vl5 vl1 vl3 v4 v5
  refine (crashedOf_ok _ _ _ keep _ (XB.out.2.2.below HB2.out) HLG.out (p := crashN rs[i] keep) rfl HDC.out).mono ?_
  rintro e W3 ⟨v5, rfl, hp5, hb⟩
  dsimp only at hp5
  rw [HLB.out] at hp5
  obtain ⟨A9, c9, rfl, hc9⟩ := (Sl.of_own hp5).form
  have HLO := Lib.hid (LgO.mk hp5)
  clear hp5
  have hb3 : Below w.heap.size w W3 := below_then HB2.out hb
  have b_bx3 := B2_bx.out.below hb B2_bx.out.lt
  have b_bz3 := B2_bz.out.below hb B2_bz.out.lt
  have k_v3 := K2_v.out.below hb
  have hz3 := hb.size
  have HB3 := Lib.hid hb3
  have B3_bx := Lib.hid b_bx3
  have B3_bz := Lib.hid b_bz3
  have K3_v := Lib.hid k_v3
  clear hb3 b_bx3 b_bz3 k_v3
  clear B2_bx B2_bz HB2 K2_v
  go_upto_region 7 with fail
  have hsz4 := HB3.out.size
  have hb4 : Below w.heap.size w (W3.alloc (.cells #[.slice A9 lb.length c9, .int .i64 (m : Int)] 42)) := (HB3.out).alloc (by first | omega | (simp; done) | (simp; omega)) _
  have hal4 : Below W3.heap.size W3 (W3.alloc (.cells #[.slice A9 lb.length c9, .int .i64 (m : Int)] 42)) := (Below.refl _ _).alloc (by first | omega | (simp; done) | (simp; omega)) _
  have b_bx4 : Blk (W3.alloc (.cells #[.slice A9 lb.length c9, .int .i64 (m : Int)] 42)) (w.heap.size) 26 #[.int .i64 ep, .int .i64 ld, .slice (some ⟨b1, o1, none⟩) is.length c1, .slice (some ⟨b3, o3, none⟩) ks.length c3, .slice (some ⟨b5, o5, none⟩) rs.length c5, .int .i64 fw, .int .i64 ba] := (B3_bx.out).alloc _
  have b_bz4 : Blk (W3.alloc (.cells #[.slice A9 lb.length c9, .int .i64 (m : Int)] 42)) (w.heap.size + 1) 26 #[.int .i64 0, .int .i64 0, .slice none 0 0, .slice none 0 0, .slice none 0 0, .int .i64 0, .int .i64 0] := (B3_bz.out).alloc _
  have b_bl4 : Blk (W3.alloc (.cells #[.slice A9 lb.length c9, .int .i64 (m : Int)] 42)) (W3.heap.size) 42 #[.slice A9 lb.length c9, .int .i64 (m : Int)] := Blk.new_ _ 42 #[.slice A9 lb.length c9, .int .i64 (m : Int)] (by first | rfl | (simp; done) | (simp; omega))
  have k_v4 := K3_v.out.below hal4
  have k_lg4 := (HLO.out).alloc (.cells #[.slice A9 lb.length c9, .int .i64 (m : Int)] 42)
  have hz4 : W3.heap.size + 1 ≤ (W3.alloc (.cells #[.slice A9 lb.length c9, .int .i64 (m : Int)] 42)).heap.size := by first | omega | (simp; done) | (simp; omega)
  generalize W3.alloc (.cells #[.slice A9 lb.length c9, .int .i64 (m : Int)] 42) = W4 at *
  have HB4 := Lib.hid hb4
  have B4_bx := Lib.hid b_bx4
  have B4_bz := Lib.hid b_bz4
  have B4_bl := Lib.hid b_bl4
  have K4_v := Lib.hid k_v4
  have K4_lg := Lib.hid k_lg4
  clear hb4 b_bx4 b_bz4 b_bl4 k_v4 k_lg4
  clear B3_bx B3_bz HB3 K3_v HLO
  have c_bx0 := B4_bx.out.cell 0
  have c_bx1 := B4_bx.out.cell 1
  have c_bx2 := B4_bx.out.cell 2
  have c_bx3 := B4_bx.out.cell 3
  have c_bx4 := B4_bx.out.cell 4
  have c_bx5 := B4_bx.out.cell 5
  have c_bx6 := B4_bx.out.cell 6
  have l_bx := B4_bx.out.lt
  go_wp2_with fail
  clear c_bx0 c_bx1 c_bx2 c_bx3 c_bx4 c_bx5 c_bx6 l_bx
  refine (refPartCopy_ok (c := ⟨ep, ld, is, ks, rs, fw, ba⟩) (K4_v.out) HSM.out).mono ?_
  rintro e W5 ⟨iv, kv, rv, rfl, ho, hb⟩
  obtain ⟨gi, d1, gk, d3, gr, d5, rfl, rfl, rfl, hgi, hgk, hgr, hgi', hgk', hgr'⟩ := ho.rows (by have := HN.out.isr; have := HN.out.many; simp only at *; omega) (by have := HN.out.known; have := HN.out.many; simp only at *; omega) (by have := HN.out.many; simp only at *; omega)
  unfold partV
  simp only at *
  have HO := Lib.hid ho
  clear ho
  have hb5 : Below w.heap.size w W5 := below_then HB4.out hb
  have b_bx5 := B4_bx.out.below hb B4_bx.out.lt
  have b_bz5 := B4_bz.out.below hb B4_bz.out.lt
  have b_bl5 := B4_bl.out.below hb B4_bl.out.lt
  have k_v5 := K4_v.out.below hb
  have k_lg5 := K4_lg.out.keep hb
  have hz5 := hb.size
  have HB5 := Lib.hid hb5
  have B5_bx := Lib.hid b_bx5
  have B5_bz := Lib.hid b_bz5
  have B5_bl := Lib.hid b_bl5
  have K5_v := Lib.hid k_v5
  have K5_lg := Lib.hid k_lg5
  clear hb5 b_bx5 b_bz5 b_bl5 k_v5 k_lg5
  clear B4_bx B4_bz B4_bl HB4 K4_v K4_lg
  go_upto_region 10 with fail
  have hsz6 := HB5.out.size
  have hb6 : Below w.heap.size w (W5.alloc (.cells #[.int .i64 ep, .int .i64 ld, .slice (some ⟨gi, 0, none⟩) is.length d1, .slice (some ⟨gk, 0, none⟩) ks.length d3, .slice (some ⟨gr, 0, none⟩) rs.length d5, .int .i64 fw, .int .i64 ba] 26)) := (HB5.out).alloc (by first | omega | (simp; done) | (simp; omega)) _
  have hal6 : Below W5.heap.size W5 (W5.alloc (.cells #[.int .i64 ep, .int .i64 ld, .slice (some ⟨gi, 0, none⟩) is.length d1, .slice (some ⟨gk, 0, none⟩) ks.length d3, .slice (some ⟨gr, 0, none⟩) rs.length d5, .int .i64 fw, .int .i64 ba] 26)) := (Below.refl _ _).alloc (by first | omega | (simp; done) | (simp; omega)) _
  have b_bx6 : Blk (W5.alloc (.cells #[.int .i64 ep, .int .i64 ld, .slice (some ⟨gi, 0, none⟩) is.length d1, .slice (some ⟨gk, 0, none⟩) ks.length d3, .slice (some ⟨gr, 0, none⟩) rs.length d5, .int .i64 fw, .int .i64 ba] 26)) (w.heap.size) 26 #[.int .i64 ep, .int .i64 ld, .slice (some ⟨b1, o1, none⟩) is.length c1, .slice (some ⟨b3, o3, none⟩) ks.length c3, .slice (some ⟨b5, o5, none⟩) rs.length c5, .int .i64 fw, .int .i64 ba] := (B5_bx.out).alloc _
  have b_bz6 : Blk (W5.alloc (.cells #[.int .i64 ep, .int .i64 ld, .slice (some ⟨gi, 0, none⟩) is.length d1, .slice (some ⟨gk, 0, none⟩) ks.length d3, .slice (some ⟨gr, 0, none⟩) rs.length d5, .int .i64 fw, .int .i64 ba] 26)) (w.heap.size + 1) 26 #[.int .i64 0, .int .i64 0, .slice none 0 0, .slice none 0 0, .slice none 0 0, .int .i64 0, .int .i64 0] := (B5_bz.out).alloc _
  have b_bl6 : Blk (W5.alloc (.cells #[.int .i64 ep, .int .i64 ld, .slice (some ⟨gi, 0, none⟩) is.length d1, .slice (some ⟨gk, 0, none⟩) ks.length d3, .slice (some ⟨gr, 0, none⟩) rs.length d5, .int .i64 fw, .int .i64 ba] 26)) (W3.heap.size) 42 #[.slice A9 lb.length c9, .int .i64 (m : Int)] := (B5_bl.out).alloc _
  have b_out6 : Blk (W5.alloc (.cells #[.int .i64 ep, .int .i64 ld, .slice (some ⟨gi, 0, none⟩) is.length d1, .slice (some ⟨gk, 0, none⟩) ks.length d3, .slice (some ⟨gr, 0, none⟩) rs.length d5, .int .i64 fw, .int .i64 ba] 26)) (W5.heap.size) 26 #[.int .i64 ep, .int .i64 ld, .slice (some ⟨gi, 0, none⟩) is.length d1, .slice (some ⟨gk, 0, none⟩) ks.length d3, .slice (some ⟨gr, 0, none⟩) rs.length d5, .int .i64 fw, .int .i64 ba] := Blk.new_ _ 26 #[.int .i64 ep, .int .i64 ld, .slice (some ⟨gi, 0, none⟩) is.length d1, .slice (some ⟨gk, 0, none⟩) ks.length d3, .slice (some ⟨gr, 0, none⟩) rs.length d5, .int .i64 fw, .int .i64 ba] (by first | rfl | (simp; done) | (simp; omega))
  have k_lg6 := (K5_lg.out).alloc (.cells #[.int .i64 ep, .int .i64 ld, .slice (some ⟨gi, 0, none⟩) is.length d1, .slice (some ⟨gk, 0, none⟩) ks.length d3, .slice (some ⟨gr, 0, none⟩) rs.length d5, .int .i64 fw, .int .i64 ba] 26)
  have k_own6 := (HO.out).alloc (.cells #[.int .i64 ep, .int .i64 ld, .slice (some ⟨gi, 0, none⟩) is.length d1, .slice (some ⟨gk, 0, none⟩) ks.length d3, .slice (some ⟨gr, 0, none⟩) rs.length d5, .int .i64 fw, .int .i64 ba] 26)
  have hz6 : W5.heap.size + 1 ≤ (W5.alloc (.cells #[.int .i64 ep, .int .i64 ld, .slice (some ⟨gi, 0, none⟩) is.length d1, .slice (some ⟨gk, 0, none⟩) ks.length d3, .slice (some ⟨gr, 0, none⟩) rs.length d5, .int .i64 fw, .int .i64 ba] 26)).heap.size := by first | omega | (simp; done) | (simp; omega)
  generalize W5.alloc (.cells #[.int .i64 ep, .int .i64 ld, .slice (some ⟨gi, 0, none⟩) is.length d1, .slice (some ⟨gk, 0, none⟩) ks.length d3, .slice (some ⟨gr, 0, none⟩) rs.length d5, .int .i64 fw, .int .i64 ba] 26) = W6 at *
  have HB6 := Lib.hid hb6
  have B6_bx := Lib.hid b_bx6
  have B6_bz := Lib.hid b_bz6
  have B6_bl := Lib.hid b_bl6
  have B6_out := Lib.hid b_out6
  have K6_lg := Lib.hid k_lg6
  have K6_own := Lib.hid k_own6
  clear hb6 b_bx6 b_bz6 b_bl6 b_out6 k_lg6 k_own6
  clear B5_bx B5_bz B5_bl HB5 K5_lg HO
  have c_out0 := B6_out.out.cell 0
  have f_out0 := B6_out.out.frozen 0
  have c_out1 := B6_out.out.cell 1
  have f_out1 := B6_out.out.frozen 1
  have c_out2 := B6_out.out.cell 2
  have f_out2 := B6_out.out.frozen 2
  have c_out3 := B6_out.out.cell 3
  have f_out3 := B6_out.out.frozen 3
  have c_out4 := B6_out.out.cell 4
  have f_out4 := B6_out.out.frozen 4
  have c_out5 := B6_out.out.cell 5
  have f_out5 := B6_out.out.frozen 5
  have c_out6 := B6_out.out.cell 6
  have f_out6 := B6_out.out.frozen 6
  have l_out := B6_out.out.lt
  have c_bl0 := B6_bl.out.cell 0
  have c_bl1 := B6_bl.out.cell 1
  have l_bl := B6_bl.out.lt
  obtain ⟨A7, c7, ⟨r0, r1, r2, r3⟩, ⟨rf0, rf1, rf2, rf3⟩, rby⟩ := K6_own.out.repAt i hi
  obtain ⟨s0, sf0⟩ := K6_own.out.isrAt i j2
  obtain ⟨t0, tf0⟩ := K6_own.out.knownAt i j3
  (try simp only at r0 r1 r2 r3 rby s0 t0)
  go_upto_region 12 with fail
  clear c_out0 f_out0 c_out1 f_out1 c_out2 f_out2 c_out3 f_out3 c_out4 f_out4 c_out5 f_out5 c_out6 f_out6 l_out c_bl0 c_bl1 l_bl r0 r1 r2 r3 rf0 rf1 rf2 rf3 rby s0 sf0 t0 tf0
  have hsz7 := HB6.out.size
  have hb7 : Below w.heap.size w (((W6.setCell ⟨gr, i * 4 + 1, none⟩ (.slice A9 lb.length c9)).setCell ⟨gr, i * 4 + 2, none⟩ (.int .i64 (m : Int))).setCell ⟨gr, i * 4, none⟩ (.bool false)) := (((HB6.out).setCell (by show w.heap.size ≤ gr; omega) _).setCell (by show w.heap.size ≤ gr; omega) _).setCell (by show w.heap.size ≤ gr; omega) _
  have b_bx7 : Blk (((W6.setCell ⟨gr, i * 4 + 1, none⟩ (.slice A9 lb.length c9)).setCell ⟨gr, i * 4 + 2, none⟩ (.int .i64 (m : Int))).setCell ⟨gr, i * 4, none⟩ (.bool false)) (w.heap.size) 26 #[.int .i64 ep, .int .i64 ld, .slice (some ⟨b1, o1, none⟩) is.length c1, .slice (some ⟨b3, o3, none⟩) ks.length c3, .slice (some ⟨b5, o5, none⟩) rs.length c5, .int .i64 fw, .int .i64 ba] := (((B6_bx.out).far (p := ⟨gr, i * 4 + 1, none⟩) (by show w.heap.size ≠ gr; omega) _).far (p := ⟨gr, i * 4 + 2, none⟩) (by show w.heap.size ≠ gr; omega) _).far (p := ⟨gr, i * 4, none⟩) (by show w.heap.size ≠ gr; omega) _
  have b_bz7 : Blk (((W6.setCell ⟨gr, i * 4 + 1, none⟩ (.slice A9 lb.length c9)).setCell ⟨gr, i * 4 + 2, none⟩ (.int .i64 (m : Int))).setCell ⟨gr, i * 4, none⟩ (.bool false)) (w.heap.size + 1) 26 #[.int .i64 0, .int .i64 0, .slice none 0 0, .slice none 0 0, .slice none 0 0, .int .i64 0, .int .i64 0] := (((B6_bz.out).far (p := ⟨gr, i * 4 + 1, none⟩) (by show w.heap.size + 1 ≠ gr; omega) _).far (p := ⟨gr, i * 4 + 2, none⟩) (by show w.heap.size + 1 ≠ gr; omega) _).far (p := ⟨gr, i * 4, none⟩) (by show w.heap.size + 1 ≠ gr; omega) _
  have b_bl7 : Blk (((W6.setCell ⟨gr, i * 4 + 1, none⟩ (.slice A9 lb.length c9)).setCell ⟨gr, i * 4 + 2, none⟩ (.int .i64 (m : Int))).setCell ⟨gr, i * 4, none⟩ (.bool false)) (W3.heap.size) 42 #[.slice A9 lb.length c9, .int .i64 (m : Int)] := (((B6_bl.out).far (p := ⟨gr, i * 4 + 1, none⟩) (by show W3.heap.size ≠ gr; omega) _).far (p := ⟨gr, i * 4 + 2, none⟩) (by show W3.heap.size ≠ gr; omega) _).far (p := ⟨gr, i * 4, none⟩) (by show W3.heap.size ≠ gr; omega) _
  have b_out7 : Blk (((W6.setCell ⟨gr, i * 4 + 1, none⟩ (.slice A9 lb.length c9)).setCell ⟨gr, i * 4 + 2, none⟩ (.int .i64 (m : Int))).setCell ⟨gr, i * 4, none⟩ (.bool false)) (W5.heap.size) 26 #[.int .i64 ep, .int .i64 ld, .slice (some ⟨gi, 0, none⟩) is.length d1, .slice (some ⟨gk, 0, none⟩) ks.length d3, .slice (some ⟨gr, 0, none⟩) rs.length d5, .int .i64 fw, .int .i64 ba] := (((B6_out.out).far (p := ⟨gr, i * 4 + 1, none⟩) (by show W5.heap.size ≠ gr; omega) _).far (p := ⟨gr, i * 4 + 2, none⟩) (by show W5.heap.size ≠ gr; omega) _).far (p := ⟨gr, i * 4, none⟩) (by show W5.heap.size ≠ gr; omega) _
  have k_own7 := ((K6_own.out.more (by omega)).crash i hi (m : Int) K6_lg.out.own)
  have hz7 : W6.heap.size + 0 ≤ (((W6.setCell ⟨gr, i * 4 + 1, none⟩ (.slice A9 lb.length c9)).setCell ⟨gr, i * 4 + 2, none⟩ (.int .i64 (m : Int))).setCell ⟨gr, i * 4, none⟩ (.bool false)).heap.size := by first | omega | (simp; done) | (simp; omega)
  generalize ((W6.setCell ⟨gr, i * 4 + 1, none⟩ (.slice A9 lb.length c9)).setCell ⟨gr, i * 4 + 2, none⟩ (.int .i64 (m : Int))).setCell ⟨gr, i * 4, none⟩ (.bool false) = W7 at *
  have HB7 := Lib.hid hb7
  have B7_bx := Lib.hid b_bx7
  have B7_bz := Lib.hid b_bz7
  have B7_bl := Lib.hid b_bl7
  have B7_out := Lib.hid b_out7
  have K7_own := Lib.hid k_own7
  clear hb7 b_bx7 b_bz7 b_bl7 b_out7 k_own7
  clear B6_bx B6_bz B6_bl B6_out HB6 K6_own
  have hi9 : i < (rs.set i ⟨false, lb, (m : Int), rs[i].high⟩).length := by simpa using hi
  have HSZ := Lib.hid (show LogIs (rs.set i ⟨false, lb, (m : Int), rs[i].high⟩)[i].log es2 es2.length by rw [List.getElem_set_self]; exact HLG2.out)
  have c_out0 := B7_out.out.cell 0
  have c_out1 := B7_out.out.cell 1
  have c_out2 := B7_out.out.cell 2
  have c_out3 := B7_out.out.cell 3
  have c_out4 := B7_out.out.cell 4
  have c_out5 := B7_out.out.cell 5
  have c_out6 := B7_out.out.cell 6
  have l_out := B7_out.out.lt
  obtain ⟨A7, c7, ⟨-, -, -, r3⟩, ⟨-, -, -, rf3⟩, -⟩ := PO.repAt (c := ⟨ep, ld, is, ks, rs.set i ⟨false, lb, (m : Int), rs[i].high⟩, fw, ba⟩) (gr := gr) (cr := d5) (by simpa only [List.length_set] using K7_own.out) i hi9
  (try simp only [List.getElem_set_self] at r3)
  go_wp2_with fail
  have c_out0 := B7_out.out.cell 0
  have c_out1 := B7_out.out.cell 1
  have c_out2 := B7_out.out.cell 2
  have c_out3 := B7_out.out.cell 3
  have c_out4 := B7_out.out.cell 4
  have c_out5 := B7_out.out.cell 5
  have c_out6 := B7_out.out.cell 6
  have l_out := B7_out.out.lt
  refine wp_region_held_drew (S := fun w0 => w0.cell? ⟨W5.heap.size, 0, none⟩ = some (.int .i64 ep) ∧ w0.cell? ⟨W5.heap.size, 1, none⟩ = some (.int .i64 ld) ∧ w0.cell? ⟨W5.heap.size, 2, none⟩ = some (.slice (some ⟨gi, 0, none⟩) is.length d1) ∧ w0.cell? ⟨W5.heap.size, 3, none⟩ = some (.slice (some ⟨gk, 0, none⟩) ks.length d3) ∧ w0.cell? ⟨W5.heap.size, 4, none⟩ = some (.slice (some ⟨gr, 0, none⟩) rs.length d5) ∧ w0.cell? ⟨W5.heap.size, 5, none⟩ = some (.int .i64 fw) ∧ w0.cell? ⟨W5.heap.size, 6, none⟩ = some (.int .i64 ba) ∧ w0.cell? ⟨gr, i * 4 + 3, none⟩ = some (.int .i64 rs[i].high)) (by kernel_rfl) ?_ (fun hHeld => ?_)
  · exact ⟨c_out0, c_out1, c_out2, c_out3, c_out4, c_out5, c_out6, r3⟩
  clear c_out0 c_out1 c_out2 c_out3 c_out4 c_out5 c_out6 l_out r3 rf3
  generalize hd : World.drew W7 = W8 at *
  have hb : Below W7.heap.size W7 W8 := by rw [← hd]; exact (Below.refl _ _).drew
  have hb8 : Below w.heap.size w W8 := below_then HB7.out hb
  have b_bx8 := B7_bx.out.below hb B7_bx.out.lt
  have b_bz8 := B7_bz.out.below hb B7_bz.out.lt
  have b_bl8 := B7_bl.out.below hb B7_bl.out.lt
  have b_out8 := B7_out.out.below hb B7_out.out.lt
  have k_own8 := K7_own.out.keep hb
  have hz8 := hb.size
  have HB8 := Lib.hid hb8
  have B8_bx := Lib.hid b_bx8
  have B8_bz := Lib.hid b_bz8
  have B8_bl := Lib.hid b_bl8
  have B8_out := Lib.hid b_out8
  have K8_own := Lib.hid k_own8
  clear hb8 b_bx8 b_bz8 b_bl8 b_out8 k_own8
  clear B7_bx B7_bz B7_bl B7_out HB7 K7_own
  clear hd hb
  refine wpAnyH_take (i := 0) (v := ?_) rfl (by kernel_rfl) (by kernel_rfl) (by kernel_rfl) (fun _ _ _ h => h) (Or.inl ⟨by rfl, ?_⟩) (by assumption) ?_
  rotate_left
  · intro w0 hSw
    (try dsimp only at hSw)
    go_simp
    all_goals with_reducible rfl
  try simp only [Act.put, List.getElem_toArray, List.getElem_cons_zero, List.setIfInBounds_toArray, List.set_cons_zero, List.set_cons_succ]
  refine wpAnyH_take (i := 1) (v := ?_) rfl (by kernel_rfl) (by kernel_rfl) (by kernel_rfl) (fun _ _ _ h => h) (Or.inl ⟨by rfl, ?_⟩) (by assumption) ?_
  rotate_left
  · intro w0 hSw
    (try dsimp only at hSw)
    go_simp
    all_goals with_reducible rfl
  try simp only [Act.put, List.getElem_toArray, List.getElem_cons_zero, List.getElem_cons_succ, List.setIfInBounds_toArray, List.set_cons_zero, List.set_cons_succ]
  refine wpAnyH_take (i := 2) (v := ?_) rfl (by kernel_rfl) (by kernel_rfl) (by kernel_rfl) (fun _ _ _ h => h) (Or.inl ⟨by rfl, ?_⟩) (by assumption) ?_
  rotate_left
  · intro w0 hSw
    (try dsimp only at hSw)
    go_simp
    all_goals with_reducible rfl
  try simp only [Act.put, List.getElem_toArray, List.getElem_cons_zero, List.getElem_cons_succ, List.setIfInBounds_toArray, List.set_cons_zero, List.set_cons_succ]
  refine wpAnyH_take (i := 3) (v := ?_) rfl (by kernel_rfl) (by kernel_rfl) (by kernel_rfl) (fun _ _ _ h => h) (Or.inl ⟨by rfl, ?_⟩) (by assumption) ?_
  rotate_left
  · intro w0 hSw
    (try dsimp only at hSw)
    go_simp
    all_goals with_reducible rfl
  try simp only [Act.put, List.getElem_toArray, List.getElem_cons_zero, List.getElem_cons_succ, List.setIfInBounds_toArray, List.set_cons_zero, List.set_cons_succ]
  refine wpAnyH_take (i := 4) (v := ?_) rfl (by kernel_rfl) (by kernel_rfl) (by kernel_rfl) (fun _ _ _ h => h) (Or.inl ⟨by rfl, ?_⟩) (by assumption) ?_
  rotate_left
  · intro w0 hSw
    (try dsimp only at hSw)
    go_simp
    all_goals with_reducible rfl
  try simp only [Act.put, List.getElem_toArray, List.getElem_cons_zero, List.getElem_cons_succ, List.setIfInBounds_toArray, List.set_cons_zero, List.set_cons_succ]
  refine wpAnyH_take (i := 5) (v := ?_) rfl (by kernel_rfl) (by kernel_rfl) (by kernel_rfl) (fun _ _ _ h => h) (Or.inl ⟨by rfl, ?_⟩) (by assumption) ?_
  rotate_left
  · intro w0 hSw
    (try dsimp only at hSw)
    go_simp
    all_goals with_reducible rfl
  try simp only [Act.put, List.getElem_toArray, List.getElem_cons_zero, List.getElem_cons_succ, List.setIfInBounds_toArray, List.set_cons_zero, List.set_cons_succ]
  refine wpAnyH_take (i := 6) (v := ?_) rfl (by kernel_rfl) (by kernel_rfl) (by kernel_rfl) (fun _ _ _ h => h) (Or.inl ⟨by rfl, ?_⟩) (by assumption) ?_
  rotate_left
  · intro w0 hSw
    (try dsimp only at hSw)
    go_simp
    all_goals with_reducible rfl
  try simp only [Act.put, List.getElem_toArray, List.getElem_cons_zero, List.getElem_cons_succ, List.setIfInBounds_toArray, List.set_cons_zero, List.set_cons_succ]
  refine wpAnyH_take (i := 7) (v := ?_) rfl (by kernel_rfl) (by kernel_rfl) (by kernel_rfl) (fun _ _ _ h => h) (Or.inl ⟨by rfl, ?_⟩) (by assumption) ?_
  rotate_left
  · intro w0 hSw
    (try dsimp only at hSw)
    go_simp
    all_goals with_reducible rfl
  try simp only [Act.put, List.getElem_toArray, List.getElem_cons_zero, List.getElem_cons_succ, List.setIfInBounds_toArray, List.set_cons_zero, List.set_cons_succ]
  refine wpAnyH_ready (rs := [8]) (by kernel_rfl) (by simp) (AllReadyH.cons rfl (fun K hK => ?_) AllReadyH.nil)
  go_simp
  go_at_call 82
  refine (logOf_any _ ⟨ep, ld, is, ks, rs.set i ⟨false, lb, (m : Int), rs[i].high⟩, fw, ba⟩ i _ (K8_own.out.pv ⟨HSM.out.isr, HSM.out.known, by simp only [List.length_set]; exact HSM.out.reps, (PSm.crashed HSM.out i ld ⟨false, lb, (m : Int), rs[i].high⟩ HLC.out).bytes⟩) hi9 HSZ.out).mono ?_
  rintro e W9 ⟨v5, rfl, hp5, hb⟩
  obtain ⟨A8, c8, rfl, hc8⟩ := (Sl.of_own hp5).form
  clear hp5
  have hb9 : Below w.heap.size w W9 := below_then HB8.out hb
  have b_bx9 := B8_bx.out.below hb B8_bx.out.lt
  have b_bz9 := B8_bz.out.below hb B8_bz.out.lt
  have b_bl9 := B8_bl.out.below hb B8_bl.out.lt
  have b_out9 := B8_out.out.below hb B8_out.out.lt
  have k_own9 := K8_own.out.keep hb
  have hz9 := hb.size
  have HB9 := Lib.hid hb9
  have B9_bx := Lib.hid b_bx9
  have B9_bz := Lib.hid b_bz9
  have B9_bl := Lib.hid b_bl9
  have B9_out := Lib.hid b_out9
  have K9_own := Lib.hid k_own9
  clear hb9 b_bx9 b_bz9 b_bl9 b_out9 k_own9
  clear B8_bx B8_bz B8_bl B8_out HB8 K8_own
  obtain ⟨A7, c7, ⟨-, -, -, r3⟩, ⟨-, -, -, rf3⟩, -⟩ := PO.repAt (c := ⟨ep, ld, is, ks, rs.set i ⟨false, lb, (m : Int), rs[i].high⟩, fw, ba⟩) (gr := gr) (cr := d5) (by simpa only [List.length_set] using K9_own.out) i hi9
  (try simp only [List.getElem_set_self] at r3)
  refine hK.out _ _ ?_ (fun hHeld => ?_)
  · exact ⟨(B9_out.out).cell 0, (B9_out.out).cell 1, (B9_out.out).cell 2, (B9_out.out).cell 3, (B9_out.out).cell 4, (B9_out.out).cell 5, (B9_out.out).cell 6, r3⟩
  clear hK K
  try simp only [Act.put, List.getElem_toArray, List.getElem_cons_zero, List.getElem_cons_succ, List.setIfInBounds_toArray, List.set_cons_zero, List.set_cons_succ]
  refine wpAnyH_take (i := 9) (v := ?_) rfl (by kernel_rfl) (by kernel_rfl) (by kernel_rfl) (fun _ _ _ h => h) (Or.inl ⟨by rfl, ?_⟩) (by assumption) ?_
  rotate_left
  · intro w0 hSw
    (try dsimp only at hSw)
    go_simp
    all_goals with_reducible rfl
  try simp only [Act.put, List.getElem_toArray, List.getElem_cons_zero, List.getElem_cons_succ, List.setIfInBounds_toArray, List.set_cons_zero, List.set_cons_succ]
  refine wpAnyH_take (i := 10) (v := ?_) rfl (by kernel_rfl) (by kernel_rfl) (by kernel_rfl) (fun _ _ _ h => h) (Or.inl ⟨by rfl, ?_⟩) (by assumption) ?_
  rotate_left
  · intro w0 hSw
    (try dsimp only at hSw)
    go_simp
    all_goals with_reducible rfl
  try simp only [Act.put, List.getElem_toArray, List.getElem_cons_zero, List.getElem_cons_succ, List.setIfInBounds_toArray, List.set_cons_zero, List.set_cons_succ]
  refine wpAnyH_done (by kernel_rfl) ?_ _
  have c_out0 := B9_out.out.cell 0
  have c_out1 := B9_out.out.cell 1
  have c_out2 := B9_out.out.cell 2
  have c_out3 := B9_out.out.cell 3
  have c_out4 := B9_out.out.cell 4
  have c_out5 := B9_out.out.cell 5
  have c_out6 := B9_out.out.cell 6
  have l_out := B9_out.out.lt
  have c_bx0 := B9_bx.out.cell 0
  have c_bx1 := B9_bx.out.cell 1
  have c_bx2 := B9_bx.out.cell 2
  have c_bx3 := B9_bx.out.cell 3
  have c_bx4 := B9_bx.out.cell 4
  have c_bx5 := B9_bx.out.cell 5
  have c_bx6 := B9_bx.out.cell 6
  have l_bx := B9_bx.out.lt
  have c_bz0 := B9_bz.out.cell 0
  have f_bz0 := B9_bz.out.frozen 0
  have c_bz1 := B9_bz.out.cell 1
  have f_bz1 := B9_bz.out.frozen 1
  have c_bz2 := B9_bz.out.cell 2
  have f_bz2 := B9_bz.out.frozen 2
  have c_bz3 := B9_bz.out.cell 3
  have f_bz3 := B9_bz.out.frozen 3
  have c_bz4 := B9_bz.out.cell 4
  have f_bz4 := B9_bz.out.frozen 4
  have c_bz5 := B9_bz.out.cell 5
  have f_bz5 := B9_bz.out.frozen 5
  have c_bz6 := B9_bz.out.cell 6
  have f_bz6 := B9_bz.out.frozen 6
  have l_bz := B9_bz.out.lt
  have c_out0 := B9_out.out.cell 0
  have f_out0 := B9_out.out.frozen 0
  have c_out1 := B9_out.out.cell 1
  have f_out1 := B9_out.out.frozen 1
  have c_out2 := B9_out.out.cell 2
  have f_out2 := B9_out.out.frozen 2
  have c_out3 := B9_out.out.cell 3
  have f_out3 := B9_out.out.frozen 3
  have c_out4 := B9_out.out.cell 4
  have f_out4 := B9_out.out.frozen 4
  have c_out5 := B9_out.out.cell 5
  have f_out5 := B9_out.out.frozen 5
  have c_out6 := B9_out.out.cell 6
  have f_out6 := B9_out.out.frozen 6
  have l_out := B9_out.out.lt
  obtain ⟨t1, tf1⟩ := K9_own.out.knownAt i j3
  (try simp only at t1)
  go_upto_region 15 with fail
  clear r3 rf3 c_out0 c_out1 c_out2 c_out3 c_out4 c_out5 c_out6 l_out c_bx0 c_bx1 c_bx2 c_bx3 c_bx4 c_bx5 c_bx6 l_bx c_bz0 f_bz0 c_bz1 f_bz1 c_bz2 f_bz2 c_bz3 f_bz3 c_bz4 f_bz4 c_bz5 f_bz5 c_bz6 f_bz6 l_bz f_out0 f_out1 f_out2 f_out3 f_out4 f_out5 f_out6 t1 tf1
  have hsz10 := HB9.out.size
  have hb10 : Below w.heap.size w (W9.setCell ⟨gk, i, none⟩ (.int .i64 0)) := (HB9.out).setCell (by show w.heap.size ≤ gk; omega) _
  have b_bx10 : Blk (W9.setCell ⟨gk, i, none⟩ (.int .i64 0)) (w.heap.size) 26 #[.int .i64 ep, .int .i64 ld, .slice (some ⟨b1, o1, none⟩) is.length c1, .slice (some ⟨b3, o3, none⟩) ks.length c3, .slice (some ⟨b5, o5, none⟩) rs.length c5, .int .i64 fw, .int .i64 ba] := (B9_bx.out).far (p := ⟨gk, i, none⟩) (by show w.heap.size ≠ gk; omega) _
  have b_bz10 : Blk (W9.setCell ⟨gk, i, none⟩ (.int .i64 0)) (w.heap.size + 1) 26 #[.int .i64 0, .int .i64 0, .slice none 0 0, .slice none 0 0, .slice none 0 0, .int .i64 0, .int .i64 0] := (B9_bz.out).far (p := ⟨gk, i, none⟩) (by show w.heap.size + 1 ≠ gk; omega) _
  have b_bl10 : Blk (W9.setCell ⟨gk, i, none⟩ (.int .i64 0)) (W3.heap.size) 42 #[.slice A9 lb.length c9, .int .i64 (m : Int)] := (B9_bl.out).far (p := ⟨gk, i, none⟩) (by show W3.heap.size ≠ gk; omega) _
  have b_out10 : Blk (W9.setCell ⟨gk, i, none⟩ (.int .i64 0)) (W5.heap.size) 26 #[.int .i64 ep, .int .i64 ld, .slice (some ⟨gi, 0, none⟩) is.length d1, .slice (some ⟨gk, 0, none⟩) ks.length d3, .slice (some ⟨gr, 0, none⟩) rs.length d5, .int .i64 fw, .int .i64 ba] := (B9_out.out).far (p := ⟨gk, i, none⟩) (by show W5.heap.size ≠ gk; omega) _
  have k_own10 := (K9_own.out).setKnown i 0 (Nat.lt_of_le_of_lt (Nat.zero_le _) j3)
  have hz10 : W9.heap.size + 0 ≤ (W9.setCell ⟨gk, i, none⟩ (.int .i64 0)).heap.size := by first | omega | (simp; done) | (simp; omega)
  generalize W9.setCell ⟨gk, i, none⟩ (.int .i64 0) = W10 at *
  have HB10 := Lib.hid hb10
  have B10_bx := Lib.hid b_bx10
  have B10_bz := Lib.hid b_bz10
  have B10_bl := Lib.hid b_bl10
  have B10_out := Lib.hid b_out10
  have K10_own := Lib.hid k_own10
  clear hb10 b_bx10 b_bz10 b_bl10 b_out10 k_own10
  clear B9_bx B9_bz B9_bl B9_out HB9 K9_own
  have c_out0 := B10_out.out.cell 0
  have f_out0 := B10_out.out.frozen 0
  have c_out1 := B10_out.out.cell 1
  have f_out1 := B10_out.out.frozen 1
  have c_out2 := B10_out.out.cell 2
  have f_out2 := B10_out.out.frozen 2
  have c_out3 := B10_out.out.cell 3
  have f_out3 := B10_out.out.frozen 3
  have c_out4 := B10_out.out.cell 4
  have f_out4 := B10_out.out.frozen 4
  have c_out5 := B10_out.out.cell 5
  have f_out5 := B10_out.out.frozen 5
  have c_out6 := B10_out.out.cell 6
  have f_out6 := B10_out.out.frozen 6
  have l_out := B10_out.out.lt
  have c_bx0 := B10_bx.out.cell 0
  have c_bx1 := B10_bx.out.cell 1
  have c_bx2 := B10_bx.out.cell 2
  have c_bx3 := B10_bx.out.cell 3
  have c_bx4 := B10_bx.out.cell 4
  have c_bx5 := B10_bx.out.cell 5
  have c_bx6 := B10_bx.out.cell 6
  have l_bx := B10_bx.out.lt
  have c_bz0 := B10_bz.out.cell 0
  have f_bz0 := B10_bz.out.frozen 0
  have c_bz1 := B10_bz.out.cell 1
  have f_bz1 := B10_bz.out.frozen 1
  have c_bz2 := B10_bz.out.cell 2
  have f_bz2 := B10_bz.out.frozen 2
  have c_bz3 := B10_bz.out.cell 3
  have f_bz3 := B10_bz.out.frozen 3
  have c_bz4 := B10_bz.out.cell 4
  have f_bz4 := B10_bz.out.frozen 4
  have c_bz5 := B10_bz.out.cell 5
  have f_bz5 := B10_bz.out.frozen 5
  have c_bz6 := B10_bz.out.cell 6
  have f_bz6 := B10_bz.out.frozen 6
  have l_bz := B10_bz.out.lt
  go_upto_region 17 with fail
  clear c_out0 f_out0 c_out1 f_out1 c_out2 f_out2 c_out3 f_out3 c_out4 f_out4 c_out5 f_out5 c_out6 f_out6 l_out c_bx0 c_bx1 c_bx2 c_bx3 c_bx4 c_bx5 c_bx6 l_bx c_bz0 f_bz0 c_bz1 f_bz1 c_bz2 f_bz2 c_bz3 f_bz3 c_bz4 f_bz4 c_bz5 f_bz5 c_bz6 f_bz6 l_bz
  have hsz11 := HB10.out.size
  have hb11 : Below w.heap.size w (W10.setCell ⟨W5.heap.size, 1, none⟩ (.int .i64 (-1))) := (HB10.out).setCell (by show w.heap.size ≤ W5.heap.size; omega) _
  have b_bx11 : Blk (W10.setCell ⟨W5.heap.size, 1, none⟩ (.int .i64 (-1))) (w.heap.size) 26 #[.int .i64 ep, .int .i64 ld, .slice (some ⟨b1, o1, none⟩) is.length c1, .slice (some ⟨b3, o3, none⟩) ks.length c3, .slice (some ⟨b5, o5, none⟩) rs.length c5, .int .i64 fw, .int .i64 ba] := (B10_bx.out).far (p := ⟨W5.heap.size, 1, none⟩) (by show w.heap.size ≠ W5.heap.size; omega) _
  have b_bz11 : Blk (W10.setCell ⟨W5.heap.size, 1, none⟩ (.int .i64 (-1))) (w.heap.size + 1) 26 #[.int .i64 0, .int .i64 0, .slice none 0 0, .slice none 0 0, .slice none 0 0, .int .i64 0, .int .i64 0] := (B10_bz.out).far (p := ⟨W5.heap.size, 1, none⟩) (by show w.heap.size + 1 ≠ W5.heap.size; omega) _
  have b_bl11 : Blk (W10.setCell ⟨W5.heap.size, 1, none⟩ (.int .i64 (-1))) (W3.heap.size) 42 #[.slice A9 lb.length c9, .int .i64 (m : Int)] := (B10_bl.out).far (p := ⟨W5.heap.size, 1, none⟩) (by show W3.heap.size ≠ W5.heap.size; omega) _
  have b_out11 : Blk (W10.setCell ⟨W5.heap.size, 1, none⟩ (.int .i64 (-1))) (W5.heap.size) 26 #[.int .i64 ep, .int .i64 (-1), .slice (some ⟨gi, 0, none⟩) is.length d1, .slice (some ⟨gk, 0, none⟩) ks.length d3, .slice (some ⟨gr, 0, none⟩) rs.length d5, .int .i64 fw, .int .i64 ba] := (B10_out.out).set_ 1 _
  have k_own11 := (PO.lead (K10_own.out.blk B10_out.out 1 (.int .i64 (-1))) (-1))
  have hz11 : W10.heap.size + 0 ≤ (W10.setCell ⟨W5.heap.size, 1, none⟩ (.int .i64 (-1))).heap.size := by first | omega | (simp; done) | (simp; omega)
  generalize W10.setCell ⟨W5.heap.size, 1, none⟩ (.int .i64 (-1)) = W11 at *
  have HB11 := Lib.hid hb11
  have B11_bx := Lib.hid b_bx11
  have B11_bz := Lib.hid b_bz11
  have B11_bl := Lib.hid b_bl11
  have B11_out := Lib.hid b_out11
  have K11_own := Lib.hid k_own11
  clear hb11 b_bx11 b_bz11 b_bl11 b_out11 k_own11
  clear B10_bx B10_bz B10_bl B10_out HB10 K10_own
  have c_out0 := B11_out.out.cell 0
  have c_out1 := B11_out.out.cell 1
  have c_out2 := B11_out.out.cell 2
  have c_out3 := B11_out.out.cell 3
  have c_out4 := B11_out.out.cell 4
  have c_out5 := B11_out.out.cell 5
  have c_out6 := B11_out.out.cell 6
  have l_out := B11_out.out.lt
  have c_bz0 := B11_bz.out.cell 0
  have f_bz0 := B11_bz.out.frozen 0
  have c_bz1 := B11_bz.out.cell 1
  have f_bz1 := B11_bz.out.frozen 1
  have c_bz2 := B11_bz.out.cell 2
  have f_bz2 := B11_bz.out.frozen 2
  have c_bz3 := B11_bz.out.cell 3
  have f_bz3 := B11_bz.out.frozen 3
  have c_bz4 := B11_bz.out.cell 4
  have f_bz4 := B11_bz.out.frozen 4
  have c_bz5 := B11_bz.out.cell 5
  have f_bz5 := B11_bz.out.frozen 5
  have c_bz6 := B11_bz.out.cell 6
  have f_bz6 := B11_bz.out.frozen 6
  have l_bz := B11_bz.out.lt
  go_wp2_with fail
  clear c_out0 c_out1 c_out2 c_out3 c_out4 c_out5 c_out6 l_out c_bz0 f_bz0 c_bz1 f_bz1 c_bz2 f_bz2 c_bz3 f_bz3 c_bz4 f_bz4 c_bz5 f_bz5 c_bz6 f_bz6 l_bz
  have hszF := HB11.out.size
  have hbF : Below w.heap.size w (((((((W11.setCell ⟨w.heap.size + 1, 0, none⟩ (.int .i64 ep)).setCell ⟨w.heap.size + 1, 1, none⟩ (.int .i64 (-1))).setCell ⟨w.heap.size + 1, 2, none⟩ (.slice (some ⟨gi, 0, none⟩) is.length d1)).setCell ⟨w.heap.size + 1, 3, none⟩ (.slice (some ⟨gk, 0, none⟩) ks.length d3)).setCell ⟨w.heap.size + 1, 4, none⟩ (.slice (some ⟨gr, 0, none⟩) rs.length d5)).setCell ⟨w.heap.size + 1, 5, none⟩ (.int .i64 fw)).setCell ⟨w.heap.size + 1, 6, none⟩ (.int .i64 ba)) := (((((((HB11.out).setCell (by show w.heap.size ≤ w.heap.size + 1; omega) _).setCell (by show w.heap.size ≤ w.heap.size + 1; omega) _).setCell (by show w.heap.size ≤ w.heap.size + 1; omega) _).setCell (by show w.heap.size ≤ w.heap.size + 1; omega) _).setCell (by show w.heap.size ≤ w.heap.size + 1; omega) _).setCell (by show w.heap.size ≤ w.heap.size + 1; omega) _).setCell (by show w.heap.size ≤ w.heap.size + 1; omega) _
  have b_bxF : Blk (((((((W11.setCell ⟨w.heap.size + 1, 0, none⟩ (.int .i64 ep)).setCell ⟨w.heap.size + 1, 1, none⟩ (.int .i64 (-1))).setCell ⟨w.heap.size + 1, 2, none⟩ (.slice (some ⟨gi, 0, none⟩) is.length d1)).setCell ⟨w.heap.size + 1, 3, none⟩ (.slice (some ⟨gk, 0, none⟩) ks.length d3)).setCell ⟨w.heap.size + 1, 4, none⟩ (.slice (some ⟨gr, 0, none⟩) rs.length d5)).setCell ⟨w.heap.size + 1, 5, none⟩ (.int .i64 fw)).setCell ⟨w.heap.size + 1, 6, none⟩ (.int .i64 ba)) (w.heap.size) 26 #[.int .i64 ep, .int .i64 ld, .slice (some ⟨b1, o1, none⟩) is.length c1, .slice (some ⟨b3, o3, none⟩) ks.length c3, .slice (some ⟨b5, o5, none⟩) rs.length c5, .int .i64 fw, .int .i64 ba] := (((((((B11_bx.out).far (p := ⟨w.heap.size + 1, 0, none⟩) (by show w.heap.size ≠ w.heap.size + 1; omega) _).far (p := ⟨w.heap.size + 1, 1, none⟩) (by show w.heap.size ≠ w.heap.size + 1; omega) _).far (p := ⟨w.heap.size + 1, 2, none⟩) (by show w.heap.size ≠ w.heap.size + 1; omega) _).far (p := ⟨w.heap.size + 1, 3, none⟩) (by show w.heap.size ≠ w.heap.size + 1; omega) _).far (p := ⟨w.heap.size + 1, 4, none⟩) (by show w.heap.size ≠ w.heap.size + 1; omega) _).far (p := ⟨w.heap.size + 1, 5, none⟩) (by show w.heap.size ≠ w.heap.size + 1; omega) _).far (p := ⟨w.heap.size + 1, 6, none⟩) (by show w.heap.size ≠ w.heap.size + 1; omega) _
  have b_bzF : Blk (((((((W11.setCell ⟨w.heap.size + 1, 0, none⟩ (.int .i64 ep)).setCell ⟨w.heap.size + 1, 1, none⟩ (.int .i64 (-1))).setCell ⟨w.heap.size + 1, 2, none⟩ (.slice (some ⟨gi, 0, none⟩) is.length d1)).setCell ⟨w.heap.size + 1, 3, none⟩ (.slice (some ⟨gk, 0, none⟩) ks.length d3)).setCell ⟨w.heap.size + 1, 4, none⟩ (.slice (some ⟨gr, 0, none⟩) rs.length d5)).setCell ⟨w.heap.size + 1, 5, none⟩ (.int .i64 fw)).setCell ⟨w.heap.size + 1, 6, none⟩ (.int .i64 ba)) (w.heap.size + 1) 26 #[.int .i64 ep, .int .i64 (-1), .slice (some ⟨gi, 0, none⟩) is.length d1, .slice (some ⟨gk, 0, none⟩) ks.length d3, .slice (some ⟨gr, 0, none⟩) rs.length d5, .int .i64 fw, .int .i64 ba] := (((((((B11_bz.out).set_ 0 _).set_ 1 _).set_ 2 _).set_ 3 _).set_ 4 _).set_ 5 _).set_ 6 _
  have b_blF : Blk (((((((W11.setCell ⟨w.heap.size + 1, 0, none⟩ (.int .i64 ep)).setCell ⟨w.heap.size + 1, 1, none⟩ (.int .i64 (-1))).setCell ⟨w.heap.size + 1, 2, none⟩ (.slice (some ⟨gi, 0, none⟩) is.length d1)).setCell ⟨w.heap.size + 1, 3, none⟩ (.slice (some ⟨gk, 0, none⟩) ks.length d3)).setCell ⟨w.heap.size + 1, 4, none⟩ (.slice (some ⟨gr, 0, none⟩) rs.length d5)).setCell ⟨w.heap.size + 1, 5, none⟩ (.int .i64 fw)).setCell ⟨w.heap.size + 1, 6, none⟩ (.int .i64 ba)) (W3.heap.size) 42 #[.slice A9 lb.length c9, .int .i64 (m : Int)] := (((((((B11_bl.out).far (p := ⟨w.heap.size + 1, 0, none⟩) (by show W3.heap.size ≠ w.heap.size + 1; omega) _).far (p := ⟨w.heap.size + 1, 1, none⟩) (by show W3.heap.size ≠ w.heap.size + 1; omega) _).far (p := ⟨w.heap.size + 1, 2, none⟩) (by show W3.heap.size ≠ w.heap.size + 1; omega) _).far (p := ⟨w.heap.size + 1, 3, none⟩) (by show W3.heap.size ≠ w.heap.size + 1; omega) _).far (p := ⟨w.heap.size + 1, 4, none⟩) (by show W3.heap.size ≠ w.heap.size + 1; omega) _).far (p := ⟨w.heap.size + 1, 5, none⟩) (by show W3.heap.size ≠ w.heap.size + 1; omega) _).far (p := ⟨w.heap.size + 1, 6, none⟩) (by show W3.heap.size ≠ w.heap.size + 1; omega) _
  have b_outF : Blk (((((((W11.setCell ⟨w.heap.size + 1, 0, none⟩ (.int .i64 ep)).setCell ⟨w.heap.size + 1, 1, none⟩ (.int .i64 (-1))).setCell ⟨w.heap.size + 1, 2, none⟩ (.slice (some ⟨gi, 0, none⟩) is.length d1)).setCell ⟨w.heap.size + 1, 3, none⟩ (.slice (some ⟨gk, 0, none⟩) ks.length d3)).setCell ⟨w.heap.size + 1, 4, none⟩ (.slice (some ⟨gr, 0, none⟩) rs.length d5)).setCell ⟨w.heap.size + 1, 5, none⟩ (.int .i64 fw)).setCell ⟨w.heap.size + 1, 6, none⟩ (.int .i64 ba)) (W5.heap.size) 26 #[.int .i64 ep, .int .i64 (-1), .slice (some ⟨gi, 0, none⟩) is.length d1, .slice (some ⟨gk, 0, none⟩) ks.length d3, .slice (some ⟨gr, 0, none⟩) rs.length d5, .int .i64 fw, .int .i64 ba] := (((((((B11_out.out).far (p := ⟨w.heap.size + 1, 0, none⟩) (by show W5.heap.size ≠ w.heap.size + 1; omega) _).far (p := ⟨w.heap.size + 1, 1, none⟩) (by show W5.heap.size ≠ w.heap.size + 1; omega) _).far (p := ⟨w.heap.size + 1, 2, none⟩) (by show W5.heap.size ≠ w.heap.size + 1; omega) _).far (p := ⟨w.heap.size + 1, 3, none⟩) (by show W5.heap.size ≠ w.heap.size + 1; omega) _).far (p := ⟨w.heap.size + 1, 4, none⟩) (by show W5.heap.size ≠ w.heap.size + 1; omega) _).far (p := ⟨w.heap.size + 1, 5, none⟩) (by show W5.heap.size ≠ w.heap.size + 1; omega) _).far (p := ⟨w.heap.size + 1, 6, none⟩) (by show W5.heap.size ≠ w.heap.size + 1; omega) _
  have k_ownF := (((((((K11_own.out).under (a := ⟨w.heap.size + 1, 0, none⟩) (by (try dsimp only); omega) (.int .i64 ep)).under (a := ⟨w.heap.size + 1, 1, none⟩) (by (try dsimp only); omega) (.int .i64 (-1))).under (a := ⟨w.heap.size + 1, 2, none⟩) (by (try dsimp only); omega) (.slice (some ⟨gi, 0, none⟩) is.length d1)).under (a := ⟨w.heap.size + 1, 3, none⟩) (by (try dsimp only); omega) (.slice (some ⟨gk, 0, none⟩) ks.length d3)).under (a := ⟨w.heap.size + 1, 4, none⟩) (by (try dsimp only); omega) (.slice (some ⟨gr, 0, none⟩) rs.length d5)).under (a := ⟨w.heap.size + 1, 5, none⟩) (by (try dsimp only); omega) (.int .i64 fw)).under (a := ⟨w.heap.size + 1, 6, none⟩) (by (try dsimp only); omega) (.int .i64 ba)
  rw [HMI.out]
  have y0 := b_bzF.cell 0
  have y1 := b_bzF.cell 1
  have y2 := b_bzF.cell 2
  have y3 := b_bzF.cell 3
  have y4 := b_bzF.cell 4
  have y5 := b_bzF.cell 5
  have y6 := b_bzF.cell 6
  exact bodyPost_ret (v := .tuple #[.agg #[.int .i64 ep, .int .i64 (-1), .slice (some ⟨gi, 0, none⟩) is.length d1, .slice (some ⟨gk, 0, none⟩) ks.length d3, .slice (some ⟨gr, 0, none⟩) rs.length d5, .int .i64 fw, .int .i64 ba], .int .i64 0]) (by simp [results, Try.results55, go_sem, y0, y1, y2, y3, y4, y5, y6]) rfl (⟨_, _, _, rfl, k_ownF.more (by omega), hbF⟩)
end Go.Proofs.Ytpjjfnpdopdnkaa
