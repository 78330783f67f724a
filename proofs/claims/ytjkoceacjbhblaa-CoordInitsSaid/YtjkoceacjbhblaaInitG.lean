/- coord.Init of a producer that is known. -/
import Derived.Test.YtjkoceacjbhblaaCoordI
import Derived.BigRegion
namespace Go.Proofs.Ytjkoceacjbhblaa
open Go.RowKit

set_option maxRecDepth 100000 in
set_option maxHeartbeats 16000000 in
theorem init_raise (v : Value) (c : CoordD) (s : ByteArray) (i : Nat) (hk : CoordOk c) (hn : NameOk s) (hi : idxOf c.txns s = some i) (hl : i < c.txns.length) (hst : c.txns[i].state = 2) (hv : c.txns[i].ver < 1073741824) (w : World) (h : Cv w v c) :
    Calls Try.prog 43 #[v, .string s] w (CRes (c.upd i raiseT) [.int .i64 (c.txns[i].pid), .int .i64 (c.txns[i].ver + 1), .int .i64 (0)] w) := by
  obtain ⟨tv, rfl, hx, hlen⟩ := id h
  obtain ⟨A, m, rfl, -⟩ := hx.at_
  have H := Lib.hid h
  have HX := Lib.hid hx
  clear h hx
  unfold coordV at *
  obtain ⟨ck, nx, wt, ts⟩ := c
  simp only at *
  have hix : ixOf ts s = i := (ix_some hi).2
  have v0 := (hk.all i hl hl).1.ver.1
  simp only at v0
  have hvb : (ts[i].ver == 1073741824) = false := beq_eq_false_iff_ne.2 (by omega)
  have hvc : (ts[i].ver != 1073741824) = true := by simpa using hvb
  have HI := Lib.hid hix
  have HK := Lib.hid hk
  have HN := Lib.hid hn
  have HST := Lib.hid hst
  clear hk hn hi hix hst
  go_enter Try.func43, Try.ntmps43
  go_wp2_with fail
  have hb1 : Below w.heap.size w ((w.alloc (.cells #[.int .i64 ck, .int .i64 nx, .int .i64 wt, .slice A ts.length m] 28)).alloc (.cells #[.int .i64 0, .int .i64 0, .int .i64 0, .slice none 0 0] 28)) := ((Below.refl _ _).alloc (by first | omega | (simp; done) | (simp; omega)) _).alloc (by first | omega | (simp; done) | (simp; omega)) _
  have hal1 : Below w.heap.size w ((w.alloc (.cells #[.int .i64 ck, .int .i64 nx, .int .i64 wt, .slice A ts.length m] 28)).alloc (.cells #[.int .i64 0, .int .i64 0, .int .i64 0, .slice none 0 0] 28)) := ((Below.refl _ _).alloc (by first | omega | (simp; done) | (simp; omega)) _).alloc (by first | omega | (simp; done) | (simp; omega)) _
  have b_bx1 : Blk ((w.alloc (.cells #[.int .i64 ck, .int .i64 nx, .int .i64 wt, .slice A ts.length m] 28)).alloc (.cells #[.int .i64 0, .int .i64 0, .int .i64 0, .slice none 0 0] 28)) (w.heap.size) 28 #[.int .i64 ck, .int .i64 nx, .int .i64 wt, .slice A ts.length m] := (Blk.new_ _ 28 #[.int .i64 ck, .int .i64 nx, .int .i64 wt, .slice A ts.length m] (by first | rfl | (simp; done) | (simp; omega))).alloc _
  have b_bz1 : Blk ((w.alloc (.cells #[.int .i64 ck, .int .i64 nx, .int .i64 wt, .slice A ts.length m] 28)).alloc (.cells #[.int .i64 0, .int .i64 0, .int .i64 0, .slice none 0 0] 28)) (w.heap.size + 1) 28 #[.int .i64 0, .int .i64 0, .int .i64 0, .slice none 0 0] := Blk.new_ _ 28 #[.int .i64 0, .int .i64 0, .int .i64 0, .slice none 0 0] (by first | rfl | (simp; done) | (simp; omega))
  have hz1 : w.heap.size + 2 ≤ ((w.alloc (.cells #[.int .i64 ck, .int .i64 nx, .int .i64 wt, .slice A ts.length m] 28)).alloc (.cells #[.int .i64 0, .int .i64 0, .int .i64 0, .slice none 0 0] 28)).heap.size := by first | omega | (simp; done) | (simp; omega)
  generalize (w.alloc (.cells #[.int .i64 ck, .int .i64 nx, .int .i64 wt, .slice A ts.length m] 28)).alloc (.cells #[.int .i64 0, .int .i64 0, .int .i64 0, .slice none 0 0] 28) = W1 at *
  have HB1 := Lib.hid hb1
  have B1_bx := Lib.hid b_bx1
  have B1_bz := Lib.hid b_bz1
  clear hb1 b_bx1 b_bz1
  refine (find_good _ ⟨ck, nx, wt, ts⟩ s _ (H.out.below hal1) HK.out HN.out).mono ?_
  rintro e W2 ⟨tv5, rows, rfl, hown, hb⟩
  obtain ⟨A5, c5, rfl, hc5⟩ := (Sl.of_own hown.own).form
  simp only at *
  unfold coordV
  simp only
  rw [HI.out]
  have hb2 : Below w.heap.size w W2 := below_then HB1.out hb
  have b_bx2 := B1_bx.out.below hb B1_bx.out.lt
  have b_bz2 := B1_bz.out.below hb B1_bz.out.lt
  have hz2 := hb.size
  have HB2 := Lib.hid hb2
  have B2_bx := Lib.hid b_bx2
  have B2_bz := Lib.hid b_bz2
  clear hb2 b_bx2 b_bz2
  clear B1_bx B1_bz HB1
  have ho := hown.rebase (w0 := w) rfl (Nat.le_refl _) HB2.out
  obtain ⟨gg, c6, hv6, hg1, hg2, hc6, -⟩ := ho.at_ (Nat.lt_of_le_of_lt (Nat.zero_le i) hl)
  injection hv6 with hv7 hv8 hv9
  subst hv7
  clear hv8 hv9 hc6 hc5
  have HO := Lib.hid ho
  clear ho hown
  have c_bx0 := B2_bx.out.cell 0
  have f_bx0 := B2_bx.out.frozen 0
  have c_bx1 := B2_bx.out.cell 1
  have f_bx1 := B2_bx.out.frozen 1
  have c_bx2 := B2_bx.out.cell 2
  have f_bx2 := B2_bx.out.frozen 2
  have c_bx3 := B2_bx.out.cell 3
  have f_bx3 := B2_bx.out.frozen 3
  have l_bx := B2_bx.out.lt
  have hszE := HB2.out.size
  have hbE : Below w.heap.size w ((((W2.setCell ⟨w.heap.size, 0, none⟩ (.int .i64 ck)).setCell ⟨w.heap.size, 1, none⟩ (.int .i64 nx)).setCell ⟨w.heap.size, 2, none⟩ (.int .i64 wt)).setCell ⟨w.heap.size, 3, none⟩ (.slice (some ⟨gg, 0, none⟩) ts.length c5)) := ((((HB2.out).setCell (by show w.heap.size ≤ w.heap.size; omega) _).setCell (by show w.heap.size ≤ w.heap.size; omega) _).setCell (by show w.heap.size ≤ w.heap.size; omega) _).setCell (by show w.heap.size ≤ w.heap.size; omega) _
  have b_bxE : Blk ((((W2.setCell ⟨w.heap.size, 0, none⟩ (.int .i64 ck)).setCell ⟨w.heap.size, 1, none⟩ (.int .i64 nx)).setCell ⟨w.heap.size, 2, none⟩ (.int .i64 wt)).setCell ⟨w.heap.size, 3, none⟩ (.slice (some ⟨gg, 0, none⟩) ts.length c5)) (w.heap.size) 28 #[.int .i64 ck, .int .i64 nx, .int .i64 wt, .slice (some ⟨gg, 0, none⟩) ts.length c5] := ((((B2_bx.out).set_ 0 _).set_ 1 _).set_ 2 _).set_ 3 _
  have b_bzE : Blk ((((W2.setCell ⟨w.heap.size, 0, none⟩ (.int .i64 ck)).setCell ⟨w.heap.size, 1, none⟩ (.int .i64 nx)).setCell ⟨w.heap.size, 2, none⟩ (.int .i64 wt)).setCell ⟨w.heap.size, 3, none⟩ (.slice (some ⟨gg, 0, none⟩) ts.length c5)) (w.heap.size + 1) 28 #[.int .i64 0, .int .i64 0, .int .i64 0, .slice none 0 0] := ((((B2_bz.out).far (p := ⟨w.heap.size, 0, none⟩) (by show w.heap.size + 1 ≠ w.heap.size; omega) _).far (p := ⟨w.heap.size, 1, none⟩) (by show w.heap.size + 1 ≠ w.heap.size; omega) _).far (p := ⟨w.heap.size, 2, none⟩) (by show w.heap.size + 1 ≠ w.heap.size; omega) _).far (p := ⟨w.heap.size, 3, none⟩) (by show w.heap.size + 1 ≠ w.heap.size; omega) _
  have k_ownE := ((((HO.out).under (a := ⟨w.heap.size, 0, none⟩) (by constructor <;> (try dsimp only) <;> omega) (.int .i64 ck)).under (a := ⟨w.heap.size, 1, none⟩) (by constructor <;> (try dsimp only) <;> omega) (.int .i64 nx)).under (a := ⟨w.heap.size, 2, none⟩) (by constructor <;> (try dsimp only) <;> omega) (.int .i64 wt)).under (a := ⟨w.heap.size, 3, none⟩) (by constructor <;> (try dsimp only) <;> omega) (.slice (some ⟨gg, 0, none⟩) ts.length c5)
  have q0 := b_bxE.cell 0
  have q1 := b_bxE.cell 1
  have q2 := b_bxE.cell 2
  have q3 := b_bxE.cell 3
  have ql := b_bxE.lt
  obtain ⟨hg1, hg2, A3, m3, ⟨r0, r1, r2, r3, r4, r5, r6⟩, hrf, -⟩ := k_ownE.row rfl i hl
  rw [HST.out] at r3
  have rf3 := hrf 3 (by decide)
  have rf2 := hrf 2 (by decide)
  clear hrf
  have i0 : (0 : Int) ≤ (i : Int) := by omega
  have i1 : (i : Int) < (ts.length : Int) := Int.ofNat_lt.2 hl
  have i2 : decide ((i : Int) < 0) = false := decide_eq_false (by omega)
  have KE := Lib.hid k_ownE
  clear k_ownE
  obtain ⟨rows2, hw2⟩ := KE.out.putd rfl (by omega) i 3 (.int .i64 4) (setState 4) hl (by decide) (fun _ => rfl) rfl
  have KF := Lib.hid hw2
  clear hw2
  obtain ⟨-, -, A9, m9, ⟨-, -, v2, -⟩, hrf9, -⟩ := KF.out.row (by simp) i (by simpa using hl)
  simp only [List.getElem_modify, if_true, setState] at v2
  have vf2 := hrf9 2 (by decide)
  clear hrf9
  obtain ⟨rows3, hw3⟩ := KF.out.putd (by simp) (by omega) i 2 (.int .i64 (ts[i].ver + 1)) bumpT (by simpa using hl) (by decide) (fun _ => by simp [tcells, bumpT, setState]) rfl
  rw [modify_two ts i _ _ raiseT (fun _ => rfl)] at hw3
  have KG := Lib.hid hw3
  clear hw3
  have hszG := HB2.out.size
  have hbG : Below w.heap.size w ((((((W2.setCell ⟨w.heap.size, 0, none⟩ (.int .i64 ck)).setCell ⟨w.heap.size, 1, none⟩ (.int .i64 nx)).setCell ⟨w.heap.size, 2, none⟩ (.int .i64 wt)).setCell ⟨w.heap.size, 3, none⟩ (.slice (some ⟨gg, 0, none⟩) ts.length c5)).setCell ⟨gg, i * 7 + 3, none⟩ (.int .i64 4)).setCell ⟨gg, i * 7 + 2, none⟩ (.int .i64 (ts[i].ver + 1))) := ((((((HB2.out).setCell (by show w.heap.size ≤ w.heap.size; omega) _).setCell (by show w.heap.size ≤ w.heap.size; omega) _).setCell (by show w.heap.size ≤ w.heap.size; omega) _).setCell (by show w.heap.size ≤ w.heap.size; omega) _).setCell (by show w.heap.size ≤ gg; omega) _).setCell (by show w.heap.size ≤ gg; omega) _
  have b_bxG : Blk ((((((W2.setCell ⟨w.heap.size, 0, none⟩ (.int .i64 ck)).setCell ⟨w.heap.size, 1, none⟩ (.int .i64 nx)).setCell ⟨w.heap.size, 2, none⟩ (.int .i64 wt)).setCell ⟨w.heap.size, 3, none⟩ (.slice (some ⟨gg, 0, none⟩) ts.length c5)).setCell ⟨gg, i * 7 + 3, none⟩ (.int .i64 4)).setCell ⟨gg, i * 7 + 2, none⟩ (.int .i64 (ts[i].ver + 1))) (w.heap.size) 28 #[.int .i64 ck, .int .i64 nx, .int .i64 wt, .slice (some ⟨gg, 0, none⟩) ts.length c5] := ((((((B2_bx.out).set_ 0 _).set_ 1 _).set_ 2 _).set_ 3 _).far (p := ⟨gg, i * 7 + 3, none⟩) (by show w.heap.size ≠ gg; omega) _).far (p := ⟨gg, i * 7 + 2, none⟩) (by show w.heap.size ≠ gg; omega) _
  have b_bzG : Blk ((((((W2.setCell ⟨w.heap.size, 0, none⟩ (.int .i64 ck)).setCell ⟨w.heap.size, 1, none⟩ (.int .i64 nx)).setCell ⟨w.heap.size, 2, none⟩ (.int .i64 wt)).setCell ⟨w.heap.size, 3, none⟩ (.slice (some ⟨gg, 0, none⟩) ts.length c5)).setCell ⟨gg, i * 7 + 3, none⟩ (.int .i64 4)).setCell ⟨gg, i * 7 + 2, none⟩ (.int .i64 (ts[i].ver + 1))) (w.heap.size + 1) 28 #[.int .i64 0, .int .i64 0, .int .i64 0, .slice none 0 0] := ((((((B2_bz.out).far (p := ⟨w.heap.size, 0, none⟩) (by show w.heap.size + 1 ≠ w.heap.size; omega) _).far (p := ⟨w.heap.size, 1, none⟩) (by show w.heap.size + 1 ≠ w.heap.size; omega) _).far (p := ⟨w.heap.size, 2, none⟩) (by show w.heap.size + 1 ≠ w.heap.size; omega) _).far (p := ⟨w.heap.size, 3, none⟩) (by show w.heap.size + 1 ≠ w.heap.size; omega) _).far (p := ⟨gg, i * 7 + 3, none⟩) (by show w.heap.size + 1 ≠ gg; omega) _).far (p := ⟨gg, i * 7 + 2, none⟩) (by show w.heap.size + 1 ≠ gg; omega) _
  have p0 := b_bxG.cell 0
  have p1 := b_bxG.cell 1
  have p2 := b_bxG.cell 2
  have p3 := b_bxG.cell 3
  clear hbE b_bxE b_bzE hbG b_bxG b_bzG
  go_wp2_with fail
  clear p0 p1 p2 p3 q0 q1 q2 q3 ql r0 r1 r2 r3 r4 r5 r6 rf2 rf3 v2 vf2
  clear c_bx0 f_bx0 c_bx1 f_bx1 c_bx2 f_bx2 c_bx3 f_bx3 l_bx
  have hsz3 := HB2.out.size
  have hb3 : Below w.heap.size w ((((((W2.setCell ⟨w.heap.size, 0, none⟩ (.int .i64 ck)).setCell ⟨w.heap.size, 1, none⟩ (.int .i64 nx)).setCell ⟨w.heap.size, 2, none⟩ (.int .i64 wt)).setCell ⟨w.heap.size, 3, none⟩ (.slice (some ⟨gg, 0, none⟩) ts.length c5)).setCell ⟨gg, i * 7 + 3, none⟩ (.int .i64 4)).setCell ⟨gg, i * 7 + 2, none⟩ (.int .i64 (ts[i].ver + 1))) := ((((((HB2.out).setCell (by show w.heap.size ≤ w.heap.size; omega) _).setCell (by show w.heap.size ≤ w.heap.size; omega) _).setCell (by show w.heap.size ≤ w.heap.size; omega) _).setCell (by show w.heap.size ≤ w.heap.size; omega) _).setCell (by show w.heap.size ≤ gg; omega) _).setCell (by show w.heap.size ≤ gg; omega) _
  have b_bx3 : Blk ((((((W2.setCell ⟨w.heap.size, 0, none⟩ (.int .i64 ck)).setCell ⟨w.heap.size, 1, none⟩ (.int .i64 nx)).setCell ⟨w.heap.size, 2, none⟩ (.int .i64 wt)).setCell ⟨w.heap.size, 3, none⟩ (.slice (some ⟨gg, 0, none⟩) ts.length c5)).setCell ⟨gg, i * 7 + 3, none⟩ (.int .i64 4)).setCell ⟨gg, i * 7 + 2, none⟩ (.int .i64 (ts[i].ver + 1))) (w.heap.size) 28 #[.int .i64 ck, .int .i64 nx, .int .i64 wt, .slice (some ⟨gg, 0, none⟩) ts.length c5] := ((((((B2_bx.out).set_ 0 _).set_ 1 _).set_ 2 _).set_ 3 _).far (p := ⟨gg, i * 7 + 3, none⟩) (by show w.heap.size ≠ gg; omega) _).far (p := ⟨gg, i * 7 + 2, none⟩) (by show w.heap.size ≠ gg; omega) _
  have b_bz3 : Blk ((((((W2.setCell ⟨w.heap.size, 0, none⟩ (.int .i64 ck)).setCell ⟨w.heap.size, 1, none⟩ (.int .i64 nx)).setCell ⟨w.heap.size, 2, none⟩ (.int .i64 wt)).setCell ⟨w.heap.size, 3, none⟩ (.slice (some ⟨gg, 0, none⟩) ts.length c5)).setCell ⟨gg, i * 7 + 3, none⟩ (.int .i64 4)).setCell ⟨gg, i * 7 + 2, none⟩ (.int .i64 (ts[i].ver + 1))) (w.heap.size + 1) 28 #[.int .i64 0, .int .i64 0, .int .i64 0, .slice none 0 0] := ((((((B2_bz.out).far (p := ⟨w.heap.size, 0, none⟩) (by show w.heap.size + 1 ≠ w.heap.size; omega) _).far (p := ⟨w.heap.size, 1, none⟩) (by show w.heap.size + 1 ≠ w.heap.size; omega) _).far (p := ⟨w.heap.size, 2, none⟩) (by show w.heap.size + 1 ≠ w.heap.size; omega) _).far (p := ⟨w.heap.size, 3, none⟩) (by show w.heap.size + 1 ≠ w.heap.size; omega) _).far (p := ⟨gg, i * 7 + 3, none⟩) (by show w.heap.size + 1 ≠ gg; omega) _).far (p := ⟨gg, i * 7 + 2, none⟩) (by show w.heap.size + 1 ≠ gg; omega) _
  have k_own3 := KG.out
  have hz3 : W2.heap.size + 0 ≤ ((((((W2.setCell ⟨w.heap.size, 0, none⟩ (.int .i64 ck)).setCell ⟨w.heap.size, 1, none⟩ (.int .i64 nx)).setCell ⟨w.heap.size, 2, none⟩ (.int .i64 wt)).setCell ⟨w.heap.size, 3, none⟩ (.slice (some ⟨gg, 0, none⟩) ts.length c5)).setCell ⟨gg, i * 7 + 3, none⟩ (.int .i64 4)).setCell ⟨gg, i * 7 + 2, none⟩ (.int .i64 (ts[i].ver + 1))).heap.size := by first | omega | (simp; done) | (simp; omega)
  generalize (((((W2.setCell ⟨w.heap.size, 0, none⟩ (.int .i64 ck)).setCell ⟨w.heap.size, 1, none⟩ (.int .i64 nx)).setCell ⟨w.heap.size, 2, none⟩ (.int .i64 wt)).setCell ⟨w.heap.size, 3, none⟩ (.slice (some ⟨gg, 0, none⟩) ts.length c5)).setCell ⟨gg, i * 7 + 3, none⟩ (.int .i64 4)).setCell ⟨gg, i * 7 + 2, none⟩ (.int .i64 (ts[i].ver + 1)) = W3 at *
  have HB3 := Lib.hid hb3
  have B3_bx := Lib.hid b_bx3
  have B3_bz := Lib.hid b_bz3
  have K3_own := Lib.hid k_own3
  clear hb3 b_bx3 b_bz3 k_own3
  clear B2_bx B2_bz HB2 HO
  obtain ⟨hg8, hg9, A4, m4, ⟨-, s1, s2, -⟩, -, -⟩ := K3_own.out.row (by simp) i (by simpa using hl)
  simp only [List.getElem_modify, if_true, raiseT] at s1 s2
  have c_bx0 := B3_bx.out.cell 0
  have c_bx1 := B3_bx.out.cell 1
  have c_bx2 := B3_bx.out.cell 2
  have c_bx3 := B3_bx.out.cell 3
  have l_bx := B3_bx.out.lt
  have c_bz0 := B3_bz.out.cell 0
  have f_bz0 := B3_bz.out.frozen 0
  have c_bz1 := B3_bz.out.cell 1
  have f_bz1 := B3_bz.out.frozen 1
  have c_bz2 := B3_bz.out.cell 2
  have f_bz2 := B3_bz.out.frozen 2
  have c_bz3 := B3_bz.out.cell 3
  have f_bz3 := B3_bz.out.frozen 3
  have l_bz := B3_bz.out.lt
  go_region
  go_wp2
  clear c_bx0 c_bx1 c_bx2 c_bx3 l_bx c_bz0 f_bz0 c_bz1 f_bz1 c_bz2 f_bz2 c_bz3 f_bz3 l_bz
  clear s1 s2
  have hszF := HB3.out.size
  have hbF : Below w.heap.size w ((((W3.setCell ⟨w.heap.size + 1, 0, none⟩ (.int .i64 ck)).setCell ⟨w.heap.size + 1, 1, none⟩ (.int .i64 nx)).setCell ⟨w.heap.size + 1, 2, none⟩ (.int .i64 wt)).setCell ⟨w.heap.size + 1, 3, none⟩ (.slice (some ⟨gg, 0, none⟩) ts.length c5)) := ((((HB3.out).setCell (by show w.heap.size ≤ w.heap.size + 1; omega) _).setCell (by show w.heap.size ≤ w.heap.size + 1; omega) _).setCell (by show w.heap.size ≤ w.heap.size + 1; omega) _).setCell (by show w.heap.size ≤ w.heap.size + 1; omega) _
  have b_bxF : Blk ((((W3.setCell ⟨w.heap.size + 1, 0, none⟩ (.int .i64 ck)).setCell ⟨w.heap.size + 1, 1, none⟩ (.int .i64 nx)).setCell ⟨w.heap.size + 1, 2, none⟩ (.int .i64 wt)).setCell ⟨w.heap.size + 1, 3, none⟩ (.slice (some ⟨gg, 0, none⟩) ts.length c5)) (w.heap.size) 28 #[.int .i64 ck, .int .i64 nx, .int .i64 wt, .slice (some ⟨gg, 0, none⟩) ts.length c5] := ((((B3_bx.out).far (p := ⟨w.heap.size + 1, 0, none⟩) (by show w.heap.size ≠ w.heap.size + 1; omega) _).far (p := ⟨w.heap.size + 1, 1, none⟩) (by show w.heap.size ≠ w.heap.size + 1; omega) _).far (p := ⟨w.heap.size + 1, 2, none⟩) (by show w.heap.size ≠ w.heap.size + 1; omega) _).far (p := ⟨w.heap.size + 1, 3, none⟩) (by show w.heap.size ≠ w.heap.size + 1; omega) _
  have b_bzF : Blk ((((W3.setCell ⟨w.heap.size + 1, 0, none⟩ (.int .i64 ck)).setCell ⟨w.heap.size + 1, 1, none⟩ (.int .i64 nx)).setCell ⟨w.heap.size + 1, 2, none⟩ (.int .i64 wt)).setCell ⟨w.heap.size + 1, 3, none⟩ (.slice (some ⟨gg, 0, none⟩) ts.length c5)) (w.heap.size + 1) 28 #[.int .i64 ck, .int .i64 nx, .int .i64 wt, .slice (some ⟨gg, 0, none⟩) ts.length c5] := ((((B3_bz.out).set_ 0 _).set_ 1 _).set_ 2 _).set_ 3 _
  have hbF := hbF.drew
  have hoF := (K3_own.out.put4 (g := w.heap.size + 1) (by constructor <;> omega) (.int .i64 ck) (.int .i64 nx) (.int .i64 wt) (.slice (some ⟨gg, 0, none⟩) ts.length c5)).keep ((Below.refl _ _).drew)
  have y0 := b_bzF.cell 0
  have y1 := b_bzF.cell 1
  have y2 := b_bzF.cell 2
  have y3 := b_bzF.cell 3
  exact bodyPost_ret (v := .tuple #[.agg #[.int .i64 ck, .int .i64 nx, .int .i64 wt, .slice (some ⟨gg, 0, none⟩) ts.length c5], .int .i64 (ts[i].pid), .int .i64 (ts[i].ver + 1), .int .i64 (0)]) (by simp [results, Try.results43, go_sem, y0, y1, y2, y3]) rfl (⟨.slice (some ⟨gg, 0, none⟩) ts.length c5, _, rfl, own_len (hoF.rebase (by simp) (by omega) hbF) (by simp [CoordD.upd]), hbF⟩)
end Go.Proofs.Ytjkoceacjbhblaa
