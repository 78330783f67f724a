/- group.Where. -/
import Derived.Test.YtjkoceacjbhblaaGWh
namespace Go.Proofs.Ytjkoceacjbhblaa
open Go.RowKit

set_option maxRecDepth 100000 in
set_option maxHeartbeats 4000000 in
theorem where_fault (v : Value) (g : GroupD) (s : ByteArray) (p : Int) (n : Int) (hf : NameFaultM g s n) (w : World) (h : Gv w v g) :
    Calls Try.prog 45 #[v, .string s, .int .i64 p] w (Two (0) (n) w) := by
  obtain ⟨mv, ov, rfl, hx, hy, hl1, hl2⟩ := id h
  obtain ⟨A, m, rfl, -⟩ := hx.at_
  obtain ⟨A', m', rfl, -⟩ := hy.at_
  have H := Lib.hid h
  have HX := Lib.hid hx
  have HY := Lib.hid hy
  clear h hx hy
  unfold groupV at *
  obtain ⟨ck, wt, gn, ms, os⟩ := g
  simp only at *
  have hn0 := hf.ne
  have n1 : (n == 0) = false := beq_eq_false_iff_ne.2 hn0
  have n2 : (n != 0) = true := by simpa using hn0
  have HF := Lib.hid hf
  clear hf hn0
  go_enter Try.func45, Try.ntmps45
  go_wp2_with fail
  have hb1 : Below w.heap.size w (w.alloc (.cells #[.int .i64 ck, .int .i64 wt, .int .i64 gn, .slice A ms.length m, .slice A' os.length m'] 36)) := (Below.refl _ _).alloc (by first | omega | (simp; done) | (simp; omega)) _
  have hal1 : Below w.heap.size w (w.alloc (.cells #[.int .i64 ck, .int .i64 wt, .int .i64 gn, .slice A ms.length m, .slice A' os.length m'] 36)) := (Below.refl _ _).alloc (by first | omega | (simp; done) | (simp; omega)) _
  have b_bx1 : Blk (w.alloc (.cells #[.int .i64 ck, .int .i64 wt, .int .i64 gn, .slice A ms.length m, .slice A' os.length m'] 36)) (w.heap.size) 36 #[.int .i64 ck, .int .i64 wt, .int .i64 gn, .slice A ms.length m, .slice A' os.length m'] := Blk.new_ _ 36 #[.int .i64 ck, .int .i64 wt, .int .i64 gn, .slice A ms.length m, .slice A' os.length m'] (by first | rfl | (simp; done) | (simp; omega))
  have hz1 : w.heap.size + 1 ≤ (w.alloc (.cells #[.int .i64 ck, .int .i64 wt, .int .i64 gn, .slice A ms.length m, .slice A' os.length m'] 36)).heap.size := by first | omega | (simp; done) | (simp; omega)
  generalize w.alloc (.cells #[.int .i64 ck, .int .i64 wt, .int .i64 gn, .slice A ms.length m, .slice A' os.length m'] 36) = W1 at *
  have HB1 := Lib.hid hb1
  have B1_bx := Lib.hid b_bx1
  clear hb1 b_bx1
  refine (gfind_fault _ ⟨ck, wt, gn, ms, os⟩ s n _ (H.out.below hal1) HF.out).mono ?_
  rintro e W2 ⟨rfl, hb⟩
  have hb2 : Below w.heap.size w W2 := below_then HB1.out hb
  have b_bx2 := B1_bx.out.below hb B1_bx.out.lt
  have hz2 := hb.size
  have HB2 := Lib.hid hb2
  have B2_bx := Lib.hid b_bx2
  clear hb2 b_bx2
  clear B1_bx HB1
  have c_bx0 := B2_bx.out.cell 0
  have f_bx0 := B2_bx.out.frozen 0
  have c_bx1 := B2_bx.out.cell 1
  have f_bx1 := B2_bx.out.frozen 1
  have c_bx2 := B2_bx.out.cell 2
  have f_bx2 := B2_bx.out.frozen 2
  have c_bx3 := B2_bx.out.cell 3
  have f_bx3 := B2_bx.out.frozen 3
  have c_bx4 := B2_bx.out.cell 4
  have f_bx4 := B2_bx.out.frozen 4
  have l_bx := B2_bx.out.lt
  go_wp2
  clear c_bx0 f_bx0 c_bx1 f_bx1 c_bx2 f_bx2 c_bx3 f_bx3 c_bx4 f_bx4 l_bx
  have hszF := HB2.out.size
  have hbF : Below w.heap.size w (((((W2.setCell ⟨w.heap.size, 0, none⟩ (.int .i64 0)).setCell ⟨w.heap.size, 1, none⟩ (.int .i64 0)).setCell ⟨w.heap.size, 2, none⟩ (.int .i64 0)).setCell ⟨w.heap.size, 3, none⟩ (.slice none 0 0)).setCell ⟨w.heap.size, 4, none⟩ (.slice none 0 0)) := (((((HB2.out).setCell (by show w.heap.size ≤ w.heap.size; omega) _).setCell (by show w.heap.size ≤ w.heap.size; omega) _).setCell (by show w.heap.size ≤ w.heap.size; omega) _).setCell (by show w.heap.size ≤ w.heap.size; omega) _).setCell (by show w.heap.size ≤ w.heap.size; omega) _
  have b_bxF : Blk (((((W2.setCell ⟨w.heap.size, 0, none⟩ (.int .i64 0)).setCell ⟨w.heap.size, 1, none⟩ (.int .i64 0)).setCell ⟨w.heap.size, 2, none⟩ (.int .i64 0)).setCell ⟨w.heap.size, 3, none⟩ (.slice none 0 0)).setCell ⟨w.heap.size, 4, none⟩ (.slice none 0 0)) (w.heap.size) 36 #[.int .i64 0, .int .i64 0, .int .i64 0, .slice none 0 0, .slice none 0 0] := (((((B2_bx.out).set_ 0 _).set_ 1 _).set_ 2 _).set_ 3 _).set_ 4 _
  go_ret2
  exact ⟨rfl, hbF⟩
set_option maxRecDepth 100000 in
set_option maxHeartbeats 4000000 in
theorem where_none (v : Value) (g : GroupD) (s : ByteArray) (p : Int) (hk : GroupOk g) (hn : NameOk s) (hi : idxM g.mems s = none) (w : World) (h : Gv w v g) :
    Calls Try.prog 45 #[v, .string s, .int .i64 p] w (Two (0) (5) w) := by
  obtain ⟨mv, ov, rfl, hx, hy, hl1, hl2⟩ := id h
  obtain ⟨A, m, rfl, -⟩ := hx.at_
  obtain ⟨A', m', rfl, -⟩ := hy.at_
  have H := Lib.hid h
  have HX := Lib.hid hx
  have HY := Lib.hid hy
  clear h hx hy
  unfold groupV at *
  obtain ⟨ck, wt, gn, ms, os⟩ := g
  simp only at *
  have hix : ixM ms s = -1 := by simp [ixM, hi]
  have HI := Lib.hid hix
  clear hix
  have HK := Lib.hid hk
  have HN := Lib.hid hn
  clear hk hn
  go_enter Try.func45, Try.ntmps45
  go_wp2_with fail
  have hb1 : Below w.heap.size w (w.alloc (.cells #[.int .i64 ck, .int .i64 wt, .int .i64 gn, .slice A ms.length m, .slice A' os.length m'] 36)) := (Below.refl _ _).alloc (by first | omega | (simp; done) | (simp; omega)) _
  have hal1 : Below w.heap.size w (w.alloc (.cells #[.int .i64 ck, .int .i64 wt, .int .i64 gn, .slice A ms.length m, .slice A' os.length m'] 36)) := (Below.refl _ _).alloc (by first | omega | (simp; done) | (simp; omega)) _
  have b_bx1 : Blk (w.alloc (.cells #[.int .i64 ck, .int .i64 wt, .int .i64 gn, .slice A ms.length m, .slice A' os.length m'] 36)) (w.heap.size) 36 #[.int .i64 ck, .int .i64 wt, .int .i64 gn, .slice A ms.length m, .slice A' os.length m'] := Blk.new_ _ 36 #[.int .i64 ck, .int .i64 wt, .int .i64 gn, .slice A ms.length m, .slice A' os.length m'] (by first | rfl | (simp; done) | (simp; omega))
  have hz1 : w.heap.size + 1 ≤ (w.alloc (.cells #[.int .i64 ck, .int .i64 wt, .int .i64 gn, .slice A ms.length m, .slice A' os.length m'] 36)).heap.size := by first | omega | (simp; done) | (simp; omega)
  generalize w.alloc (.cells #[.int .i64 ck, .int .i64 wt, .int .i64 gn, .slice A ms.length m, .slice A' os.length m'] 36) = W1 at *
  have HB1 := Lib.hid hb1
  have B1_bx := Lib.hid b_bx1
  clear hb1 b_bx1
  refine (gfind_good _ ⟨ck, wt, gn, ms, os⟩ s _ (H.out.below hal1) HK.out HN.out).mono ?_
  rintro e W2 ⟨mv5, ov5, rows, rfl, hown, hoff, hb⟩
  obtain ⟨A5, c5, rfl, hc5⟩ := (Sl.of_own hown.own).form
  obtain ⟨B5, d5, rfl, hd5⟩ := (Sl.of_own hoff).form
  simp only at *
  unfold groupV
  simp only
  rw [HI.out]
  have hb2 : Below w.heap.size w W2 := below_then HB1.out hb
  have b_bx2 := B1_bx.out.below hb B1_bx.out.lt
  have hz2 := hb.size
  have HB2 := Lib.hid hb2
  have B2_bx := Lib.hid b_bx2
  clear hb2 b_bx2
  clear B1_bx HB1
  have ho := hown.rebase (w0 := w) rfl (Nat.le_refl _) HB2.out
  have HO := Lib.hid ho
  have hoff2 : OwnO W2 W1.heap.size (.slice B5 os.length d5) os := hoff
  have HF := Lib.hid hoff2
  clear ho hown hoff hoff2 hc5 hd5
  have c_bx0 := B2_bx.out.cell 0
  have f_bx0 := B2_bx.out.frozen 0
  have c_bx1 := B2_bx.out.cell 1
  have f_bx1 := B2_bx.out.frozen 1
  have c_bx2 := B2_bx.out.cell 2
  have f_bx2 := B2_bx.out.frozen 2
  have c_bx3 := B2_bx.out.cell 3
  have f_bx3 := B2_bx.out.frozen 3
  have c_bx4 := B2_bx.out.cell 4
  have f_bx4 := B2_bx.out.frozen 4
  have l_bx := B2_bx.out.lt
  go_wp2
  clear c_bx0 f_bx0 c_bx1 f_bx1 c_bx2 f_bx2 c_bx3 f_bx3 c_bx4 f_bx4 l_bx
  have hszF := HB2.out.size
  have hbF : Below w.heap.size w (((((W2.setCell ⟨w.heap.size, 0, none⟩ (.int .i64 ck)).setCell ⟨w.heap.size, 1, none⟩ (.int .i64 wt)).setCell ⟨w.heap.size, 2, none⟩ (.int .i64 gn)).setCell ⟨w.heap.size, 3, none⟩ (.slice A5 ms.length c5)).setCell ⟨w.heap.size, 4, none⟩ (.slice B5 os.length d5)) := (((((HB2.out).setCell (by show w.heap.size ≤ w.heap.size; omega) _).setCell (by show w.heap.size ≤ w.heap.size; omega) _).setCell (by show w.heap.size ≤ w.heap.size; omega) _).setCell (by show w.heap.size ≤ w.heap.size; omega) _).setCell (by show w.heap.size ≤ w.heap.size; omega) _
  have b_bxF : Blk (((((W2.setCell ⟨w.heap.size, 0, none⟩ (.int .i64 ck)).setCell ⟨w.heap.size, 1, none⟩ (.int .i64 wt)).setCell ⟨w.heap.size, 2, none⟩ (.int .i64 gn)).setCell ⟨w.heap.size, 3, none⟩ (.slice A5 ms.length c5)).setCell ⟨w.heap.size, 4, none⟩ (.slice B5 os.length d5)) (w.heap.size) 36 #[.int .i64 ck, .int .i64 wt, .int .i64 gn, .slice A5 ms.length c5, .slice B5 os.length d5] := (((((B2_bx.out).set_ 0 _).set_ 1 _).set_ 2 _).set_ 3 _).set_ 4 _
  go_ret2
  exact ⟨rfl, hbF⟩
set_option maxRecDepth 100000 in
set_option maxHeartbeats 4000000 in
theorem where_out (v : Value) (g : GroupD) (s : ByteArray) (p : Int) (i : Nat) (hk : GroupOk g) (hn : NameOk s) (hi : idxM g.mems s = some i) (hl : i < g.mems.length) (hp : p ∉ g.mems[i].parts) (w : World) (h : Gv w v g) :
    Calls Try.prog 45 #[v, .string s, .int .i64 p] w (Two (0) (12) w) := by
  obtain ⟨mv, ov, rfl, hx, hy, hl1, hl2⟩ := id h
  obtain ⟨A, m, rfl, -⟩ := hx.at_
  obtain ⟨A', m', rfl, -⟩ := hy.at_
  have H := Lib.hid h
  have HX := Lib.hid hx
  have HY := Lib.hid hy
  clear h hx hy
  unfold groupV at *
  obtain ⟨ck, wt, gn, ms, os⟩ := g
  simp only at *
  have hix : ixM ms s = i := (ixM_some hi).2
  have hpl : ∀ t ∈ ms, t.parts.length ≤ 9223372036854775807 := hk.bounds.2.2.2
  have HI := Lib.hid hix
  clear hix hi
  have HK := Lib.hid hk
  have HN := Lib.hid hn
  have HP := Lib.hid hp
  have HPL := Lib.hid hpl
  clear hk hn hp hpl
  go_enter Try.func45, Try.ntmps45
  go_wp2_with fail
  have hb1 : Below w.heap.size w (w.alloc (.cells #[.int .i64 ck, .int .i64 wt, .int .i64 gn, .slice A ms.length m, .slice A' os.length m'] 36)) := (Below.refl _ _).alloc (by first | omega | (simp; done) | (simp; omega)) _
  have hal1 : Below w.heap.size w (w.alloc (.cells #[.int .i64 ck, .int .i64 wt, .int .i64 gn, .slice A ms.length m, .slice A' os.length m'] 36)) := (Below.refl _ _).alloc (by first | omega | (simp; done) | (simp; omega)) _
  have b_bx1 : Blk (w.alloc (.cells #[.int .i64 ck, .int .i64 wt, .int .i64 gn, .slice A ms.length m, .slice A' os.length m'] 36)) (w.heap.size) 36 #[.int .i64 ck, .int .i64 wt, .int .i64 gn, .slice A ms.length m, .slice A' os.length m'] := Blk.new_ _ 36 #[.int .i64 ck, .int .i64 wt, .int .i64 gn, .slice A ms.length m, .slice A' os.length m'] (by first | rfl | (simp; done) | (simp; omega))
  have hz1 : w.heap.size + 1 ≤ (w.alloc (.cells #[.int .i64 ck, .int .i64 wt, .int .i64 gn, .slice A ms.length m, .slice A' os.length m'] 36)).heap.size := by first | omega | (simp; done) | (simp; omega)
  generalize w.alloc (.cells #[.int .i64 ck, .int .i64 wt, .int .i64 gn, .slice A ms.length m, .slice A' os.length m'] 36) = W1 at *
  have HB1 := Lib.hid hb1
  have B1_bx := Lib.hid b_bx1
  clear hb1 b_bx1
  refine (gfind_good _ ⟨ck, wt, gn, ms, os⟩ s _ (H.out.below hal1) HK.out HN.out).mono ?_
  rintro e W2 ⟨mv5, ov5, rows, rfl, hown, hoff, hb⟩
  obtain ⟨A5, c5, rfl, hc5⟩ := (Sl.of_own hown.own).form
  obtain ⟨B5, d5, rfl, hd5⟩ := (Sl.of_own hoff).form
  simp only at *
  unfold groupV
  simp only
  rw [HI.out]
  have hb2 : Below w.heap.size w W2 := below_then HB1.out hb
  have b_bx2 := B1_bx.out.below hb B1_bx.out.lt
  have hz2 := hb.size
  have HB2 := Lib.hid hb2
  have B2_bx := Lib.hid b_bx2
  clear hb2 b_bx2
  clear B1_bx HB1
  obtain ⟨bb, oo, rfl⟩ := (hown.mems rfl HPL.out).some_ (Nat.lt_of_le_of_lt (Nat.zero_le i) hl)
  have ho := hown.rebase (w0 := w) rfl (Nat.le_refl _) HB2.out
  have HO := Lib.hid ho
  have hoff2 : OwnO W2 W1.heap.size (.slice B5 os.length d5) os := hoff
  have HF := Lib.hid hoff2
  clear ho hown hoff hoff2 hc5 hd5
  have c_bx0 := B2_bx.out.cell 0
  have f_bx0 := B2_bx.out.frozen 0
  have c_bx1 := B2_bx.out.cell 1
  have f_bx1 := B2_bx.out.frozen 1
  have c_bx2 := B2_bx.out.cell 2
  have f_bx2 := B2_bx.out.frozen 2
  have c_bx3 := B2_bx.out.cell 3
  have f_bx3 := B2_bx.out.frozen 3
  have c_bx4 := B2_bx.out.cell 4
  have f_bx4 := B2_bx.out.frozen 4
  have l_bx := B2_bx.out.lt
  have hszE := HB2.out.size
  have hbE : Below w.heap.size w (((((W2.setCell ⟨w.heap.size, 0, none⟩ (.int .i64 ck)).setCell ⟨w.heap.size, 1, none⟩ (.int .i64 wt)).setCell ⟨w.heap.size, 2, none⟩ (.int .i64 gn)).setCell ⟨w.heap.size, 3, none⟩ (.slice (some ⟨bb, oo, none⟩) ms.length c5)).setCell ⟨w.heap.size, 4, none⟩ (.slice B5 os.length d5)) := (((((HB2.out).setCell (by show w.heap.size ≤ w.heap.size; omega) _).setCell (by show w.heap.size ≤ w.heap.size; omega) _).setCell (by show w.heap.size ≤ w.heap.size; omega) _).setCell (by show w.heap.size ≤ w.heap.size; omega) _).setCell (by show w.heap.size ≤ w.heap.size; omega) _
  have b_bxE : Blk (((((W2.setCell ⟨w.heap.size, 0, none⟩ (.int .i64 ck)).setCell ⟨w.heap.size, 1, none⟩ (.int .i64 wt)).setCell ⟨w.heap.size, 2, none⟩ (.int .i64 gn)).setCell ⟨w.heap.size, 3, none⟩ (.slice (some ⟨bb, oo, none⟩) ms.length c5)).setCell ⟨w.heap.size, 4, none⟩ (.slice B5 os.length d5)) (w.heap.size) 36 #[.int .i64 ck, .int .i64 wt, .int .i64 gn, .slice (some ⟨bb, oo, none⟩) ms.length c5, .slice B5 os.length d5] := (((((B2_bx.out).set_ 0 _).set_ 1 _).set_ 2 _).set_ 3 _).set_ 4 _
  have k_ownE := (((((HO.out).under (a := ⟨w.heap.size, 0, none⟩) (by constructor <;> (try dsimp only) <;> omega) (.int .i64 ck)).under (a := ⟨w.heap.size, 1, none⟩) (by constructor <;> (try dsimp only) <;> omega) (.int .i64 wt)).under (a := ⟨w.heap.size, 2, none⟩) (by constructor <;> (try dsimp only) <;> omega) (.int .i64 gn)).under (a := ⟨w.heap.size, 3, none⟩) (by constructor <;> (try dsimp only) <;> omega) (.slice (some ⟨bb, oo, none⟩) ms.length c5)).under (a := ⟨w.heap.size, 4, none⟩) (by constructor <;> (try dsimp only) <;> omega) (.slice B5 os.length d5)
  have k_offE := (((((HF.out).under (a := ⟨w.heap.size, 0, none⟩) (by (try dsimp only); omega) (.int .i64 ck)).under (a := ⟨w.heap.size, 1, none⟩) (by (try dsimp only); omega) (.int .i64 wt)).under (a := ⟨w.heap.size, 2, none⟩) (by (try dsimp only); omega) (.int .i64 gn)).under (a := ⟨w.heap.size, 3, none⟩) (by (try dsimp only); omega) (.slice (some ⟨bb, oo, none⟩) ms.length c5)).under (a := ⟨w.heap.size, 4, none⟩) (by (try dsimp only); omega) (.slice B5 os.length d5)
  have q0 := b_bxE.cell 0
  have q1 := b_bxE.cell 1
  have q2 := b_bxE.cell 2
  have q3 := b_bxE.cell 3
  have q4 := b_bxE.cell 4
  have ql := b_bxE.lt
  obtain ⟨hbl, A3, m3, x0, x1, x2, xi, xl⟩ := (k_ownE.mems rfl HPL.out).rowAt (Below.refl _ _) i hl
  have i0 : (0 : Int) ≤ (i : Int) := by omega
  have i1 : (i : Int) < (ms.length : Int) := Int.ofNat_lt.2 hl
  have i2 : decide ((i : Int) < 0) = false := decide_eq_false (by omega)
  have XI := Lib.hid xi
  clear xi b_bxE k_ownE k_offE hbE
  go_wp2_with fail
  clear q0 q1 q2 q3 q4 ql x0 x1 x2 i2
  clear c_bx0 f_bx0 c_bx1 f_bx1 c_bx2 f_bx2 c_bx3 f_bx3 c_bx4 f_bx4 l_bx
  have hsz3 := HB2.out.size
  have hb3 : Below w.heap.size w (((((W2.setCell ⟨w.heap.size, 0, none⟩ (.int .i64 ck)).setCell ⟨w.heap.size, 1, none⟩ (.int .i64 wt)).setCell ⟨w.heap.size, 2, none⟩ (.int .i64 gn)).setCell ⟨w.heap.size, 3, none⟩ (.slice (some ⟨bb, oo, none⟩) ms.length c5)).setCell ⟨w.heap.size, 4, none⟩ (.slice B5 os.length d5)) := (((((HB2.out).setCell (by show w.heap.size ≤ w.heap.size; omega) _).setCell (by show w.heap.size ≤ w.heap.size; omega) _).setCell (by show w.heap.size ≤ w.heap.size; omega) _).setCell (by show w.heap.size ≤ w.heap.size; omega) _).setCell (by show w.heap.size ≤ w.heap.size; omega) _
  have b_bx3 : Blk (((((W2.setCell ⟨w.heap.size, 0, none⟩ (.int .i64 ck)).setCell ⟨w.heap.size, 1, none⟩ (.int .i64 wt)).setCell ⟨w.heap.size, 2, none⟩ (.int .i64 gn)).setCell ⟨w.heap.size, 3, none⟩ (.slice (some ⟨bb, oo, none⟩) ms.length c5)).setCell ⟨w.heap.size, 4, none⟩ (.slice B5 os.length d5)) (w.heap.size) 36 #[.int .i64 ck, .int .i64 wt, .int .i64 gn, .slice (some ⟨bb, oo, none⟩) ms.length c5, .slice B5 os.length d5] := (((((B2_bx.out).set_ 0 _).set_ 1 _).set_ 2 _).set_ 3 _).set_ 4 _
  have k_own3 := (((((HO.out).under (a := ⟨w.heap.size, 0, none⟩) (by constructor <;> (try dsimp only) <;> omega) (.int .i64 ck)).under (a := ⟨w.heap.size, 1, none⟩) (by constructor <;> (try dsimp only) <;> omega) (.int .i64 wt)).under (a := ⟨w.heap.size, 2, none⟩) (by constructor <;> (try dsimp only) <;> omega) (.int .i64 gn)).under (a := ⟨w.heap.size, 3, none⟩) (by constructor <;> (try dsimp only) <;> omega) (.slice (some ⟨bb, oo, none⟩) ms.length c5)).under (a := ⟨w.heap.size, 4, none⟩) (by constructor <;> (try dsimp only) <;> omega) (.slice B5 os.length d5)
  have k_off3 := (((((HF.out).under (a := ⟨w.heap.size, 0, none⟩) (by (try dsimp only); omega) (.int .i64 ck)).under (a := ⟨w.heap.size, 1, none⟩) (by (try dsimp only); omega) (.int .i64 wt)).under (a := ⟨w.heap.size, 2, none⟩) (by (try dsimp only); omega) (.int .i64 gn)).under (a := ⟨w.heap.size, 3, none⟩) (by (try dsimp only); omega) (.slice (some ⟨bb, oo, none⟩) ms.length c5)).under (a := ⟨w.heap.size, 4, none⟩) (by (try dsimp only); omega) (.slice B5 os.length d5)
  have hz3 : W2.heap.size + 0 ≤ (((((W2.setCell ⟨w.heap.size, 0, none⟩ (.int .i64 ck)).setCell ⟨w.heap.size, 1, none⟩ (.int .i64 wt)).setCell ⟨w.heap.size, 2, none⟩ (.int .i64 gn)).setCell ⟨w.heap.size, 3, none⟩ (.slice (some ⟨bb, oo, none⟩) ms.length c5)).setCell ⟨w.heap.size, 4, none⟩ (.slice B5 os.length d5)).heap.size := by first | omega | (simp; done) | (simp; omega)
  generalize ((((W2.setCell ⟨w.heap.size, 0, none⟩ (.int .i64 ck)).setCell ⟨w.heap.size, 1, none⟩ (.int .i64 wt)).setCell ⟨w.heap.size, 2, none⟩ (.int .i64 gn)).setCell ⟨w.heap.size, 3, none⟩ (.slice (some ⟨bb, oo, none⟩) ms.length c5)).setCell ⟨w.heap.size, 4, none⟩ (.slice B5 os.length d5) = W3 at *
  have HB3 := Lib.hid hb3
  have B3_bx := Lib.hid b_bx3
  have K3_own := Lib.hid k_own3
  have K3_off := Lib.hid k_off3
  clear hb3 b_bx3 k_own3 k_off3
  clear B2_bx HB2 HO HF
  refine (contains_int _ ms[i].parts p _ XI.out xl).mono ?_
  rintro e W4 hT
  obtain ⟨rfl, hb⟩ := hT.no HP.out
  clear hT
  have hb4 : Below w.heap.size w W4 := below_then HB3.out hb
  have b_bx4 := B3_bx.out.below hb B3_bx.out.lt
  have k_own4 := K3_own.out.keep hb
  have k_off4 := K3_off.out.keep hb
  have hz4 := hb.size
  have HB4 := Lib.hid hb4
  have B4_bx := Lib.hid b_bx4
  have K4_own := Lib.hid k_own4
  have K4_off := Lib.hid k_off4
  clear hb4 b_bx4 k_own4 k_off4
  clear B3_bx HB3 K3_own K3_off
  go_wp2
  go_ret2
  exact ⟨rfl, HB4.out⟩
set_option maxRecDepth 100000 in
set_option maxHeartbeats 4000000 in
theorem where_in (v : Value) (g : GroupD) (s : ByteArray) (p : Int) (i : Nat) (hk : GroupOk g) (hn : NameOk s) (hi : idxM g.mems s = some i) (hl : i < g.mems.length) (hp : p ∈ g.mems[i].parts) (w : World) (h : Gv w v g) :
    Calls Try.prog 45 #[v, .string s, .int .i64 p] w (Two (whereOf g.offs p) (0) w) := by
  obtain ⟨mv, ov, rfl, hx, hy, hl1, hl2⟩ := id h
  obtain ⟨A, m, rfl, -⟩ := hx.at_
  obtain ⟨A', m', rfl, -⟩ := hy.at_
  have H := Lib.hid h
  have HX := Lib.hid hx
  have HY := Lib.hid hy
  clear h hx hy
  unfold groupV at *
  obtain ⟨ck, wt, gn, ms, os⟩ := g
  simp only at *
  have hix : ixM ms s = i := (ixM_some hi).2
  have hpl : ∀ t ∈ ms, t.parts.length ≤ 9223372036854775807 := hk.bounds.2.2.2
  have HI := Lib.hid hix
  clear hix hi
  have HK := Lib.hid hk
  have HN := Lib.hid hn
  have HP := Lib.hid hp
  have HPL := Lib.hid hpl
  clear hk hn hp hpl
  go_enter Try.func45, Try.ntmps45
  go_wp2_with fail
  have hb1 : Below w.heap.size w (w.alloc (.cells #[.int .i64 ck, .int .i64 wt, .int .i64 gn, .slice A ms.length m, .slice A' os.length m'] 36)) := (Below.refl _ _).alloc (by first | omega | (simp; done) | (simp; omega)) _
  have hal1 : Below w.heap.size w (w.alloc (.cells #[.int .i64 ck, .int .i64 wt, .int .i64 gn, .slice A ms.length m, .slice A' os.length m'] 36)) := (Below.refl _ _).alloc (by first | omega | (simp; done) | (simp; omega)) _
  have b_bx1 : Blk (w.alloc (.cells #[.int .i64 ck, .int .i64 wt, .int .i64 gn, .slice A ms.length m, .slice A' os.length m'] 36)) (w.heap.size) 36 #[.int .i64 ck, .int .i64 wt, .int .i64 gn, .slice A ms.length m, .slice A' os.length m'] := Blk.new_ _ 36 #[.int .i64 ck, .int .i64 wt, .int .i64 gn, .slice A ms.length m, .slice A' os.length m'] (by first | rfl | (simp; done) | (simp; omega))
  have hz1 : w.heap.size + 1 ≤ (w.alloc (.cells #[.int .i64 ck, .int .i64 wt, .int .i64 gn, .slice A ms.length m, .slice A' os.length m'] 36)).heap.size := by first | omega | (simp; done) | (simp; omega)
  generalize w.alloc (.cells #[.int .i64 ck, .int .i64 wt, .int .i64 gn, .slice A ms.length m, .slice A' os.length m'] 36) = W1 at *
  have HB1 := Lib.hid hb1
  have B1_bx := Lib.hid b_bx1
  clear hb1 b_bx1
  refine (gfind_good _ ⟨ck, wt, gn, ms, os⟩ s _ (H.out.below hal1) HK.out HN.out).mono ?_
  rintro e W2 ⟨mv5, ov5, rows, rfl, hown, hoff, hb⟩
  obtain ⟨A5, c5, rfl, hc5⟩ := (Sl.of_own hown.own).form
  obtain ⟨B5, d5, rfl, hd5⟩ := (Sl.of_own hoff).form
  simp only at *
  unfold groupV
  simp only
  rw [HI.out]
  have hb2 : Below w.heap.size w W2 := below_then HB1.out hb
  have b_bx2 := B1_bx.out.below hb B1_bx.out.lt
  have hz2 := hb.size
  have HB2 := Lib.hid hb2
  have B2_bx := Lib.hid b_bx2
  clear hb2 b_bx2
  clear B1_bx HB1
  obtain ⟨bb, oo, rfl⟩ := (hown.mems rfl HPL.out).some_ (Nat.lt_of_le_of_lt (Nat.zero_le i) hl)
  have ho := hown.rebase (w0 := w) rfl (Nat.le_refl _) HB2.out
  have HO := Lib.hid ho
  have hoff2 : OwnO W2 W1.heap.size (.slice B5 os.length d5) os := hoff
  have HF := Lib.hid hoff2
  clear ho hown hoff hoff2 hc5 hd5
  have c_bx0 := B2_bx.out.cell 0
  have f_bx0 := B2_bx.out.frozen 0
  have c_bx1 := B2_bx.out.cell 1
  have f_bx1 := B2_bx.out.frozen 1
  have c_bx2 := B2_bx.out.cell 2
  have f_bx2 := B2_bx.out.frozen 2
  have c_bx3 := B2_bx.out.cell 3
  have f_bx3 := B2_bx.out.frozen 3
  have c_bx4 := B2_bx.out.cell 4
  have f_bx4 := B2_bx.out.frozen 4
  have l_bx := B2_bx.out.lt
  have hszE := HB2.out.size
  have hbE : Below w.heap.size w (((((W2.setCell ⟨w.heap.size, 0, none⟩ (.int .i64 ck)).setCell ⟨w.heap.size, 1, none⟩ (.int .i64 wt)).setCell ⟨w.heap.size, 2, none⟩ (.int .i64 gn)).setCell ⟨w.heap.size, 3, none⟩ (.slice (some ⟨bb, oo, none⟩) ms.length c5)).setCell ⟨w.heap.size, 4, none⟩ (.slice B5 os.length d5)) := (((((HB2.out).setCell (by show w.heap.size ≤ w.heap.size; omega) _).setCell (by show w.heap.size ≤ w.heap.size; omega) _).setCell (by show w.heap.size ≤ w.heap.size; omega) _).setCell (by show w.heap.size ≤ w.heap.size; omega) _).setCell (by show w.heap.size ≤ w.heap.size; omega) _
  have b_bxE : Blk (((((W2.setCell ⟨w.heap.size, 0, none⟩ (.int .i64 ck)).setCell ⟨w.heap.size, 1, none⟩ (.int .i64 wt)).setCell ⟨w.heap.size, 2, none⟩ (.int .i64 gn)).setCell ⟨w.heap.size, 3, none⟩ (.slice (some ⟨bb, oo, none⟩) ms.length c5)).setCell ⟨w.heap.size, 4, none⟩ (.slice B5 os.length d5)) (w.heap.size) 36 #[.int .i64 ck, .int .i64 wt, .int .i64 gn, .slice (some ⟨bb, oo, none⟩) ms.length c5, .slice B5 os.length d5] := (((((B2_bx.out).set_ 0 _).set_ 1 _).set_ 2 _).set_ 3 _).set_ 4 _
  have k_ownE := (((((HO.out).under (a := ⟨w.heap.size, 0, none⟩) (by constructor <;> (try dsimp only) <;> omega) (.int .i64 ck)).under (a := ⟨w.heap.size, 1, none⟩) (by constructor <;> (try dsimp only) <;> omega) (.int .i64 wt)).under (a := ⟨w.heap.size, 2, none⟩) (by constructor <;> (try dsimp only) <;> omega) (.int .i64 gn)).under (a := ⟨w.heap.size, 3, none⟩) (by constructor <;> (try dsimp only) <;> omega) (.slice (some ⟨bb, oo, none⟩) ms.length c5)).under (a := ⟨w.heap.size, 4, none⟩) (by constructor <;> (try dsimp only) <;> omega) (.slice B5 os.length d5)
  have k_offE := (((((HF.out).under (a := ⟨w.heap.size, 0, none⟩) (by (try dsimp only); omega) (.int .i64 ck)).under (a := ⟨w.heap.size, 1, none⟩) (by (try dsimp only); omega) (.int .i64 wt)).under (a := ⟨w.heap.size, 2, none⟩) (by (try dsimp only); omega) (.int .i64 gn)).under (a := ⟨w.heap.size, 3, none⟩) (by (try dsimp only); omega) (.slice (some ⟨bb, oo, none⟩) ms.length c5)).under (a := ⟨w.heap.size, 4, none⟩) (by (try dsimp only); omega) (.slice B5 os.length d5)
  have q0 := b_bxE.cell 0
  have q1 := b_bxE.cell 1
  have q2 := b_bxE.cell 2
  have q3 := b_bxE.cell 3
  have q4 := b_bxE.cell 4
  have ql := b_bxE.lt
  obtain ⟨hbl, A3, m3, x0, x1, x2, xi, xl⟩ := (k_ownE.mems rfl HPL.out).rowAt (Below.refl _ _) i hl
  have i0 : (0 : Int) ≤ (i : Int) := by omega
  have i1 : (i : Int) < (ms.length : Int) := Int.ofNat_lt.2 hl
  have i2 : decide ((i : Int) < 0) = false := decide_eq_false (by omega)
  have XI := Lib.hid xi
  clear xi b_bxE k_ownE k_offE hbE
  go_wp2_with fail
  clear q0 q1 q2 q3 q4 ql x0 x1 x2 i2
  clear c_bx0 f_bx0 c_bx1 f_bx1 c_bx2 f_bx2 c_bx3 f_bx3 c_bx4 f_bx4 l_bx
  have hsz3 := HB2.out.size
  have hb3 : Below w.heap.size w (((((W2.setCell ⟨w.heap.size, 0, none⟩ (.int .i64 ck)).setCell ⟨w.heap.size, 1, none⟩ (.int .i64 wt)).setCell ⟨w.heap.size, 2, none⟩ (.int .i64 gn)).setCell ⟨w.heap.size, 3, none⟩ (.slice (some ⟨bb, oo, none⟩) ms.length c5)).setCell ⟨w.heap.size, 4, none⟩ (.slice B5 os.length d5)) := (((((HB2.out).setCell (by show w.heap.size ≤ w.heap.size; omega) _).setCell (by show w.heap.size ≤ w.heap.size; omega) _).setCell (by show w.heap.size ≤ w.heap.size; omega) _).setCell (by show w.heap.size ≤ w.heap.size; omega) _).setCell (by show w.heap.size ≤ w.heap.size; omega) _
  have b_bx3 : Blk (((((W2.setCell ⟨w.heap.size, 0, none⟩ (.int .i64 ck)).setCell ⟨w.heap.size, 1, none⟩ (.int .i64 wt)).setCell ⟨w.heap.size, 2, none⟩ (.int .i64 gn)).setCell ⟨w.heap.size, 3, none⟩ (.slice (some ⟨bb, oo, none⟩) ms.length c5)).setCell ⟨w.heap.size, 4, none⟩ (.slice B5 os.length d5)) (w.heap.size) 36 #[.int .i64 ck, .int .i64 wt, .int .i64 gn, .slice (some ⟨bb, oo, none⟩) ms.length c5, .slice B5 os.length d5] := (((((B2_bx.out).set_ 0 _).set_ 1 _).set_ 2 _).set_ 3 _).set_ 4 _
  have k_own3 := (((((HO.out).under (a := ⟨w.heap.size, 0, none⟩) (by constructor <;> (try dsimp only) <;> omega) (.int .i64 ck)).under (a := ⟨w.heap.size, 1, none⟩) (by constructor <;> (try dsimp only) <;> omega) (.int .i64 wt)).under (a := ⟨w.heap.size, 2, none⟩) (by constructor <;> (try dsimp only) <;> omega) (.int .i64 gn)).under (a := ⟨w.heap.size, 3, none⟩) (by constructor <;> (try dsimp only) <;> omega) (.slice (some ⟨bb, oo, none⟩) ms.length c5)).under (a := ⟨w.heap.size, 4, none⟩) (by constructor <;> (try dsimp only) <;> omega) (.slice B5 os.length d5)
  have k_off3 := (((((HF.out).under (a := ⟨w.heap.size, 0, none⟩) (by (try dsimp only); omega) (.int .i64 ck)).under (a := ⟨w.heap.size, 1, none⟩) (by (try dsimp only); omega) (.int .i64 wt)).under (a := ⟨w.heap.size, 2, none⟩) (by (try dsimp only); omega) (.int .i64 gn)).under (a := ⟨w.heap.size, 3, none⟩) (by (try dsimp only); omega) (.slice (some ⟨bb, oo, none⟩) ms.length c5)).under (a := ⟨w.heap.size, 4, none⟩) (by (try dsimp only); omega) (.slice B5 os.length d5)
  have hz3 : W2.heap.size + 0 ≤ (((((W2.setCell ⟨w.heap.size, 0, none⟩ (.int .i64 ck)).setCell ⟨w.heap.size, 1, none⟩ (.int .i64 wt)).setCell ⟨w.heap.size, 2, none⟩ (.int .i64 gn)).setCell ⟨w.heap.size, 3, none⟩ (.slice (some ⟨bb, oo, none⟩) ms.length c5)).setCell ⟨w.heap.size, 4, none⟩ (.slice B5 os.length d5)).heap.size := by first | omega | (simp; done) | (simp; omega)
  generalize ((((W2.setCell ⟨w.heap.size, 0, none⟩ (.int .i64 ck)).setCell ⟨w.heap.size, 1, none⟩ (.int .i64 wt)).setCell ⟨w.heap.size, 2, none⟩ (.int .i64 gn)).setCell ⟨w.heap.size, 3, none⟩ (.slice (some ⟨bb, oo, none⟩) ms.length c5)).setCell ⟨w.heap.size, 4, none⟩ (.slice B5 os.length d5) = W3 at *
  have HB3 := Lib.hid hb3
  have B3_bx := Lib.hid b_bx3
  have K3_own := Lib.hid k_own3
  have K3_off := Lib.hid k_off3
  clear hb3 b_bx3 k_own3 k_off3
  clear B2_bx HB2 HO HF
  refine (contains_int _ ms[i].parts p _ XI.out xl).mono ?_
  rintro e W4 hT
  obtain ⟨rfl, hb⟩ := hT.yes HP.out
  clear hT
  have hb4 : Below w.heap.size w W4 := below_then HB3.out hb
  have b_bx4 := B3_bx.out.below hb B3_bx.out.lt
  have k_own4 := K3_own.out.keep hb
  have k_off4 := K3_off.out.keep hb
  have hz4 := hb.size
  have HB4 := Lib.hid hb4
  have B4_bx := Lib.hid b_bx4
  have K4_own := Lib.hid k_own4
  have K4_off := Lib.hid k_off4
  clear hb4 b_bx4 k_own4 k_off4
  clear B3_bx HB3 K3_own K3_off
  have c_bx0 := B4_bx.out.cell 0
  have c_bx1 := B4_bx.out.cell 1
  have c_bx2 := B4_bx.out.cell 2
  have c_bx3 := B4_bx.out.cell 3
  have c_bx4 := B4_bx.out.cell 4
  have l_bx := B4_bx.out.lt
  go_wp2_with fail
  clear c_bx0 c_bx1 c_bx2 c_bx3 c_bx4 l_bx
  obtain ⟨B6, d6, hv, hd6, hcell⟩ := K4_off.out.offs.at_
  injection hv with e1 e2 e3
  subst e1 e3
  have HC := Lib.hid hcell
  clear hcell e2
  go_loopw [39] (fun i wr => ∃ k : Nat, k ≤ os.length ∧ i = .int .i64 k ∧ Hid (∀ j (hj : j < os.length), j < k → os[j].part ≠ p) ∧ Hid (Below W4.heap.size W4 wr)) (fun i _ => os.length - (intOf i).toNat)
  case atStart => exact ⟨0, by omega, rfl, fun j _ hj => by omega, Below.refl _ _⟩
  case round =>
    obtain ⟨k, hk, rfl, HJ, HW⟩ := hrel
    have hbw := below_then HB4.out HW.out
    have HBW := Lib.hid hbw
    clear hbw
    by_cases hlt : k < os.length
    · obtain ⟨b, off, rfl, hb, hcell⟩ := HC.out (by omega)
      obtain ⟨x0, x1⟩ := hcell k hlt
      have X0 := (HW.out.cell (p := ⟨b, off + k * 2, none⟩) hb).trans x0
      have X1 := (HW.out.cell (p := ⟨b, off + k * 2 + 1, none⟩) hb).trans x1
      have k0 : (0 : Int) ≤ (k : Int) := by omega
      have k1 : (k : Int) < (os.length : Int) := by omega
      clear x0 x1 hcell
      by_cases hq : os[k].part = p
      · have d : (os[k].part == p) = true := by simp [hq]
        have hw := where_hit hlt hq HJ.out
        have HWH := Lib.hid hw
        clear hq hw
        go_wp2
        go_ret2
        refine ⟨?_, HBW.out.alloc HBW.out.size _⟩
        rw [HWH.out]
        try rfl
      · have d : (os[k].part == p) = false := beq_eq_false_iff_ne.2 hq
        have hj : ∀ j (hj : j < os.length), j < k + 1 → os[j].part ≠ p := fun j hj hjk => by
          rcases Nat.lt_succ_iff_lt_or_eq.1 hjk with h' | rfl
          · exact HJ.out j hj h'
          · exact hq
        have HJ2 := Lib.hid hj
        clear hq hj
        go_wp2
        go_light
        exact ⟨⟨k + 1, by omega, by go_num, HJ2.out, HW.out.alloc HW.out.size _⟩, by simp [intOf]; omega⟩
    · obtain rfl : k = os.length := by omega
      have hw := where_zero (os := os) (p := p) fun j hj => HJ.out j hj hj
      have HWH := Lib.hid hw
      clear hw
      go_wp2
      go_ret2
      refine ⟨?_, HBW.out⟩
      rw [HWH.out]
      try rfl
theorem where_any (v : Value) (g : GroupD) (s : ByteArray) (p : Int) (r0 r1 : Int) (ht : WhereTo g s p r0 r1) (w : World) (h : Gv w v g) : Calls Try.prog 45 #[v, .string s, .int .i64 p] w (Two r0 r1 w) := by
  rcases ht with ⟨hf, rfl⟩ | ⟨hk, hn, ⟨hi, rfl, rfl⟩ | ⟨i, hi, hl, ⟨h1, rfl, rfl⟩ | ⟨h1, rfl, rfl⟩⟩⟩
  · exact where_fault v g s p r1 hf w h
  · exact where_none v g s p hk hn hi w h
  · exact where_out v g s p i hk hn hi hl h1 w h
  · exact where_in v g s p i hk hn hi hl h1 w h
end Go.Proofs.Ytjkoceacjbhblaa
