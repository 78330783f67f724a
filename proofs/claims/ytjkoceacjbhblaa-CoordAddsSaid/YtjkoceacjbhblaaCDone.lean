/- coord.Done. -/
import Derived.Test.YtjkoceacjbhblaaCoordJ
namespace Go.Proofs.Ytjkoceacjbhblaa
open Go.RowKit

theorem delAt_len {l : List Int} {k : Nat} (h : k < l.length) : l.length - 1 = (delAt l k).length := by unfold delAt; simp; omega
theorem lastT_eq {t : TxnD} {k : Nat} {st : Int} (h1 : t.parts.length = 1) (hk : k < t.parts.length) (hs : t.state = st) : setDone st (setState 1 (cutT k t)) = lastT t := by
  have e : delAt t.parts k = [] := List.eq_nil_of_length_eq_zero (by rw [← delAt_len hk]; omega)
  unfold setDone setState cutT lastT
  simp only [e, hs]
set_option maxRecDepth 100000 in
set_option maxHeartbeats 4000000 in
theorem done_fault (v : Value) (c : CoordD) (s : ByteArray) (part : Int) (n : Int) (hf : NameFault c s n) (w : World) (h : Cv w v c) :
    Calls Try.prog 49 #[v, .string s, .int .i64 part] w (CRes zeroC [.int .i64 (n)] w) := by
  obtain ⟨tv, rfl, hx, hlen⟩ := id h
  obtain ⟨A, m, rfl, -⟩ := hx.at_
  have H := Lib.hid h
  have HX := Lib.hid hx
  clear h hx
  unfold coordV at *
  obtain ⟨ck, nx, wt, ts⟩ := c
  simp only at *
  have hn0 : n ≠ 0 := by rcases hf with ⟨-, rfl⟩ | ⟨-, -, rfl⟩ <;> decide
  have n1 : (n == 0) = false := beq_eq_false_iff_ne.2 hn0
  have n2 : (n != 0) = true := by simpa using hn0
  have HF := Lib.hid hf
  clear hf hn0
  go_enter Try.func49, Try.ntmps49
  go_wp2_with fail
  have hb1 : Below w.heap.size w ((w.alloc (.cells #[.int .i64 ck, .int .i64 nx, .int .i64 wt, .slice A ts.length m] 28)).alloc (.cells #[.int .i64 0, .int .i64 0, .int .i64 0, .slice none 0 0] 28)) := ((Below.refl _ _).alloc (by first | omega | (simp; done) | (simp; omega)) _).alloc (by first | omega | (simp; done) | (simp; omega)) _
  have hal1 : Below w.heap.size w ((w.alloc (.cells #[.int .i64 ck, .int .i64 nx, .int .i64 wt, .slice A ts.length m] 28)).alloc (.cells #[.int .i64 0, .int .i64 0, .int .i64 0, .slice none 0 0] 28)) := ((Below.refl _ _).alloc (by first | omega | (simp; done) | (simp; omega)) _).alloc (by first | omega | (simp; done) | (simp; omega)) _
  have b_bx1 : Blk ((w.alloc (.cells #[.int .i64 ck, .int .i64 nx, .int .i64 wt, .slice A ts.length m] 28)).alloc (.cells #[.int .i64 0, .int .i64 0, .int .i64 0, .slice none 0 0] 28)) (w.heap.size) 28 #[.int .i64 ck, .int .i64 nx, .int .i64 wt, .slice A ts.length m] := (Blk.new_ _ 28 #[.int .i64 ck, .int .i64 nx, .int .i64 wt, .slice A ts.length m] (by first | rfl | (simp; done) | (simp; omega))).alloc _
  have b_bz1 : Blk ((w.alloc (.cells #[.int .i64 ck, .int .i64 nx, .int .i64 wt, .slice A ts.length m] 28)).alloc (.cells #[.int .i64 0, .int .i64 0, .int .i64 0, .slice none 0 0] 28)) (w.heap.size + 1) 28 #[.int .i64 0, .int .i64 0, .int .i64 0, .slice none 0 0] := Blk.new_ _ 28 #[.int .i64 0, .int .i64 0, .int .i64 0, .slice none 0 0] (by first | rfl | (simp; done) | (simp; omega))
  have hz1 : w.heap.size + 2 ≤ ((w.alloc (.cells #[.int .i64 ck, .int .i64 nx, .int .i64 wt, .slice A ts.length m] 28)).alloc (.cells #[.int .i64 0, .int .i64 0, .int .i64 0, .slice none 0 0] 28)).heap.size := by first | omega | (simp; done) | (simp; omega)
  generalize (w.alloc (.cells #[.int .i64 ck, .int .i64 nx, .int .i64 wt, .slice A ts.length m] 28)).alloc (.cells #[.int .i64 0, .int .i64 0, .int .i64 0, .slice none 0 0] 28) = W1 at *
  have HB1 := Lib.hid hb1
  have B1_bx := Lib.hid b_bx1
  have B1_bz := Lib.hid b_bz1
  clear hb1 b_bx1 b_bz1
  refine (find_fault _ ⟨ck, nx, wt, ts⟩ s n _ (H.out.below hal1) HF.out).mono ?_
  rintro e W2 ⟨rfl, hb⟩
  have hb2 : Below w.heap.size w W2 := below_then HB1.out hb
  have b_bx2 := B1_bx.out.below hb B1_bx.out.lt
  have b_bz2 := B1_bz.out.below hb B1_bz.out.lt
  have hz2 := hb.size
  have HB2 := Lib.hid hb2
  have B2_bx := Lib.hid b_bx2
  have B2_bz := Lib.hid b_bz2
  clear hb2 b_bx2 b_bz2
  clear B1_bx B1_bz HB1
  have c_bx0 := B2_bx.out.cell 0
  have f_bx0 := B2_bx.out.frozen 0
  have c_bx1 := B2_bx.out.cell 1
  have f_bx1 := B2_bx.out.frozen 1
  have c_bx2 := B2_bx.out.cell 2
  have f_bx2 := B2_bx.out.frozen 2
  have c_bx3 := B2_bx.out.cell 3
  have f_bx3 := B2_bx.out.frozen 3
  have l_bx := B2_bx.out.lt
  have c_bz0 := B2_bz.out.cell 0
  have f_bz0 := B2_bz.out.frozen 0
  have c_bz1 := B2_bz.out.cell 1
  have f_bz1 := B2_bz.out.frozen 1
  have c_bz2 := B2_bz.out.cell 2
  have f_bz2 := B2_bz.out.frozen 2
  have c_bz3 := B2_bz.out.cell 3
  have f_bz3 := B2_bz.out.frozen 3
  have l_bz := B2_bz.out.lt
  have hszE := HB2.out.size
  have hbE : Below w.heap.size w ((((W2.setCell ⟨w.heap.size, 0, none⟩ (.int .i64 0)).setCell ⟨w.heap.size, 1, none⟩ (.int .i64 0)).setCell ⟨w.heap.size, 2, none⟩ (.int .i64 0)).setCell ⟨w.heap.size, 3, none⟩ (.slice none 0 0)) := ((((HB2.out).setCell (by show w.heap.size ≤ w.heap.size; omega) _).setCell (by show w.heap.size ≤ w.heap.size; omega) _).setCell (by show w.heap.size ≤ w.heap.size; omega) _).setCell (by show w.heap.size ≤ w.heap.size; omega) _
  have b_bxE : Blk ((((W2.setCell ⟨w.heap.size, 0, none⟩ (.int .i64 0)).setCell ⟨w.heap.size, 1, none⟩ (.int .i64 0)).setCell ⟨w.heap.size, 2, none⟩ (.int .i64 0)).setCell ⟨w.heap.size, 3, none⟩ (.slice none 0 0)) (w.heap.size) 28 #[.int .i64 0, .int .i64 0, .int .i64 0, .slice none 0 0] := ((((B2_bx.out).set_ 0 _).set_ 1 _).set_ 2 _).set_ 3 _
  have b_bzE : Blk ((((W2.setCell ⟨w.heap.size, 0, none⟩ (.int .i64 0)).setCell ⟨w.heap.size, 1, none⟩ (.int .i64 0)).setCell ⟨w.heap.size, 2, none⟩ (.int .i64 0)).setCell ⟨w.heap.size, 3, none⟩ (.slice none 0 0)) (w.heap.size + 1) 28 #[.int .i64 0, .int .i64 0, .int .i64 0, .slice none 0 0] := ((((B2_bz.out).far (p := ⟨w.heap.size, 0, none⟩) (by show w.heap.size + 1 ≠ w.heap.size; omega) _).far (p := ⟨w.heap.size, 1, none⟩) (by show w.heap.size + 1 ≠ w.heap.size; omega) _).far (p := ⟨w.heap.size, 2, none⟩) (by show w.heap.size + 1 ≠ w.heap.size; omega) _).far (p := ⟨w.heap.size, 3, none⟩) (by show w.heap.size + 1 ≠ w.heap.size; omega) _
  obtain ⟨⟨z0, z1, z2, z3⟩, ⟨zf0, zf1, zf2, zf3⟩, zl⟩ := b_bzE.all4
  clear b_bxE b_bzE hbE
  go_wp2_with fail
  clear c_bx0 f_bx0 c_bx1 f_bx1 c_bx2 f_bx2 c_bx3 f_bx3 l_bx c_bz0 f_bz0 c_bz1 f_bz1 c_bz2 f_bz2 c_bz3 f_bz3 l_bz
  have hszF := HB2.out.size
  have hbF : Below w.heap.size w ((((((((W2.setCell ⟨w.heap.size, 0, none⟩ (.int .i64 0)).setCell ⟨w.heap.size, 1, none⟩ (.int .i64 0)).setCell ⟨w.heap.size, 2, none⟩ (.int .i64 0)).setCell ⟨w.heap.size, 3, none⟩ (.slice none 0 0)).setCell ⟨w.heap.size + 1, 0, none⟩ (.int .i64 0)).setCell ⟨w.heap.size + 1, 1, none⟩ (.int .i64 0)).setCell ⟨w.heap.size + 1, 2, none⟩ (.int .i64 0)).setCell ⟨w.heap.size + 1, 3, none⟩ (.slice none 0 0)) := ((((((((HB2.out).setCell (by show w.heap.size ≤ w.heap.size; omega) _).setCell (by show w.heap.size ≤ w.heap.size; omega) _).setCell (by show w.heap.size ≤ w.heap.size; omega) _).setCell (by show w.heap.size ≤ w.heap.size; omega) _).setCell (by show w.heap.size ≤ w.heap.size + 1; omega) _).setCell (by show w.heap.size ≤ w.heap.size + 1; omega) _).setCell (by show w.heap.size ≤ w.heap.size + 1; omega) _).setCell (by show w.heap.size ≤ w.heap.size + 1; omega) _
  have b_bxF : Blk ((((((((W2.setCell ⟨w.heap.size, 0, none⟩ (.int .i64 0)).setCell ⟨w.heap.size, 1, none⟩ (.int .i64 0)).setCell ⟨w.heap.size, 2, none⟩ (.int .i64 0)).setCell ⟨w.heap.size, 3, none⟩ (.slice none 0 0)).setCell ⟨w.heap.size + 1, 0, none⟩ (.int .i64 0)).setCell ⟨w.heap.size + 1, 1, none⟩ (.int .i64 0)).setCell ⟨w.heap.size + 1, 2, none⟩ (.int .i64 0)).setCell ⟨w.heap.size + 1, 3, none⟩ (.slice none 0 0)) (w.heap.size) 28 #[.int .i64 0, .int .i64 0, .int .i64 0, .slice none 0 0] := ((((((((B2_bx.out).set_ 0 _).set_ 1 _).set_ 2 _).set_ 3 _).far (p := ⟨w.heap.size + 1, 0, none⟩) (by show w.heap.size ≠ w.heap.size + 1; omega) _).far (p := ⟨w.heap.size + 1, 1, none⟩) (by show w.heap.size ≠ w.heap.size + 1; omega) _).far (p := ⟨w.heap.size + 1, 2, none⟩) (by show w.heap.size ≠ w.heap.size + 1; omega) _).far (p := ⟨w.heap.size + 1, 3, none⟩) (by show w.heap.size ≠ w.heap.size + 1; omega) _
  have b_bzF : Blk ((((((((W2.setCell ⟨w.heap.size, 0, none⟩ (.int .i64 0)).setCell ⟨w.heap.size, 1, none⟩ (.int .i64 0)).setCell ⟨w.heap.size, 2, none⟩ (.int .i64 0)).setCell ⟨w.heap.size, 3, none⟩ (.slice none 0 0)).setCell ⟨w.heap.size + 1, 0, none⟩ (.int .i64 0)).setCell ⟨w.heap.size + 1, 1, none⟩ (.int .i64 0)).setCell ⟨w.heap.size + 1, 2, none⟩ (.int .i64 0)).setCell ⟨w.heap.size + 1, 3, none⟩ (.slice none 0 0)) (w.heap.size + 1) 28 #[.int .i64 0, .int .i64 0, .int .i64 0, .slice none 0 0] := ((((((((B2_bz.out).far (p := ⟨w.heap.size, 0, none⟩) (by show w.heap.size + 1 ≠ w.heap.size; omega) _).far (p := ⟨w.heap.size, 1, none⟩) (by show w.heap.size + 1 ≠ w.heap.size; omega) _).far (p := ⟨w.heap.size, 2, none⟩) (by show w.heap.size + 1 ≠ w.heap.size; omega) _).far (p := ⟨w.heap.size, 3, none⟩) (by show w.heap.size + 1 ≠ w.heap.size; omega) _).set_ 0 _).set_ 1 _).set_ 2 _).set_ 3 _
  have y0 := b_bzF.cell 0
  have y1 := b_bzF.cell 1
  have y2 := b_bzF.cell 2
  have y3 := b_bzF.cell 3
  exact bodyPost_ret (v := .tuple #[.agg #[.int .i64 0, .int .i64 0, .int .i64 0, .slice none 0 0], .int .i64 (n)]) (by simp [results, Try.results49, go_sem, y0, y1, y2, y3]) rfl (CRes.zero hbF)
set_option maxRecDepth 100000 in
set_option maxHeartbeats 4000000 in
theorem done_none (v : Value) (c : CoordD) (s : ByteArray) (part : Int) (hk : CoordOk c) (hn : NameOk s) (hi : idxOf c.txns s = none) (w : World) (h : Cv w v c) :
    Calls Try.prog 49 #[v, .string s, .int .i64 part] w (CRes zeroC [.int .i64 (5)] w) := by
  obtain ⟨tv, rfl, hx, hlen⟩ := id h
  obtain ⟨A, m, rfl, -⟩ := hx.at_
  have H := Lib.hid h
  have HX := Lib.hid hx
  clear h hx
  unfold coordV at *
  obtain ⟨ck, nx, wt, ts⟩ := c
  simp only at *
  have hix : ixOf ts s = -1 := by simp [ixOf, hi]
  have HI := Lib.hid hix
  have HK := Lib.hid hk
  have HN := Lib.hid hn
  clear hk hn hi hix
  go_enter Try.func49, Try.ntmps49
  go_wp2_with fail
  have hb1 : Below w.heap.size w ((w.alloc (.cells #[.int .i64 ck, .int .i64 nx, .int .i64 wt, .slice A ts.length m] 28)).alloc (.cells #[.int .i64 0, .int .i64 0, .int .i64 0, .slice none 0 0] 28)) := ((Below.refl _ _).alloc (by first | omega | (simp; done) | (simp; omega)) _).alloc (by first | omega | (simp; done) | (simp; omega)) _
  have hal1 : Below w.heap.size w ((w.alloc (.cells #[.int .i64 ck, .int .i64 nx, .int .i64 wt, .slice A ts.length m] 28)).alloc (.cells #[.int .i64 0, .int .i64 0, .int .i64 0, .slice none 0 0] 28)) := ((Below.refl _ _).alloc (by first | omega | (simp; done) | (simp; omega)) _).alloc (by first | omega | (simp; done) | (simp; omega)) _
  have b_bx1 : Blk ((w.alloc (.cells #[.int .i64 ck, .int .i64 nx, .int .i64 wt, .slice A ts.length m] 28)).alloc (.cells #[.int .i64 0, .int .i64 0, .int .i64 0, .slice none 0 0] 28)) (w.heap.size) 28 #[.int .i64 ck, .int .i64 nx, .int .i64 wt, .slice A ts.length m] := (Blk.new_ _ 28 #[.int .i64 ck, .int .i64 nx, .int .i64 wt, .slice A ts.length m] (by first | rfl | (simp; done) | (simp; omega))).alloc _
  have b_bz1 : Blk ((w.alloc (.cells #[.int .i64 ck, .int .i64 nx, .int .i64 wt, .slice A ts.length m] 28)).alloc (.cells #[.int .i64 0, .int .i64 0, .int .i64 0, .slice none 0 0] 28)) (w.heap.size + 1) 28 #[.int .i64 0, .int .i64 0, .int .i64 0, .slice none 0 0] := Blk.new_ _ 28 #[.int .i64 0, .int .i64 0, .int .i64 0, .slice none 0 0] (by first | rfl | (simp; done) | (simp; omega))
  have hz1 : w.heap.size + 2 ≤ ((w.alloc (.cells #[.int .i64 ck, .int .i64 nx, .int .i64 wt, .slice A ts.length m] 28)).alloc (.cells #[.int .i64 0, .int .i64 0, .int .i64 0, .slice none 0 0] 28)).heap.size := by first | omega | (simp; done) | (simp; omega)
  generalize (w.alloc (.cells #[.int .i64 ck, .int .i64 nx, .int .i64 wt, .slice A ts.length m] 28)).alloc (.cells #[.int .i64 0, .int .i64 0, .int .i64 0, .slice none 0 0] 28) = W1 at *
  have HB1 := Lib.hid hb1
  have B1_bx := Lib.hid b_bx1
  have B1_bz := Lib.hid b_bz1
  clear hb1 b_bx1 b_bz1
  refine (find_good _ ⟨ck, nx, wt, ts⟩ s _ (H.out.below hal1) HK.out HN.out).mono ?_
  rintro e W2 ⟨tv5, rows, rfl, hown, hb⟩
  obtain ⟨A5, c5, rfl, hc5⟩ := (Sl.of_own hown.own).form
  simp only at *
  unfold coordV
  simp only
  rw [HI.out]
  clear hown
  have hb2 : Below w.heap.size w W2 := below_then HB1.out hb
  have b_bx2 := B1_bx.out.below hb B1_bx.out.lt
  have b_bz2 := B1_bz.out.below hb B1_bz.out.lt
  have hz2 := hb.size
  have HB2 := Lib.hid hb2
  have B2_bx := Lib.hid b_bx2
  have B2_bz := Lib.hid b_bz2
  clear hb2 b_bx2 b_bz2
  clear B1_bx B1_bz HB1
  have c_bx0 := B2_bx.out.cell 0
  have f_bx0 := B2_bx.out.frozen 0
  have c_bx1 := B2_bx.out.cell 1
  have f_bx1 := B2_bx.out.frozen 1
  have c_bx2 := B2_bx.out.cell 2
  have f_bx2 := B2_bx.out.frozen 2
  have c_bx3 := B2_bx.out.cell 3
  have f_bx3 := B2_bx.out.frozen 3
  have l_bx := B2_bx.out.lt
  have c_bz0 := B2_bz.out.cell 0
  have f_bz0 := B2_bz.out.frozen 0
  have c_bz1 := B2_bz.out.cell 1
  have f_bz1 := B2_bz.out.frozen 1
  have c_bz2 := B2_bz.out.cell 2
  have f_bz2 := B2_bz.out.frozen 2
  have c_bz3 := B2_bz.out.cell 3
  have f_bz3 := B2_bz.out.frozen 3
  have l_bz := B2_bz.out.lt
  go_wp2_with fail
  clear c_bx0 f_bx0 c_bx1 f_bx1 c_bx2 f_bx2 c_bx3 f_bx3 l_bx c_bz0 f_bz0 c_bz1 f_bz1 c_bz2 f_bz2 c_bz3 f_bz3 l_bz
  have hszF := HB2.out.size
  have hbF : Below w.heap.size w ((((((((W2.setCell ⟨w.heap.size, 0, none⟩ (.int .i64 ck)).setCell ⟨w.heap.size, 1, none⟩ (.int .i64 nx)).setCell ⟨w.heap.size, 2, none⟩ (.int .i64 wt)).setCell ⟨w.heap.size, 3, none⟩ (.slice A5 ts.length c5)).setCell ⟨w.heap.size + 1, 0, none⟩ (.int .i64 0)).setCell ⟨w.heap.size + 1, 1, none⟩ (.int .i64 0)).setCell ⟨w.heap.size + 1, 2, none⟩ (.int .i64 0)).setCell ⟨w.heap.size + 1, 3, none⟩ (.slice none 0 0)) := ((((((((HB2.out).setCell (by show w.heap.size ≤ w.heap.size; omega) _).setCell (by show w.heap.size ≤ w.heap.size; omega) _).setCell (by show w.heap.size ≤ w.heap.size; omega) _).setCell (by show w.heap.size ≤ w.heap.size; omega) _).setCell (by show w.heap.size ≤ w.heap.size + 1; omega) _).setCell (by show w.heap.size ≤ w.heap.size + 1; omega) _).setCell (by show w.heap.size ≤ w.heap.size + 1; omega) _).setCell (by show w.heap.size ≤ w.heap.size + 1; omega) _
  have b_bxF : Blk ((((((((W2.setCell ⟨w.heap.size, 0, none⟩ (.int .i64 ck)).setCell ⟨w.heap.size, 1, none⟩ (.int .i64 nx)).setCell ⟨w.heap.size, 2, none⟩ (.int .i64 wt)).setCell ⟨w.heap.size, 3, none⟩ (.slice A5 ts.length c5)).setCell ⟨w.heap.size + 1, 0, none⟩ (.int .i64 0)).setCell ⟨w.heap.size + 1, 1, none⟩ (.int .i64 0)).setCell ⟨w.heap.size + 1, 2, none⟩ (.int .i64 0)).setCell ⟨w.heap.size + 1, 3, none⟩ (.slice none 0 0)) (w.heap.size) 28 #[.int .i64 ck, .int .i64 nx, .int .i64 wt, .slice A5 ts.length c5] := ((((((((B2_bx.out).set_ 0 _).set_ 1 _).set_ 2 _).set_ 3 _).far (p := ⟨w.heap.size + 1, 0, none⟩) (by show w.heap.size ≠ w.heap.size + 1; omega) _).far (p := ⟨w.heap.size + 1, 1, none⟩) (by show w.heap.size ≠ w.heap.size + 1; omega) _).far (p := ⟨w.heap.size + 1, 2, none⟩) (by show w.heap.size ≠ w.heap.size + 1; omega) _).far (p := ⟨w.heap.size + 1, 3, none⟩) (by show w.heap.size ≠ w.heap.size + 1; omega) _
  have b_bzF : Blk ((((((((W2.setCell ⟨w.heap.size, 0, none⟩ (.int .i64 ck)).setCell ⟨w.heap.size, 1, none⟩ (.int .i64 nx)).setCell ⟨w.heap.size, 2, none⟩ (.int .i64 wt)).setCell ⟨w.heap.size, 3, none⟩ (.slice A5 ts.length c5)).setCell ⟨w.heap.size + 1, 0, none⟩ (.int .i64 0)).setCell ⟨w.heap.size + 1, 1, none⟩ (.int .i64 0)).setCell ⟨w.heap.size + 1, 2, none⟩ (.int .i64 0)).setCell ⟨w.heap.size + 1, 3, none⟩ (.slice none 0 0)) (w.heap.size + 1) 28 #[.int .i64 0, .int .i64 0, .int .i64 0, .slice none 0 0] := ((((((((B2_bz.out).far (p := ⟨w.heap.size, 0, none⟩) (by show w.heap.size + 1 ≠ w.heap.size; omega) _).far (p := ⟨w.heap.size, 1, none⟩) (by show w.heap.size + 1 ≠ w.heap.size; omega) _).far (p := ⟨w.heap.size, 2, none⟩) (by show w.heap.size + 1 ≠ w.heap.size; omega) _).far (p := ⟨w.heap.size, 3, none⟩) (by show w.heap.size + 1 ≠ w.heap.size; omega) _).set_ 0 _).set_ 1 _).set_ 2 _).set_ 3 _
  have y0 := b_bzF.cell 0
  have y1 := b_bzF.cell 1
  have y2 := b_bzF.cell 2
  have y3 := b_bzF.cell 3
  exact bodyPost_ret (v := .tuple #[.agg #[.int .i64 0, .int .i64 0, .int .i64 0, .slice none 0 0], .int .i64 (5)]) (by simp [results, Try.results49, go_sem, y0, y1, y2, y3]) rfl (CRes.zero hbF)
set_option maxRecDepth 100000 in
set_option maxHeartbeats 4000000 in
theorem done_state (v : Value) (c : CoordD) (s : ByteArray) (part : Int) (i : Nat) (hk : CoordOk c) (hn : NameOk s) (hi : idxOf c.txns s = some i) (hl : i < c.txns.length) (st : Int) (hst : c.txns[i].state = st) (h3 : st ≠ 3) (h4 : st ≠ 4) (w : World) (h : Cv w v c) :
    Calls Try.prog 49 #[v, .string s, .int .i64 part] w (CRes zeroC [.int .i64 (12)] w) := by
  obtain ⟨tv, rfl, hx, hlen⟩ := id h
  obtain ⟨A, m, rfl, -⟩ := hx.at_
  have H := Lib.hid h
  have HX := Lib.hid hx
  clear h hx
  unfold coordV at *
  obtain ⟨ck, nx, wt, ts⟩ := c
  simp only at *
  have hix : ixOf ts s = i := (ix_some hi).2
  have HI := Lib.hid hix
  have HK := Lib.hid hk
  have HN := Lib.hid hn
  have HST := Lib.hid hst
  have i0 : (0 : Int) ≤ (i : Int) := by omega
  have i1 : (i : Int) < (ts.length : Int) := Int.ofNat_lt.2 hl
  have i2 : decide ((i : Int) < 0) = false := decide_eq_false (by omega)
  have s3 : (st != 3) = true := by simpa using h3
  have s4 : (st != 4) = true := by simpa using h4
  clear hk hn hi hix hst h3 h4
  go_enter Try.func49, Try.ntmps49
  go_wp2_with fail
  have hb1 : Below w.heap.size w ((w.alloc (.cells #[.int .i64 ck, .int .i64 nx, .int .i64 wt, .slice A ts.length m] 28)).alloc (.cells #[.int .i64 0, .int .i64 0, .int .i64 0, .slice none 0 0] 28)) := ((Below.refl _ _).alloc (by first | omega | (simp; done) | (simp; omega)) _).alloc (by first | omega | (simp; done) | (simp; omega)) _
  have hal1 : Below w.heap.size w ((w.alloc (.cells #[.int .i64 ck, .int .i64 nx, .int .i64 wt, .slice A ts.length m] 28)).alloc (.cells #[.int .i64 0, .int .i64 0, .int .i64 0, .slice none 0 0] 28)) := ((Below.refl _ _).alloc (by first | omega | (simp; done) | (simp; omega)) _).alloc (by first | omega | (simp; done) | (simp; omega)) _
  have b_bx1 : Blk ((w.alloc (.cells #[.int .i64 ck, .int .i64 nx, .int .i64 wt, .slice A ts.length m] 28)).alloc (.cells #[.int .i64 0, .int .i64 0, .int .i64 0, .slice none 0 0] 28)) (w.heap.size) 28 #[.int .i64 ck, .int .i64 nx, .int .i64 wt, .slice A ts.length m] := (Blk.new_ _ 28 #[.int .i64 ck, .int .i64 nx, .int .i64 wt, .slice A ts.length m] (by first | rfl | (simp; done) | (simp; omega))).alloc _
  have b_bz1 : Blk ((w.alloc (.cells #[.int .i64 ck, .int .i64 nx, .int .i64 wt, .slice A ts.length m] 28)).alloc (.cells #[.int .i64 0, .int .i64 0, .int .i64 0, .slice none 0 0] 28)) (w.heap.size + 1) 28 #[.int .i64 0, .int .i64 0, .int .i64 0, .slice none 0 0] := Blk.new_ _ 28 #[.int .i64 0, .int .i64 0, .int .i64 0, .slice none 0 0] (by first | rfl | (simp; done) | (simp; omega))
  have hz1 : w.heap.size + 2 ≤ ((w.alloc (.cells #[.int .i64 ck, .int .i64 nx, .int .i64 wt, .slice A ts.length m] 28)).alloc (.cells #[.int .i64 0, .int .i64 0, .int .i64 0, .slice none 0 0] 28)).heap.size := by first | omega | (simp; done) | (simp; omega)
  generalize (w.alloc (.cells #[.int .i64 ck, .int .i64 nx, .int .i64 wt, .slice A ts.length m] 28)).alloc (.cells #[.int .i64 0, .int .i64 0, .int .i64 0, .slice none 0 0] 28) = W1 at *
  have HB1 := Lib.hid hb1
  have B1_bx := Lib.hid b_bx1
  have B1_bz := Lib.hid b_bz1
  clear hb1 b_bx1 b_bz1
  refine (find_good _ ⟨ck, nx, wt, ts⟩ s _ (H.out.below hal1) HK.out HN.out).mono ?_
  rintro e W2 ⟨tv5, rows, rfl, hown, hb⟩
  obtain ⟨A5, c5, rfl, hc5⟩ := (Sl.of_own hown.own).form
  simp only at *
  unfold coordV
  simp only
  rw [HI.out]
  have hb2 : Below w.heap.size w W2 := below_then HB1.out hb
  have b_bx2 := B1_bx.out.below hb B1_bx.out.lt
  have b_bz2 := B1_bz.out.below hb B1_bz.out.lt
  have hz2 := hb.size
  have HB2 := Lib.hid hb2
  have B2_bx := Lib.hid b_bx2
  have B2_bz := Lib.hid b_bz2
  clear hb2 b_bx2 b_bz2
  clear B1_bx B1_bz HB1
  have ho := hown.rebase (w0 := w) rfl (Nat.le_refl _) HB2.out
  obtain ⟨gg, c6, hv6, hg1, hg2, hc6, -⟩ := ho.at_ (Nat.lt_of_le_of_lt (Nat.zero_le i) hl)
  injection hv6 with hv7 hv8 hv9
  subst hv7
  clear hv8 hv9 hc6 hc5
  have HO := Lib.hid ho
  clear ho hown
  have c_bx0 := B2_bx.out.cell 0
  have f_bx0 := B2_bx.out.frozen 0
  have c_bx1 := B2_bx.out.cell 1
  have f_bx1 := B2_bx.out.frozen 1
  have c_bx2 := B2_bx.out.cell 2
  have f_bx2 := B2_bx.out.frozen 2
  have c_bx3 := B2_bx.out.cell 3
  have f_bx3 := B2_bx.out.frozen 3
  have l_bx := B2_bx.out.lt
  go_upto_region 2 with fail
  clear c_bx0 f_bx0 c_bx1 f_bx1 c_bx2 f_bx2 c_bx3 f_bx3 l_bx
  have hsz3 := HB2.out.size
  have hb3 : Below w.heap.size w ((((W2.setCell ⟨w.heap.size, 0, none⟩ (.int .i64 ck)).setCell ⟨w.heap.size, 1, none⟩ (.int .i64 nx)).setCell ⟨w.heap.size, 2, none⟩ (.int .i64 wt)).setCell ⟨w.heap.size, 3, none⟩ (.slice (some ⟨gg, 0, none⟩) ts.length c5)) := ((((HB2.out).setCell (by show w.heap.size ≤ w.heap.size; omega) _).setCell (by show w.heap.size ≤ w.heap.size; omega) _).setCell (by show w.heap.size ≤ w.heap.size; omega) _).setCell (by show w.heap.size ≤ w.heap.size; omega) _
  have b_bx3 : Blk ((((W2.setCell ⟨w.heap.size, 0, none⟩ (.int .i64 ck)).setCell ⟨w.heap.size, 1, none⟩ (.int .i64 nx)).setCell ⟨w.heap.size, 2, none⟩ (.int .i64 wt)).setCell ⟨w.heap.size, 3, none⟩ (.slice (some ⟨gg, 0, none⟩) ts.length c5)) (w.heap.size) 28 #[.int .i64 ck, .int .i64 nx, .int .i64 wt, .slice (some ⟨gg, 0, none⟩) ts.length c5] := ((((B2_bx.out).set_ 0 _).set_ 1 _).set_ 2 _).set_ 3 _
  have b_bz3 : Blk ((((W2.setCell ⟨w.heap.size, 0, none⟩ (.int .i64 ck)).setCell ⟨w.heap.size, 1, none⟩ (.int .i64 nx)).setCell ⟨w.heap.size, 2, none⟩ (.int .i64 wt)).setCell ⟨w.heap.size, 3, none⟩ (.slice (some ⟨gg, 0, none⟩) ts.length c5)) (w.heap.size + 1) 28 #[.int .i64 0, .int .i64 0, .int .i64 0, .slice none 0 0] := ((((B2_bz.out).far (p := ⟨w.heap.size, 0, none⟩) (by show w.heap.size + 1 ≠ w.heap.size; omega) _).far (p := ⟨w.heap.size, 1, none⟩) (by show w.heap.size + 1 ≠ w.heap.size; omega) _).far (p := ⟨w.heap.size, 2, none⟩) (by show w.heap.size + 1 ≠ w.heap.size; omega) _).far (p := ⟨w.heap.size, 3, none⟩) (by show w.heap.size + 1 ≠ w.heap.size; omega) _
  have k_own3 := ((((HO.out).under (a := ⟨w.heap.size, 0, none⟩) (by constructor <;> (try dsimp only) <;> omega) (.int .i64 ck)).under (a := ⟨w.heap.size, 1, none⟩) (by constructor <;> (try dsimp only) <;> omega) (.int .i64 nx)).under (a := ⟨w.heap.size, 2, none⟩) (by constructor <;> (try dsimp only) <;> omega) (.int .i64 wt)).under (a := ⟨w.heap.size, 3, none⟩) (by constructor <;> (try dsimp only) <;> omega) (.slice (some ⟨gg, 0, none⟩) ts.length c5)
  have hz3 : W2.heap.size + 0 ≤ ((((W2.setCell ⟨w.heap.size, 0, none⟩ (.int .i64 ck)).setCell ⟨w.heap.size, 1, none⟩ (.int .i64 nx)).setCell ⟨w.heap.size, 2, none⟩ (.int .i64 wt)).setCell ⟨w.heap.size, 3, none⟩ (.slice (some ⟨gg, 0, none⟩) ts.length c5)).heap.size := by first | omega | (simp; done) | (simp; omega)
  generalize (((W2.setCell ⟨w.heap.size, 0, none⟩ (.int .i64 ck)).setCell ⟨w.heap.size, 1, none⟩ (.int .i64 nx)).setCell ⟨w.heap.size, 2, none⟩ (.int .i64 wt)).setCell ⟨w.heap.size, 3, none⟩ (.slice (some ⟨gg, 0, none⟩) ts.length c5) = W3 at *
  have HB3 := Lib.hid hb3
  have B3_bx := Lib.hid b_bx3
  have B3_bz := Lib.hid b_bz3
  have K3_own := Lib.hid k_own3
  clear hb3 b_bx3 b_bz3 k_own3
  clear B2_bx B2_bz HB2 HO
  have c_bx0 := B3_bx.out.cell 0
  have f_bx0 := B3_bx.out.frozen 0
  have c_bx1 := B3_bx.out.cell 1
  have f_bx1 := B3_bx.out.frozen 1
  have c_bx2 := B3_bx.out.cell 2
  have f_bx2 := B3_bx.out.frozen 2
  have c_bx3 := B3_bx.out.cell 3
  have f_bx3 := B3_bx.out.frozen 3
  have l_bx := B3_bx.out.lt
  have c_bz0 := B3_bz.out.cell 0
  have f_bz0 := B3_bz.out.frozen 0
  have c_bz1 := B3_bz.out.cell 1
  have f_bz1 := B3_bz.out.frozen 1
  have c_bz2 := B3_bz.out.cell 2
  have f_bz2 := B3_bz.out.frozen 2
  have c_bz3 := B3_bz.out.cell 3
  have f_bz3 := B3_bz.out.frozen 3
  have l_bz := B3_bz.out.lt
  obtain ⟨hg1, hg2, A3, m3, ⟨r0, r1, r2, r3, r4, r5, r6⟩, hrf, -⟩ := K3_own.out.row rfl i hl
  rw [HST.out] at r3
  have rf3 := hrf 3 (by decide)
  have rf4 := hrf 4 (by decide)
  have rf5 := hrf 5 (by decide)
  have rf6 := hrf 6 (by decide)
  clear hrf
  go_wp2_with fail
  clear c_bx0 f_bx0 c_bx1 f_bx1 c_bx2 f_bx2 c_bx3 f_bx3 l_bx c_bz0 f_bz0 c_bz1 f_bz1 c_bz2 f_bz2 c_bz3 f_bz3 l_bz r0 r1 r2 r3 r4 r5 r6 rf3 rf4 rf5 rf6 hg1 hg2
  have hszF := HB3.out.size
  have hbF : Below w.heap.size w ((((W3.setCell ⟨w.heap.size + 1, 0, none⟩ (.int .i64 0)).setCell ⟨w.heap.size + 1, 1, none⟩ (.int .i64 0)).setCell ⟨w.heap.size + 1, 2, none⟩ (.int .i64 0)).setCell ⟨w.heap.size + 1, 3, none⟩ (.slice none 0 0)) := ((((HB3.out).setCell (by show w.heap.size ≤ w.heap.size + 1; omega) _).setCell (by show w.heap.size ≤ w.heap.size + 1; omega) _).setCell (by show w.heap.size ≤ w.heap.size + 1; omega) _).setCell (by show w.heap.size ≤ w.heap.size + 1; omega) _
  have b_bxF : Blk ((((W3.setCell ⟨w.heap.size + 1, 0, none⟩ (.int .i64 0)).setCell ⟨w.heap.size + 1, 1, none⟩ (.int .i64 0)).setCell ⟨w.heap.size + 1, 2, none⟩ (.int .i64 0)).setCell ⟨w.heap.size + 1, 3, none⟩ (.slice none 0 0)) (w.heap.size) 28 #[.int .i64 ck, .int .i64 nx, .int .i64 wt, .slice (some ⟨gg, 0, none⟩) ts.length c5] := ((((B3_bx.out).far (p := ⟨w.heap.size + 1, 0, none⟩) (by show w.heap.size ≠ w.heap.size + 1; omega) _).far (p := ⟨w.heap.size + 1, 1, none⟩) (by show w.heap.size ≠ w.heap.size + 1; omega) _).far (p := ⟨w.heap.size + 1, 2, none⟩) (by show w.heap.size ≠ w.heap.size + 1; omega) _).far (p := ⟨w.heap.size + 1, 3, none⟩) (by show w.heap.size ≠ w.heap.size + 1; omega) _
  have b_bzF : Blk ((((W3.setCell ⟨w.heap.size + 1, 0, none⟩ (.int .i64 0)).setCell ⟨w.heap.size + 1, 1, none⟩ (.int .i64 0)).setCell ⟨w.heap.size + 1, 2, none⟩ (.int .i64 0)).setCell ⟨w.heap.size + 1, 3, none⟩ (.slice none 0 0)) (w.heap.size + 1) 28 #[.int .i64 0, .int .i64 0, .int .i64 0, .slice none 0 0] := ((((B3_bz.out).set_ 0 _).set_ 1 _).set_ 2 _).set_ 3 _
  have y0 := b_bzF.cell 0
  have y1 := b_bzF.cell 1
  have y2 := b_bzF.cell 2
  have y3 := b_bzF.cell 3
  exact bodyPost_ret (v := .tuple #[.agg #[.int .i64 0, .int .i64 0, .int .i64 0, .slice none 0 0], .int .i64 (12)]) (by simp [results, Try.results49, go_sem, y0, y1, y2, y3]) rfl (CRes.zero hbF)
set_option maxRecDepth 100000 in
set_option maxHeartbeats 4000000 in
theorem done_miss (v : Value) (c : CoordD) (s : ByteArray) (part : Int) (i : Nat) (hk : CoordOk c) (hn : NameOk s) (hi : idxOf c.txns s = some i) (hl : i < c.txns.length) (st : Int) (hst : c.txns[i].state = st) (h34 : st = 3 ∨ st = 4) (hp : part ∉ c.txns[i].parts) (w : World) (h : Cv w v c) :
    Calls Try.prog 49 #[v, .string s, .int .i64 part] w (CRes zeroC [.int .i64 (5)] w) := by
  obtain ⟨tv, rfl, hx, hlen⟩ := id h
  obtain ⟨A, m, rfl, -⟩ := hx.at_
  have H := Lib.hid h
  have HX := Lib.hid hx
  clear h hx
  unfold coordV at *
  obtain ⟨ck, nx, wt, ts⟩ := c
  simp only at *
  have hix : ixOf ts s = i := (ix_some hi).2
  have HI := Lib.hid hix
  have HK := Lib.hid hk
  have HN := Lib.hid hn
  have HST := Lib.hid hst
  have i0 : (0 : Int) ≤ (i : Int) := by omega
  have i1 : (i : Int) < (ts.length : Int) := Int.ofNat_lt.2 hl
  have i2 : decide ((i : Int) < 0) = false := decide_eq_false (by omega)
  have s34 : (st != 3) = false ∨ ((st != 3) = true ∧ (st != 4) = false) := by rcases h34 with rfl | rfl <;> simp
  have hri := (hk.all i hl hl).1.rises
  have HSO := Lib.hid hri.sorted
  have HSM := Lib.hid (show ts[i].parts.length < 4611686018427387904 by have := hri.small; simp only at this; omega)
  have HC := Lib.hid (show ts[i].parts.contains part = false by simpa using hp)
  clear hk hn hi hix hst hri hp
  go_enter Try.func49, Try.ntmps49
  go_wp2_with fail
  have hb1 : Below w.heap.size w ((w.alloc (.cells #[.int .i64 ck, .int .i64 nx, .int .i64 wt, .slice A ts.length m] 28)).alloc (.cells #[.int .i64 0, .int .i64 0, .int .i64 0, .slice none 0 0] 28)) := ((Below.refl _ _).alloc (by first | omega | (simp; done) | (simp; omega)) _).alloc (by first | omega | (simp; done) | (simp; omega)) _
  have hal1 : Below w.heap.size w ((w.alloc (.cells #[.int .i64 ck, .int .i64 nx, .int .i64 wt, .slice A ts.length m] 28)).alloc (.cells #[.int .i64 0, .int .i64 0, .int .i64 0, .slice none 0 0] 28)) := ((Below.refl _ _).alloc (by first | omega | (simp; done) | (simp; omega)) _).alloc (by first | omega | (simp; done) | (simp; omega)) _
  have b_bx1 : Blk ((w.alloc (.cells #[.int .i64 ck, .int .i64 nx, .int .i64 wt, .slice A ts.length m] 28)).alloc (.cells #[.int .i64 0, .int .i64 0, .int .i64 0, .slice none 0 0] 28)) (w.heap.size) 28 #[.int .i64 ck, .int .i64 nx, .int .i64 wt, .slice A ts.length m] := (Blk.new_ _ 28 #[.int .i64 ck, .int .i64 nx, .int .i64 wt, .slice A ts.length m] (by first | rfl | (simp; done) | (simp; omega))).alloc _
  have b_bz1 : Blk ((w.alloc (.cells #[.int .i64 ck, .int .i64 nx, .int .i64 wt, .slice A ts.length m] 28)).alloc (.cells #[.int .i64 0, .int .i64 0, .int .i64 0, .slice none 0 0] 28)) (w.heap.size + 1) 28 #[.int .i64 0, .int .i64 0, .int .i64 0, .slice none 0 0] := Blk.new_ _ 28 #[.int .i64 0, .int .i64 0, .int .i64 0, .slice none 0 0] (by first | rfl | (simp; done) | (simp; omega))
  have hz1 : w.heap.size + 2 ≤ ((w.alloc (.cells #[.int .i64 ck, .int .i64 nx, .int .i64 wt, .slice A ts.length m] 28)).alloc (.cells #[.int .i64 0, .int .i64 0, .int .i64 0, .slice none 0 0] 28)).heap.size := by first | omega | (simp; done) | (simp; omega)
  generalize (w.alloc (.cells #[.int .i64 ck, .int .i64 nx, .int .i64 wt, .slice A ts.length m] 28)).alloc (.cells #[.int .i64 0, .int .i64 0, .int .i64 0, .slice none 0 0] 28) = W1 at *
  have HB1 := Lib.hid hb1
  have B1_bx := Lib.hid b_bx1
  have B1_bz := Lib.hid b_bz1
  clear hb1 b_bx1 b_bz1
  refine (find_good _ ⟨ck, nx, wt, ts⟩ s _ (H.out.below hal1) HK.out HN.out).mono ?_
  rintro e W2 ⟨tv5, rows, rfl, hown, hb⟩
  obtain ⟨A5, c5, rfl, hc5⟩ := (Sl.of_own hown.own).form
  simp only at *
  unfold coordV
  simp only
  rw [HI.out]
  have hb2 : Below w.heap.size w W2 := below_then HB1.out hb
  have b_bx2 := B1_bx.out.below hb B1_bx.out.lt
  have b_bz2 := B1_bz.out.below hb B1_bz.out.lt
  have hz2 := hb.size
  have HB2 := Lib.hid hb2
  have B2_bx := Lib.hid b_bx2
  have B2_bz := Lib.hid b_bz2
  clear hb2 b_bx2 b_bz2
  clear B1_bx B1_bz HB1
  have ho := hown.rebase (w0 := w) rfl (Nat.le_refl _) HB2.out
  obtain ⟨gg, c6, hv6, hg1, hg2, hc6, -⟩ := ho.at_ (Nat.lt_of_le_of_lt (Nat.zero_le i) hl)
  injection hv6 with hv7 hv8 hv9
  subst hv7
  clear hv8 hv9 hc6 hc5
  have HO := Lib.hid ho
  clear ho hown
  have c_bx0 := B2_bx.out.cell 0
  have f_bx0 := B2_bx.out.frozen 0
  have c_bx1 := B2_bx.out.cell 1
  have f_bx1 := B2_bx.out.frozen 1
  have c_bx2 := B2_bx.out.cell 2
  have f_bx2 := B2_bx.out.frozen 2
  have c_bx3 := B2_bx.out.cell 3
  have f_bx3 := B2_bx.out.frozen 3
  have l_bx := B2_bx.out.lt
  go_upto_region 2 with fail
  clear c_bx0 f_bx0 c_bx1 f_bx1 c_bx2 f_bx2 c_bx3 f_bx3 l_bx
  have hsz3 := HB2.out.size
  have hb3 : Below w.heap.size w ((((W2.setCell ⟨w.heap.size, 0, none⟩ (.int .i64 ck)).setCell ⟨w.heap.size, 1, none⟩ (.int .i64 nx)).setCell ⟨w.heap.size, 2, none⟩ (.int .i64 wt)).setCell ⟨w.heap.size, 3, none⟩ (.slice (some ⟨gg, 0, none⟩) ts.length c5)) := ((((HB2.out).setCell (by show w.heap.size ≤ w.heap.size; omega) _).setCell (by show w.heap.size ≤ w.heap.size; omega) _).setCell (by show w.heap.size ≤ w.heap.size; omega) _).setCell (by show w.heap.size ≤ w.heap.size; omega) _
  have b_bx3 : Blk ((((W2.setCell ⟨w.heap.size, 0, none⟩ (.int .i64 ck)).setCell ⟨w.heap.size, 1, none⟩ (.int .i64 nx)).setCell ⟨w.heap.size, 2, none⟩ (.int .i64 wt)).setCell ⟨w.heap.size, 3, none⟩ (.slice (some ⟨gg, 0, none⟩) ts.length c5)) (w.heap.size) 28 #[.int .i64 ck, .int .i64 nx, .int .i64 wt, .slice (some ⟨gg, 0, none⟩) ts.length c5] := ((((B2_bx.out).set_ 0 _).set_ 1 _).set_ 2 _).set_ 3 _
  have b_bz3 : Blk ((((W2.setCell ⟨w.heap.size, 0, none⟩ (.int .i64 ck)).setCell ⟨w.heap.size, 1, none⟩ (.int .i64 nx)).setCell ⟨w.heap.size, 2, none⟩ (.int .i64 wt)).setCell ⟨w.heap.size, 3, none⟩ (.slice (some ⟨gg, 0, none⟩) ts.length c5)) (w.heap.size + 1) 28 #[.int .i64 0, .int .i64 0, .int .i64 0, .slice none 0 0] := ((((B2_bz.out).far (p := ⟨w.heap.size, 0, none⟩) (by show w.heap.size + 1 ≠ w.heap.size; omega) _).far (p := ⟨w.heap.size, 1, none⟩) (by show w.heap.size + 1 ≠ w.heap.size; omega) _).far (p := ⟨w.heap.size, 2, none⟩) (by show w.heap.size + 1 ≠ w.heap.size; omega) _).far (p := ⟨w.heap.size, 3, none⟩) (by show w.heap.size + 1 ≠ w.heap.size; omega) _
  have k_own3 := ((((HO.out).under (a := ⟨w.heap.size, 0, none⟩) (by constructor <;> (try dsimp only) <;> omega) (.int .i64 ck)).under (a := ⟨w.heap.size, 1, none⟩) (by constructor <;> (try dsimp only) <;> omega) (.int .i64 nx)).under (a := ⟨w.heap.size, 2, none⟩) (by constructor <;> (try dsimp only) <;> omega) (.int .i64 wt)).under (a := ⟨w.heap.size, 3, none⟩) (by constructor <;> (try dsimp only) <;> omega) (.slice (some ⟨gg, 0, none⟩) ts.length c5)
  have hz3 : W2.heap.size + 0 ≤ ((((W2.setCell ⟨w.heap.size, 0, none⟩ (.int .i64 ck)).setCell ⟨w.heap.size, 1, none⟩ (.int .i64 nx)).setCell ⟨w.heap.size, 2, none⟩ (.int .i64 wt)).setCell ⟨w.heap.size, 3, none⟩ (.slice (some ⟨gg, 0, none⟩) ts.length c5)).heap.size := by first | omega | (simp; done) | (simp; omega)
  generalize (((W2.setCell ⟨w.heap.size, 0, none⟩ (.int .i64 ck)).setCell ⟨w.heap.size, 1, none⟩ (.int .i64 nx)).setCell ⟨w.heap.size, 2, none⟩ (.int .i64 wt)).setCell ⟨w.heap.size, 3, none⟩ (.slice (some ⟨gg, 0, none⟩) ts.length c5) = W3 at *
  have HB3 := Lib.hid hb3
  have B3_bx := Lib.hid b_bx3
  have B3_bz := Lib.hid b_bz3
  have K3_own := Lib.hid k_own3
  clear hb3 b_bx3 b_bz3 k_own3
  clear B2_bx B2_bz HB2 HO
  have c_bx0 := B3_bx.out.cell 0
  have f_bx0 := B3_bx.out.frozen 0
  have c_bx1 := B3_bx.out.cell 1
  have f_bx1 := B3_bx.out.frozen 1
  have c_bx2 := B3_bx.out.cell 2
  have f_bx2 := B3_bx.out.frozen 2
  have c_bx3 := B3_bx.out.cell 3
  have f_bx3 := B3_bx.out.frozen 3
  have l_bx := B3_bx.out.lt
  obtain ⟨hg1, hg2, A3, m3, ⟨r0, r1, r2, r3, r4, r5, r6⟩, hrf, -⟩ := K3_own.out.row rfl i hl
  rw [HST.out] at r3
  have rf3 := hrf 3 (by decide)
  have rf4 := hrf 4 (by decide)
  have rf5 := hrf 5 (by decide)
  have rf6 := hrf 6 (by decide)
  clear hrf
  clear h34
  rcases s34 with s3 | ⟨s3, s4⟩
  all_goals
    obtain ⟨A4, m4, hr4, hp4, hq4, p4, po4⟩ := K3_own.out.rowP rfl i hl
    have e4 := r4.symm.trans p4
    injection e4 with e4
    injection e4 with e5 _ e6
    subst e5 e6
    clear p4
    go_wp2_with fail
    clear c_bx0 f_bx0 c_bx1 f_bx1 c_bx2 f_bx2 c_bx3 f_bx3 l_bx r0 r1 r2 r3 r4 r5 r6 rf3 rf4 rf5 rf6 hg1 hg2
    refine (search_any po4 HSM.out HSO.out part).mono ?_
    rintro e W4 ⟨rfl, q, hq⟩
    have hb : Below W3.heap.size W3 W4 := by rw [hq]; exact below_drewN_ _ _
    clear hq hr4 hp4 hq4 po4
    rw [HC.out]
    have hb4 : Below w.heap.size w W4 := below_then HB3.out hb
    have b_bx4 := B3_bx.out.below hb B3_bx.out.lt
    have b_bz4 := B3_bz.out.below hb B3_bz.out.lt
    have k_own4 := K3_own.out.keep hb
    have hz4 := hb.size
    have HB4 := Lib.hid hb4
    have B4_bx := Lib.hid b_bx4
    have B4_bz := Lib.hid b_bz4
    have K4_own := Lib.hid k_own4
    clear hb4 b_bx4 b_bz4 k_own4
    clear B3_bx B3_bz HB3 K3_own
    have c_bx0 := B4_bx.out.cell 0
    have f_bx0 := B4_bx.out.frozen 0
    have c_bx1 := B4_bx.out.cell 1
    have f_bx1 := B4_bx.out.frozen 1
    have c_bx2 := B4_bx.out.cell 2
    have f_bx2 := B4_bx.out.frozen 2
    have c_bx3 := B4_bx.out.cell 3
    have f_bx3 := B4_bx.out.frozen 3
    have l_bx := B4_bx.out.lt
    have c_bz0 := B4_bz.out.cell 0
    have f_bz0 := B4_bz.out.frozen 0
    have c_bz1 := B4_bz.out.cell 1
    have f_bz1 := B4_bz.out.frozen 1
    have c_bz2 := B4_bz.out.cell 2
    have f_bz2 := B4_bz.out.frozen 2
    have c_bz3 := B4_bz.out.cell 3
    have f_bz3 := B4_bz.out.frozen 3
    have l_bz := B4_bz.out.lt
    go_wp2_with fail
    clear c_bx0 f_bx0 c_bx1 f_bx1 c_bx2 f_bx2 c_bx3 f_bx3 l_bx c_bz0 f_bz0 c_bz1 f_bz1 c_bz2 f_bz2 c_bz3 f_bz3 l_bz
    have hszF := HB4.out.size
    have hbF : Below w.heap.size w ((((W4.setCell ⟨w.heap.size + 1, 0, none⟩ (.int .i64 0)).setCell ⟨w.heap.size + 1, 1, none⟩ (.int .i64 0)).setCell ⟨w.heap.size + 1, 2, none⟩ (.int .i64 0)).setCell ⟨w.heap.size + 1, 3, none⟩ (.slice none 0 0)) := ((((HB4.out).setCell (by show w.heap.size ≤ w.heap.size + 1; omega) _).setCell (by show w.heap.size ≤ w.heap.size + 1; omega) _).setCell (by show w.heap.size ≤ w.heap.size + 1; omega) _).setCell (by show w.heap.size ≤ w.heap.size + 1; omega) _
    have b_bxF : Blk ((((W4.setCell ⟨w.heap.size + 1, 0, none⟩ (.int .i64 0)).setCell ⟨w.heap.size + 1, 1, none⟩ (.int .i64 0)).setCell ⟨w.heap.size + 1, 2, none⟩ (.int .i64 0)).setCell ⟨w.heap.size + 1, 3, none⟩ (.slice none 0 0)) (w.heap.size) 28 #[.int .i64 ck, .int .i64 nx, .int .i64 wt, .slice (some ⟨gg, 0, none⟩) ts.length c5] := ((((B4_bx.out).far (p := ⟨w.heap.size + 1, 0, none⟩) (by show w.heap.size ≠ w.heap.size + 1; omega) _).far (p := ⟨w.heap.size + 1, 1, none⟩) (by show w.heap.size ≠ w.heap.size + 1; omega) _).far (p := ⟨w.heap.size + 1, 2, none⟩) (by show w.heap.size ≠ w.heap.size + 1; omega) _).far (p := ⟨w.heap.size + 1, 3, none⟩) (by show w.heap.size ≠ w.heap.size + 1; omega) _
    have b_bzF : Blk ((((W4.setCell ⟨w.heap.size + 1, 0, none⟩ (.int .i64 0)).setCell ⟨w.heap.size + 1, 1, none⟩ (.int .i64 0)).setCell ⟨w.heap.size + 1, 2, none⟩ (.int .i64 0)).setCell ⟨w.heap.size + 1, 3, none⟩ (.slice none 0 0)) (w.heap.size + 1) 28 #[.int .i64 0, .int .i64 0, .int .i64 0, .slice none 0 0] := ((((B4_bz.out).set_ 0 _).set_ 1 _).set_ 2 _).set_ 3 _
    have y0 := b_bzF.cell 0
    have y1 := b_bzF.cell 1
    have y2 := b_bzF.cell 2
    have y3 := b_bzF.cell 3
    refine bodyPost_ret (v := .tuple #[.agg #[.int .i64 0, .int .i64 0, .int .i64 0, .slice none 0 0], .int .i64 (5)]) ?_ ?_ (CRes.zero hbF)
    · simp [results, Try.results49, go_sem, y0, y1, y2, y3]
    · rfl
set_option maxRecDepth 100000 in
set_option maxHeartbeats 4000000 in
theorem done_last (v : Value) (c : CoordD) (s : ByteArray) (part : Int) (i : Nat) (hk : CoordOk c) (hn : NameOk s) (hi : idxOf c.txns s = some i) (hl : i < c.txns.length) (st : Int) (hst : c.txns[i].state = st) (h34 : st = 3 ∨ st = 4) (k : Nat) (hk2 : k < c.txns[i].parts.length) (hp : c.txns[i].parts[k] = part) (h1 : c.txns[i].parts.length = 1) (w : World) (h : Cv w v c) :
    Calls Try.prog 49 #[v, .string s, .int .i64 part] w (CRes (c.upd i lastT) [.int .i64 (0)] w) := by
  obtain ⟨tv, rfl, hx, hlen⟩ := id h
  obtain ⟨A, m, rfl, -⟩ := hx.at_
  have H := Lib.hid h
  have HX := Lib.hid hx
  clear h hx
  unfold coordV at *
  obtain ⟨ck, nx, wt, ts⟩ := c
  simp only at *
  have hix : ixOf ts s = i := (ix_some hi).2
  have HI := Lib.hid hix
  have HK := Lib.hid hk
  have HN := Lib.hid hn
  have HST := Lib.hid hst
  have i0 : (0 : Int) ≤ (i : Int) := by omega
  have i1 : (i : Int) < (ts.length : Int) := Int.ofNat_lt.2 hl
  have i2 : decide ((i : Int) < 0) = false := decide_eq_false (by omega)
  have s34 : (st != 3) = false ∨ ((st != 3) = true ∧ (st != 4) = false) := by rcases h34 with rfl | rfl <;> simp
  have hri := (hk.all i hl hl).1.rises
  have HSO := Lib.hid hri.sorted
  have HSM := Lib.hid (show ts[i].parts.length < 4611686018427387904 by have := hri.small; simp only at this; omega)
  have HC := Lib.hid (show ts[i].parts.contains part = true by simpa using List.mem_iff_getElem.2 ⟨k, hk2, hp⟩)
  have HU := Lib.hid (show ts[i].parts.countP (· < part) = k by have := under_mem hri hk2; rw [hp] at this; exact this)
  have k0 : (0 : Int) ≤ (k : Int) := by omega
  have k4 : (k : Int) < 4 := by have := hri.small; simp only at this hk2; omega
  have HPL := Lib.hid hk2
  have HP1 := Lib.hid h1
  clear hk hn hi hix hst hri hp hk2 h1
  go_enter Try.func49, Try.ntmps49
  go_wp2_with fail
  have hb1 : Below w.heap.size w ((w.alloc (.cells #[.int .i64 ck, .int .i64 nx, .int .i64 wt, .slice A ts.length m] 28)).alloc (.cells #[.int .i64 0, .int .i64 0, .int .i64 0, .slice none 0 0] 28)) := ((Below.refl _ _).alloc (by first | omega | (simp; done) | (simp; omega)) _).alloc (by first | omega | (simp; done) | (simp; omega)) _
  have hal1 : Below w.heap.size w ((w.alloc (.cells #[.int .i64 ck, .int .i64 nx, .int .i64 wt, .slice A ts.length m] 28)).alloc (.cells #[.int .i64 0, .int .i64 0, .int .i64 0, .slice none 0 0] 28)) := ((Below.refl _ _).alloc (by first | omega | (simp; done) | (simp; omega)) _).alloc (by first | omega | (simp; done) | (simp; omega)) _
  have b_bx1 : Blk ((w.alloc (.cells #[.int .i64 ck, .int .i64 nx, .int .i64 wt, .slice A ts.length m] 28)).alloc (.cells #[.int .i64 0, .int .i64 0, .int .i64 0, .slice none 0 0] 28)) (w.heap.size) 28 #[.int .i64 ck, .int .i64 nx, .int .i64 wt, .slice A ts.length m] := (Blk.new_ _ 28 #[.int .i64 ck, .int .i64 nx, .int .i64 wt, .slice A ts.length m] (by first | rfl | (simp; done) | (simp; omega))).alloc _
  have b_bz1 : Blk ((w.alloc (.cells #[.int .i64 ck, .int .i64 nx, .int .i64 wt, .slice A ts.length m] 28)).alloc (.cells #[.int .i64 0, .int .i64 0, .int .i64 0, .slice none 0 0] 28)) (w.heap.size + 1) 28 #[.int .i64 0, .int .i64 0, .int .i64 0, .slice none 0 0] := Blk.new_ _ 28 #[.int .i64 0, .int .i64 0, .int .i64 0, .slice none 0 0] (by first | rfl | (simp; done) | (simp; omega))
  have hz1 : w.heap.size + 2 ≤ ((w.alloc (.cells #[.int .i64 ck, .int .i64 nx, .int .i64 wt, .slice A ts.length m] 28)).alloc (.cells #[.int .i64 0, .int .i64 0, .int .i64 0, .slice none 0 0] 28)).heap.size := by first | omega | (simp; done) | (simp; omega)
  generalize (w.alloc (.cells #[.int .i64 ck, .int .i64 nx, .int .i64 wt, .slice A ts.length m] 28)).alloc (.cells #[.int .i64 0, .int .i64 0, .int .i64 0, .slice none 0 0] 28) = W1 at *
  have HB1 := Lib.hid hb1
  have B1_bx := Lib.hid b_bx1
  have B1_bz := Lib.hid b_bz1
  clear hb1 b_bx1 b_bz1
  refine (find_good _ ⟨ck, nx, wt, ts⟩ s _ (H.out.below hal1) HK.out HN.out).mono ?_
  rintro e W2 ⟨tv5, rows, rfl, hown, hb⟩
  obtain ⟨A5, c5, rfl, hc5⟩ := (Sl.of_own hown.own).form
  simp only at *
  unfold coordV
  simp only
  rw [HI.out]
  have hb2 : Below w.heap.size w W2 := below_then HB1.out hb
  have b_bx2 := B1_bx.out.below hb B1_bx.out.lt
  have b_bz2 := B1_bz.out.below hb B1_bz.out.lt
  have hz2 := hb.size
  have HB2 := Lib.hid hb2
  have B2_bx := Lib.hid b_bx2
  have B2_bz := Lib.hid b_bz2
  clear hb2 b_bx2 b_bz2
  clear B1_bx B1_bz HB1
  have ho := hown.rebase (w0 := w) rfl (Nat.le_refl _) HB2.out
  obtain ⟨gg, c6, hv6, hg1, hg2, hc6, -⟩ := ho.at_ (Nat.lt_of_le_of_lt (Nat.zero_le i) hl)
  injection hv6 with hv7 hv8 hv9
  subst hv7
  clear hv8 hv9 hc6 hc5
  have HO := Lib.hid ho
  clear ho hown
  have c_bx0 := B2_bx.out.cell 0
  have f_bx0 := B2_bx.out.frozen 0
  have c_bx1 := B2_bx.out.cell 1
  have f_bx1 := B2_bx.out.frozen 1
  have c_bx2 := B2_bx.out.cell 2
  have f_bx2 := B2_bx.out.frozen 2
  have c_bx3 := B2_bx.out.cell 3
  have f_bx3 := B2_bx.out.frozen 3
  have l_bx := B2_bx.out.lt
  go_upto_region 2 with fail
  clear c_bx0 f_bx0 c_bx1 f_bx1 c_bx2 f_bx2 c_bx3 f_bx3 l_bx
  have hsz3 := HB2.out.size
  have hb3 : Below w.heap.size w ((((W2.setCell ⟨w.heap.size, 0, none⟩ (.int .i64 ck)).setCell ⟨w.heap.size, 1, none⟩ (.int .i64 nx)).setCell ⟨w.heap.size, 2, none⟩ (.int .i64 wt)).setCell ⟨w.heap.size, 3, none⟩ (.slice (some ⟨gg, 0, none⟩) ts.length c5)) := ((((HB2.out).setCell (by show w.heap.size ≤ w.heap.size; omega) _).setCell (by show w.heap.size ≤ w.heap.size; omega) _).setCell (by show w.heap.size ≤ w.heap.size; omega) _).setCell (by show w.heap.size ≤ w.heap.size; omega) _
  have b_bx3 : Blk ((((W2.setCell ⟨w.heap.size, 0, none⟩ (.int .i64 ck)).setCell ⟨w.heap.size, 1, none⟩ (.int .i64 nx)).setCell ⟨w.heap.size, 2, none⟩ (.int .i64 wt)).setCell ⟨w.heap.size, 3, none⟩ (.slice (some ⟨gg, 0, none⟩) ts.length c5)) (w.heap.size) 28 #[.int .i64 ck, .int .i64 nx, .int .i64 wt, .slice (some ⟨gg, 0, none⟩) ts.length c5] := ((((B2_bx.out).set_ 0 _).set_ 1 _).set_ 2 _).set_ 3 _
  have b_bz3 : Blk ((((W2.setCell ⟨w.heap.size, 0, none⟩ (.int .i64 ck)).setCell ⟨w.heap.size, 1, none⟩ (.int .i64 nx)).setCell ⟨w.heap.size, 2, none⟩ (.int .i64 wt)).setCell ⟨w.heap.size, 3, none⟩ (.slice (some ⟨gg, 0, none⟩) ts.length c5)) (w.heap.size + 1) 28 #[.int .i64 0, .int .i64 0, .int .i64 0, .slice none 0 0] := ((((B2_bz.out).far (p := ⟨w.heap.size, 0, none⟩) (by show w.heap.size + 1 ≠ w.heap.size; omega) _).far (p := ⟨w.heap.size, 1, none⟩) (by show w.heap.size + 1 ≠ w.heap.size; omega) _).far (p := ⟨w.heap.size, 2, none⟩) (by show w.heap.size + 1 ≠ w.heap.size; omega) _).far (p := ⟨w.heap.size, 3, none⟩) (by show w.heap.size + 1 ≠ w.heap.size; omega) _
  have k_own3 := ((((HO.out).under (a := ⟨w.heap.size, 0, none⟩) (by constructor <;> (try dsimp only) <;> omega) (.int .i64 ck)).under (a := ⟨w.heap.size, 1, none⟩) (by constructor <;> (try dsimp only) <;> omega) (.int .i64 nx)).under (a := ⟨w.heap.size, 2, none⟩) (by constructor <;> (try dsimp only) <;> omega) (.int .i64 wt)).under (a := ⟨w.heap.size, 3, none⟩) (by constructor <;> (try dsimp only) <;> omega) (.slice (some ⟨gg, 0, none⟩) ts.length c5)
  have hz3 : W2.heap.size + 0 ≤ ((((W2.setCell ⟨w.heap.size, 0, none⟩ (.int .i64 ck)).setCell ⟨w.heap.size, 1, none⟩ (.int .i64 nx)).setCell ⟨w.heap.size, 2, none⟩ (.int .i64 wt)).setCell ⟨w.heap.size, 3, none⟩ (.slice (some ⟨gg, 0, none⟩) ts.length c5)).heap.size := by first | omega | (simp; done) | (simp; omega)
  generalize (((W2.setCell ⟨w.heap.size, 0, none⟩ (.int .i64 ck)).setCell ⟨w.heap.size, 1, none⟩ (.int .i64 nx)).setCell ⟨w.heap.size, 2, none⟩ (.int .i64 wt)).setCell ⟨w.heap.size, 3, none⟩ (.slice (some ⟨gg, 0, none⟩) ts.length c5) = W3 at *
  have HB3 := Lib.hid hb3
  have B3_bx := Lib.hid b_bx3
  have B3_bz := Lib.hid b_bz3
  have K3_own := Lib.hid k_own3
  clear hb3 b_bx3 b_bz3 k_own3
  clear B2_bx B2_bz HB2 HO
  have c_bx0 := B3_bx.out.cell 0
  have f_bx0 := B3_bx.out.frozen 0
  have c_bx1 := B3_bx.out.cell 1
  have f_bx1 := B3_bx.out.frozen 1
  have c_bx2 := B3_bx.out.cell 2
  have f_bx2 := B3_bx.out.frozen 2
  have c_bx3 := B3_bx.out.cell 3
  have f_bx3 := B3_bx.out.frozen 3
  have l_bx := B3_bx.out.lt
  obtain ⟨hg1, hg2, A3, m3, ⟨r0, r1, r2, r3, r4, r5, r6⟩, hrf, -⟩ := K3_own.out.row rfl i hl
  rw [HST.out] at r3
  have rf3 := hrf 3 (by decide)
  have rf4 := hrf 4 (by decide)
  have rf5 := hrf 5 (by decide)
  have rf6 := hrf 6 (by decide)
  clear hrf
  clear h34
  rcases s34 with s3 | ⟨s3, s4⟩
  all_goals
    obtain ⟨A4, m4, hr4, hp4, hq4, p4, po4⟩ := K3_own.out.rowP rfl i hl
    have e4 := r4.symm.trans p4
    injection e4 with e4
    injection e4 with e5 _ e6
    subst e5 e6
    clear p4
    go_wp2_with fail
    clear c_bx0 f_bx0 c_bx1 f_bx1 c_bx2 f_bx2 c_bx3 f_bx3 l_bx r0 r1 r2 r3 r4 r5 r6 rf3 rf4 rf5 rf6 hg1 hg2
    refine (search_any po4 HSM.out HSO.out part).mono ?_
    rintro e W4 ⟨rfl, q, hq⟩
    have hb : Below W3.heap.size W3 W4 := by rw [hq]; exact below_drewN_ _ _
    clear hq hr4 hp4 hq4 po4
    rw [HC.out, HU.out]
    have hb4 : Below w.heap.size w W4 := below_then HB3.out hb
    have b_bx4 := B3_bx.out.below hb B3_bx.out.lt
    have b_bz4 := B3_bz.out.below hb B3_bz.out.lt
    have k_own4 := K3_own.out.keep hb
    have hz4 := hb.size
    have HB4 := Lib.hid hb4
    have B4_bx := Lib.hid b_bx4
    have B4_bz := Lib.hid b_bz4
    have K4_own := Lib.hid k_own4
    clear hb4 b_bx4 b_bz4 k_own4
    clear B3_bx B3_bz HB3 K3_own
    obtain ⟨A4, m4, hr4, hp4, hq4, p4, po4⟩ := K4_own.out.rowP rfl i hl
    have lp4 := (po4.lt)
    have c_bx0 := B4_bx.out.cell 0
    have c_bx1 := B4_bx.out.cell 1
    have c_bx2 := B4_bx.out.cell 2
    have c_bx3 := B4_bx.out.cell 3
    have l_bx := B4_bx.out.lt
    go_wp2_with fail
    clear p4
    clear c_bx0 c_bx1 c_bx2 c_bx3 l_bx
    refine (delete_any po4 HPL.out).mono ?_
    rintro e W5 ⟨p5, rfl, ho5, hst5⟩
    obtain ⟨A9, c9, rfl, hc9⟩ := (Sl.of_own ho5).form
    have hb5 : Below w.heap.size w W5 := HB4.out.trans (hst5.below HB4.out.size (fun q hq => by have := (lp4 q hq).1; omega))
    have b_bx5 := B4_bx.out.grown hst5.1 (fun e => by have := (lp4 _ e.symm).1; omega)
    have b_bz5 := B4_bz.out.grown hst5.1 (fun e => by have := (lp4 _ e.symm).1; omega)
    have hz5 := hst5.size
    have km := K4_own.out.midRow rfl i hr4 (by rw [hp4]; exact hst5.1)
    have ks := K4_own.out.swap rfl i hr4 (by rw [hp4]; exact hst5.1) (Or.inr (by rw [hp4]; exact hst5.2)) (own_eq ho5 (delAt_len HPL.out) rfl) (by omega) (cutT k) (fun _ => rfl) (by rw [hq4]; rfl)
    rw [hp4] at km
    have KS := Lib.hid ks
    clear ks hr4 hp4 hq4 ho5 hst5 lp4 po4 hc9
    have HB5 := Lib.hid hb5
    have B5_bx := Lib.hid b_bx5
    have B5_bz := Lib.hid b_bz5
    clear hb5 b_bx5 b_bz5
    clear B4_bx B4_bz HB4 K4_own
    obtain ⟨km4, kmf⟩ := km
    go_upto_region 13 with fail
    clear km4 kmf
    have hsz6 := HB5.out.size
    have hb6 : Below w.heap.size w (W5.setCell ⟨gg, i * 7 + 4, none⟩ (.slice A9 (ts[i].parts.length - 1) c9)) := (HB5.out).setCell (by show w.heap.size ≤ gg; omega) _
    have b_bx6 : Blk (W5.setCell ⟨gg, i * 7 + 4, none⟩ (.slice A9 (ts[i].parts.length - 1) c9)) (w.heap.size) 28 #[.int .i64 ck, .int .i64 nx, .int .i64 wt, .slice (some ⟨gg, 0, none⟩) ts.length c5] := (B5_bx.out).far (p := ⟨gg, i * 7 + 4, none⟩) (by show w.heap.size ≠ gg; omega) _
    have b_bz6 : Blk (W5.setCell ⟨gg, i * 7 + 4, none⟩ (.slice A9 (ts[i].parts.length - 1) c9)) (w.heap.size + 1) 28 #[.int .i64 0, .int .i64 0, .int .i64 0, .slice none 0 0] := (B5_bz.out).far (p := ⟨gg, i * 7 + 4, none⟩) (by show w.heap.size + 1 ≠ gg; omega) _
    have k_own6 := KS.out
    have hz6 : W5.heap.size + 0 ≤ (W5.setCell ⟨gg, i * 7 + 4, none⟩ (.slice A9 (ts[i].parts.length - 1) c9)).heap.size := by first | omega | (simp; done) | (simp; omega)
    generalize W5.setCell ⟨gg, i * 7 + 4, none⟩ (.slice A9 (ts[i].parts.length - 1) c9) = W6 at *
    have HB6 := Lib.hid hb6
    have B6_bx := Lib.hid b_bx6
    have B6_bz := Lib.hid b_bz6
    have K6_own := Lib.hid k_own6
    clear hb6 b_bx6 b_bz6 k_own6
    clear B5_bx B5_bz HB5 KS

    obtain ⟨ts2, ht2⟩ : ∃ ts2, ts.modify i (cutT k) = ts2 := ⟨_, rfl⟩
    have hl2 : i < ts2.length := by rw [← ht2]; simpa using hl
    have he2 : ts2[i] = cutT k ts[i] := by subst ht2; simp
    have hle : ts2.length = ts.length := by rw [← ht2]; simp
    have ko := own_ds K6_own.out ht2.symm
    have HT2 := Lib.hid ht2
    have HLE := Lib.hid hle
    have KO := Lib.hid ko
    have HP2 := Lib.hid (show ts2[i].parts.length = 0 by have := delAt_len HPL.out; have h5 := HP1.out; (try simp only at h5); rw [he2]; show (delAt ts[i].parts k).length = _; omega)
    have HS2 := Lib.hid (show ts2[i].state = ts[i].state by rw [he2]; rfl)
    clear ko ht2 hle K6_own
    have c_bx0 := B6_bx.out.cell 0
    have f_bx0 := B6_bx.out.frozen 0
    have c_bx1 := B6_bx.out.cell 1
    have f_bx1 := B6_bx.out.frozen 1
    have c_bx2 := B6_bx.out.cell 2
    have f_bx2 := B6_bx.out.frozen 2
    have c_bx3 := B6_bx.out.cell 3
    have f_bx3 := B6_bx.out.frozen 3
    have l_bx := B6_bx.out.lt
    obtain ⟨hg3, hg4, A5, m5, ⟨u0, u1, u2, u3, u4, u5, u6⟩, hrf, -⟩ := KO.out.row HLE.out.symm i hl2
    rw [HS2.out, HST.out] at u3
    rw [HP2.out] at u4
    have uf3 := hrf 3 (by decide)
    have uf6 := hrf 6 (by decide)
    clear hrf
    go_upto_region 15 with fail
    obtain ⟨rows6, h6⟩ := KO.out.putd HLE.out.symm (by omega) i 3 (.int .i64 1) (setState 1) hl2 (by decide) (fun _ => rfl) rfl
    obtain ⟨rows7, h7⟩ := h6.putd (by simp [HLE.out]) (by omega) i 6 (.int .i64 st) (setDone st) (by simpa using hl2) (by decide) (fun _ => by simp [tcells, setDone]) rfl
    have hm : (ts2.modify i (setState 1)).modify i (setDone st) = ts.modify i lastT := by
      rw [← HT2.out, modify_two ts i _ _ (fun t => setState 1 (cutT k t)) (fun _ => rfl), modify_two ts i _ _ lastT (fun _ => lastT_eq HP1.out HPL.out HST.out)]
    have h8 := own_ds h7 hm.symm
    clear hm h6 h7
    clear c_bx0 f_bx0 c_bx1 f_bx1 c_bx2 f_bx2 c_bx3 f_bx3 l_bx u0 u1 u2 u3 u4 u5 u6 uf3 uf6 hg3 hg4
    have hsz7 := HB6.out.size
    have hb7 : Below w.heap.size w ((W6.setCell ⟨gg, i * 7 + 3, none⟩ (.int .i64 1)).setCell ⟨gg, i * 7 + 6, none⟩ (.int .i64 st)) := ((HB6.out).setCell (by show w.heap.size ≤ gg; omega) _).setCell (by show w.heap.size ≤ gg; omega) _
    have b_bx7 : Blk ((W6.setCell ⟨gg, i * 7 + 3, none⟩ (.int .i64 1)).setCell ⟨gg, i * 7 + 6, none⟩ (.int .i64 st)) (w.heap.size) 28 #[.int .i64 ck, .int .i64 nx, .int .i64 wt, .slice (some ⟨gg, 0, none⟩) ts.length c5] := ((B6_bx.out).far (p := ⟨gg, i * 7 + 3, none⟩) (by show w.heap.size ≠ gg; omega) _).far (p := ⟨gg, i * 7 + 6, none⟩) (by show w.heap.size ≠ gg; omega) _
    have b_bz7 : Blk ((W6.setCell ⟨gg, i * 7 + 3, none⟩ (.int .i64 1)).setCell ⟨gg, i * 7 + 6, none⟩ (.int .i64 st)) (w.heap.size + 1) 28 #[.int .i64 0, .int .i64 0, .int .i64 0, .slice none 0 0] := ((B6_bz.out).far (p := ⟨gg, i * 7 + 3, none⟩) (by show w.heap.size + 1 ≠ gg; omega) _).far (p := ⟨gg, i * 7 + 6, none⟩) (by show w.heap.size + 1 ≠ gg; omega) _
    have k_own7 := h8
    have hz7 : W6.heap.size + 0 ≤ ((W6.setCell ⟨gg, i * 7 + 3, none⟩ (.int .i64 1)).setCell ⟨gg, i * 7 + 6, none⟩ (.int .i64 st)).heap.size := by first | omega | (simp; done) | (simp; omega)
    generalize (W6.setCell ⟨gg, i * 7 + 3, none⟩ (.int .i64 1)).setCell ⟨gg, i * 7 + 6, none⟩ (.int .i64 st) = W7 at *
    have HB7 := Lib.hid hb7
    have B7_bx := Lib.hid b_bx7
    have B7_bz := Lib.hid b_bz7
    have K7_own := Lib.hid k_own7
    clear hb7 b_bx7 b_bz7 k_own7
    clear B6_bx B6_bz HB6 KO
    clear h8
    have c_bx0 := B7_bx.out.cell 0
    have c_bx1 := B7_bx.out.cell 1
    have c_bx2 := B7_bx.out.cell 2
    have c_bx3 := B7_bx.out.cell 3
    have l_bx := B7_bx.out.lt
    have c_bz0 := B7_bz.out.cell 0
    have f_bz0 := B7_bz.out.frozen 0
    have c_bz1 := B7_bz.out.cell 1
    have f_bz1 := B7_bz.out.frozen 1
    have c_bz2 := B7_bz.out.cell 2
    have f_bz2 := B7_bz.out.frozen 2
    have c_bz3 := B7_bz.out.cell 3
    have f_bz3 := B7_bz.out.frozen 3
    have l_bz := B7_bz.out.lt
    go_wp2_with fail
    clear c_bx0 c_bx1 c_bx2 c_bx3 l_bx c_bz0 f_bz0 c_bz1 f_bz1 c_bz2 f_bz2 c_bz3 f_bz3 l_bz
    have hszF := HB7.out.size
    have hbF : Below w.heap.size w ((((W7.setCell ⟨w.heap.size + 1, 0, none⟩ (.int .i64 ck)).setCell ⟨w.heap.size + 1, 1, none⟩ (.int .i64 nx)).setCell ⟨w.heap.size + 1, 2, none⟩ (.int .i64 wt)).setCell ⟨w.heap.size + 1, 3, none⟩ (.slice (some ⟨gg, 0, none⟩) ts.length c5)) := ((((HB7.out).setCell (by show w.heap.size ≤ w.heap.size + 1; omega) _).setCell (by show w.heap.size ≤ w.heap.size + 1; omega) _).setCell (by show w.heap.size ≤ w.heap.size + 1; omega) _).setCell (by show w.heap.size ≤ w.heap.size + 1; omega) _
    have b_bxF : Blk ((((W7.setCell ⟨w.heap.size + 1, 0, none⟩ (.int .i64 ck)).setCell ⟨w.heap.size + 1, 1, none⟩ (.int .i64 nx)).setCell ⟨w.heap.size + 1, 2, none⟩ (.int .i64 wt)).setCell ⟨w.heap.size + 1, 3, none⟩ (.slice (some ⟨gg, 0, none⟩) ts.length c5)) (w.heap.size) 28 #[.int .i64 ck, .int .i64 nx, .int .i64 wt, .slice (some ⟨gg, 0, none⟩) ts.length c5] := ((((B7_bx.out).far (p := ⟨w.heap.size + 1, 0, none⟩) (by show w.heap.size ≠ w.heap.size + 1; omega) _).far (p := ⟨w.heap.size + 1, 1, none⟩) (by show w.heap.size ≠ w.heap.size + 1; omega) _).far (p := ⟨w.heap.size + 1, 2, none⟩) (by show w.heap.size ≠ w.heap.size + 1; omega) _).far (p := ⟨w.heap.size + 1, 3, none⟩) (by show w.heap.size ≠ w.heap.size + 1; omega) _
    have b_bzF : Blk ((((W7.setCell ⟨w.heap.size + 1, 0, none⟩ (.int .i64 ck)).setCell ⟨w.heap.size + 1, 1, none⟩ (.int .i64 nx)).setCell ⟨w.heap.size + 1, 2, none⟩ (.int .i64 wt)).setCell ⟨w.heap.size + 1, 3, none⟩ (.slice (some ⟨gg, 0, none⟩) ts.length c5)) (w.heap.size + 1) 28 #[.int .i64 ck, .int .i64 nx, .int .i64 wt, .slice (some ⟨gg, 0, none⟩) ts.length c5] := ((((B7_bz.out).set_ 0 _).set_ 1 _).set_ 2 _).set_ 3 _
    have hoF := K7_own.out.put4 (g := w.heap.size + 1) (by constructor <;> omega) (.int .i64 ck) (.int .i64 nx) (.int .i64 wt) (.slice (some ⟨gg, 0, none⟩) ts.length c5)
    have y0 := b_bzF.cell 0
    have y1 := b_bzF.cell 1
    have y2 := b_bzF.cell 2
    have y3 := b_bzF.cell 3
    refine bodyPost_ret (v := .tuple #[.agg #[.int .i64 ck, .int .i64 nx, .int .i64 wt, .slice (some ⟨gg, 0, none⟩) ts.length c5], .int .i64 0]) ?_ ?_ (⟨.slice (some ⟨gg, 0, none⟩) ts.length c5, _, rfl, own_len (hoF.rebase (by simp) (by omega) hbF) (by simp [CoordD.upd]), hbF⟩)
    · simp [results, Try.results49, go_sem, y0, y1, y2, y3]
    · rfl
set_option maxRecDepth 100000 in
set_option maxHeartbeats 4000000 in
theorem done_more (v : Value) (c : CoordD) (s : ByteArray) (part : Int) (i : Nat) (hk : CoordOk c) (hn : NameOk s) (hi : idxOf c.txns s = some i) (hl : i < c.txns.length) (st : Int) (hst : c.txns[i].state = st) (h34 : st = 3 ∨ st = 4) (k : Nat) (hk2 : k < c.txns[i].parts.length) (hp : c.txns[i].parts[k] = part) (h1 : 1 < c.txns[i].parts.length) (w : World) (h : Cv w v c) :
    Calls Try.prog 49 #[v, .string s, .int .i64 part] w (CRes (c.upd i (cutT k)) [.int .i64 (0)] w) := by
  obtain ⟨tv, rfl, hx, hlen⟩ := id h
  obtain ⟨A, m, rfl, -⟩ := hx.at_
  have H := Lib.hid h
  have HX := Lib.hid hx
  clear h hx
  unfold coordV at *
  obtain ⟨ck, nx, wt, ts⟩ := c
  simp only at *
  have hix : ixOf ts s = i := (ix_some hi).2
  have HI := Lib.hid hix
  have HK := Lib.hid hk
  have HN := Lib.hid hn
  have HST := Lib.hid hst
  have i0 : (0 : Int) ≤ (i : Int) := by omega
  have i1 : (i : Int) < (ts.length : Int) := Int.ofNat_lt.2 hl
  have i2 : decide ((i : Int) < 0) = false := decide_eq_false (by omega)
  have s34 : (st != 3) = false ∨ ((st != 3) = true ∧ (st != 4) = false) := by rcases h34 with rfl | rfl <;> simp
  have hri := (hk.all i hl hl).1.rises
  have HSO := Lib.hid hri.sorted
  have HSM := Lib.hid (show ts[i].parts.length < 4611686018427387904 by have := hri.small; simp only at this; omega)
  have HC := Lib.hid (show ts[i].parts.contains part = true by simpa using List.mem_iff_getElem.2 ⟨k, hk2, hp⟩)
  have HU := Lib.hid (show ts[i].parts.countP (· < part) = k by have := under_mem hri hk2; rw [hp] at this; exact this)
  have k0 : (0 : Int) ≤ (k : Int) := by omega
  have k4 : (k : Int) < 4 := by have := hri.small; simp only at this hk2; omega
  have HPL := Lib.hid hk2
  have HP1 := Lib.hid h1
  clear hk hn hi hix hst hri hp hk2 h1
  go_enter Try.func49, Try.ntmps49
  go_wp2_with fail
  have hb1 : Below w.heap.size w ((w.alloc (.cells #[.int .i64 ck, .int .i64 nx, .int .i64 wt, .slice A ts.length m] 28)).alloc (.cells #[.int .i64 0, .int .i64 0, .int .i64 0, .slice none 0 0] 28)) := ((Below.refl _ _).alloc (by first | omega | (simp; done) | (simp; omega)) _).alloc (by first | omega | (simp; done) | (simp; omega)) _
  have hal1 : Below w.heap.size w ((w.alloc (.cells #[.int .i64 ck, .int .i64 nx, .int .i64 wt, .slice A ts.length m] 28)).alloc (.cells #[.int .i64 0, .int .i64 0, .int .i64 0, .slice none 0 0] 28)) := ((Below.refl _ _).alloc (by first | omega | (simp; done) | (simp; omega)) _).alloc (by first | omega | (simp; done) | (simp; omega)) _
  have b_bx1 : Blk ((w.alloc (.cells #[.int .i64 ck, .int .i64 nx, .int .i64 wt, .slice A ts.length m] 28)).alloc (.cells #[.int .i64 0, .int .i64 0, .int .i64 0, .slice none 0 0] 28)) (w.heap.size) 28 #[.int .i64 ck, .int .i64 nx, .int .i64 wt, .slice A ts.length m] := (Blk.new_ _ 28 #[.int .i64 ck, .int .i64 nx, .int .i64 wt, .slice A ts.length m] (by first | rfl | (simp; done) | (simp; omega))).alloc _
  have b_bz1 : Blk ((w.alloc (.cells #[.int .i64 ck, .int .i64 nx, .int .i64 wt, .slice A ts.length m] 28)).alloc (.cells #[.int .i64 0, .int .i64 0, .int .i64 0, .slice none 0 0] 28)) (w.heap.size + 1) 28 #[.int .i64 0, .int .i64 0, .int .i64 0, .slice none 0 0] := Blk.new_ _ 28 #[.int .i64 0, .int .i64 0, .int .i64 0, .slice none 0 0] (by first | rfl | (simp; done) | (simp; omega))
  have hz1 : w.heap.size + 2 ≤ ((w.alloc (.cells #[.int .i64 ck, .int .i64 nx, .int .i64 wt, .slice A ts.length m] 28)).alloc (.cells #[.int .i64 0, .int .i64 0, .int .i64 0, .slice none 0 0] 28)).heap.size := by first | omega | (simp; done) | (simp; omega)
  generalize (w.alloc (.cells #[.int .i64 ck, .int .i64 nx, .int .i64 wt, .slice A ts.length m] 28)).alloc (.cells #[.int .i64 0, .int .i64 0, .int .i64 0, .slice none 0 0] 28) = W1 at *
  have HB1 := Lib.hid hb1
  have B1_bx := Lib.hid b_bx1
  have B1_bz := Lib.hid b_bz1
  clear hb1 b_bx1 b_bz1
  refine (find_good _ ⟨ck, nx, wt, ts⟩ s _ (H.out.below hal1) HK.out HN.out).mono ?_
  rintro e W2 ⟨tv5, rows, rfl, hown, hb⟩
  obtain ⟨A5, c5, rfl, hc5⟩ := (Sl.of_own hown.own).form
  simp only at *
  unfold coordV
  simp only
  rw [HI.out]
  have hb2 : Below w.heap.size w W2 := below_then HB1.out hb
  have b_bx2 := B1_bx.out.below hb B1_bx.out.lt
  have b_bz2 := B1_bz.out.below hb B1_bz.out.lt
  have hz2 := hb.size
  have HB2 := Lib.hid hb2
  have B2_bx := Lib.hid b_bx2
  have B2_bz := Lib.hid b_bz2
  clear hb2 b_bx2 b_bz2
  clear B1_bx B1_bz HB1
  have ho := hown.rebase (w0 := w) rfl (Nat.le_refl _) HB2.out
  obtain ⟨gg, c6, hv6, hg1, hg2, hc6, -⟩ := ho.at_ (Nat.lt_of_le_of_lt (Nat.zero_le i) hl)
  injection hv6 with hv7 hv8 hv9
  subst hv7
  clear hv8 hv9 hc6 hc5
  have HO := Lib.hid ho
  clear ho hown
  have c_bx0 := B2_bx.out.cell 0
  have f_bx0 := B2_bx.out.frozen 0
  have c_bx1 := B2_bx.out.cell 1
  have f_bx1 := B2_bx.out.frozen 1
  have c_bx2 := B2_bx.out.cell 2
  have f_bx2 := B2_bx.out.frozen 2
  have c_bx3 := B2_bx.out.cell 3
  have f_bx3 := B2_bx.out.frozen 3
  have l_bx := B2_bx.out.lt
  go_upto_region 2 with fail
  clear c_bx0 f_bx0 c_bx1 f_bx1 c_bx2 f_bx2 c_bx3 f_bx3 l_bx
  have hsz3 := HB2.out.size
  have hb3 : Below w.heap.size w ((((W2.setCell ⟨w.heap.size, 0, none⟩ (.int .i64 ck)).setCell ⟨w.heap.size, 1, none⟩ (.int .i64 nx)).setCell ⟨w.heap.size, 2, none⟩ (.int .i64 wt)).setCell ⟨w.heap.size, 3, none⟩ (.slice (some ⟨gg, 0, none⟩) ts.length c5)) := ((((HB2.out).setCell (by show w.heap.size ≤ w.heap.size; omega) _).setCell (by show w.heap.size ≤ w.heap.size; omega) _).setCell (by show w.heap.size ≤ w.heap.size; omega) _).setCell (by show w.heap.size ≤ w.heap.size; omega) _
  have b_bx3 : Blk ((((W2.setCell ⟨w.heap.size, 0, none⟩ (.int .i64 ck)).setCell ⟨w.heap.size, 1, none⟩ (.int .i64 nx)).setCell ⟨w.heap.size, 2, none⟩ (.int .i64 wt)).setCell ⟨w.heap.size, 3, none⟩ (.slice (some ⟨gg, 0, none⟩) ts.length c5)) (w.heap.size) 28 #[.int .i64 ck, .int .i64 nx, .int .i64 wt, .slice (some ⟨gg, 0, none⟩) ts.length c5] := ((((B2_bx.out).set_ 0 _).set_ 1 _).set_ 2 _).set_ 3 _
  have b_bz3 : Blk ((((W2.setCell ⟨w.heap.size, 0, none⟩ (.int .i64 ck)).setCell ⟨w.heap.size, 1, none⟩ (.int .i64 nx)).setCell ⟨w.heap.size, 2, none⟩ (.int .i64 wt)).setCell ⟨w.heap.size, 3, none⟩ (.slice (some ⟨gg, 0, none⟩) ts.length c5)) (w.heap.size + 1) 28 #[.int .i64 0, .int .i64 0, .int .i64 0, .slice none 0 0] := ((((B2_bz.out).far (p := ⟨w.heap.size, 0, none⟩) (by show w.heap.size + 1 ≠ w.heap.size; omega) _).far (p := ⟨w.heap.size, 1, none⟩) (by show w.heap.size + 1 ≠ w.heap.size; omega) _).far (p := ⟨w.heap.size, 2, none⟩) (by show w.heap.size + 1 ≠ w.heap.size; omega) _).far (p := ⟨w.heap.size, 3, none⟩) (by show w.heap.size + 1 ≠ w.heap.size; omega) _
  have k_own3 := ((((HO.out).under (a := ⟨w.heap.size, 0, none⟩) (by constructor <;> (try dsimp only) <;> omega) (.int .i64 ck)).under (a := ⟨w.heap.size, 1, none⟩) (by constructor <;> (try dsimp only) <;> omega) (.int .i64 nx)).under (a := ⟨w.heap.size, 2, none⟩) (by constructor <;> (try dsimp only) <;> omega) (.int .i64 wt)).under (a := ⟨w.heap.size, 3, none⟩) (by constructor <;> (try dsimp only) <;> omega) (.slice (some ⟨gg, 0, none⟩) ts.length c5)
  have hz3 : W2.heap.size + 0 ≤ ((((W2.setCell ⟨w.heap.size, 0, none⟩ (.int .i64 ck)).setCell ⟨w.heap.size, 1, none⟩ (.int .i64 nx)).setCell ⟨w.heap.size, 2, none⟩ (.int .i64 wt)).setCell ⟨w.heap.size, 3, none⟩ (.slice (some ⟨gg, 0, none⟩) ts.length c5)).heap.size := by first | omega | (simp; done) | (simp; omega)
  generalize (((W2.setCell ⟨w.heap.size, 0, none⟩ (.int .i64 ck)).setCell ⟨w.heap.size, 1, none⟩ (.int .i64 nx)).setCell ⟨w.heap.size, 2, none⟩ (.int .i64 wt)).setCell ⟨w.heap.size, 3, none⟩ (.slice (some ⟨gg, 0, none⟩) ts.length c5) = W3 at *
  have HB3 := Lib.hid hb3
  have B3_bx := Lib.hid b_bx3
  have B3_bz := Lib.hid b_bz3
  have K3_own := Lib.hid k_own3
  clear hb3 b_bx3 b_bz3 k_own3
  clear B2_bx B2_bz HB2 HO
  have c_bx0 := B3_bx.out.cell 0
  have f_bx0 := B3_bx.out.frozen 0
  have c_bx1 := B3_bx.out.cell 1
  have f_bx1 := B3_bx.out.frozen 1
  have c_bx2 := B3_bx.out.cell 2
  have f_bx2 := B3_bx.out.frozen 2
  have c_bx3 := B3_bx.out.cell 3
  have f_bx3 := B3_bx.out.frozen 3
  have l_bx := B3_bx.out.lt
  obtain ⟨hg1, hg2, A3, m3, ⟨r0, r1, r2, r3, r4, r5, r6⟩, hrf, -⟩ := K3_own.out.row rfl i hl
  rw [HST.out] at r3
  have rf3 := hrf 3 (by decide)
  have rf4 := hrf 4 (by decide)
  have rf5 := hrf 5 (by decide)
  have rf6 := hrf 6 (by decide)
  clear hrf
  clear h34
  rcases s34 with s3 | ⟨s3, s4⟩
  all_goals
    obtain ⟨A4, m4, hr4, hp4, hq4, p4, po4⟩ := K3_own.out.rowP rfl i hl
    have e4 := r4.symm.trans p4
    injection e4 with e4
    injection e4 with e5 _ e6
    subst e5 e6
    clear p4
    go_wp2_with fail
    clear c_bx0 f_bx0 c_bx1 f_bx1 c_bx2 f_bx2 c_bx3 f_bx3 l_bx r0 r1 r2 r3 r4 r5 r6 rf3 rf4 rf5 rf6 hg1 hg2
    refine (search_any po4 HSM.out HSO.out part).mono ?_
    rintro e W4 ⟨rfl, q, hq⟩
    have hb : Below W3.heap.size W3 W4 := by rw [hq]; exact below_drewN_ _ _
    clear hq hr4 hp4 hq4 po4
    rw [HC.out, HU.out]
    have hb4 : Below w.heap.size w W4 := below_then HB3.out hb
    have b_bx4 := B3_bx.out.below hb B3_bx.out.lt
    have b_bz4 := B3_bz.out.below hb B3_bz.out.lt
    have k_own4 := K3_own.out.keep hb
    have hz4 := hb.size
    have HB4 := Lib.hid hb4
    have B4_bx := Lib.hid b_bx4
    have B4_bz := Lib.hid b_bz4
    have K4_own := Lib.hid k_own4
    clear hb4 b_bx4 b_bz4 k_own4
    clear B3_bx B3_bz HB3 K3_own
    obtain ⟨A4, m4, hr4, hp4, hq4, p4, po4⟩ := K4_own.out.rowP rfl i hl
    have lp4 := (po4.lt)
    have c_bx0 := B4_bx.out.cell 0
    have c_bx1 := B4_bx.out.cell 1
    have c_bx2 := B4_bx.out.cell 2
    have c_bx3 := B4_bx.out.cell 3
    have l_bx := B4_bx.out.lt
    go_wp2_with fail
    clear p4
    clear c_bx0 c_bx1 c_bx2 c_bx3 l_bx
    refine (delete_any po4 HPL.out).mono ?_
    rintro e W5 ⟨p5, rfl, ho5, hst5⟩
    obtain ⟨A9, c9, rfl, hc9⟩ := (Sl.of_own ho5).form
    have hb5 : Below w.heap.size w W5 := HB4.out.trans (hst5.below HB4.out.size (fun q hq => by have := (lp4 q hq).1; omega))
    have b_bx5 := B4_bx.out.grown hst5.1 (fun e => by have := (lp4 _ e.symm).1; omega)
    have b_bz5 := B4_bz.out.grown hst5.1 (fun e => by have := (lp4 _ e.symm).1; omega)
    have hz5 := hst5.size
    have km := K4_own.out.midRow rfl i hr4 (by rw [hp4]; exact hst5.1)
    have ks := K4_own.out.swap rfl i hr4 (by rw [hp4]; exact hst5.1) (Or.inr (by rw [hp4]; exact hst5.2)) (own_eq ho5 (delAt_len HPL.out) rfl) (by omega) (cutT k) (fun _ => rfl) (by rw [hq4]; rfl)
    rw [hp4] at km
    have KS := Lib.hid ks
    clear ks hr4 hp4 hq4 ho5 hst5 lp4 po4 hc9
    have HB5 := Lib.hid hb5
    have B5_bx := Lib.hid b_bx5
    have B5_bz := Lib.hid b_bz5
    clear hb5 b_bx5 b_bz5
    clear B4_bx B4_bz HB4 K4_own
    obtain ⟨km4, kmf⟩ := km
    go_upto_region 13 with fail
    clear km4 kmf
    have hsz6 := HB5.out.size
    have hb6 : Below w.heap.size w (W5.setCell ⟨gg, i * 7 + 4, none⟩ (.slice A9 (ts[i].parts.length - 1) c9)) := (HB5.out).setCell (by show w.heap.size ≤ gg; omega) _
    have b_bx6 : Blk (W5.setCell ⟨gg, i * 7 + 4, none⟩ (.slice A9 (ts[i].parts.length - 1) c9)) (w.heap.size) 28 #[.int .i64 ck, .int .i64 nx, .int .i64 wt, .slice (some ⟨gg, 0, none⟩) ts.length c5] := (B5_bx.out).far (p := ⟨gg, i * 7 + 4, none⟩) (by show w.heap.size ≠ gg; omega) _
    have b_bz6 : Blk (W5.setCell ⟨gg, i * 7 + 4, none⟩ (.slice A9 (ts[i].parts.length - 1) c9)) (w.heap.size + 1) 28 #[.int .i64 0, .int .i64 0, .int .i64 0, .slice none 0 0] := (B5_bz.out).far (p := ⟨gg, i * 7 + 4, none⟩) (by show w.heap.size + 1 ≠ gg; omega) _
    have k_own6 := KS.out
    have hz6 : W5.heap.size + 0 ≤ (W5.setCell ⟨gg, i * 7 + 4, none⟩ (.slice A9 (ts[i].parts.length - 1) c9)).heap.size := by first | omega | (simp; done) | (simp; omega)
    generalize W5.setCell ⟨gg, i * 7 + 4, none⟩ (.slice A9 (ts[i].parts.length - 1) c9) = W6 at *
    have HB6 := Lib.hid hb6
    have B6_bx := Lib.hid b_bx6
    have B6_bz := Lib.hid b_bz6
    have K6_own := Lib.hid k_own6
    clear hb6 b_bx6 b_bz6 k_own6
    clear B5_bx B5_bz HB5 KS
    obtain ⟨L, hL⟩ : ∃ L : Nat, ts[i].parts.length = L + 2 := ⟨ts[i].parts.length - 2, by have h5 := HP1.out; (try simp only at h5); omega⟩
    have yl : (((L : Int) + 1) == 0) = false := beq_eq_false_iff_ne.2 (by omega)
    obtain ⟨ts2, ht2⟩ : ∃ ts2, ts.modify i (cutT k) = ts2 := ⟨_, rfl⟩
    have hl2 : i < ts2.length := by rw [← ht2]; simpa using hl
    have he2 : ts2[i] = cutT k ts[i] := by subst ht2; simp
    have hle : ts2.length = ts.length := by rw [← ht2]; simp
    have ko := own_ds K6_own.out ht2.symm
    have HT2 := Lib.hid ht2
    have HLE := Lib.hid hle
    have KO := Lib.hid ko
    have HP2 := Lib.hid (show ts2[i].parts.length = L + 1 by have := delAt_len HPL.out; have h5 := HP1.out; (try simp only at h5); rw [he2]; show (delAt ts[i].parts k).length = _; omega)
    have HS2 := Lib.hid (show ts2[i].state = ts[i].state by rw [he2]; rfl)
    clear ko ht2 hle K6_own
    have c_bx0 := B6_bx.out.cell 0
    have f_bx0 := B6_bx.out.frozen 0
    have c_bx1 := B6_bx.out.cell 1
    have f_bx1 := B6_bx.out.frozen 1
    have c_bx2 := B6_bx.out.cell 2
    have f_bx2 := B6_bx.out.frozen 2
    have c_bx3 := B6_bx.out.cell 3
    have f_bx3 := B6_bx.out.frozen 3
    have l_bx := B6_bx.out.lt
    obtain ⟨hg3, hg4, A5, m5, ⟨u0, u1, u2, u3, u4, u5, u6⟩, hrf, -⟩ := KO.out.row HLE.out.symm i hl2
    rw [HS2.out, HST.out] at u3
    rw [HP2.out] at u4
    have uf3 := hrf 3 (by decide)
    have uf6 := hrf 6 (by decide)
    clear hrf
    go_upto_region 15 with fail
    clear c_bx0 f_bx0 c_bx1 f_bx1 c_bx2 f_bx2 c_bx3 f_bx3 l_bx u0 u1 u2 u3 u4 u5 u6 uf3 uf6 hg3 hg4
    have h8 := own_ds KO.out HT2.out
    clear KO
    have KO := Lib.hid h8
    clear h8
    have c_bx0 := B6_bx.out.cell 0
    have c_bx1 := B6_bx.out.cell 1
    have c_bx2 := B6_bx.out.cell 2
    have c_bx3 := B6_bx.out.cell 3
    have l_bx := B6_bx.out.lt
    have c_bz0 := B6_bz.out.cell 0
    have f_bz0 := B6_bz.out.frozen 0
    have c_bz1 := B6_bz.out.cell 1
    have f_bz1 := B6_bz.out.frozen 1
    have c_bz2 := B6_bz.out.cell 2
    have f_bz2 := B6_bz.out.frozen 2
    have c_bz3 := B6_bz.out.cell 3
    have f_bz3 := B6_bz.out.frozen 3
    have l_bz := B6_bz.out.lt
    go_wp2_with fail
    clear c_bx0 c_bx1 c_bx2 c_bx3 l_bx c_bz0 f_bz0 c_bz1 f_bz1 c_bz2 f_bz2 c_bz3 f_bz3 l_bz
    have hszF := HB6.out.size
    have hbF : Below w.heap.size w ((((W6.setCell ⟨w.heap.size + 1, 0, none⟩ (.int .i64 ck)).setCell ⟨w.heap.size + 1, 1, none⟩ (.int .i64 nx)).setCell ⟨w.heap.size + 1, 2, none⟩ (.int .i64 wt)).setCell ⟨w.heap.size + 1, 3, none⟩ (.slice (some ⟨gg, 0, none⟩) ts.length c5)) := ((((HB6.out).setCell (by show w.heap.size ≤ w.heap.size + 1; omega) _).setCell (by show w.heap.size ≤ w.heap.size + 1; omega) _).setCell (by show w.heap.size ≤ w.heap.size + 1; omega) _).setCell (by show w.heap.size ≤ w.heap.size + 1; omega) _
    have b_bxF : Blk ((((W6.setCell ⟨w.heap.size + 1, 0, none⟩ (.int .i64 ck)).setCell ⟨w.heap.size + 1, 1, none⟩ (.int .i64 nx)).setCell ⟨w.heap.size + 1, 2, none⟩ (.int .i64 wt)).setCell ⟨w.heap.size + 1, 3, none⟩ (.slice (some ⟨gg, 0, none⟩) ts.length c5)) (w.heap.size) 28 #[.int .i64 ck, .int .i64 nx, .int .i64 wt, .slice (some ⟨gg, 0, none⟩) ts.length c5] := ((((B6_bx.out).far (p := ⟨w.heap.size + 1, 0, none⟩) (by show w.heap.size ≠ w.heap.size + 1; omega) _).far (p := ⟨w.heap.size + 1, 1, none⟩) (by show w.heap.size ≠ w.heap.size + 1; omega) _).far (p := ⟨w.heap.size + 1, 2, none⟩) (by show w.heap.size ≠ w.heap.size + 1; omega) _).far (p := ⟨w.heap.size + 1, 3, none⟩) (by show w.heap.size ≠ w.heap.size + 1; omega) _
    have b_bzF : Blk ((((W6.setCell ⟨w.heap.size + 1, 0, none⟩ (.int .i64 ck)).setCell ⟨w.heap.size + 1, 1, none⟩ (.int .i64 nx)).setCell ⟨w.heap.size + 1, 2, none⟩ (.int .i64 wt)).setCell ⟨w.heap.size + 1, 3, none⟩ (.slice (some ⟨gg, 0, none⟩) ts.length c5)) (w.heap.size + 1) 28 #[.int .i64 ck, .int .i64 nx, .int .i64 wt, .slice (some ⟨gg, 0, none⟩) ts.length c5] := ((((B6_bz.out).set_ 0 _).set_ 1 _).set_ 2 _).set_ 3 _
    have hoF := KO.out.put4 (g := w.heap.size + 1) (by constructor <;> omega) (.int .i64 ck) (.int .i64 nx) (.int .i64 wt) (.slice (some ⟨gg, 0, none⟩) ts.length c5)
    have y0 := b_bzF.cell 0
    have y1 := b_bzF.cell 1
    have y2 := b_bzF.cell 2
    have y3 := b_bzF.cell 3
    refine bodyPost_ret (v := .tuple #[.agg #[.int .i64 ck, .int .i64 nx, .int .i64 wt, .slice (some ⟨gg, 0, none⟩) ts.length c5], .int .i64 0]) ?_ ?_ (⟨.slice (some ⟨gg, 0, none⟩) ts.length c5, _, rfl, own_len (hoF.rebase (by simp) (by omega) hbF) (by simp [CoordD.upd]), hbF⟩)
    · simp [results, Try.results49, go_sem, y0, y1, y2, y3]
    · rfl
end Go.Proofs.Ytjkoceacjbhblaa
