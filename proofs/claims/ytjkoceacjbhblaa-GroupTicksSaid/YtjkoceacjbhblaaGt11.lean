/- Parts of a proof, merged: TicA. No condition. -/
import Derived.Test.YtjkoceacjbhblaaGt10
namespace Go.Proofs.Ytjkoceacjbhblaa
open Go.RowKit

set_option maxRecDepth 100000 in
set_option maxHeartbeats 4000000 in
theorem tick_fault (v : Value) (g : GroupD) (t parts : Int) (hk : ¬ GroupOk g) (w : World) (h : Gv w v g) : Calls Try.prog 60 #[v, .int .i64 t, .int .i64 parts] w (GRes zeroG 12 w) := by
  obtain ⟨mv, ov, rfl, hx, hy, hl1, hl2⟩ := id h
  obtain ⟨A, m, rfl, -⟩ := hx.at_
  obtain ⟨A', m', rfl, -⟩ := hy.at_
  have H := Lib.hid h
  have HX := Lib.hid hx
  have HY := Lib.hid hy
  clear h hx hy
  unfold groupV at *
  obtain ⟨ck, wt, gn, ms, os⟩ := g
  simp only at *
  have HK := Lib.hid hk
  clear hk
  go_enter Try.func60, Try.ntmps60
  go_wp2_with fail
  have hb1 : Below w.heap.size w ((w.alloc (.cells #[.int .i64 ck, .int .i64 wt, .int .i64 gn, .slice A ms.length m, .slice A' os.length m'] 36)).alloc (.cells #[.int .i64 0, .int .i64 0, .int .i64 0, .slice none 0 0, .slice none 0 0] 36)) := ((Below.refl _ _).alloc (by first | omega | (simp; done) | (simp; omega)) _).alloc (by first | omega | (simp; done) | (simp; omega)) _
  have hal1 : Below w.heap.size w ((w.alloc (.cells #[.int .i64 ck, .int .i64 wt, .int .i64 gn, .slice A ms.length m, .slice A' os.length m'] 36)).alloc (.cells #[.int .i64 0, .int .i64 0, .int .i64 0, .slice none 0 0, .slice none 0 0] 36)) := ((Below.refl _ _).alloc (by first | omega | (simp; done) | (simp; omega)) _).alloc (by first | omega | (simp; done) | (simp; omega)) _
  have b_bx1 : Blk ((w.alloc (.cells #[.int .i64 ck, .int .i64 wt, .int .i64 gn, .slice A ms.length m, .slice A' os.length m'] 36)).alloc (.cells #[.int .i64 0, .int .i64 0, .int .i64 0, .slice none 0 0, .slice none 0 0] 36)) (w.heap.size) 36 #[.int .i64 ck, .int .i64 wt, .int .i64 gn, .slice A ms.length m, .slice A' os.length m'] := (Blk.new_ _ 36 #[.int .i64 ck, .int .i64 wt, .int .i64 gn, .slice A ms.length m, .slice A' os.length m'] (by first | rfl | (simp; done) | (simp; omega))).alloc _
  have b_bz1 : Blk ((w.alloc (.cells #[.int .i64 ck, .int .i64 wt, .int .i64 gn, .slice A ms.length m, .slice A' os.length m'] 36)).alloc (.cells #[.int .i64 0, .int .i64 0, .int .i64 0, .slice none 0 0, .slice none 0 0] 36)) (w.heap.size + 1) 36 #[.int .i64 0, .int .i64 0, .int .i64 0, .slice none 0 0, .slice none 0 0] := Blk.new_ _ 36 #[.int .i64 0, .int .i64 0, .int .i64 0, .slice none 0 0, .slice none 0 0] (by first | rfl | (simp; done) | (simp; omega))
  have hz1 : w.heap.size + 2 ≤ ((w.alloc (.cells #[.int .i64 ck, .int .i64 wt, .int .i64 gn, .slice A ms.length m, .slice A' os.length m'] 36)).alloc (.cells #[.int .i64 0, .int .i64 0, .int .i64 0, .slice none 0 0, .slice none 0 0] 36)).heap.size := by first | omega | (simp; done) | (simp; omega)
  generalize (w.alloc (.cells #[.int .i64 ck, .int .i64 wt, .int .i64 gn, .slice A ms.length m, .slice A' os.length m'] 36)).alloc (.cells #[.int .i64 0, .int .i64 0, .int .i64 0, .slice none 0 0, .slice none 0 0] 36) = W1 at *
  have HB1 := Lib.hid hb1
  have B1_bx := Lib.hid b_bx1
  have B1_bz := Lib.hid b_bz1
  clear hb1 b_bx1 b_bz1
  refine (group_check_any _ ⟨ck, wt, gn, ms, os⟩ _ (H.out.below hal1)).mono ?_
  rintro e W2 hT
  obtain ⟨rfl, hb⟩ := hT.no HK.out
  clear hT
  have hb2 : Below w.heap.size w W2 := below_then HB1.out hb
  have b_bx2 := B1_bx.out.below hb B1_bx.out.lt
  have b_bz2 := B1_bz.out.below hb B1_bz.out.lt
  have hz2 := hb.size
  have HB2 := Lib.hid hb2
  have B2_bx := Lib.hid b_bx2
  have B2_bz := Lib.hid b_bz2
  clear hb2 b_bx2 b_bz2
  clear B1_bx B1_bz HB1
  have c_bz0 := B2_bz.out.cell 0
  have f_bz0 := B2_bz.out.frozen 0
  have c_bz1 := B2_bz.out.cell 1
  have f_bz1 := B2_bz.out.frozen 1
  have c_bz2 := B2_bz.out.cell 2
  have f_bz2 := B2_bz.out.frozen 2
  have c_bz3 := B2_bz.out.cell 3
  have f_bz3 := B2_bz.out.frozen 3
  have c_bz4 := B2_bz.out.cell 4
  have f_bz4 := B2_bz.out.frozen 4
  have l_bz := B2_bz.out.lt
  go_wp2_with fail
  clear c_bz0 f_bz0 c_bz1 f_bz1 c_bz2 f_bz2 c_bz3 f_bz3 c_bz4 f_bz4 l_bz
  have hszF := HB2.out.size
  have hbF : Below w.heap.size w (((((W2.setCell ⟨w.heap.size + 1, 0, none⟩ (.int .i64 0)).setCell ⟨w.heap.size + 1, 1, none⟩ (.int .i64 0)).setCell ⟨w.heap.size + 1, 2, none⟩ (.int .i64 0)).setCell ⟨w.heap.size + 1, 3, none⟩ (.slice none 0 0)).setCell ⟨w.heap.size + 1, 4, none⟩ (.slice none 0 0)) := (((((HB2.out).setCell (by show w.heap.size ≤ w.heap.size + 1; omega) _).setCell (by show w.heap.size ≤ w.heap.size + 1; omega) _).setCell (by show w.heap.size ≤ w.heap.size + 1; omega) _).setCell (by show w.heap.size ≤ w.heap.size + 1; omega) _).setCell (by show w.heap.size ≤ w.heap.size + 1; omega) _
  have b_bxF : Blk (((((W2.setCell ⟨w.heap.size + 1, 0, none⟩ (.int .i64 0)).setCell ⟨w.heap.size + 1, 1, none⟩ (.int .i64 0)).setCell ⟨w.heap.size + 1, 2, none⟩ (.int .i64 0)).setCell ⟨w.heap.size + 1, 3, none⟩ (.slice none 0 0)).setCell ⟨w.heap.size + 1, 4, none⟩ (.slice none 0 0)) (w.heap.size) 36 #[.int .i64 ck, .int .i64 wt, .int .i64 gn, .slice A ms.length m, .slice A' os.length m'] := (((((B2_bx.out).far (p := ⟨w.heap.size + 1, 0, none⟩) (by show w.heap.size ≠ w.heap.size + 1; omega) _).far (p := ⟨w.heap.size + 1, 1, none⟩) (by show w.heap.size ≠ w.heap.size + 1; omega) _).far (p := ⟨w.heap.size + 1, 2, none⟩) (by show w.heap.size ≠ w.heap.size + 1; omega) _).far (p := ⟨w.heap.size + 1, 3, none⟩) (by show w.heap.size ≠ w.heap.size + 1; omega) _).far (p := ⟨w.heap.size + 1, 4, none⟩) (by show w.heap.size ≠ w.heap.size + 1; omega) _
  have b_bzF : Blk (((((W2.setCell ⟨w.heap.size + 1, 0, none⟩ (.int .i64 0)).setCell ⟨w.heap.size + 1, 1, none⟩ (.int .i64 0)).setCell ⟨w.heap.size + 1, 2, none⟩ (.int .i64 0)).setCell ⟨w.heap.size + 1, 3, none⟩ (.slice none 0 0)).setCell ⟨w.heap.size + 1, 4, none⟩ (.slice none 0 0)) (w.heap.size + 1) 36 #[.int .i64 0, .int .i64 0, .int .i64 0, .slice none 0 0, .slice none 0 0] := (((((B2_bz.out).set_ 0 _).set_ 1 _).set_ 2 _).set_ 3 _).set_ 4 _
  have y0 := b_bzF.cell 0
  have y1 := b_bzF.cell 1
  have y2 := b_bzF.cell 2
  have y3 := b_bzF.cell 3
  have y4 := b_bzF.cell 4
  exact bodyPost_ret (v := .tuple #[.agg #[.int .i64 0, .int .i64 0, .int .i64 0, .slice none 0 0, .slice none 0 0], .int .i64 12]) (by simp [results, Try.results60, go_sem, y0, y1, y2, y3, y4]) rfl (GRes.zero hbF)
set_option maxRecDepth 100000 in
set_option maxHeartbeats 4000000 in
theorem tick_range1 (v : Value) (g : GroupD) (t parts : Int) (hk : GroupOk g) (hp : t < 0 ∨ 1000 < t ∨ 1073741824 < g.clock + t) (w : World) (h : Gv w v g) : Calls Try.prog 60 #[v, .int .i64 t, .int .i64 parts] w (GRes zeroG 2 w) := by
  obtain ⟨mv, ov, rfl, hx, hy, hl1, hl2⟩ := id h
  obtain ⟨A, m, rfl, -⟩ := hx.at_
  obtain ⟨A', m', rfl, -⟩ := hy.at_
  have H := Lib.hid h
  have HX := Lib.hid hx
  have HY := Lib.hid hy
  clear h hx hy
  unfold groupV at *
  obtain ⟨ck, wt, gn, ms, os⟩ := g
  simp only at *
  have q0 : decide (t < 0) = true ∨ (decide (t < 0) = false ∧ decide (1000 < t) = true) ∨ (decide (t < 0) = false ∧ decide (1000 < t) = false ∧ 0 ≤ t ∧ t ≤ 1000 ∧ decide (1073741824 < ck + t) = true) := by
    rcases Int.lt_or_le t 0 with e | e
    · exact Or.inl (decide_eq_true e)
    · rcases Int.lt_or_le 1000 t with e2 | e2
      · exact Or.inr (Or.inl ⟨decide_eq_false (by omega), decide_eq_true e2⟩)
      · exact Or.inr (Or.inr ⟨decide_eq_false (by omega), decide_eq_false (by omega), e, e2, decide_eq_true (by have hp2 : t < 0 ∨ 1000 < t ∨ 1073741824 < ck + t := hp; omega)⟩)
  have hck : 0 ≤ ck ∧ ck ≤ 1073741824 := hk.clock
  have hck0 := hck.1
  have hck1 := hck.2
  clear hp hck
  have HK := Lib.hid hk
  clear hk
  go_enter Try.func60, Try.ntmps60
  go_wp2_with fail
  have hb1 : Below w.heap.size w ((w.alloc (.cells #[.int .i64 ck, .int .i64 wt, .int .i64 gn, .slice A ms.length m, .slice A' os.length m'] 36)).alloc (.cells #[.int .i64 0, .int .i64 0, .int .i64 0, .slice none 0 0, .slice none 0 0] 36)) := ((Below.refl _ _).alloc (by first | omega | (simp; done) | (simp; omega)) _).alloc (by first | omega | (simp; done) | (simp; omega)) _
  have hal1 : Below w.heap.size w ((w.alloc (.cells #[.int .i64 ck, .int .i64 wt, .int .i64 gn, .slice A ms.length m, .slice A' os.length m'] 36)).alloc (.cells #[.int .i64 0, .int .i64 0, .int .i64 0, .slice none 0 0, .slice none 0 0] 36)) := ((Below.refl _ _).alloc (by first | omega | (simp; done) | (simp; omega)) _).alloc (by first | omega | (simp; done) | (simp; omega)) _
  have b_bx1 : Blk ((w.alloc (.cells #[.int .i64 ck, .int .i64 wt, .int .i64 gn, .slice A ms.length m, .slice A' os.length m'] 36)).alloc (.cells #[.int .i64 0, .int .i64 0, .int .i64 0, .slice none 0 0, .slice none 0 0] 36)) (w.heap.size) 36 #[.int .i64 ck, .int .i64 wt, .int .i64 gn, .slice A ms.length m, .slice A' os.length m'] := (Blk.new_ _ 36 #[.int .i64 ck, .int .i64 wt, .int .i64 gn, .slice A ms.length m, .slice A' os.length m'] (by first | rfl | (simp; done) | (simp; omega))).alloc _
  have b_bz1 : Blk ((w.alloc (.cells #[.int .i64 ck, .int .i64 wt, .int .i64 gn, .slice A ms.length m, .slice A' os.length m'] 36)).alloc (.cells #[.int .i64 0, .int .i64 0, .int .i64 0, .slice none 0 0, .slice none 0 0] 36)) (w.heap.size + 1) 36 #[.int .i64 0, .int .i64 0, .int .i64 0, .slice none 0 0, .slice none 0 0] := Blk.new_ _ 36 #[.int .i64 0, .int .i64 0, .int .i64 0, .slice none 0 0, .slice none 0 0] (by first | rfl | (simp; done) | (simp; omega))
  have hz1 : w.heap.size + 2 ≤ ((w.alloc (.cells #[.int .i64 ck, .int .i64 wt, .int .i64 gn, .slice A ms.length m, .slice A' os.length m'] 36)).alloc (.cells #[.int .i64 0, .int .i64 0, .int .i64 0, .slice none 0 0, .slice none 0 0] 36)).heap.size := by first | omega | (simp; done) | (simp; omega)
  generalize (w.alloc (.cells #[.int .i64 ck, .int .i64 wt, .int .i64 gn, .slice A ms.length m, .slice A' os.length m'] 36)).alloc (.cells #[.int .i64 0, .int .i64 0, .int .i64 0, .slice none 0 0, .slice none 0 0] 36) = W1 at *
  have HB1 := Lib.hid hb1
  have B1_bx := Lib.hid b_bx1
  have B1_bz := Lib.hid b_bz1
  clear hb1 b_bx1 b_bz1
  refine (group_check_any _ ⟨ck, wt, gn, ms, os⟩ _ (H.out.below hal1)).mono ?_
  rintro e W2 hT
  obtain ⟨rfl, hb⟩ := hT.yes HK.out
  clear hT
  have hb2 : Below w.heap.size w W2 := below_then HB1.out hb
  have b_bx2 := B1_bx.out.below hb B1_bx.out.lt
  have b_bz2 := B1_bz.out.below hb B1_bz.out.lt
  have hz2 := hb.size
  have HB2 := Lib.hid hb2
  have B2_bx := Lib.hid b_bx2
  have B2_bz := Lib.hid b_bz2
  clear hb2 b_bx2 b_bz2
  clear B1_bx B1_bz HB1
  rcases q0 with q0 | ⟨q0, q1⟩ | ⟨q0, q1, q2, q3, q4⟩
  all_goals
    have c_bx0 := B2_bx.out.cell 0
    have c_bx1 := B2_bx.out.cell 1
    have c_bx2 := B2_bx.out.cell 2
    have c_bx3 := B2_bx.out.cell 3
    have c_bx4 := B2_bx.out.cell 4
    have l_bx := B2_bx.out.lt
    have c_bz0 := B2_bz.out.cell 0
    have f_bz0 := B2_bz.out.frozen 0
    have c_bz1 := B2_bz.out.cell 1
    have f_bz1 := B2_bz.out.frozen 1
    have c_bz2 := B2_bz.out.cell 2
    have f_bz2 := B2_bz.out.frozen 2
    have c_bz3 := B2_bz.out.cell 3
    have f_bz3 := B2_bz.out.frozen 3
    have c_bz4 := B2_bz.out.cell 4
    have f_bz4 := B2_bz.out.frozen 4
    have l_bz := B2_bz.out.lt
    go_wp2_with fail
    clear c_bx0 c_bx1 c_bx2 c_bx3 c_bx4 l_bx c_bz0 f_bz0 c_bz1 f_bz1 c_bz2 f_bz2 c_bz3 f_bz3 c_bz4 f_bz4 l_bz
    have hszF := HB2.out.size
    have hbF : Below w.heap.size w (((((W2.setCell ⟨w.heap.size + 1, 0, none⟩ (.int .i64 0)).setCell ⟨w.heap.size + 1, 1, none⟩ (.int .i64 0)).setCell ⟨w.heap.size + 1, 2, none⟩ (.int .i64 0)).setCell ⟨w.heap.size + 1, 3, none⟩ (.slice none 0 0)).setCell ⟨w.heap.size + 1, 4, none⟩ (.slice none 0 0)) := (((((HB2.out).setCell (by show w.heap.size ≤ w.heap.size + 1; omega) _).setCell (by show w.heap.size ≤ w.heap.size + 1; omega) _).setCell (by show w.heap.size ≤ w.heap.size + 1; omega) _).setCell (by show w.heap.size ≤ w.heap.size + 1; omega) _).setCell (by show w.heap.size ≤ w.heap.size + 1; omega) _
    have b_bxF : Blk (((((W2.setCell ⟨w.heap.size + 1, 0, none⟩ (.int .i64 0)).setCell ⟨w.heap.size + 1, 1, none⟩ (.int .i64 0)).setCell ⟨w.heap.size + 1, 2, none⟩ (.int .i64 0)).setCell ⟨w.heap.size + 1, 3, none⟩ (.slice none 0 0)).setCell ⟨w.heap.size + 1, 4, none⟩ (.slice none 0 0)) (w.heap.size) 36 #[.int .i64 ck, .int .i64 wt, .int .i64 gn, .slice A ms.length m, .slice A' os.length m'] := (((((B2_bx.out).far (p := ⟨w.heap.size + 1, 0, none⟩) (by show w.heap.size ≠ w.heap.size + 1; omega) _).far (p := ⟨w.heap.size + 1, 1, none⟩) (by show w.heap.size ≠ w.heap.size + 1; omega) _).far (p := ⟨w.heap.size + 1, 2, none⟩) (by show w.heap.size ≠ w.heap.size + 1; omega) _).far (p := ⟨w.heap.size + 1, 3, none⟩) (by show w.heap.size ≠ w.heap.size + 1; omega) _).far (p := ⟨w.heap.size + 1, 4, none⟩) (by show w.heap.size ≠ w.heap.size + 1; omega) _
    have b_bzF : Blk (((((W2.setCell ⟨w.heap.size + 1, 0, none⟩ (.int .i64 0)).setCell ⟨w.heap.size + 1, 1, none⟩ (.int .i64 0)).setCell ⟨w.heap.size + 1, 2, none⟩ (.int .i64 0)).setCell ⟨w.heap.size + 1, 3, none⟩ (.slice none 0 0)).setCell ⟨w.heap.size + 1, 4, none⟩ (.slice none 0 0)) (w.heap.size + 1) 36 #[.int .i64 0, .int .i64 0, .int .i64 0, .slice none 0 0, .slice none 0 0] := (((((B2_bz.out).set_ 0 _).set_ 1 _).set_ 2 _).set_ 3 _).set_ 4 _
    have y0 := b_bzF.cell 0
    have y1 := b_bzF.cell 1
    have y2 := b_bzF.cell 2
    have y3 := b_bzF.cell 3
    have y4 := b_bzF.cell 4
    refine bodyPost_ret (v := .tuple #[.agg #[.int .i64 0, .int .i64 0, .int .i64 0, .slice none 0 0, .slice none 0 0], .int .i64 2]) ?_ ?_ (GRes.zero hbF)
    · simp [results, Try.results60, go_sem, y0, y1, y2, y3, y4]
    · rfl
set_option maxRecDepth 100000 in
set_option maxHeartbeats 4000000 in
theorem tick_range2 (v : Value) (g : GroupD) (t parts : Int) (hk : GroupOk g) (h1 : 0 ≤ t) (h2 : t ≤ 1000) (h3 : g.clock + t ≤ 1073741824) (hc : ¬ Counted g.gen parts) (w : World) (h : Gv w v g) : Calls Try.prog 60 #[v, .int .i64 t, .int .i64 parts] w (GRes zeroG 2 w) := by
  obtain ⟨mv, ov, rfl, hx, hy, hl1, hl2⟩ := id h
  obtain ⟨A, m, rfl, -⟩ := hx.at_
  obtain ⟨A', m', rfl, -⟩ := hy.at_
  have H := Lib.hid h
  have HX := Lib.hid hx
  have HY := Lib.hid hy
  clear h hx hy
  unfold groupV at *
  obtain ⟨ck, wt, gn, ms, os⟩ := g
  simp only at *
  have t0 : decide (t < 0) = false := decide_eq_false (by omega)
  have t1 : decide (1000 < t) = false := decide_eq_false (by omega)
  have hck : 0 ≤ ck ∧ ck ≤ 1073741824 := hk.clock
  have hck0 := hck.1
  have hck1 := hck.2
  have hsum : ck + t ≤ 1073741824 := h3
  have t2 : decide (1073741824 < ck + t) = false := decide_eq_false (by omega)
  clear hck h3
  have HCT := Lib.hid hc
  clear hc
  have HK := Lib.hid hk
  clear hk
  go_enter Try.func60, Try.ntmps60
  go_wp2_with fail
  have hb1 : Below w.heap.size w ((w.alloc (.cells #[.int .i64 ck, .int .i64 wt, .int .i64 gn, .slice A ms.length m, .slice A' os.length m'] 36)).alloc (.cells #[.int .i64 0, .int .i64 0, .int .i64 0, .slice none 0 0, .slice none 0 0] 36)) := ((Below.refl _ _).alloc (by first | omega | (simp; done) | (simp; omega)) _).alloc (by first | omega | (simp; done) | (simp; omega)) _
  have hal1 : Below w.heap.size w ((w.alloc (.cells #[.int .i64 ck, .int .i64 wt, .int .i64 gn, .slice A ms.length m, .slice A' os.length m'] 36)).alloc (.cells #[.int .i64 0, .int .i64 0, .int .i64 0, .slice none 0 0, .slice none 0 0] 36)) := ((Below.refl _ _).alloc (by first | omega | (simp; done) | (simp; omega)) _).alloc (by first | omega | (simp; done) | (simp; omega)) _
  have b_bx1 : Blk ((w.alloc (.cells #[.int .i64 ck, .int .i64 wt, .int .i64 gn, .slice A ms.length m, .slice A' os.length m'] 36)).alloc (.cells #[.int .i64 0, .int .i64 0, .int .i64 0, .slice none 0 0, .slice none 0 0] 36)) (w.heap.size) 36 #[.int .i64 ck, .int .i64 wt, .int .i64 gn, .slice A ms.length m, .slice A' os.length m'] := (Blk.new_ _ 36 #[.int .i64 ck, .int .i64 wt, .int .i64 gn, .slice A ms.length m, .slice A' os.length m'] (by first | rfl | (simp; done) | (simp; omega))).alloc _
  have b_bz1 : Blk ((w.alloc (.cells #[.int .i64 ck, .int .i64 wt, .int .i64 gn, .slice A ms.length m, .slice A' os.length m'] 36)).alloc (.cells #[.int .i64 0, .int .i64 0, .int .i64 0, .slice none 0 0, .slice none 0 0] 36)) (w.heap.size + 1) 36 #[.int .i64 0, .int .i64 0, .int .i64 0, .slice none 0 0, .slice none 0 0] := Blk.new_ _ 36 #[.int .i64 0, .int .i64 0, .int .i64 0, .slice none 0 0, .slice none 0 0] (by first | rfl | (simp; done) | (simp; omega))
  have hz1 : w.heap.size + 2 ≤ ((w.alloc (.cells #[.int .i64 ck, .int .i64 wt, .int .i64 gn, .slice A ms.length m, .slice A' os.length m'] 36)).alloc (.cells #[.int .i64 0, .int .i64 0, .int .i64 0, .slice none 0 0, .slice none 0 0] 36)).heap.size := by first | omega | (simp; done) | (simp; omega)
  generalize (w.alloc (.cells #[.int .i64 ck, .int .i64 wt, .int .i64 gn, .slice A ms.length m, .slice A' os.length m'] 36)).alloc (.cells #[.int .i64 0, .int .i64 0, .int .i64 0, .slice none 0 0, .slice none 0 0] 36) = W1 at *
  have HB1 := Lib.hid hb1
  have B1_bx := Lib.hid b_bx1
  have B1_bz := Lib.hid b_bz1
  clear hb1 b_bx1 b_bz1
  refine (group_check_any _ ⟨ck, wt, gn, ms, os⟩ _ (H.out.below hal1)).mono ?_
  rintro e W2 hT
  obtain ⟨rfl, hb⟩ := hT.yes HK.out
  clear hT
  have hb2 : Below w.heap.size w W2 := below_then HB1.out hb
  have b_bx2 := B1_bx.out.below hb B1_bx.out.lt
  have b_bz2 := B1_bz.out.below hb B1_bz.out.lt
  have hz2 := hb.size
  have HB2 := Lib.hid hb2
  have B2_bx := Lib.hid b_bx2
  have B2_bz := Lib.hid b_bz2
  clear hb2 b_bx2 b_bz2
  clear B1_bx B1_bz HB1
  have c_bx0 := B2_bx.out.cell 0
  have c_bx1 := B2_bx.out.cell 1
  have c_bx2 := B2_bx.out.cell 2
  have c_bx3 := B2_bx.out.cell 3
  have c_bx4 := B2_bx.out.cell 4
  have l_bx := B2_bx.out.lt
  go_wp2_with fail
  clear c_bx0 c_bx1 c_bx2 c_bx3 c_bx4 l_bx
  refine (counted_any ck wt gn parts _ _ _ _ _ _ _).mono ?_
  rintro e W3 hT
  obtain ⟨rfl, hb⟩ := hT.no HCT.out
  clear hT
  have hb3 : Below w.heap.size w W3 := below_then HB2.out hb
  have b_bx3 := B2_bx.out.below hb B2_bx.out.lt
  have b_bz3 := B2_bz.out.below hb B2_bz.out.lt
  have hz3 := hb.size
  have HB3 := Lib.hid hb3
  have B3_bx := Lib.hid b_bx3
  have B3_bz := Lib.hid b_bz3
  clear hb3 b_bx3 b_bz3
  clear B2_bx B2_bz HB2
  have c_bz0 := B3_bz.out.cell 0
  have f_bz0 := B3_bz.out.frozen 0
  have c_bz1 := B3_bz.out.cell 1
  have f_bz1 := B3_bz.out.frozen 1
  have c_bz2 := B3_bz.out.cell 2
  have f_bz2 := B3_bz.out.frozen 2
  have c_bz3 := B3_bz.out.cell 3
  have f_bz3 := B3_bz.out.frozen 3
  have c_bz4 := B3_bz.out.cell 4
  have f_bz4 := B3_bz.out.frozen 4
  have l_bz := B3_bz.out.lt
  go_wp2_with fail
  clear c_bz0 f_bz0 c_bz1 f_bz1 c_bz2 f_bz2 c_bz3 f_bz3 c_bz4 f_bz4 l_bz
  have hszF := HB3.out.size
  have hbF : Below w.heap.size w (((((W3.setCell ⟨w.heap.size + 1, 0, none⟩ (.int .i64 0)).setCell ⟨w.heap.size + 1, 1, none⟩ (.int .i64 0)).setCell ⟨w.heap.size + 1, 2, none⟩ (.int .i64 0)).setCell ⟨w.heap.size + 1, 3, none⟩ (.slice none 0 0)).setCell ⟨w.heap.size + 1, 4, none⟩ (.slice none 0 0)) := (((((HB3.out).setCell (by show w.heap.size ≤ w.heap.size + 1; omega) _).setCell (by show w.heap.size ≤ w.heap.size + 1; omega) _).setCell (by show w.heap.size ≤ w.heap.size + 1; omega) _).setCell (by show w.heap.size ≤ w.heap.size + 1; omega) _).setCell (by show w.heap.size ≤ w.heap.size + 1; omega) _
  have b_bxF : Blk (((((W3.setCell ⟨w.heap.size + 1, 0, none⟩ (.int .i64 0)).setCell ⟨w.heap.size + 1, 1, none⟩ (.int .i64 0)).setCell ⟨w.heap.size + 1, 2, none⟩ (.int .i64 0)).setCell ⟨w.heap.size + 1, 3, none⟩ (.slice none 0 0)).setCell ⟨w.heap.size + 1, 4, none⟩ (.slice none 0 0)) (w.heap.size) 36 #[.int .i64 ck, .int .i64 wt, .int .i64 gn, .slice A ms.length m, .slice A' os.length m'] := (((((B3_bx.out).far (p := ⟨w.heap.size + 1, 0, none⟩) (by show w.heap.size ≠ w.heap.size + 1; omega) _).far (p := ⟨w.heap.size + 1, 1, none⟩) (by show w.heap.size ≠ w.heap.size + 1; omega) _).far (p := ⟨w.heap.size + 1, 2, none⟩) (by show w.heap.size ≠ w.heap.size + 1; omega) _).far (p := ⟨w.heap.size + 1, 3, none⟩) (by show w.heap.size ≠ w.heap.size + 1; omega) _).far (p := ⟨w.heap.size + 1, 4, none⟩) (by show w.heap.size ≠ w.heap.size + 1; omega) _
  have b_bzF : Blk (((((W3.setCell ⟨w.heap.size + 1, 0, none⟩ (.int .i64 0)).setCell ⟨w.heap.size + 1, 1, none⟩ (.int .i64 0)).setCell ⟨w.heap.size + 1, 2, none⟩ (.int .i64 0)).setCell ⟨w.heap.size + 1, 3, none⟩ (.slice none 0 0)).setCell ⟨w.heap.size + 1, 4, none⟩ (.slice none 0 0)) (w.heap.size + 1) 36 #[.int .i64 0, .int .i64 0, .int .i64 0, .slice none 0 0, .slice none 0 0] := (((((B3_bz.out).set_ 0 _).set_ 1 _).set_ 2 _).set_ 3 _).set_ 4 _
  have y0 := b_bzF.cell 0
  have y1 := b_bzF.cell 1
  have y2 := b_bzF.cell 2
  have y3 := b_bzF.cell 3
  have y4 := b_bzF.cell 4
  exact bodyPost_ret (v := .tuple #[.agg #[.int .i64 0, .int .i64 0, .int .i64 0, .slice none 0 0, .slice none 0 0], .int .i64 2]) (by simp [results, Try.results60, go_sem, y0, y1, y2, y3, y4]) rfl (GRes.zero hbF)
set_option maxRecDepth 100000 in
set_option maxHeartbeats 4000000 in
theorem tick_same (v : Value) (g : GroupD) (t parts : Int) (hk : GroupOk g) (h1 : 0 ≤ t) (h2 : t ≤ 1000) (h3 : g.clock + t ≤ 1073741824) (hc : Counted g.gen parts) (hs : (stayM g t).length = g.mems.length) (w : World) (h : Gv w v g) : Calls Try.prog 60 #[v, .int .i64 t, .int .i64 parts] w (GRes ⟨g.clock + t, g.wait, g.gen, g.mems, g.offs⟩ 0 w) := by
  obtain ⟨mv, ov, rfl, hx, hy, hl1, hl2⟩ := id h
  obtain ⟨A, m, rfl, -⟩ := hx.at_
  obtain ⟨A', m', rfl, -⟩ := hy.at_
  have H := Lib.hid h
  have HX := Lib.hid hx
  have HY := Lib.hid hy
  clear h hx hy
  unfold groupV at *
  obtain ⟨ck, wt, gn, ms, os⟩ := g
  simp only at *
  have t0 : decide (t < 0) = false := decide_eq_false (by omega)
  have t1 : decide (1000 < t) = false := decide_eq_false (by omega)
  have hck : 0 ≤ ck ∧ ck ≤ 1073741824 := hk.clock
  have hck0 := hck.1
  have hck1 := hck.2
  have hsum : ck + t ≤ 1073741824 := h3
  have t2 : decide (1073741824 < ck + t) = false := decide_eq_false (by omega)
  clear hck h3
  have HCT := Lib.hid hc
  have hbd2 := hk.bounds.1
  have HGN := Lib.hid (show 0 ≤ gn ∧ gn ≤ 1073741824 from hk.gen)
  have HL6 := Lib.hid (show ms.length ≤ 6 from hk.many)
  have hstl := hs
  have HST := Lib.hid hs
  have hwt : 1 ≤ wt ∧ wt ≤ 1000 := hk.wait
  have HWT := Lib.hid hwt
  have hhd : ∀ t' ∈ ms, 0 ≤ t'.heard ∧ t'.heard ≤ ck := fun t' ht => by
    obtain ⟨j, hj, rfl⟩ := List.mem_iff_getElem.1 ht
    exact (hk.all j hj hj).1.heard
  have HHD := Lib.hid hhd
  unfold stayM at *
  simp only at hstl
  have hst2 : (((keptM (goneM (ck + t) wt) ms ms.length).length : Int) == (ms.length : Int)) = true := by simp; omega
  (try simp only at hbd2)
  clear hc hs hwt hhd hstl
  have HK := Lib.hid hk
  clear hk
  go_enter Try.func60, Try.ntmps60
  go_wp2_with fail
  have hb1 : Below w.heap.size w ((w.alloc (.cells #[.int .i64 ck, .int .i64 wt, .int .i64 gn, .slice A ms.length m, .slice A' os.length m'] 36)).alloc (.cells #[.int .i64 0, .int .i64 0, .int .i64 0, .slice none 0 0, .slice none 0 0] 36)) := ((Below.refl _ _).alloc (by first | omega | (simp; done) | (simp; omega)) _).alloc (by first | omega | (simp; done) | (simp; omega)) _
  have hal1 : Below w.heap.size w ((w.alloc (.cells #[.int .i64 ck, .int .i64 wt, .int .i64 gn, .slice A ms.length m, .slice A' os.length m'] 36)).alloc (.cells #[.int .i64 0, .int .i64 0, .int .i64 0, .slice none 0 0, .slice none 0 0] 36)) := ((Below.refl _ _).alloc (by first | omega | (simp; done) | (simp; omega)) _).alloc (by first | omega | (simp; done) | (simp; omega)) _
  have b_bx1 : Blk ((w.alloc (.cells #[.int .i64 ck, .int .i64 wt, .int .i64 gn, .slice A ms.length m, .slice A' os.length m'] 36)).alloc (.cells #[.int .i64 0, .int .i64 0, .int .i64 0, .slice none 0 0, .slice none 0 0] 36)) (w.heap.size) 36 #[.int .i64 ck, .int .i64 wt, .int .i64 gn, .slice A ms.length m, .slice A' os.length m'] := (Blk.new_ _ 36 #[.int .i64 ck, .int .i64 wt, .int .i64 gn, .slice A ms.length m, .slice A' os.length m'] (by first | rfl | (simp; done) | (simp; omega))).alloc _
  have b_bz1 : Blk ((w.alloc (.cells #[.int .i64 ck, .int .i64 wt, .int .i64 gn, .slice A ms.length m, .slice A' os.length m'] 36)).alloc (.cells #[.int .i64 0, .int .i64 0, .int .i64 0, .slice none 0 0, .slice none 0 0] 36)) (w.heap.size + 1) 36 #[.int .i64 0, .int .i64 0, .int .i64 0, .slice none 0 0, .slice none 0 0] := Blk.new_ _ 36 #[.int .i64 0, .int .i64 0, .int .i64 0, .slice none 0 0, .slice none 0 0] (by first | rfl | (simp; done) | (simp; omega))
  have hz1 : w.heap.size + 2 ≤ ((w.alloc (.cells #[.int .i64 ck, .int .i64 wt, .int .i64 gn, .slice A ms.length m, .slice A' os.length m'] 36)).alloc (.cells #[.int .i64 0, .int .i64 0, .int .i64 0, .slice none 0 0, .slice none 0 0] 36)).heap.size := by first | omega | (simp; done) | (simp; omega)
  generalize (w.alloc (.cells #[.int .i64 ck, .int .i64 wt, .int .i64 gn, .slice A ms.length m, .slice A' os.length m'] 36)).alloc (.cells #[.int .i64 0, .int .i64 0, .int .i64 0, .slice none 0 0, .slice none 0 0] 36) = W1 at *
  have HB1 := Lib.hid hb1
  have B1_bx := Lib.hid b_bx1
  have B1_bz := Lib.hid b_bz1
  clear hb1 b_bx1 b_bz1
  refine (group_check_any _ ⟨ck, wt, gn, ms, os⟩ _ (H.out.below hal1)).mono ?_
  rintro e W2 hT
  obtain ⟨rfl, hb⟩ := hT.yes HK.out
  clear hT
  have hb2 : Below w.heap.size w W2 := below_then HB1.out hb
  have b_bx2 := B1_bx.out.below hb B1_bx.out.lt
  have b_bz2 := B1_bz.out.below hb B1_bz.out.lt
  have hz2 := hb.size
  have HB2 := Lib.hid hb2
  have B2_bx := Lib.hid b_bx2
  have B2_bz := Lib.hid b_bz2
  clear hb2 b_bx2 b_bz2
  clear B1_bx B1_bz HB1
  have c_bx0 := B2_bx.out.cell 0
  have c_bx1 := B2_bx.out.cell 1
  have c_bx2 := B2_bx.out.cell 2
  have c_bx3 := B2_bx.out.cell 3
  have c_bx4 := B2_bx.out.cell 4
  have l_bx := B2_bx.out.lt
  go_wp2_with fail
  clear c_bx0 c_bx1 c_bx2 c_bx3 c_bx4 l_bx
  refine (counted_any ck wt gn parts _ _ _ _ _ _ _).mono ?_
  rintro e W3 hT
  obtain ⟨rfl, hb⟩ := hT.yes HCT.out
  clear hT
  have hb3 : Below w.heap.size w W3 := below_then HB2.out hb
  have b_bx3 := B2_bx.out.below hb B2_bx.out.lt
  have b_bz3 := B2_bz.out.below hb B2_bz.out.lt
  have hz3 := hb.size
  have HB3 := Lib.hid hb3
  have B3_bx := Lib.hid b_bx3
  have B3_bz := Lib.hid b_bz3
  clear hb3 b_bx3 b_bz3
  clear B2_bx B2_bz HB2
  have c_bx0 := B3_bx.out.cell 0
  have c_bx1 := B3_bx.out.cell 1
  have c_bx2 := B3_bx.out.cell 2
  have c_bx3 := B3_bx.out.cell 3
  have c_bx4 := B3_bx.out.cell 4
  have l_bx := B3_bx.out.lt
  go_wp2_with fail
  clear c_bx0 c_bx1 c_bx2 c_bx3 c_bx4 l_bx
  refine (groupCopy_any _ ⟨ck, wt, gn, ms, os⟩ _ (H.out.below (HB3.out)) hbd2.1 hbd2.2.1 hbd2.2.2).mono ?_
  rintro e W4 ⟨mv5, ov5, rows, rfl, hown, hoff, hb⟩
  obtain ⟨A5, c5, rfl, hc5⟩ := (Sl.of_own hown.own).form
  obtain ⟨B5, d5, rfl, hd5⟩ := (Sl.of_own hoff).form
  simp only at *
  unfold groupV
  simp only
  have hb4 : Below w.heap.size w W4 := below_then HB3.out hb
  have b_bx4 := B3_bx.out.below hb B3_bx.out.lt
  have b_bz4 := B3_bz.out.below hb B3_bz.out.lt
  have hz4 := hb.size
  have HB4 := Lib.hid hb4
  have B4_bx := Lib.hid b_bx4
  have B4_bz := Lib.hid b_bz4
  clear hb4 b_bx4 b_bz4
  clear B3_bx B3_bz HB3
  have ho := hown.rebase (w0 := w) rfl (Nat.le_refl _) HB4.out
  have HO := Lib.hid ho
  have hoff2 : OwnO W4 W3.heap.size (.slice B5 os.length d5) os := hoff
  have HFO := Lib.hid hoff2
  clear ho hown hoff hoff2 hc5 hd5
  have c_bx0 := B4_bx.out.cell 0
  have f_bx0 := B4_bx.out.frozen 0
  have c_bx1 := B4_bx.out.cell 1
  have f_bx1 := B4_bx.out.frozen 1
  have c_bx2 := B4_bx.out.cell 2
  have f_bx2 := B4_bx.out.frozen 2
  have c_bx3 := B4_bx.out.cell 3
  have f_bx3 := B4_bx.out.frozen 3
  have c_bx4 := B4_bx.out.cell 4
  have f_bx4 := B4_bx.out.frozen 4
  have l_bx := B4_bx.out.lt
  go_upto_region 7 with fail
  clear c_bx0 f_bx0 c_bx1 f_bx1 c_bx2 f_bx2 c_bx3 f_bx3 c_bx4 f_bx4 l_bx
  have hsz5 := HB4.out.size
  have hb5 : Below w.heap.size w (((((W4.setCell ⟨w.heap.size, 0, none⟩ (.int .i64 ck)).setCell ⟨w.heap.size, 1, none⟩ (.int .i64 wt)).setCell ⟨w.heap.size, 2, none⟩ (.int .i64 gn)).setCell ⟨w.heap.size, 3, none⟩ (.slice A5 ms.length c5)).setCell ⟨w.heap.size, 4, none⟩ (.slice B5 os.length d5)) := (((((HB4.out).setCell (by show w.heap.size ≤ w.heap.size; omega) _).setCell (by show w.heap.size ≤ w.heap.size; omega) _).setCell (by show w.heap.size ≤ w.heap.size; omega) _).setCell (by show w.heap.size ≤ w.heap.size; omega) _).setCell (by show w.heap.size ≤ w.heap.size; omega) _
  have b_bx5 : Blk (((((W4.setCell ⟨w.heap.size, 0, none⟩ (.int .i64 ck)).setCell ⟨w.heap.size, 1, none⟩ (.int .i64 wt)).setCell ⟨w.heap.size, 2, none⟩ (.int .i64 gn)).setCell ⟨w.heap.size, 3, none⟩ (.slice A5 ms.length c5)).setCell ⟨w.heap.size, 4, none⟩ (.slice B5 os.length d5)) (w.heap.size) 36 #[.int .i64 ck, .int .i64 wt, .int .i64 gn, .slice A5 ms.length c5, .slice B5 os.length d5] := (((((B4_bx.out).set_ 0 _).set_ 1 _).set_ 2 _).set_ 3 _).set_ 4 _
  have b_bz5 : Blk (((((W4.setCell ⟨w.heap.size, 0, none⟩ (.int .i64 ck)).setCell ⟨w.heap.size, 1, none⟩ (.int .i64 wt)).setCell ⟨w.heap.size, 2, none⟩ (.int .i64 gn)).setCell ⟨w.heap.size, 3, none⟩ (.slice A5 ms.length c5)).setCell ⟨w.heap.size, 4, none⟩ (.slice B5 os.length d5)) (w.heap.size + 1) 36 #[.int .i64 0, .int .i64 0, .int .i64 0, .slice none 0 0, .slice none 0 0] := (((((B4_bz.out).far (p := ⟨w.heap.size, 0, none⟩) (by show w.heap.size + 1 ≠ w.heap.size; omega) _).far (p := ⟨w.heap.size, 1, none⟩) (by show w.heap.size + 1 ≠ w.heap.size; omega) _).far (p := ⟨w.heap.size, 2, none⟩) (by show w.heap.size + 1 ≠ w.heap.size; omega) _).far (p := ⟨w.heap.size, 3, none⟩) (by show w.heap.size + 1 ≠ w.heap.size; omega) _).far (p := ⟨w.heap.size, 4, none⟩) (by show w.heap.size + 1 ≠ w.heap.size; omega) _
  have k_own5 := (((((HO.out).under (a := ⟨w.heap.size, 0, none⟩) (by constructor <;> (try dsimp only) <;> omega) (.int .i64 ck)).under (a := ⟨w.heap.size, 1, none⟩) (by constructor <;> (try dsimp only) <;> omega) (.int .i64 wt)).under (a := ⟨w.heap.size, 2, none⟩) (by constructor <;> (try dsimp only) <;> omega) (.int .i64 gn)).under (a := ⟨w.heap.size, 3, none⟩) (by constructor <;> (try dsimp only) <;> omega) (.slice A5 ms.length c5)).under (a := ⟨w.heap.size, 4, none⟩) (by constructor <;> (try dsimp only) <;> omega) (.slice B5 os.length d5)
  have k_off5 := (((((HFO.out).under (a := ⟨w.heap.size, 0, none⟩) (by (try dsimp only); omega) (.int .i64 ck)).under (a := ⟨w.heap.size, 1, none⟩) (by (try dsimp only); omega) (.int .i64 wt)).under (a := ⟨w.heap.size, 2, none⟩) (by (try dsimp only); omega) (.int .i64 gn)).under (a := ⟨w.heap.size, 3, none⟩) (by (try dsimp only); omega) (.slice A5 ms.length c5)).under (a := ⟨w.heap.size, 4, none⟩) (by (try dsimp only); omega) (.slice B5 os.length d5)
  have hz5 : W4.heap.size + 0 ≤ (((((W4.setCell ⟨w.heap.size, 0, none⟩ (.int .i64 ck)).setCell ⟨w.heap.size, 1, none⟩ (.int .i64 wt)).setCell ⟨w.heap.size, 2, none⟩ (.int .i64 gn)).setCell ⟨w.heap.size, 3, none⟩ (.slice A5 ms.length c5)).setCell ⟨w.heap.size, 4, none⟩ (.slice B5 os.length d5)).heap.size := by first | omega | (simp; done) | (simp; omega)
  generalize ((((W4.setCell ⟨w.heap.size, 0, none⟩ (.int .i64 ck)).setCell ⟨w.heap.size, 1, none⟩ (.int .i64 wt)).setCell ⟨w.heap.size, 2, none⟩ (.int .i64 gn)).setCell ⟨w.heap.size, 3, none⟩ (.slice A5 ms.length c5)).setCell ⟨w.heap.size, 4, none⟩ (.slice B5 os.length d5) = W5 at *
  have HB5 := Lib.hid hb5
  have B5_bx := Lib.hid b_bx5
  have B5_bz := Lib.hid b_bz5
  have K5_own := Lib.hid k_own5
  have K5_off := Lib.hid k_off5
  clear hb5 b_bx5 b_bz5 k_own5 k_off5
  clear B4_bx B4_bz HB4 HO HFO
  have c_bx0 := B5_bx.out.cell 0
  have f_bx0 := B5_bx.out.frozen 0
  have l_bx := B5_bx.out.lt
  go_upto_region 8 with fail
  clear c_bx0 f_bx0 l_bx
  have hsz6 := HB5.out.size
  have hb6 : Below w.heap.size w (W5.setCell ⟨w.heap.size, 0, none⟩ (.int .i64 (ck + t))) := (HB5.out).setCell (by show w.heap.size ≤ w.heap.size; omega) _
  have b_bx6 : Blk (W5.setCell ⟨w.heap.size, 0, none⟩ (.int .i64 (ck + t))) (w.heap.size) 36 #[.int .i64 (ck + t), .int .i64 wt, .int .i64 gn, .slice A5 ms.length c5, .slice B5 os.length d5] := (B5_bx.out).set_ 0 _
  have b_bz6 : Blk (W5.setCell ⟨w.heap.size, 0, none⟩ (.int .i64 (ck + t))) (w.heap.size + 1) 36 #[.int .i64 0, .int .i64 0, .int .i64 0, .slice none 0 0, .slice none 0 0] := (B5_bz.out).far (p := ⟨w.heap.size, 0, none⟩) (by show w.heap.size + 1 ≠ w.heap.size; omega) _
  have k_own6 := (K5_own.out).under (a := ⟨w.heap.size, 0, none⟩) (by constructor <;> (try dsimp only) <;> omega) (.int .i64 (ck + t))
  have k_off6 := (K5_off.out).under (a := ⟨w.heap.size, 0, none⟩) (by (try dsimp only); omega) (.int .i64 (ck + t))
  have hz6 : W5.heap.size + 0 ≤ (W5.setCell ⟨w.heap.size, 0, none⟩ (.int .i64 (ck + t))).heap.size := by first | omega | (simp; done) | (simp; omega)
  generalize W5.setCell ⟨w.heap.size, 0, none⟩ (.int .i64 (ck + t)) = W6 at *
  have HB6 := Lib.hid hb6
  have B6_bx := Lib.hid b_bx6
  have B6_bz := Lib.hid b_bz6
  have K6_own := Lib.hid k_own6
  have K6_off := Lib.hid k_off6
  clear hb6 b_bx6 b_bz6 k_own6 k_off6
  clear B5_bx B5_bz HB5 K5_own K5_off
  have c_bx0 := B6_bx.out.cell 0
  have c_bx1 := B6_bx.out.cell 1
  have c_bx2 := B6_bx.out.cell 2
  have c_bx3 := B6_bx.out.cell 3
  have c_bx4 := B6_bx.out.cell 4
  have l_bx := B6_bx.out.lt
  go_wp2_with fail
  clear c_bx0 c_bx1 c_bx2 c_bx3 c_bx4 l_bx
  have hB9 := HB6.out.size
  refine (delM_group (goneM (ck + t) wt) 104 #[.pointer (some ⟨w.heap.size, 0, none⟩)] K6_own.out rfl HL6.out (by omega) (enters_of Try.func104 (by kernel_rfl) rfl) (fun t' ht' A k m W' hW' => tick_at _ _ (ck + t) wt A k m w.heap.size W' (hW'.1 _ _ _ (by decide) B6_bx.out).lt ((hW'.1 _ _ _ (by decide) B6_bx.out).cell 0) ((hW'.1 _ _ _ (by decide) B6_bx.out).cell 1) (by have := HHD.out t' ht'; omega) (by omega))).mono ?_
  rintro e W20 ⟨A9, c9, rows9, rfl, hom9, hA9, hkp⟩
  have bx9 := hkp.1 _ _ _ (by decide) B6_bx.out
  have bz9 := hkp.1 _ _ _ (by decide) B6_bz.out
  have hz9 := hkp.2
  have off9 : OwnO W20 W3.heap.size (.slice B5 os.length d5) os := own_kept2 K6_off.out hkp (by decide)
  have HB9 := Lib.hid hom9.bel
  have BX9 := Lib.hid bx9
  have BZ9 := Lib.hid bz9
  have HOM9 := Lib.hid hom9
  have OFF9 := Lib.hid off9
  clear bx9 bz9 off9 hom9 hkp
  have q0 := BX9.out.cell 0
  have qf0 := BX9.out.frozen 0
  have q1 := BX9.out.cell 1
  have qf1 := BX9.out.frozen 1
  have q2 := BX9.out.cell 2
  have qf2 := BX9.out.frozen 2
  have q3 := BX9.out.cell 3
  have qf3 := BX9.out.frozen 3
  have q4 := BX9.out.cell 4
  have qf4 := BX9.out.frozen 4
  have ql := BX9.out.lt
  go_upto_region 10 with fail
  clear ql q0 qf0 q1 qf1 q2 qf2 q3 qf3 q4 qf4
  have hb21 : Below w.heap.size w (W20.setCell ⟨w.heap.size, 3, none⟩ (.slice A9 (keptM (goneM (ck + t) wt) ms ms.length).length c9)) := HB9.out.setCell (by show w.heap.size ≤ w.heap.size; omega) _
  have b_bx21 : Blk (W20.setCell ⟨w.heap.size, 3, none⟩ (.slice A9 (keptM (goneM (ck + t) wt) ms ms.length).length c9)) w.heap.size 36 #[.int .i64 (ck + t), .int .i64 wt, .int .i64 gn, .slice A9 (keptM (goneM (ck + t) wt) ms ms.length).length c9, .slice B5 os.length d5] := BX9.out.set_ 3 _
  have b_bz21 : Blk (W20.setCell ⟨w.heap.size, 3, none⟩ (.slice A9 (keptM (goneM (ck + t) wt) ms ms.length).length c9)) (w.heap.size + 1) 36 #[.int .i64 0, .int .i64 0, .int .i64 0, .slice none 0 0, .slice none 0 0] := BZ9.out.far (p := ⟨w.heap.size, 3, none⟩) (by show w.heap.size + 1 ≠ w.heap.size; omega) _
  have hom21 := HOM9.out.farBlk BX9.out (Nat.le_refl _) 3 (.slice A9 (keptM (goneM (ck + t) wt) ms ms.length).length c9)
  have off21 : OwnO (W20.setCell ⟨w.heap.size, 3, none⟩ (.slice A9 (keptM (goneM (ck + t) wt) ms ms.length).length c9)) W3.heap.size (.slice B5 os.length d5) os := own_far OFF9.out BX9.out (by decide) 3 _
  have hz21 : W20.heap.size ≤ (W20.setCell ⟨w.heap.size, 3, none⟩ (.slice A9 (keptM (goneM (ck + t) wt) ms ms.length).length c9)).heap.size := by simp
  generalize W20.setCell ⟨w.heap.size, 3, none⟩ (.slice A9 (keptM (goneM (ck + t) wt) ms ms.length).length c9) = W21 at *
  have HB21 := Lib.hid hb21
  have B21_bx := Lib.hid b_bx21
  have B21_bz := Lib.hid b_bz21
  have HOM := Lib.hid hom21
  have HOFF := Lib.hid off21
  clear hb21 b_bx21 b_bz21 hom21 off21 HB9 BX9 BZ9 HOM9 OFF9
  have hall := stayM_all (g := ⟨ck, wt, gn, ms, os⟩) (t := t) HST.out
  unfold stayM at hall
  simp only at hall
  have HALL := Lib.hid hall
  clear hall
  have c_bx0 := B21_bx.out.cell 0
  have c_bx1 := B21_bx.out.cell 1
  have c_bx2 := B21_bx.out.cell 2
  have c_bx3 := B21_bx.out.cell 3
  have c_bx4 := B21_bx.out.cell 4
  have l_bx := B21_bx.out.lt
  have c_bz0 := B21_bz.out.cell 0
  have f_bz0 := B21_bz.out.frozen 0
  have c_bz1 := B21_bz.out.cell 1
  have f_bz1 := B21_bz.out.frozen 1
  have c_bz2 := B21_bz.out.cell 2
  have f_bz2 := B21_bz.out.frozen 2
  have c_bz3 := B21_bz.out.cell 3
  have f_bz3 := B21_bz.out.frozen 3
  have c_bz4 := B21_bz.out.cell 4
  have f_bz4 := B21_bz.out.frozen 4
  have l_bz := B21_bz.out.lt
  go_wp2_with fail
  clear c_bx0 c_bx1 c_bx2 c_bx3 c_bx4 l_bx c_bz0 f_bz0 c_bz1 f_bz1 c_bz2 f_bz2 c_bz3 f_bz3 c_bz4 f_bz4 l_bz
  have hszF := HB21.out.size
  have hbF : Below w.heap.size w (((((W21.setCell ⟨w.heap.size + 1, 0, none⟩ (.int .i64 (ck + t))).setCell ⟨w.heap.size + 1, 1, none⟩ (.int .i64 wt)).setCell ⟨w.heap.size + 1, 2, none⟩ (.int .i64 gn)).setCell ⟨w.heap.size + 1, 3, none⟩ (.slice A9 (keptM (goneM (ck + t) wt) ms ms.length).length c9)).setCell ⟨w.heap.size + 1, 4, none⟩ (.slice B5 os.length d5)) := (((((HB21.out).setCell (by show w.heap.size ≤ w.heap.size + 1; omega) _).setCell (by show w.heap.size ≤ w.heap.size + 1; omega) _).setCell (by show w.heap.size ≤ w.heap.size + 1; omega) _).setCell (by show w.heap.size ≤ w.heap.size + 1; omega) _).setCell (by show w.heap.size ≤ w.heap.size + 1; omega) _
  have b_bxF : Blk (((((W21.setCell ⟨w.heap.size + 1, 0, none⟩ (.int .i64 (ck + t))).setCell ⟨w.heap.size + 1, 1, none⟩ (.int .i64 wt)).setCell ⟨w.heap.size + 1, 2, none⟩ (.int .i64 gn)).setCell ⟨w.heap.size + 1, 3, none⟩ (.slice A9 (keptM (goneM (ck + t) wt) ms ms.length).length c9)).setCell ⟨w.heap.size + 1, 4, none⟩ (.slice B5 os.length d5)) (w.heap.size) 36 #[.int .i64 (ck + t), .int .i64 wt, .int .i64 gn, .slice A9 (keptM (goneM (ck + t) wt) ms ms.length).length c9, .slice B5 os.length d5] := (((((B21_bx.out).far (p := ⟨w.heap.size + 1, 0, none⟩) (by show w.heap.size ≠ w.heap.size + 1; omega) _).far (p := ⟨w.heap.size + 1, 1, none⟩) (by show w.heap.size ≠ w.heap.size + 1; omega) _).far (p := ⟨w.heap.size + 1, 2, none⟩) (by show w.heap.size ≠ w.heap.size + 1; omega) _).far (p := ⟨w.heap.size + 1, 3, none⟩) (by show w.heap.size ≠ w.heap.size + 1; omega) _).far (p := ⟨w.heap.size + 1, 4, none⟩) (by show w.heap.size ≠ w.heap.size + 1; omega) _
  have b_bzF : Blk (((((W21.setCell ⟨w.heap.size + 1, 0, none⟩ (.int .i64 (ck + t))).setCell ⟨w.heap.size + 1, 1, none⟩ (.int .i64 wt)).setCell ⟨w.heap.size + 1, 2, none⟩ (.int .i64 gn)).setCell ⟨w.heap.size + 1, 3, none⟩ (.slice A9 (keptM (goneM (ck + t) wt) ms ms.length).length c9)).setCell ⟨w.heap.size + 1, 4, none⟩ (.slice B5 os.length d5)) (w.heap.size + 1) 36 #[.int .i64 (ck + t), .int .i64 wt, .int .i64 gn, .slice A9 (keptM (goneM (ck + t) wt) ms ms.length).length c9, .slice B5 os.length d5] := (((((B21_bz.out).set_ 0 _).set_ 1 _).set_ 2 _).set_ 3 _).set_ 4 _
  have hoF := (((((HOM.out).under (a := ⟨w.heap.size + 1, 0, none⟩) (by constructor <;> (try dsimp only) <;> omega) (.int .i64 (ck + t))).under (a := ⟨w.heap.size + 1, 1, none⟩) (by constructor <;> (try dsimp only) <;> omega) (.int .i64 wt)).under (a := ⟨w.heap.size + 1, 2, none⟩) (by constructor <;> (try dsimp only) <;> omega) (.int .i64 gn)).under (a := ⟨w.heap.size + 1, 3, none⟩) (by constructor <;> (try dsimp only) <;> omega) (.slice A9 (keptM (goneM (ck + t) wt) ms ms.length).length c9)).under (a := ⟨w.heap.size + 1, 4, none⟩) (by constructor <;> (try dsimp only) <;> omega) (.slice B5 os.length d5)
  have hfF := (((((HOFF.out).under (a := ⟨w.heap.size + 1, 0, none⟩) (by (try dsimp only); omega) (.int .i64 (ck + t))).under (a := ⟨w.heap.size + 1, 1, none⟩) (by (try dsimp only); omega) (.int .i64 wt)).under (a := ⟨w.heap.size + 1, 2, none⟩) (by (try dsimp only); omega) (.int .i64 gn)).under (a := ⟨w.heap.size + 1, 3, none⟩) (by (try dsimp only); omega) (.slice A9 (keptM (goneM (ck + t) wt) ms ms.length).length c9)).under (a := ⟨w.heap.size + 1, 4, none⟩) (by (try dsimp only); omega) (.slice B5 os.length d5)
  have hoF2 := hoF.rebase (by rfl) (show w.heap.size ≤ W3.heap.size by omega) hbF
  have hall := HALL.out
  have y0 := b_bzF.cell 0
  have y1 := b_bzF.cell 1
  have y2 := b_bzF.cell 2
  have y3 := b_bzF.cell 3
  have y4 := b_bzF.cell 4
  refine bodyPost_ret (v := .tuple #[.agg #[.int .i64 (ck + t), .int .i64 wt, .int .i64 gn, .slice A9 (keptM (goneM (ck + t) wt) ms ms.length).length c9, .slice B5 os.length d5], .int .i64 0]) ?_ ?_ (⟨.slice A9 (keptM (goneM (ck + t) wt) ms ms.length).length c9, .slice B5 os.length d5, rows9, rfl, by rw [hall] at hoF2 ⊢; exact hoF2, own_base hfF (by omega), hbF⟩)
  · simp [results, Try.results60, go_sem, y0, y1, y2, y3, y4]
  · rfl
set_option maxRecDepth 100000 in
set_option maxHeartbeats 4000000 in
theorem tick_less (v : Value) (g : GroupD) (t parts : Int) (hk : GroupOk g) (h1 : 0 ≤ t) (h2 : t ≤ 1000) (h3 : g.clock + t ≤ 1073741824) (hc : Counted g.gen parts) (hs : (stayM g t).length < g.mems.length) (w : World) (h : Gv w v g) : Calls Try.prog 60 #[v, .int .i64 t, .int .i64 parts] w (GRes ⟨g.clock + t, g.wait, g.gen + 1, asgM (stayM g t) parts.toNat, g.offs⟩ 0 w) := by
  obtain ⟨mv, ov, rfl, hx, hy, hl1, hl2⟩ := id h
  obtain ⟨A, m, rfl, -⟩ := hx.at_
  obtain ⟨A', m', rfl, -⟩ := hy.at_
  have H := Lib.hid h
  have HX := Lib.hid hx
  have HY := Lib.hid hy
  clear h hx hy
  unfold groupV at *
  obtain ⟨ck, wt, gn, ms, os⟩ := g
  simp only at *
  have t0 : decide (t < 0) = false := decide_eq_false (by omega)
  have t1 : decide (1000 < t) = false := decide_eq_false (by omega)
  have hck : 0 ≤ ck ∧ ck ≤ 1073741824 := hk.clock
  have hck0 := hck.1
  have hck1 := hck.2
  have hsum : ck + t ≤ 1073741824 := h3
  have t2 : decide (1073741824 < ck + t) = false := decide_eq_false (by omega)
  clear hck h3
  have HCT := Lib.hid hc
  have hbd2 := hk.bounds.1
  have HGN := Lib.hid (show 0 ≤ gn ∧ gn ≤ 1073741824 from hk.gen)
  have HL6 := Lib.hid (show ms.length ≤ 6 from hk.many)
  have hstl := hs
  have HST := Lib.hid hs
  have hwt : 1 ≤ wt ∧ wt ≤ 1000 := hk.wait
  have HWT := Lib.hid hwt
  have hhd : ∀ t' ∈ ms, 0 ≤ t'.heard ∧ t'.heard ≤ ck := fun t' ht => by
    obtain ⟨j, hj, rfl⟩ := List.mem_iff_getElem.1 ht
    exact (hk.all j hj hj).1.heard
  have HHD := Lib.hid hhd
  unfold stayM at *
  simp only at hstl
  have hst2 : (((keptM (goneM (ck + t) wt) ms ms.length).length : Int) == (ms.length : Int)) = false := by simp; omega
  (try simp only at hbd2)
  clear hc hs hwt hhd hstl
  have HK := Lib.hid hk
  clear hk
  go_enter Try.func60, Try.ntmps60
  go_wp2_with fail
  have hb1 : Below w.heap.size w ((w.alloc (.cells #[.int .i64 ck, .int .i64 wt, .int .i64 gn, .slice A ms.length m, .slice A' os.length m'] 36)).alloc (.cells #[.int .i64 0, .int .i64 0, .int .i64 0, .slice none 0 0, .slice none 0 0] 36)) := ((Below.refl _ _).alloc (by first | omega | (simp; done) | (simp; omega)) _).alloc (by first | omega | (simp; done) | (simp; omega)) _
  have hal1 : Below w.heap.size w ((w.alloc (.cells #[.int .i64 ck, .int .i64 wt, .int .i64 gn, .slice A ms.length m, .slice A' os.length m'] 36)).alloc (.cells #[.int .i64 0, .int .i64 0, .int .i64 0, .slice none 0 0, .slice none 0 0] 36)) := ((Below.refl _ _).alloc (by first | omega | (simp; done) | (simp; omega)) _).alloc (by first | omega | (simp; done) | (simp; omega)) _
  have b_bx1 : Blk ((w.alloc (.cells #[.int .i64 ck, .int .i64 wt, .int .i64 gn, .slice A ms.length m, .slice A' os.length m'] 36)).alloc (.cells #[.int .i64 0, .int .i64 0, .int .i64 0, .slice none 0 0, .slice none 0 0] 36)) (w.heap.size) 36 #[.int .i64 ck, .int .i64 wt, .int .i64 gn, .slice A ms.length m, .slice A' os.length m'] := (Blk.new_ _ 36 #[.int .i64 ck, .int .i64 wt, .int .i64 gn, .slice A ms.length m, .slice A' os.length m'] (by first | rfl | (simp; done) | (simp; omega))).alloc _
  have b_bz1 : Blk ((w.alloc (.cells #[.int .i64 ck, .int .i64 wt, .int .i64 gn, .slice A ms.length m, .slice A' os.length m'] 36)).alloc (.cells #[.int .i64 0, .int .i64 0, .int .i64 0, .slice none 0 0, .slice none 0 0] 36)) (w.heap.size + 1) 36 #[.int .i64 0, .int .i64 0, .int .i64 0, .slice none 0 0, .slice none 0 0] := Blk.new_ _ 36 #[.int .i64 0, .int .i64 0, .int .i64 0, .slice none 0 0, .slice none 0 0] (by first | rfl | (simp; done) | (simp; omega))
  have hz1 : w.heap.size + 2 ≤ ((w.alloc (.cells #[.int .i64 ck, .int .i64 wt, .int .i64 gn, .slice A ms.length m, .slice A' os.length m'] 36)).alloc (.cells #[.int .i64 0, .int .i64 0, .int .i64 0, .slice none 0 0, .slice none 0 0] 36)).heap.size := by first | omega | (simp; done) | (simp; omega)
  generalize (w.alloc (.cells #[.int .i64 ck, .int .i64 wt, .int .i64 gn, .slice A ms.length m, .slice A' os.length m'] 36)).alloc (.cells #[.int .i64 0, .int .i64 0, .int .i64 0, .slice none 0 0, .slice none 0 0] 36) = W1 at *
  have HB1 := Lib.hid hb1
  have B1_bx := Lib.hid b_bx1
  have B1_bz := Lib.hid b_bz1
  clear hb1 b_bx1 b_bz1
  refine (group_check_any _ ⟨ck, wt, gn, ms, os⟩ _ (H.out.below hal1)).mono ?_
  rintro e W2 hT
  obtain ⟨rfl, hb⟩ := hT.yes HK.out
  clear hT
  have hb2 : Below w.heap.size w W2 := below_then HB1.out hb
  have b_bx2 := B1_bx.out.below hb B1_bx.out.lt
  have b_bz2 := B1_bz.out.below hb B1_bz.out.lt
  have hz2 := hb.size
  have HB2 := Lib.hid hb2
  have B2_bx := Lib.hid b_bx2
  have B2_bz := Lib.hid b_bz2
  clear hb2 b_bx2 b_bz2
  clear B1_bx B1_bz HB1
  have c_bx0 := B2_bx.out.cell 0
  have c_bx1 := B2_bx.out.cell 1
  have c_bx2 := B2_bx.out.cell 2
  have c_bx3 := B2_bx.out.cell 3
  have c_bx4 := B2_bx.out.cell 4
  have l_bx := B2_bx.out.lt
  go_wp2_with fail
  clear c_bx0 c_bx1 c_bx2 c_bx3 c_bx4 l_bx
  refine (counted_any ck wt gn parts _ _ _ _ _ _ _).mono ?_
  rintro e W3 hT
  obtain ⟨rfl, hb⟩ := hT.yes HCT.out
  clear hT
  have hb3 : Below w.heap.size w W3 := below_then HB2.out hb
  have b_bx3 := B2_bx.out.below hb B2_bx.out.lt
  have b_bz3 := B2_bz.out.below hb B2_bz.out.lt
  have hz3 := hb.size
  have HB3 := Lib.hid hb3
  have B3_bx := Lib.hid b_bx3
  have B3_bz := Lib.hid b_bz3
  clear hb3 b_bx3 b_bz3
  clear B2_bx B2_bz HB2
  have c_bx0 := B3_bx.out.cell 0
  have c_bx1 := B3_bx.out.cell 1
  have c_bx2 := B3_bx.out.cell 2
  have c_bx3 := B3_bx.out.cell 3
  have c_bx4 := B3_bx.out.cell 4
  have l_bx := B3_bx.out.lt
  go_wp2_with fail
  clear c_bx0 c_bx1 c_bx2 c_bx3 c_bx4 l_bx
  refine (groupCopy_any _ ⟨ck, wt, gn, ms, os⟩ _ (H.out.below (HB3.out)) hbd2.1 hbd2.2.1 hbd2.2.2).mono ?_
  rintro e W4 ⟨mv5, ov5, rows, rfl, hown, hoff, hb⟩
  obtain ⟨A5, c5, rfl, hc5⟩ := (Sl.of_own hown.own).form
  obtain ⟨B5, d5, rfl, hd5⟩ := (Sl.of_own hoff).form
  simp only at *
  unfold groupV
  simp only
  have hb4 : Below w.heap.size w W4 := below_then HB3.out hb
  have b_bx4 := B3_bx.out.below hb B3_bx.out.lt
  have b_bz4 := B3_bz.out.below hb B3_bz.out.lt
  have hz4 := hb.size
  have HB4 := Lib.hid hb4
  have B4_bx := Lib.hid b_bx4
  have B4_bz := Lib.hid b_bz4
  clear hb4 b_bx4 b_bz4
  clear B3_bx B3_bz HB3
  have ho := hown.rebase (w0 := w) rfl (Nat.le_refl _) HB4.out
  have HO := Lib.hid ho
  have hoff2 : OwnO W4 W3.heap.size (.slice B5 os.length d5) os := hoff
  have HFO := Lib.hid hoff2
  clear ho hown hoff hoff2 hc5 hd5
  have c_bx0 := B4_bx.out.cell 0
  have f_bx0 := B4_bx.out.frozen 0
  have c_bx1 := B4_bx.out.cell 1
  have f_bx1 := B4_bx.out.frozen 1
  have c_bx2 := B4_bx.out.cell 2
  have f_bx2 := B4_bx.out.frozen 2
  have c_bx3 := B4_bx.out.cell 3
  have f_bx3 := B4_bx.out.frozen 3
  have c_bx4 := B4_bx.out.cell 4
  have f_bx4 := B4_bx.out.frozen 4
  have l_bx := B4_bx.out.lt
  go_upto_region 7 with fail
  clear c_bx0 f_bx0 c_bx1 f_bx1 c_bx2 f_bx2 c_bx3 f_bx3 c_bx4 f_bx4 l_bx
  have hsz5 := HB4.out.size
  have hb5 : Below w.heap.size w (((((W4.setCell ⟨w.heap.size, 0, none⟩ (.int .i64 ck)).setCell ⟨w.heap.size, 1, none⟩ (.int .i64 wt)).setCell ⟨w.heap.size, 2, none⟩ (.int .i64 gn)).setCell ⟨w.heap.size, 3, none⟩ (.slice A5 ms.length c5)).setCell ⟨w.heap.size, 4, none⟩ (.slice B5 os.length d5)) := (((((HB4.out).setCell (by show w.heap.size ≤ w.heap.size; omega) _).setCell (by show w.heap.size ≤ w.heap.size; omega) _).setCell (by show w.heap.size ≤ w.heap.size; omega) _).setCell (by show w.heap.size ≤ w.heap.size; omega) _).setCell (by show w.heap.size ≤ w.heap.size; omega) _
  have b_bx5 : Blk (((((W4.setCell ⟨w.heap.size, 0, none⟩ (.int .i64 ck)).setCell ⟨w.heap.size, 1, none⟩ (.int .i64 wt)).setCell ⟨w.heap.size, 2, none⟩ (.int .i64 gn)).setCell ⟨w.heap.size, 3, none⟩ (.slice A5 ms.length c5)).setCell ⟨w.heap.size, 4, none⟩ (.slice B5 os.length d5)) (w.heap.size) 36 #[.int .i64 ck, .int .i64 wt, .int .i64 gn, .slice A5 ms.length c5, .slice B5 os.length d5] := (((((B4_bx.out).set_ 0 _).set_ 1 _).set_ 2 _).set_ 3 _).set_ 4 _
  have b_bz5 : Blk (((((W4.setCell ⟨w.heap.size, 0, none⟩ (.int .i64 ck)).setCell ⟨w.heap.size, 1, none⟩ (.int .i64 wt)).setCell ⟨w.heap.size, 2, none⟩ (.int .i64 gn)).setCell ⟨w.heap.size, 3, none⟩ (.slice A5 ms.length c5)).setCell ⟨w.heap.size, 4, none⟩ (.slice B5 os.length d5)) (w.heap.size + 1) 36 #[.int .i64 0, .int .i64 0, .int .i64 0, .slice none 0 0, .slice none 0 0] := (((((B4_bz.out).far (p := ⟨w.heap.size, 0, none⟩) (by show w.heap.size + 1 ≠ w.heap.size; omega) _).far (p := ⟨w.heap.size, 1, none⟩) (by show w.heap.size + 1 ≠ w.heap.size; omega) _).far (p := ⟨w.heap.size, 2, none⟩) (by show w.heap.size + 1 ≠ w.heap.size; omega) _).far (p := ⟨w.heap.size, 3, none⟩) (by show w.heap.size + 1 ≠ w.heap.size; omega) _).far (p := ⟨w.heap.size, 4, none⟩) (by show w.heap.size + 1 ≠ w.heap.size; omega) _
  have k_own5 := (((((HO.out).under (a := ⟨w.heap.size, 0, none⟩) (by constructor <;> (try dsimp only) <;> omega) (.int .i64 ck)).under (a := ⟨w.heap.size, 1, none⟩) (by constructor <;> (try dsimp only) <;> omega) (.int .i64 wt)).under (a := ⟨w.heap.size, 2, none⟩) (by constructor <;> (try dsimp only) <;> omega) (.int .i64 gn)).under (a := ⟨w.heap.size, 3, none⟩) (by constructor <;> (try dsimp only) <;> omega) (.slice A5 ms.length c5)).under (a := ⟨w.heap.size, 4, none⟩) (by constructor <;> (try dsimp only) <;> omega) (.slice B5 os.length d5)
  have k_off5 := (((((HFO.out).under (a := ⟨w.heap.size, 0, none⟩) (by (try dsimp only); omega) (.int .i64 ck)).under (a := ⟨w.heap.size, 1, none⟩) (by (try dsimp only); omega) (.int .i64 wt)).under (a := ⟨w.heap.size, 2, none⟩) (by (try dsimp only); omega) (.int .i64 gn)).under (a := ⟨w.heap.size, 3, none⟩) (by (try dsimp only); omega) (.slice A5 ms.length c5)).under (a := ⟨w.heap.size, 4, none⟩) (by (try dsimp only); omega) (.slice B5 os.length d5)
  have hz5 : W4.heap.size + 0 ≤ (((((W4.setCell ⟨w.heap.size, 0, none⟩ (.int .i64 ck)).setCell ⟨w.heap.size, 1, none⟩ (.int .i64 wt)).setCell ⟨w.heap.size, 2, none⟩ (.int .i64 gn)).setCell ⟨w.heap.size, 3, none⟩ (.slice A5 ms.length c5)).setCell ⟨w.heap.size, 4, none⟩ (.slice B5 os.length d5)).heap.size := by first | omega | (simp; done) | (simp; omega)
  generalize ((((W4.setCell ⟨w.heap.size, 0, none⟩ (.int .i64 ck)).setCell ⟨w.heap.size, 1, none⟩ (.int .i64 wt)).setCell ⟨w.heap.size, 2, none⟩ (.int .i64 gn)).setCell ⟨w.heap.size, 3, none⟩ (.slice A5 ms.length c5)).setCell ⟨w.heap.size, 4, none⟩ (.slice B5 os.length d5) = W5 at *
  have HB5 := Lib.hid hb5
  have B5_bx := Lib.hid b_bx5
  have B5_bz := Lib.hid b_bz5
  have K5_own := Lib.hid k_own5
  have K5_off := Lib.hid k_off5
  clear hb5 b_bx5 b_bz5 k_own5 k_off5
  clear B4_bx B4_bz HB4 HO HFO
  have c_bx0 := B5_bx.out.cell 0
  have f_bx0 := B5_bx.out.frozen 0
  have l_bx := B5_bx.out.lt
  go_upto_region 8 with fail
  clear c_bx0 f_bx0 l_bx
  have hsz6 := HB5.out.size
  have hb6 : Below w.heap.size w (W5.setCell ⟨w.heap.size, 0, none⟩ (.int .i64 (ck + t))) := (HB5.out).setCell (by show w.heap.size ≤ w.heap.size; omega) _
  have b_bx6 : Blk (W5.setCell ⟨w.heap.size, 0, none⟩ (.int .i64 (ck + t))) (w.heap.size) 36 #[.int .i64 (ck + t), .int .i64 wt, .int .i64 gn, .slice A5 ms.length c5, .slice B5 os.length d5] := (B5_bx.out).set_ 0 _
  have b_bz6 : Blk (W5.setCell ⟨w.heap.size, 0, none⟩ (.int .i64 (ck + t))) (w.heap.size + 1) 36 #[.int .i64 0, .int .i64 0, .int .i64 0, .slice none 0 0, .slice none 0 0] := (B5_bz.out).far (p := ⟨w.heap.size, 0, none⟩) (by show w.heap.size + 1 ≠ w.heap.size; omega) _
  have k_own6 := (K5_own.out).under (a := ⟨w.heap.size, 0, none⟩) (by constructor <;> (try dsimp only) <;> omega) (.int .i64 (ck + t))
  have k_off6 := (K5_off.out).under (a := ⟨w.heap.size, 0, none⟩) (by (try dsimp only); omega) (.int .i64 (ck + t))
  have hz6 : W5.heap.size + 0 ≤ (W5.setCell ⟨w.heap.size, 0, none⟩ (.int .i64 (ck + t))).heap.size := by first | omega | (simp; done) | (simp; omega)
  generalize W5.setCell ⟨w.heap.size, 0, none⟩ (.int .i64 (ck + t)) = W6 at *
  have HB6 := Lib.hid hb6
  have B6_bx := Lib.hid b_bx6
  have B6_bz := Lib.hid b_bz6
  have K6_own := Lib.hid k_own6
  have K6_off := Lib.hid k_off6
  clear hb6 b_bx6 b_bz6 k_own6 k_off6
  clear B5_bx B5_bz HB5 K5_own K5_off
  have c_bx0 := B6_bx.out.cell 0
  have c_bx1 := B6_bx.out.cell 1
  have c_bx2 := B6_bx.out.cell 2
  have c_bx3 := B6_bx.out.cell 3
  have c_bx4 := B6_bx.out.cell 4
  have l_bx := B6_bx.out.lt
  go_wp2_with fail
  clear c_bx0 c_bx1 c_bx2 c_bx3 c_bx4 l_bx
  have hB9 := HB6.out.size
  refine (delM_group (goneM (ck + t) wt) 104 #[.pointer (some ⟨w.heap.size, 0, none⟩)] K6_own.out rfl HL6.out (by omega) (enters_of Try.func104 (by kernel_rfl) rfl) (fun t' ht' A k m W' hW' => tick_at _ _ (ck + t) wt A k m w.heap.size W' (hW'.1 _ _ _ (by decide) B6_bx.out).lt ((hW'.1 _ _ _ (by decide) B6_bx.out).cell 0) ((hW'.1 _ _ _ (by decide) B6_bx.out).cell 1) (by have := HHD.out t' ht'; omega) (by omega))).mono ?_
  rintro e W20 ⟨A9, c9, rows9, rfl, hom9, hA9, hkp⟩
  have bx9 := hkp.1 _ _ _ (by decide) B6_bx.out
  have bz9 := hkp.1 _ _ _ (by decide) B6_bz.out
  have hz9 := hkp.2
  have off9 : OwnO W20 W3.heap.size (.slice B5 os.length d5) os := own_kept2 K6_off.out hkp (by decide)
  have HB9 := Lib.hid hom9.bel
  have BX9 := Lib.hid bx9
  have BZ9 := Lib.hid bz9
  have HOM9 := Lib.hid hom9
  have OFF9 := Lib.hid off9
  clear bx9 bz9 off9 hom9 hkp
  have q0 := BX9.out.cell 0
  have qf0 := BX9.out.frozen 0
  have q1 := BX9.out.cell 1
  have qf1 := BX9.out.frozen 1
  have q2 := BX9.out.cell 2
  have qf2 := BX9.out.frozen 2
  have q3 := BX9.out.cell 3
  have qf3 := BX9.out.frozen 3
  have q4 := BX9.out.cell 4
  have qf4 := BX9.out.frozen 4
  have ql := BX9.out.lt
  go_upto_region 10 with fail
  clear ql q0 qf0 q1 qf1 q2 qf2 q3 qf3 q4 qf4
  have hb21 : Below w.heap.size w (W20.setCell ⟨w.heap.size, 3, none⟩ (.slice A9 (keptM (goneM (ck + t) wt) ms ms.length).length c9)) := HB9.out.setCell (by show w.heap.size ≤ w.heap.size; omega) _
  have b_bx21 : Blk (W20.setCell ⟨w.heap.size, 3, none⟩ (.slice A9 (keptM (goneM (ck + t) wt) ms ms.length).length c9)) w.heap.size 36 #[.int .i64 (ck + t), .int .i64 wt, .int .i64 gn, .slice A9 (keptM (goneM (ck + t) wt) ms ms.length).length c9, .slice B5 os.length d5] := BX9.out.set_ 3 _
  have b_bz21 : Blk (W20.setCell ⟨w.heap.size, 3, none⟩ (.slice A9 (keptM (goneM (ck + t) wt) ms ms.length).length c9)) (w.heap.size + 1) 36 #[.int .i64 0, .int .i64 0, .int .i64 0, .slice none 0 0, .slice none 0 0] := BZ9.out.far (p := ⟨w.heap.size, 3, none⟩) (by show w.heap.size + 1 ≠ w.heap.size; omega) _
  have hom21 := HOM9.out.farBlk BX9.out (Nat.le_refl _) 3 (.slice A9 (keptM (goneM (ck + t) wt) ms ms.length).length c9)
  have off21 : OwnO (W20.setCell ⟨w.heap.size, 3, none⟩ (.slice A9 (keptM (goneM (ck + t) wt) ms ms.length).length c9)) W3.heap.size (.slice B5 os.length d5) os := own_far OFF9.out BX9.out (by decide) 3 _
  have hz21 : W20.heap.size ≤ (W20.setCell ⟨w.heap.size, 3, none⟩ (.slice A9 (keptM (goneM (ck + t) wt) ms ms.length).length c9)).heap.size := by simp
  generalize W20.setCell ⟨w.heap.size, 3, none⟩ (.slice A9 (keptM (goneM (ck + t) wt) ms ms.length).length c9) = W21 at *
  have HB21 := Lib.hid hb21
  have B21_bx := Lib.hid b_bx21
  have B21_bz := Lib.hid b_bz21
  have HOM := Lib.hid hom21
  have HOFF := Lib.hid off21
  clear hb21 b_bx21 b_bz21 hom21 off21 HB9 BX9 BZ9 HOM9 OFF9
  obtain ⟨g9, rfl⟩ := hA9 (by have h9 : (keptM (goneM (ck + t) wt) ms ms.length).length < ms.length := HST.out; omega)
  have c_bx0 := B21_bx.out.cell 0
  have c_bx1 := B21_bx.out.cell 1
  have c_bx2 := B21_bx.out.cell 2
  have c_bx3 := B21_bx.out.cell 3
  have c_bx4 := B21_bx.out.cell 4
  have l_bx := B21_bx.out.lt
  go_wp2_with fail
  clear c_bx0 c_bx1 c_bx2 c_bx3 c_bx4 l_bx
  have hel : (keptM (goneM (ck + t) wt) ms ms.length).length ≤ 6 := by have h9 : (keptM (goneM (ck + t) wt) ms ms.length).length < ms.length := HST.out; have := HL6.out; omega
  refine (assigned_own (ck + t) wt gn parts HOM.out rfl HOFF.out hel (by omega) (by omega) (by have := HGN.out; omega) ⟨HCT.out.1, HCT.out.2.1⟩).mono ?_
  rintro e W22 ⟨A10, c10, rows10, rfl, hom10, hof10, hkp⟩
  have hb22 : Below w.heap.size w W22 := hom10.bel
  have b_bz22 := hkp.1 _ _ _ (by decide) B21_bz.out
  have hz22 := hkp.2
  have HB22 := Lib.hid hb22
  have B22_bz := Lib.hid b_bz22
  have K22_own := Lib.hid hom10
  have K22_off := Lib.hid hof10
  clear hb22 b_bz22 hom10 hof10 hkp
  have c_bz0 := B22_bz.out.cell 0
  have f_bz0 := B22_bz.out.frozen 0
  have c_bz1 := B22_bz.out.cell 1
  have f_bz1 := B22_bz.out.frozen 1
  have c_bz2 := B22_bz.out.cell 2
  have f_bz2 := B22_bz.out.frozen 2
  have c_bz3 := B22_bz.out.cell 3
  have f_bz3 := B22_bz.out.frozen 3
  have c_bz4 := B22_bz.out.cell 4
  have f_bz4 := B22_bz.out.frozen 4
  have l_bz := B22_bz.out.lt
  go_wp2_with fail
  clear c_bz0 f_bz0 c_bz1 f_bz1 c_bz2 f_bz2 c_bz3 f_bz3 c_bz4 f_bz4 l_bz
  have hszF := HB22.out.size
  have hbF : Below w.heap.size w (((((W22.setCell ⟨w.heap.size + 1, 0, none⟩ (.int .i64 (ck + t))).setCell ⟨w.heap.size + 1, 1, none⟩ (.int .i64 wt)).setCell ⟨w.heap.size + 1, 2, none⟩ (.int .i64 (gn + 1))).setCell ⟨w.heap.size + 1, 3, none⟩ (.slice A10 (keptM (goneM (ck + t) wt) ms ms.length).length c10)).setCell ⟨w.heap.size + 1, 4, none⟩ (.slice B5 os.length d5)) := (((((HB22.out).setCell (by show w.heap.size ≤ w.heap.size + 1; omega) _).setCell (by show w.heap.size ≤ w.heap.size + 1; omega) _).setCell (by show w.heap.size ≤ w.heap.size + 1; omega) _).setCell (by show w.heap.size ≤ w.heap.size + 1; omega) _).setCell (by show w.heap.size ≤ w.heap.size + 1; omega) _
  have b_bzF : Blk (((((W22.setCell ⟨w.heap.size + 1, 0, none⟩ (.int .i64 (ck + t))).setCell ⟨w.heap.size + 1, 1, none⟩ (.int .i64 wt)).setCell ⟨w.heap.size + 1, 2, none⟩ (.int .i64 (gn + 1))).setCell ⟨w.heap.size + 1, 3, none⟩ (.slice A10 (keptM (goneM (ck + t) wt) ms ms.length).length c10)).setCell ⟨w.heap.size + 1, 4, none⟩ (.slice B5 os.length d5)) (w.heap.size + 1) 36 #[.int .i64 (ck + t), .int .i64 wt, .int .i64 (gn + 1), .slice A10 (keptM (goneM (ck + t) wt) ms ms.length).length c10, .slice B5 os.length d5] := (((((B22_bz.out).set_ 0 _).set_ 1 _).set_ 2 _).set_ 3 _).set_ 4 _
  have hoF := (((((K22_own.out).under (a := ⟨w.heap.size + 1, 0, none⟩) (by constructor <;> (try dsimp only) <;> omega) (.int .i64 (ck + t))).under (a := ⟨w.heap.size + 1, 1, none⟩) (by constructor <;> (try dsimp only) <;> omega) (.int .i64 wt)).under (a := ⟨w.heap.size + 1, 2, none⟩) (by constructor <;> (try dsimp only) <;> omega) (.int .i64 (gn + 1))).under (a := ⟨w.heap.size + 1, 3, none⟩) (by constructor <;> (try dsimp only) <;> omega) (.slice A10 (keptM (goneM (ck + t) wt) ms ms.length).length c10)).under (a := ⟨w.heap.size + 1, 4, none⟩) (by constructor <;> (try dsimp only) <;> omega) (.slice B5 os.length d5)
  have hfF := (((((K22_off.out).under (a := ⟨w.heap.size + 1, 0, none⟩) (by (try dsimp only); omega) (.int .i64 (ck + t))).under (a := ⟨w.heap.size + 1, 1, none⟩) (by (try dsimp only); omega) (.int .i64 wt)).under (a := ⟨w.heap.size + 1, 2, none⟩) (by (try dsimp only); omega) (.int .i64 (gn + 1))).under (a := ⟨w.heap.size + 1, 3, none⟩) (by (try dsimp only); omega) (.slice A10 (keptM (goneM (ck + t) wt) ms ms.length).length c10)).under (a := ⟨w.heap.size + 1, 4, none⟩) (by (try dsimp only); omega) (.slice B5 os.length d5)
  have y0 := b_bzF.cell 0
  have y1 := b_bzF.cell 1
  have y2 := b_bzF.cell 2
  have y3 := b_bzF.cell 3
  have y4 := b_bzF.cell 4
  exact bodyPost_ret (v := .tuple #[.agg #[.int .i64 (ck + t), .int .i64 wt, .int .i64 (gn + 1), .slice A10 (keptM (goneM (ck + t) wt) ms ms.length).length c10, .slice B5 os.length d5], .int .i64 0]) (by simp [results, Try.results60, go_sem, y0, y1, y2, y3, y4]) rfl (⟨.slice A10 (keptM (goneM (ck + t) wt) ms ms.length).length c10, .slice B5 os.length d5, rows10, rfl, hoF.rebase rfl (by omega) hbF, own_base hfF (by omega), hbF⟩)
theorem tickG_any (v : Value) (g : GroupD) (t parts : Int) (g' : GroupD) (r : Int) (ht : TickGTo g t parts g' r) (w : World) (h : Gv w v g) : Calls Try.prog 60 #[v, .int .i64 t, .int .i64 parts] w (GRes g' r w) := by
  rcases ht with ⟨h1, rfl, rfl⟩ | ⟨h1, ⟨h2, rfl, rfl⟩ | ⟨⟨h2, h3, h4, h5⟩, rfl, rfl⟩⟩
  · exact tick_fault v g t parts h1 w h
  · by_cases c : t < 0 ∨ 1000 < t ∨ 1073741824 < g.clock + t
    · exact tick_range1 v g t parts h1 c w h
    · exact tick_range2 v g t parts h1 (by omega) (by omega) (by omega) (fun e => h2 ⟨by omega, by omega, by omega, e⟩) w h
  · unfold tickedG
    by_cases c : (stayM g t).length = g.mems.length
    · rw [if_pos c]
      exact tick_same v g t parts h1 h2 h3 h4 h5 c w h
    · rw [if_neg c]
      exact tick_less v g t parts h1 h2 h3 h4 h5 (by have := stayM_le g t; omega) w h
end Go.Proofs.Ytjkoceacjbhblaa
