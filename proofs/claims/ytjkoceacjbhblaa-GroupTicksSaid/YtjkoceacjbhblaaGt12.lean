/- Parts of a proof, merged: TicB. No condition. -/
import Derived.Test.YtjkoceacjbhblaaGt10
namespace Go.Proofs.Ytjkoceacjbhblaa
open Go.RowKit

set_option maxRecDepth 100000 in
set_option maxHeartbeats 4000000 in
theorem ticked_fault (v : Value) (g : GroupD) (t parts : Int) (hk : ¬ GroupOk g) (w : World) (h : Gv w v g) (hnm : ∀ t ∈ g.mems, t.name.size ≤ 9223372036854775807) : Calls Try.prog 61 #[v, .int .i64 t, .int .i64 parts] w (GRes zeroG 12 w) := by
  obtain ⟨mv, ov, rfl, hx, hy, hl1, hl2⟩ := id h
  obtain ⟨A, m, rfl, -⟩ := hx.at_
  obtain ⟨A', m', rfl, -⟩ := hy.at_
  have H := Lib.hid h
  have HX := Lib.hid hx
  have HY := Lib.hid hy
  clear h hx hy
  unfold groupV at *
  obtain ⟨ck, wt, gn, ms, os⟩ := g
  simp only at *
  have HK := Lib.hid hk
  have HNM := Lib.hid hnm
  clear hk hnm
  go_enter Try.func61, Try.ntmps61
  go_wp2_with fail
  have hb1 : Below w.heap.size w (((w.alloc (.cells #[.int .i64 ck, .int .i64 wt, .int .i64 gn, .slice A ms.length m, .slice A' os.length m'] 36)).alloc (.cells #[.int .i64 t] 3)).alloc (.cells #[.int .i64 0, .int .i64 0, .int .i64 0, .slice none 0 0, .slice none 0 0] 36)) := (((Below.refl _ _).alloc (by first | omega | (simp; done) | (simp; omega)) _).alloc (by first | omega | (simp; done) | (simp; omega)) _).alloc (by first | omega | (simp; done) | (simp; omega)) _
  have hal1 : Below w.heap.size w (((w.alloc (.cells #[.int .i64 ck, .int .i64 wt, .int .i64 gn, .slice A ms.length m, .slice A' os.length m'] 36)).alloc (.cells #[.int .i64 t] 3)).alloc (.cells #[.int .i64 0, .int .i64 0, .int .i64 0, .slice none 0 0, .slice none 0 0] 36)) := (((Below.refl _ _).alloc (by first | omega | (simp; done) | (simp; omega)) _).alloc (by first | omega | (simp; done) | (simp; omega)) _).alloc (by first | omega | (simp; done) | (simp; omega)) _
  have b_bx1 : Blk (((w.alloc (.cells #[.int .i64 ck, .int .i64 wt, .int .i64 gn, .slice A ms.length m, .slice A' os.length m'] 36)).alloc (.cells #[.int .i64 t] 3)).alloc (.cells #[.int .i64 0, .int .i64 0, .int .i64 0, .slice none 0 0, .slice none 0 0] 36)) (w.heap.size) 36 #[.int .i64 ck, .int .i64 wt, .int .i64 gn, .slice A ms.length m, .slice A' os.length m'] := ((Blk.new_ _ 36 #[.int .i64 ck, .int .i64 wt, .int .i64 gn, .slice A ms.length m, .slice A' os.length m'] (by first | rfl | (simp; done) | (simp; omega))).alloc _).alloc _
  have b_bn1 : Blk (((w.alloc (.cells #[.int .i64 ck, .int .i64 wt, .int .i64 gn, .slice A ms.length m, .slice A' os.length m'] 36)).alloc (.cells #[.int .i64 t] 3)).alloc (.cells #[.int .i64 0, .int .i64 0, .int .i64 0, .slice none 0 0, .slice none 0 0] 36)) (w.heap.size + 1) 3 #[.int .i64 t] := (Blk.new_ _ 3 #[.int .i64 t] (by first | rfl | (simp; done) | (simp; omega))).alloc _
  have b_bz1 : Blk (((w.alloc (.cells #[.int .i64 ck, .int .i64 wt, .int .i64 gn, .slice A ms.length m, .slice A' os.length m'] 36)).alloc (.cells #[.int .i64 t] 3)).alloc (.cells #[.int .i64 0, .int .i64 0, .int .i64 0, .slice none 0 0, .slice none 0 0] 36)) (w.heap.size + 1 + 1) 36 #[.int .i64 0, .int .i64 0, .int .i64 0, .slice none 0 0, .slice none 0 0] := Blk.new_ _ 36 #[.int .i64 0, .int .i64 0, .int .i64 0, .slice none 0 0, .slice none 0 0] (by first | rfl | (simp; done) | (simp; omega))
  have k_g1 := H.out.below hal1
  have hz1 : w.heap.size + 3 ≤ (((w.alloc (.cells #[.int .i64 ck, .int .i64 wt, .int .i64 gn, .slice A ms.length m, .slice A' os.length m'] 36)).alloc (.cells #[.int .i64 t] 3)).alloc (.cells #[.int .i64 0, .int .i64 0, .int .i64 0, .slice none 0 0, .slice none 0 0] 36)).heap.size := by first | omega | (simp; done) | (simp; omega)
  generalize ((w.alloc (.cells #[.int .i64 ck, .int .i64 wt, .int .i64 gn, .slice A ms.length m, .slice A' os.length m'] 36)).alloc (.cells #[.int .i64 t] 3)).alloc (.cells #[.int .i64 0, .int .i64 0, .int .i64 0, .slice none 0 0, .slice none 0 0] 36) = W1 at *
  have HB1 := Lib.hid hb1
  have B1_bx := Lib.hid b_bx1
  have B1_bn := Lib.hid b_bn1
  have B1_bz := Lib.hid b_bz1
  have K1_g := Lib.hid k_g1
  clear hb1 b_bx1 b_bn1 b_bz1 k_g1
  clear H
  have c_bx0 := B1_bx.out.cell 0
  have c_bx1 := B1_bx.out.cell 1
  have c_bx2 := B1_bx.out.cell 2
  have c_bx3 := B1_bx.out.cell 3
  have c_bx4 := B1_bx.out.cell 4
  have l_bx := B1_bx.out.lt
  have c_bn0 := B1_bn.out.cell 0
  have l_bn := B1_bn.out.lt
  go_wp2_with fail
  clear c_bx0 c_bx1 c_bx2 c_bx3 c_bx4 l_bx c_bn0 l_bn
  refine (group_may_any _ ⟨ck, wt, gn, ms, os⟩ _ K1_g.out HNM.out).mono ?_
  rintro e W2 hT
  obtain ⟨rfl, hb⟩ := hT.no HK.out
  clear hT
  have hb2 : Below w.heap.size w W2 := below_then HB1.out hb
  have b_bx2 := B1_bx.out.below hb B1_bx.out.lt
  have b_bn2 := B1_bn.out.below hb B1_bn.out.lt
  have b_bz2 := B1_bz.out.below hb B1_bz.out.lt
  have k_g2 := K1_g.out.below hb
  have hz2 := hb.size
  have HB2 := Lib.hid hb2
  have B2_bx := Lib.hid b_bx2
  have B2_bn := Lib.hid b_bn2
  have B2_bz := Lib.hid b_bz2
  have K2_g := Lib.hid k_g2
  clear hb2 b_bx2 b_bn2 b_bz2 k_g2
  clear B1_bx B1_bn B1_bz HB1 K1_g
  have c_bx0 := B2_bx.out.cell 0
  have c_bx1 := B2_bx.out.cell 1
  have c_bx2 := B2_bx.out.cell 2
  have c_bx3 := B2_bx.out.cell 3
  have c_bx4 := B2_bx.out.cell 4
  have l_bx := B2_bx.out.lt
  have c_bn0 := B2_bn.out.cell 0
  have l_bn := B2_bn.out.lt
  have c_bz0 := B2_bz.out.cell 0
  have f_bz0 := B2_bz.out.frozen 0
  have c_bz1 := B2_bz.out.cell 1
  have f_bz1 := B2_bz.out.frozen 1
  have c_bz2 := B2_bz.out.cell 2
  have f_bz2 := B2_bz.out.frozen 2
  have c_bz3 := B2_bz.out.cell 3
  have f_bz3 := B2_bz.out.frozen 3
  have c_bz4 := B2_bz.out.cell 4
  have f_bz4 := B2_bz.out.frozen 4
  have l_bz := B2_bz.out.lt
  go_wp2_with fail
  clear c_bx0 c_bx1 c_bx2 c_bx3 c_bx4 l_bx c_bn0 l_bn c_bz0 f_bz0 c_bz1 f_bz1 c_bz2 f_bz2 c_bz3 f_bz3 c_bz4 f_bz4 l_bz
  have hszF := HB2.out.size
  have hbF : Below w.heap.size w (((((W2.setCell ⟨w.heap.size + 1 + 1, 0, none⟩ (.int .i64 0)).setCell ⟨w.heap.size + 1 + 1, 1, none⟩ (.int .i64 0)).setCell ⟨w.heap.size + 1 + 1, 2, none⟩ (.int .i64 0)).setCell ⟨w.heap.size + 1 + 1, 3, none⟩ (.slice none 0 0)).setCell ⟨w.heap.size + 1 + 1, 4, none⟩ (.slice none 0 0)) := (((((HB2.out).setCell (by show w.heap.size ≤ w.heap.size + 1 + 1; omega) _).setCell (by show w.heap.size ≤ w.heap.size + 1 + 1; omega) _).setCell (by show w.heap.size ≤ w.heap.size + 1 + 1; omega) _).setCell (by show w.heap.size ≤ w.heap.size + 1 + 1; omega) _).setCell (by show w.heap.size ≤ w.heap.size + 1 + 1; omega) _
  have b_bxF : Blk (((((W2.setCell ⟨w.heap.size + 1 + 1, 0, none⟩ (.int .i64 0)).setCell ⟨w.heap.size + 1 + 1, 1, none⟩ (.int .i64 0)).setCell ⟨w.heap.size + 1 + 1, 2, none⟩ (.int .i64 0)).setCell ⟨w.heap.size + 1 + 1, 3, none⟩ (.slice none 0 0)).setCell ⟨w.heap.size + 1 + 1, 4, none⟩ (.slice none 0 0)) (w.heap.size) 36 #[.int .i64 ck, .int .i64 wt, .int .i64 gn, .slice A ms.length m, .slice A' os.length m'] := (((((B2_bx.out).far (p := ⟨w.heap.size + 1 + 1, 0, none⟩) (by show w.heap.size ≠ w.heap.size + 1 + 1; omega) _).far (p := ⟨w.heap.size + 1 + 1, 1, none⟩) (by show w.heap.size ≠ w.heap.size + 1 + 1; omega) _).far (p := ⟨w.heap.size + 1 + 1, 2, none⟩) (by show w.heap.size ≠ w.heap.size + 1 + 1; omega) _).far (p := ⟨w.heap.size + 1 + 1, 3, none⟩) (by show w.heap.size ≠ w.heap.size + 1 + 1; omega) _).far (p := ⟨w.heap.size + 1 + 1, 4, none⟩) (by show w.heap.size ≠ w.heap.size + 1 + 1; omega) _
  have b_bnF : Blk (((((W2.setCell ⟨w.heap.size + 1 + 1, 0, none⟩ (.int .i64 0)).setCell ⟨w.heap.size + 1 + 1, 1, none⟩ (.int .i64 0)).setCell ⟨w.heap.size + 1 + 1, 2, none⟩ (.int .i64 0)).setCell ⟨w.heap.size + 1 + 1, 3, none⟩ (.slice none 0 0)).setCell ⟨w.heap.size + 1 + 1, 4, none⟩ (.slice none 0 0)) (w.heap.size + 1) 3 #[.int .i64 t] := (((((B2_bn.out).far (p := ⟨w.heap.size + 1 + 1, 0, none⟩) (by show w.heap.size + 1 ≠ w.heap.size + 1 + 1; omega) _).far (p := ⟨w.heap.size + 1 + 1, 1, none⟩) (by show w.heap.size + 1 ≠ w.heap.size + 1 + 1; omega) _).far (p := ⟨w.heap.size + 1 + 1, 2, none⟩) (by show w.heap.size + 1 ≠ w.heap.size + 1 + 1; omega) _).far (p := ⟨w.heap.size + 1 + 1, 3, none⟩) (by show w.heap.size + 1 ≠ w.heap.size + 1 + 1; omega) _).far (p := ⟨w.heap.size + 1 + 1, 4, none⟩) (by show w.heap.size + 1 ≠ w.heap.size + 1 + 1; omega) _
  have b_bzF : Blk (((((W2.setCell ⟨w.heap.size + 1 + 1, 0, none⟩ (.int .i64 0)).setCell ⟨w.heap.size + 1 + 1, 1, none⟩ (.int .i64 0)).setCell ⟨w.heap.size + 1 + 1, 2, none⟩ (.int .i64 0)).setCell ⟨w.heap.size + 1 + 1, 3, none⟩ (.slice none 0 0)).setCell ⟨w.heap.size + 1 + 1, 4, none⟩ (.slice none 0 0)) (w.heap.size + 1 + 1) 36 #[.int .i64 0, .int .i64 0, .int .i64 0, .slice none 0 0, .slice none 0 0] := (((((B2_bz.out).set_ 0 _).set_ 1 _).set_ 2 _).set_ 3 _).set_ 4 _
  have y0 := b_bzF.cell 0
  have y1 := b_bzF.cell 1
  have y2 := b_bzF.cell 2
  have y3 := b_bzF.cell 3
  have y4 := b_bzF.cell 4
  exact bodyPost_ret (v := .tuple #[.agg #[.int .i64 0, .int .i64 0, .int .i64 0, .slice none 0 0, .slice none 0 0], .int .i64 12]) (by simp [results, Try.results61, go_sem, y0, y1, y2, y3, y4]) rfl (GRes.zero hbF)
set_option maxRecDepth 100000 in
set_option maxHeartbeats 4000000 in
theorem ticked_range1 (v : Value) (g : GroupD) (t parts : Int) (hk : GroupOk g) (hp : t < 0 ∨ 1000 < t ∨ 1073741824 < g.clock + t) (w : World) (h : Gv w v g) (hnm : ∀ t ∈ g.mems, t.name.size ≤ 9223372036854775807) : Calls Try.prog 61 #[v, .int .i64 t, .int .i64 parts] w (GRes zeroG 2 w) := by
  obtain ⟨mv, ov, rfl, hx, hy, hl1, hl2⟩ := id h
  obtain ⟨A, m, rfl, -⟩ := hx.at_
  obtain ⟨A', m', rfl, -⟩ := hy.at_
  have H := Lib.hid h
  have HX := Lib.hid hx
  have HY := Lib.hid hy
  clear h hx hy
  unfold groupV at *
  obtain ⟨ck, wt, gn, ms, os⟩ := g
  simp only at *
  have hck : 0 ≤ ck ∧ ck ≤ 1073741824 := hk.clock
  have hck0 := hck.1
  have hck1 := hck.2
  have q0 : inB t 0 1000 = false ∨ (inB t 0 1000 = true ∧ 0 ≤ t ∧ t ≤ 1000 ∧ decide (1073741824 < ck + t) = true) := by
    by_cases e : 0 ≤ t ∧ t ≤ 1000
    · exact Or.inr ⟨by simp [inB, e], e.1, e.2, decide_eq_true (by have hp2 : t < 0 ∨ 1000 < t ∨ 1073741824 < ck + t := hp; omega)⟩
    · left
      unfold inB
      rcases Int.lt_or_le t 0 with h | h
      · simp; omega
      · simp; omega
  clear hp hck
  have HK := Lib.hid hk
  have HNM := Lib.hid hnm
  clear hk hnm
  go_enter Try.func61, Try.ntmps61
  go_wp2_with fail
  have hb1 : Below w.heap.size w (((w.alloc (.cells #[.int .i64 ck, .int .i64 wt, .int .i64 gn, .slice A ms.length m, .slice A' os.length m'] 36)).alloc (.cells #[.int .i64 t] 3)).alloc (.cells #[.int .i64 0, .int .i64 0, .int .i64 0, .slice none 0 0, .slice none 0 0] 36)) := (((Below.refl _ _).alloc (by first | omega | (simp; done) | (simp; omega)) _).alloc (by first | omega | (simp; done) | (simp; omega)) _).alloc (by first | omega | (simp; done) | (simp; omega)) _
  have hal1 : Below w.heap.size w (((w.alloc (.cells #[.int .i64 ck, .int .i64 wt, .int .i64 gn, .slice A ms.length m, .slice A' os.length m'] 36)).alloc (.cells #[.int .i64 t] 3)).alloc (.cells #[.int .i64 0, .int .i64 0, .int .i64 0, .slice none 0 0, .slice none 0 0] 36)) := (((Below.refl _ _).alloc (by first | omega | (simp; done) | (simp; omega)) _).alloc (by first | omega | (simp; done) | (simp; omega)) _).alloc (by first | omega | (simp; done) | (simp; omega)) _
  have b_bx1 : Blk (((w.alloc (.cells #[.int .i64 ck, .int .i64 wt, .int .i64 gn, .slice A ms.length m, .slice A' os.length m'] 36)).alloc (.cells #[.int .i64 t] 3)).alloc (.cells #[.int .i64 0, .int .i64 0, .int .i64 0, .slice none 0 0, .slice none 0 0] 36)) (w.heap.size) 36 #[.int .i64 ck, .int .i64 wt, .int .i64 gn, .slice A ms.length m, .slice A' os.length m'] := ((Blk.new_ _ 36 #[.int .i64 ck, .int .i64 wt, .int .i64 gn, .slice A ms.length m, .slice A' os.length m'] (by first | rfl | (simp; done) | (simp; omega))).alloc _).alloc _
  have b_bn1 : Blk (((w.alloc (.cells #[.int .i64 ck, .int .i64 wt, .int .i64 gn, .slice A ms.length m, .slice A' os.length m'] 36)).alloc (.cells #[.int .i64 t] 3)).alloc (.cells #[.int .i64 0, .int .i64 0, .int .i64 0, .slice none 0 0, .slice none 0 0] 36)) (w.heap.size + 1) 3 #[.int .i64 t] := (Blk.new_ _ 3 #[.int .i64 t] (by first | rfl | (simp; done) | (simp; omega))).alloc _
  have b_bz1 : Blk (((w.alloc (.cells #[.int .i64 ck, .int .i64 wt, .int .i64 gn, .slice A ms.length m, .slice A' os.length m'] 36)).alloc (.cells #[.int .i64 t] 3)).alloc (.cells #[.int .i64 0, .int .i64 0, .int .i64 0, .slice none 0 0, .slice none 0 0] 36)) (w.heap.size + 1 + 1) 36 #[.int .i64 0, .int .i64 0, .int .i64 0, .slice none 0 0, .slice none 0 0] := Blk.new_ _ 36 #[.int .i64 0, .int .i64 0, .int .i64 0, .slice none 0 0, .slice none 0 0] (by first | rfl | (simp; done) | (simp; omega))
  have k_g1 := H.out.below hal1
  have hz1 : w.heap.size + 3 ≤ (((w.alloc (.cells #[.int .i64 ck, .int .i64 wt, .int .i64 gn, .slice A ms.length m, .slice A' os.length m'] 36)).alloc (.cells #[.int .i64 t] 3)).alloc (.cells #[.int .i64 0, .int .i64 0, .int .i64 0, .slice none 0 0, .slice none 0 0] 36)).heap.size := by first | omega | (simp; done) | (simp; omega)
  generalize ((w.alloc (.cells #[.int .i64 ck, .int .i64 wt, .int .i64 gn, .slice A ms.length m, .slice A' os.length m'] 36)).alloc (.cells #[.int .i64 t] 3)).alloc (.cells #[.int .i64 0, .int .i64 0, .int .i64 0, .slice none 0 0, .slice none 0 0] 36) = W1 at *
  have HB1 := Lib.hid hb1
  have B1_bx := Lib.hid b_bx1
  have B1_bn := Lib.hid b_bn1
  have B1_bz := Lib.hid b_bz1
  have K1_g := Lib.hid k_g1
  clear hb1 b_bx1 b_bn1 b_bz1 k_g1
  clear H
  have c_bx0 := B1_bx.out.cell 0
  have c_bx1 := B1_bx.out.cell 1
  have c_bx2 := B1_bx.out.cell 2
  have c_bx3 := B1_bx.out.cell 3
  have c_bx4 := B1_bx.out.cell 4
  have l_bx := B1_bx.out.lt
  have c_bn0 := B1_bn.out.cell 0
  have l_bn := B1_bn.out.lt
  go_wp2_with fail
  clear c_bx0 c_bx1 c_bx2 c_bx3 c_bx4 l_bx c_bn0 l_bn
  refine (group_may_any _ ⟨ck, wt, gn, ms, os⟩ _ K1_g.out HNM.out).mono ?_
  rintro e W2 hT
  obtain ⟨rfl, hb⟩ := hT.yes HK.out
  clear hT
  have hb2 : Below w.heap.size w W2 := below_then HB1.out hb
  have b_bx2 := B1_bx.out.below hb B1_bx.out.lt
  have b_bn2 := B1_bn.out.below hb B1_bn.out.lt
  have b_bz2 := B1_bz.out.below hb B1_bz.out.lt
  have k_g2 := K1_g.out.below hb
  have hz2 := hb.size
  have HB2 := Lib.hid hb2
  have B2_bx := Lib.hid b_bx2
  have B2_bn := Lib.hid b_bn2
  have B2_bz := Lib.hid b_bz2
  have K2_g := Lib.hid k_g2
  clear hb2 b_bx2 b_bn2 b_bz2 k_g2
  clear B1_bx B1_bn B1_bz HB1 K1_g
  rcases q0 with q0 | ⟨q0, q1, q2, q3⟩
  all_goals
    have c_bx0 := B2_bx.out.cell 0
    have c_bx1 := B2_bx.out.cell 1
    have c_bx2 := B2_bx.out.cell 2
    have c_bx3 := B2_bx.out.cell 3
    have c_bx4 := B2_bx.out.cell 4
    have l_bx := B2_bx.out.lt
    have c_bn0 := B2_bn.out.cell 0
    have l_bn := B2_bn.out.lt
    have c_bz0 := B2_bz.out.cell 0
    have f_bz0 := B2_bz.out.frozen 0
    have c_bz1 := B2_bz.out.cell 1
    have f_bz1 := B2_bz.out.frozen 1
    have c_bz2 := B2_bz.out.cell 2
    have f_bz2 := B2_bz.out.frozen 2
    have c_bz3 := B2_bz.out.cell 3
    have f_bz3 := B2_bz.out.frozen 3
    have c_bz4 := B2_bz.out.cell 4
    have f_bz4 := B2_bz.out.frozen 4
    have l_bz := B2_bz.out.lt
    go_wp2_with (go_at_call 64; refine (In_any _ _ _ _).mono ?_; rintro e wi ⟨rfl, rfl⟩; rw [q0])
    clear c_bx0 c_bx1 c_bx2 c_bx3 c_bx4 l_bx c_bn0 l_bn c_bz0 f_bz0 c_bz1 f_bz1 c_bz2 f_bz2 c_bz3 f_bz3 c_bz4 f_bz4 l_bz
    have hszF := HB2.out.size
    have hbF : Below w.heap.size w (((((W2.setCell ⟨w.heap.size + 1 + 1, 0, none⟩ (.int .i64 0)).setCell ⟨w.heap.size + 1 + 1, 1, none⟩ (.int .i64 0)).setCell ⟨w.heap.size + 1 + 1, 2, none⟩ (.int .i64 0)).setCell ⟨w.heap.size + 1 + 1, 3, none⟩ (.slice none 0 0)).setCell ⟨w.heap.size + 1 + 1, 4, none⟩ (.slice none 0 0)) := (((((HB2.out).setCell (by show w.heap.size ≤ w.heap.size + 1 + 1; omega) _).setCell (by show w.heap.size ≤ w.heap.size + 1 + 1; omega) _).setCell (by show w.heap.size ≤ w.heap.size + 1 + 1; omega) _).setCell (by show w.heap.size ≤ w.heap.size + 1 + 1; omega) _).setCell (by show w.heap.size ≤ w.heap.size + 1 + 1; omega) _
    have b_bxF : Blk (((((W2.setCell ⟨w.heap.size + 1 + 1, 0, none⟩ (.int .i64 0)).setCell ⟨w.heap.size + 1 + 1, 1, none⟩ (.int .i64 0)).setCell ⟨w.heap.size + 1 + 1, 2, none⟩ (.int .i64 0)).setCell ⟨w.heap.size + 1 + 1, 3, none⟩ (.slice none 0 0)).setCell ⟨w.heap.size + 1 + 1, 4, none⟩ (.slice none 0 0)) (w.heap.size) 36 #[.int .i64 ck, .int .i64 wt, .int .i64 gn, .slice A ms.length m, .slice A' os.length m'] := (((((B2_bx.out).far (p := ⟨w.heap.size + 1 + 1, 0, none⟩) (by show w.heap.size ≠ w.heap.size + 1 + 1; omega) _).far (p := ⟨w.heap.size + 1 + 1, 1, none⟩) (by show w.heap.size ≠ w.heap.size + 1 + 1; omega) _).far (p := ⟨w.heap.size + 1 + 1, 2, none⟩) (by show w.heap.size ≠ w.heap.size + 1 + 1; omega) _).far (p := ⟨w.heap.size + 1 + 1, 3, none⟩) (by show w.heap.size ≠ w.heap.size + 1 + 1; omega) _).far (p := ⟨w.heap.size + 1 + 1, 4, none⟩) (by show w.heap.size ≠ w.heap.size + 1 + 1; omega) _
    have b_bnF : Blk (((((W2.setCell ⟨w.heap.size + 1 + 1, 0, none⟩ (.int .i64 0)).setCell ⟨w.heap.size + 1 + 1, 1, none⟩ (.int .i64 0)).setCell ⟨w.heap.size + 1 + 1, 2, none⟩ (.int .i64 0)).setCell ⟨w.heap.size + 1 + 1, 3, none⟩ (.slice none 0 0)).setCell ⟨w.heap.size + 1 + 1, 4, none⟩ (.slice none 0 0)) (w.heap.size + 1) 3 #[.int .i64 t] := (((((B2_bn.out).far (p := ⟨w.heap.size + 1 + 1, 0, none⟩) (by show w.heap.size + 1 ≠ w.heap.size + 1 + 1; omega) _).far (p := ⟨w.heap.size + 1 + 1, 1, none⟩) (by show w.heap.size + 1 ≠ w.heap.size + 1 + 1; omega) _).far (p := ⟨w.heap.size + 1 + 1, 2, none⟩) (by show w.heap.size + 1 ≠ w.heap.size + 1 + 1; omega) _).far (p := ⟨w.heap.size + 1 + 1, 3, none⟩) (by show w.heap.size + 1 ≠ w.heap.size + 1 + 1; omega) _).far (p := ⟨w.heap.size + 1 + 1, 4, none⟩) (by show w.heap.size + 1 ≠ w.heap.size + 1 + 1; omega) _
    have b_bzF : Blk (((((W2.setCell ⟨w.heap.size + 1 + 1, 0, none⟩ (.int .i64 0)).setCell ⟨w.heap.size + 1 + 1, 1, none⟩ (.int .i64 0)).setCell ⟨w.heap.size + 1 + 1, 2, none⟩ (.int .i64 0)).setCell ⟨w.heap.size + 1 + 1, 3, none⟩ (.slice none 0 0)).setCell ⟨w.heap.size + 1 + 1, 4, none⟩ (.slice none 0 0)) (w.heap.size + 1 + 1) 36 #[.int .i64 0, .int .i64 0, .int .i64 0, .slice none 0 0, .slice none 0 0] := (((((B2_bz.out).set_ 0 _).set_ 1 _).set_ 2 _).set_ 3 _).set_ 4 _
    have y0 := b_bzF.cell 0
    have y1 := b_bzF.cell 1
    have y2 := b_bzF.cell 2
    have y3 := b_bzF.cell 3
    have y4 := b_bzF.cell 4
    refine bodyPost_ret (v := .tuple #[.agg #[.int .i64 0, .int .i64 0, .int .i64 0, .slice none 0 0, .slice none 0 0], .int .i64 2]) ?_ ?_ (GRes.zero hbF)
    · simp [results, Try.results61, go_sem, y0, y1, y2, y3, y4]
    · rfl
set_option maxRecDepth 100000 in
set_option maxHeartbeats 4000000 in
theorem ticked_range2 (v : Value) (g : GroupD) (t parts : Int) (hk : GroupOk g) (h1 : 0 ≤ t) (h2 : t ≤ 1000) (h3 : g.clock + t ≤ 1073741824) (hc : ¬ Counted g.gen parts) (w : World) (h : Gv w v g) (hnm : ∀ t ∈ g.mems, t.name.size ≤ 9223372036854775807) : Calls Try.prog 61 #[v, .int .i64 t, .int .i64 parts] w (GRes zeroG 2 w) := by
  obtain ⟨mv, ov, rfl, hx, hy, hl1, hl2⟩ := id h
  obtain ⟨A, m, rfl, -⟩ := hx.at_
  obtain ⟨A', m', rfl, -⟩ := hy.at_
  have H := Lib.hid h
  have HX := Lib.hid hx
  have HY := Lib.hid hy
  clear h hx hy
  unfold groupV at *
  obtain ⟨ck, wt, gn, ms, os⟩ := g
  simp only at *
  have HIN := Lib.hid (show inB t 0 1000 = true by simp [inB]; omega)
  have hck : 0 ≤ ck ∧ ck ≤ 1073741824 := hk.clock
  have hck0 := hck.1
  have hck1 := hck.2
  have hsum : ck + t ≤ 1073741824 := h3
  have t2 : decide (1073741824 < ck + t) = false := decide_eq_false (by omega)
  clear hck h3
  have HCT := Lib.hid hc
  clear hc
  have HK := Lib.hid hk
  have HNM := Lib.hid hnm
  clear hk hnm
  go_enter Try.func61, Try.ntmps61
  go_wp2_with fail
  have hb1 : Below w.heap.size w (((w.alloc (.cells #[.int .i64 ck, .int .i64 wt, .int .i64 gn, .slice A ms.length m, .slice A' os.length m'] 36)).alloc (.cells #[.int .i64 t] 3)).alloc (.cells #[.int .i64 0, .int .i64 0, .int .i64 0, .slice none 0 0, .slice none 0 0] 36)) := (((Below.refl _ _).alloc (by first | omega | (simp; done) | (simp; omega)) _).alloc (by first | omega | (simp; done) | (simp; omega)) _).alloc (by first | omega | (simp; done) | (simp; omega)) _
  have hal1 : Below w.heap.size w (((w.alloc (.cells #[.int .i64 ck, .int .i64 wt, .int .i64 gn, .slice A ms.length m, .slice A' os.length m'] 36)).alloc (.cells #[.int .i64 t] 3)).alloc (.cells #[.int .i64 0, .int .i64 0, .int .i64 0, .slice none 0 0, .slice none 0 0] 36)) := (((Below.refl _ _).alloc (by first | omega | (simp; done) | (simp; omega)) _).alloc (by first | omega | (simp; done) | (simp; omega)) _).alloc (by first | omega | (simp; done) | (simp; omega)) _
  have b_bx1 : Blk (((w.alloc (.cells #[.int .i64 ck, .int .i64 wt, .int .i64 gn, .slice A ms.length m, .slice A' os.length m'] 36)).alloc (.cells #[.int .i64 t] 3)).alloc (.cells #[.int .i64 0, .int .i64 0, .int .i64 0, .slice none 0 0, .slice none 0 0] 36)) (w.heap.size) 36 #[.int .i64 ck, .int .i64 wt, .int .i64 gn, .slice A ms.length m, .slice A' os.length m'] := ((Blk.new_ _ 36 #[.int .i64 ck, .int .i64 wt, .int .i64 gn, .slice A ms.length m, .slice A' os.length m'] (by first | rfl | (simp; done) | (simp; omega))).alloc _).alloc _
  have b_bn1 : Blk (((w.alloc (.cells #[.int .i64 ck, .int .i64 wt, .int .i64 gn, .slice A ms.length m, .slice A' os.length m'] 36)).alloc (.cells #[.int .i64 t] 3)).alloc (.cells #[.int .i64 0, .int .i64 0, .int .i64 0, .slice none 0 0, .slice none 0 0] 36)) (w.heap.size + 1) 3 #[.int .i64 t] := (Blk.new_ _ 3 #[.int .i64 t] (by first | rfl | (simp; done) | (simp; omega))).alloc _
  have b_bz1 : Blk (((w.alloc (.cells #[.int .i64 ck, .int .i64 wt, .int .i64 gn, .slice A ms.length m, .slice A' os.length m'] 36)).alloc (.cells #[.int .i64 t] 3)).alloc (.cells #[.int .i64 0, .int .i64 0, .int .i64 0, .slice none 0 0, .slice none 0 0] 36)) (w.heap.size + 1 + 1) 36 #[.int .i64 0, .int .i64 0, .int .i64 0, .slice none 0 0, .slice none 0 0] := Blk.new_ _ 36 #[.int .i64 0, .int .i64 0, .int .i64 0, .slice none 0 0, .slice none 0 0] (by first | rfl | (simp; done) | (simp; omega))
  have k_g1 := H.out.below hal1
  have hz1 : w.heap.size + 3 ≤ (((w.alloc (.cells #[.int .i64 ck, .int .i64 wt, .int .i64 gn, .slice A ms.length m, .slice A' os.length m'] 36)).alloc (.cells #[.int .i64 t] 3)).alloc (.cells #[.int .i64 0, .int .i64 0, .int .i64 0, .slice none 0 0, .slice none 0 0] 36)).heap.size := by first | omega | (simp; done) | (simp; omega)
  generalize ((w.alloc (.cells #[.int .i64 ck, .int .i64 wt, .int .i64 gn, .slice A ms.length m, .slice A' os.length m'] 36)).alloc (.cells #[.int .i64 t] 3)).alloc (.cells #[.int .i64 0, .int .i64 0, .int .i64 0, .slice none 0 0, .slice none 0 0] 36) = W1 at *
  have HB1 := Lib.hid hb1
  have B1_bx := Lib.hid b_bx1
  have B1_bn := Lib.hid b_bn1
  have B1_bz := Lib.hid b_bz1
  have K1_g := Lib.hid k_g1
  clear hb1 b_bx1 b_bn1 b_bz1 k_g1
  clear H
  have c_bx0 := B1_bx.out.cell 0
  have c_bx1 := B1_bx.out.cell 1
  have c_bx2 := B1_bx.out.cell 2
  have c_bx3 := B1_bx.out.cell 3
  have c_bx4 := B1_bx.out.cell 4
  have l_bx := B1_bx.out.lt
  have c_bn0 := B1_bn.out.cell 0
  have l_bn := B1_bn.out.lt
  go_wp2_with fail
  clear c_bx0 c_bx1 c_bx2 c_bx3 c_bx4 l_bx c_bn0 l_bn
  refine (group_may_any _ ⟨ck, wt, gn, ms, os⟩ _ K1_g.out HNM.out).mono ?_
  rintro e W2 hT
  obtain ⟨rfl, hb⟩ := hT.yes HK.out
  clear hT
  have hb2 : Below w.heap.size w W2 := below_then HB1.out hb
  have b_bx2 := B1_bx.out.below hb B1_bx.out.lt
  have b_bn2 := B1_bn.out.below hb B1_bn.out.lt
  have b_bz2 := B1_bz.out.below hb B1_bz.out.lt
  have k_g2 := K1_g.out.below hb
  have hz2 := hb.size
  have HB2 := Lib.hid hb2
  have B2_bx := Lib.hid b_bx2
  have B2_bn := Lib.hid b_bn2
  have B2_bz := Lib.hid b_bz2
  have K2_g := Lib.hid k_g2
  clear hb2 b_bx2 b_bn2 b_bz2 k_g2
  clear B1_bx B1_bn B1_bz HB1 K1_g
  have c_bx0 := B2_bx.out.cell 0
  have c_bx1 := B2_bx.out.cell 1
  have c_bx2 := B2_bx.out.cell 2
  have c_bx3 := B2_bx.out.cell 3
  have c_bx4 := B2_bx.out.cell 4
  have l_bx := B2_bx.out.lt
  have c_bn0 := B2_bn.out.cell 0
  have l_bn := B2_bn.out.lt
  go_wp2_with (go_at_call 64; refine (In_any _ _ _ _).mono ?_; rintro e wi ⟨rfl, rfl⟩; rw [HIN.out])
  clear c_bx0 c_bx1 c_bx2 c_bx3 c_bx4 l_bx c_bn0 l_bn
  refine (partsMay_any ck wt gn parts _ _ _ _ _ _ _).mono ?_
  rintro e W3 hT
  obtain ⟨rfl, hb⟩ := hT.no HCT.out
  clear hT
  have hb3 : Below w.heap.size w W3 := below_then HB2.out hb
  have b_bx3 := B2_bx.out.below hb B2_bx.out.lt
  have b_bn3 := B2_bn.out.below hb B2_bn.out.lt
  have b_bz3 := B2_bz.out.below hb B2_bz.out.lt
  have k_g3 := K2_g.out.below hb
  have hz3 := hb.size
  have HB3 := Lib.hid hb3
  have B3_bx := Lib.hid b_bx3
  have B3_bn := Lib.hid b_bn3
  have B3_bz := Lib.hid b_bz3
  have K3_g := Lib.hid k_g3
  clear hb3 b_bx3 b_bn3 b_bz3 k_g3
  clear B2_bx B2_bn B2_bz HB2 K2_g
  have c_bx0 := B3_bx.out.cell 0
  have c_bx1 := B3_bx.out.cell 1
  have c_bx2 := B3_bx.out.cell 2
  have c_bx3 := B3_bx.out.cell 3
  have c_bx4 := B3_bx.out.cell 4
  have l_bx := B3_bx.out.lt
  have c_bn0 := B3_bn.out.cell 0
  have l_bn := B3_bn.out.lt
  have c_bz0 := B3_bz.out.cell 0
  have f_bz0 := B3_bz.out.frozen 0
  have c_bz1 := B3_bz.out.cell 1
  have f_bz1 := B3_bz.out.frozen 1
  have c_bz2 := B3_bz.out.cell 2
  have f_bz2 := B3_bz.out.frozen 2
  have c_bz3 := B3_bz.out.cell 3
  have f_bz3 := B3_bz.out.frozen 3
  have c_bz4 := B3_bz.out.cell 4
  have f_bz4 := B3_bz.out.frozen 4
  have l_bz := B3_bz.out.lt
  go_wp2_with fail
  clear c_bx0 c_bx1 c_bx2 c_bx3 c_bx4 l_bx c_bn0 l_bn c_bz0 f_bz0 c_bz1 f_bz1 c_bz2 f_bz2 c_bz3 f_bz3 c_bz4 f_bz4 l_bz
  have hszF := HB3.out.size
  have hbF : Below w.heap.size w (((((W3.setCell ⟨w.heap.size + 1 + 1, 0, none⟩ (.int .i64 0)).setCell ⟨w.heap.size + 1 + 1, 1, none⟩ (.int .i64 0)).setCell ⟨w.heap.size + 1 + 1, 2, none⟩ (.int .i64 0)).setCell ⟨w.heap.size + 1 + 1, 3, none⟩ (.slice none 0 0)).setCell ⟨w.heap.size + 1 + 1, 4, none⟩ (.slice none 0 0)) := (((((HB3.out).setCell (by show w.heap.size ≤ w.heap.size + 1 + 1; omega) _).setCell (by show w.heap.size ≤ w.heap.size + 1 + 1; omega) _).setCell (by show w.heap.size ≤ w.heap.size + 1 + 1; omega) _).setCell (by show w.heap.size ≤ w.heap.size + 1 + 1; omega) _).setCell (by show w.heap.size ≤ w.heap.size + 1 + 1; omega) _
  have b_bxF : Blk (((((W3.setCell ⟨w.heap.size + 1 + 1, 0, none⟩ (.int .i64 0)).setCell ⟨w.heap.size + 1 + 1, 1, none⟩ (.int .i64 0)).setCell ⟨w.heap.size + 1 + 1, 2, none⟩ (.int .i64 0)).setCell ⟨w.heap.size + 1 + 1, 3, none⟩ (.slice none 0 0)).setCell ⟨w.heap.size + 1 + 1, 4, none⟩ (.slice none 0 0)) (w.heap.size) 36 #[.int .i64 ck, .int .i64 wt, .int .i64 gn, .slice A ms.length m, .slice A' os.length m'] := (((((B3_bx.out).far (p := ⟨w.heap.size + 1 + 1, 0, none⟩) (by show w.heap.size ≠ w.heap.size + 1 + 1; omega) _).far (p := ⟨w.heap.size + 1 + 1, 1, none⟩) (by show w.heap.size ≠ w.heap.size + 1 + 1; omega) _).far (p := ⟨w.heap.size + 1 + 1, 2, none⟩) (by show w.heap.size ≠ w.heap.size + 1 + 1; omega) _).far (p := ⟨w.heap.size + 1 + 1, 3, none⟩) (by show w.heap.size ≠ w.heap.size + 1 + 1; omega) _).far (p := ⟨w.heap.size + 1 + 1, 4, none⟩) (by show w.heap.size ≠ w.heap.size + 1 + 1; omega) _
  have b_bnF : Blk (((((W3.setCell ⟨w.heap.size + 1 + 1, 0, none⟩ (.int .i64 0)).setCell ⟨w.heap.size + 1 + 1, 1, none⟩ (.int .i64 0)).setCell ⟨w.heap.size + 1 + 1, 2, none⟩ (.int .i64 0)).setCell ⟨w.heap.size + 1 + 1, 3, none⟩ (.slice none 0 0)).setCell ⟨w.heap.size + 1 + 1, 4, none⟩ (.slice none 0 0)) (w.heap.size + 1) 3 #[.int .i64 t] := (((((B3_bn.out).far (p := ⟨w.heap.size + 1 + 1, 0, none⟩) (by show w.heap.size + 1 ≠ w.heap.size + 1 + 1; omega) _).far (p := ⟨w.heap.size + 1 + 1, 1, none⟩) (by show w.heap.size + 1 ≠ w.heap.size + 1 + 1; omega) _).far (p := ⟨w.heap.size + 1 + 1, 2, none⟩) (by show w.heap.size + 1 ≠ w.heap.size + 1 + 1; omega) _).far (p := ⟨w.heap.size + 1 + 1, 3, none⟩) (by show w.heap.size + 1 ≠ w.heap.size + 1 + 1; omega) _).far (p := ⟨w.heap.size + 1 + 1, 4, none⟩) (by show w.heap.size + 1 ≠ w.heap.size + 1 + 1; omega) _
  have b_bzF : Blk (((((W3.setCell ⟨w.heap.size + 1 + 1, 0, none⟩ (.int .i64 0)).setCell ⟨w.heap.size + 1 + 1, 1, none⟩ (.int .i64 0)).setCell ⟨w.heap.size + 1 + 1, 2, none⟩ (.int .i64 0)).setCell ⟨w.heap.size + 1 + 1, 3, none⟩ (.slice none 0 0)).setCell ⟨w.heap.size + 1 + 1, 4, none⟩ (.slice none 0 0)) (w.heap.size + 1 + 1) 36 #[.int .i64 0, .int .i64 0, .int .i64 0, .slice none 0 0, .slice none 0 0] := (((((B3_bz.out).set_ 0 _).set_ 1 _).set_ 2 _).set_ 3 _).set_ 4 _
  have y0 := b_bzF.cell 0
  have y1 := b_bzF.cell 1
  have y2 := b_bzF.cell 2
  have y3 := b_bzF.cell 3
  have y4 := b_bzF.cell 4
  exact bodyPost_ret (v := .tuple #[.agg #[.int .i64 0, .int .i64 0, .int .i64 0, .slice none 0 0, .slice none 0 0], .int .i64 2]) (by simp [results, Try.results61, go_sem, y0, y1, y2, y3, y4]) rfl (GRes.zero hbF)
set_option maxRecDepth 100000 in
set_option maxHeartbeats 4000000 in
theorem ticked_same (v : Value) (g : GroupD) (t parts : Int) (hk : GroupOk g) (h1 : 0 ≤ t) (h2 : t ≤ 1000) (h3 : g.clock + t ≤ 1073741824) (hc : Counted g.gen parts) (hs : (stayM g t).length = g.mems.length) (w : World) (h : Gv w v g) (hnm : ∀ t ∈ g.mems, t.name.size ≤ 9223372036854775807) : Calls Try.prog 61 #[v, .int .i64 t, .int .i64 parts] w (GRes ⟨g.clock + t, g.wait, g.gen, g.mems, g.offs⟩ 0 w) := by
  obtain ⟨mv, ov, rfl, hx, hy, hl1, hl2⟩ := id h
  obtain ⟨A, m, rfl, -⟩ := hx.at_
  obtain ⟨A', m', rfl, -⟩ := hy.at_
  have H := Lib.hid h
  have HX := Lib.hid hx
  have HY := Lib.hid hy
  clear h hx hy
  unfold groupV at *
  obtain ⟨ck, wt, gn, ms, os⟩ := g
  simp only at *
  have HIN := Lib.hid (show inB t 0 1000 = true by simp [inB]; omega)
  have hck : 0 ≤ ck ∧ ck ≤ 1073741824 := hk.clock
  have hck0 := hck.1
  have hck1 := hck.2
  have hsum : ck + t ≤ 1073741824 := h3
  have t2 : decide (1073741824 < ck + t) = false := decide_eq_false (by omega)
  clear hck h3
  have HCT := Lib.hid hc
  have HGN := Lib.hid (show 0 ≤ gn ∧ gn ≤ 1073741824 from hk.gen)
  have HL6 := Lib.hid (show ms.length ≤ 6 from hk.many)
  have HST := Lib.hid hs
  have hwt : 1 ≤ wt ∧ wt ≤ 1000 := hk.wait
  have HWT := Lib.hid hwt
  have hhd : ∀ t' ∈ ms, 0 ≤ t'.heard ∧ t'.heard ≤ ck := fun t' ht => by
    obtain ⟨j, hj, rfl⟩ := List.mem_iff_getElem.1 ht
    exact (hk.all j hj hj).1.heard
  have HHD := Lib.hid hhd
  unfold stayM at *
  have hstl : (keptM (goneM (ck + t) wt) ms ms.length).length = ms.length := HST.out
  have hst2 : ¬ ((keptM (goneM (ck + t) wt) ms ms.length).length : Int) < (ms.length : Int) := by omega
  clear hc hs hwt hhd hstl
  have HK := Lib.hid hk
  have HNM := Lib.hid hnm
  clear hk hnm
  go_enter Try.func61, Try.ntmps61
  go_wp2_with fail
  have hb1 : Below w.heap.size w (((w.alloc (.cells #[.int .i64 ck, .int .i64 wt, .int .i64 gn, .slice A ms.length m, .slice A' os.length m'] 36)).alloc (.cells #[.int .i64 t] 3)).alloc (.cells #[.int .i64 0, .int .i64 0, .int .i64 0, .slice none 0 0, .slice none 0 0] 36)) := (((Below.refl _ _).alloc (by first | omega | (simp; done) | (simp; omega)) _).alloc (by first | omega | (simp; done) | (simp; omega)) _).alloc (by first | omega | (simp; done) | (simp; omega)) _
  have hal1 : Below w.heap.size w (((w.alloc (.cells #[.int .i64 ck, .int .i64 wt, .int .i64 gn, .slice A ms.length m, .slice A' os.length m'] 36)).alloc (.cells #[.int .i64 t] 3)).alloc (.cells #[.int .i64 0, .int .i64 0, .int .i64 0, .slice none 0 0, .slice none 0 0] 36)) := (((Below.refl _ _).alloc (by first | omega | (simp; done) | (simp; omega)) _).alloc (by first | omega | (simp; done) | (simp; omega)) _).alloc (by first | omega | (simp; done) | (simp; omega)) _
  have b_bx1 : Blk (((w.alloc (.cells #[.int .i64 ck, .int .i64 wt, .int .i64 gn, .slice A ms.length m, .slice A' os.length m'] 36)).alloc (.cells #[.int .i64 t] 3)).alloc (.cells #[.int .i64 0, .int .i64 0, .int .i64 0, .slice none 0 0, .slice none 0 0] 36)) (w.heap.size) 36 #[.int .i64 ck, .int .i64 wt, .int .i64 gn, .slice A ms.length m, .slice A' os.length m'] := ((Blk.new_ _ 36 #[.int .i64 ck, .int .i64 wt, .int .i64 gn, .slice A ms.length m, .slice A' os.length m'] (by first | rfl | (simp; done) | (simp; omega))).alloc _).alloc _
  have b_bn1 : Blk (((w.alloc (.cells #[.int .i64 ck, .int .i64 wt, .int .i64 gn, .slice A ms.length m, .slice A' os.length m'] 36)).alloc (.cells #[.int .i64 t] 3)).alloc (.cells #[.int .i64 0, .int .i64 0, .int .i64 0, .slice none 0 0, .slice none 0 0] 36)) (w.heap.size + 1) 3 #[.int .i64 t] := (Blk.new_ _ 3 #[.int .i64 t] (by first | rfl | (simp; done) | (simp; omega))).alloc _
  have b_bz1 : Blk (((w.alloc (.cells #[.int .i64 ck, .int .i64 wt, .int .i64 gn, .slice A ms.length m, .slice A' os.length m'] 36)).alloc (.cells #[.int .i64 t] 3)).alloc (.cells #[.int .i64 0, .int .i64 0, .int .i64 0, .slice none 0 0, .slice none 0 0] 36)) (w.heap.size + 1 + 1) 36 #[.int .i64 0, .int .i64 0, .int .i64 0, .slice none 0 0, .slice none 0 0] := Blk.new_ _ 36 #[.int .i64 0, .int .i64 0, .int .i64 0, .slice none 0 0, .slice none 0 0] (by first | rfl | (simp; done) | (simp; omega))
  have k_g1 := H.out.below hal1
  have hz1 : w.heap.size + 3 ≤ (((w.alloc (.cells #[.int .i64 ck, .int .i64 wt, .int .i64 gn, .slice A ms.length m, .slice A' os.length m'] 36)).alloc (.cells #[.int .i64 t] 3)).alloc (.cells #[.int .i64 0, .int .i64 0, .int .i64 0, .slice none 0 0, .slice none 0 0] 36)).heap.size := by first | omega | (simp; done) | (simp; omega)
  generalize ((w.alloc (.cells #[.int .i64 ck, .int .i64 wt, .int .i64 gn, .slice A ms.length m, .slice A' os.length m'] 36)).alloc (.cells #[.int .i64 t] 3)).alloc (.cells #[.int .i64 0, .int .i64 0, .int .i64 0, .slice none 0 0, .slice none 0 0] 36) = W1 at *
  have HB1 := Lib.hid hb1
  have B1_bx := Lib.hid b_bx1
  have B1_bn := Lib.hid b_bn1
  have B1_bz := Lib.hid b_bz1
  have K1_g := Lib.hid k_g1
  clear hb1 b_bx1 b_bn1 b_bz1 k_g1
  clear H
  have c_bx0 := B1_bx.out.cell 0
  have c_bx1 := B1_bx.out.cell 1
  have c_bx2 := B1_bx.out.cell 2
  have c_bx3 := B1_bx.out.cell 3
  have c_bx4 := B1_bx.out.cell 4
  have l_bx := B1_bx.out.lt
  have c_bn0 := B1_bn.out.cell 0
  have l_bn := B1_bn.out.lt
  go_wp2_with fail
  clear c_bx0 c_bx1 c_bx2 c_bx3 c_bx4 l_bx c_bn0 l_bn
  refine (group_may_any _ ⟨ck, wt, gn, ms, os⟩ _ K1_g.out HNM.out).mono ?_
  rintro e W2 hT
  obtain ⟨rfl, hb⟩ := hT.yes HK.out
  clear hT
  have hb2 : Below w.heap.size w W2 := below_then HB1.out hb
  have b_bx2 := B1_bx.out.below hb B1_bx.out.lt
  have b_bn2 := B1_bn.out.below hb B1_bn.out.lt
  have b_bz2 := B1_bz.out.below hb B1_bz.out.lt
  have k_g2 := K1_g.out.below hb
  have hz2 := hb.size
  have HB2 := Lib.hid hb2
  have B2_bx := Lib.hid b_bx2
  have B2_bn := Lib.hid b_bn2
  have B2_bz := Lib.hid b_bz2
  have K2_g := Lib.hid k_g2
  clear hb2 b_bx2 b_bn2 b_bz2 k_g2
  clear B1_bx B1_bn B1_bz HB1 K1_g
  have c_bx0 := B2_bx.out.cell 0
  have c_bx1 := B2_bx.out.cell 1
  have c_bx2 := B2_bx.out.cell 2
  have c_bx3 := B2_bx.out.cell 3
  have c_bx4 := B2_bx.out.cell 4
  have l_bx := B2_bx.out.lt
  have c_bn0 := B2_bn.out.cell 0
  have l_bn := B2_bn.out.lt
  go_wp2_with (go_at_call 64; refine (In_any _ _ _ _).mono ?_; rintro e wi ⟨rfl, rfl⟩; rw [HIN.out])
  clear c_bx0 c_bx1 c_bx2 c_bx3 c_bx4 l_bx c_bn0 l_bn
  refine (partsMay_any ck wt gn parts _ _ _ _ _ _ _).mono ?_
  rintro e W3 hT
  obtain ⟨rfl, hb⟩ := hT.yes HCT.out
  clear hT
  have hb3 : Below w.heap.size w W3 := below_then HB2.out hb
  have b_bx3 := B2_bx.out.below hb B2_bx.out.lt
  have b_bn3 := B2_bn.out.below hb B2_bn.out.lt
  have b_bz3 := B2_bz.out.below hb B2_bz.out.lt
  have k_g3 := K2_g.out.below hb
  have hz3 := hb.size
  have HB3 := Lib.hid hb3
  have B3_bx := Lib.hid b_bx3
  have B3_bn := Lib.hid b_bn3
  have B3_bz := Lib.hid b_bz3
  have K3_g := Lib.hid k_g3
  clear hb3 b_bx3 b_bn3 b_bz3 k_g3
  clear B2_bx B2_bn B2_bz HB2 K2_g
  have c_bx0 := B3_bx.out.cell 0
  have c_bx1 := B3_bx.out.cell 1
  have c_bx2 := B3_bx.out.cell 2
  have c_bx3 := B3_bx.out.cell 3
  have c_bx4 := B3_bx.out.cell 4
  have l_bx := B3_bx.out.lt
  have c_bn0 := B3_bn.out.cell 0
  have l_bn := B3_bn.out.lt
  go_wp2_with fail
  clear c_bx0 c_bx1 c_bx2 c_bx3 c_bx4 l_bx c_bn0 l_bn
  refine (without_any _ ⟨ck, wt, gn, ms, os⟩ (goneM (ck + t) wt) 106 #[.pointer (some ⟨w.heap.size, 0, none⟩), .pointer (some ⟨w.heap.size + 1, 0, none⟩)] W3 K3_g.out HK.out (enters_of Try.func106 (by kernel_rfl) rfl) (fun t' ht' A n c W' hW => ticked_at _ _ ck wt t A n c w.heap.size (w.heap.size + 1) W' (B3_bx.out.below hW B3_bx.out.lt).lt (B3_bn.out.below hW B3_bn.out.lt).lt ((B3_bx.out.below hW B3_bx.out.lt).cell 0) ((B3_bx.out.below hW B3_bx.out.lt).cell 1) ((B3_bn.out.below hW B3_bn.out.lt).cell 0) (by have := HHD.out t' ht'; omega) (by omega) (by have := HWT.out; omega) (by omega))).mono ?_
  rintro e W4 ⟨mv9, ov9, rows9, rfl, hown9, hoff9, hb⟩
  simp only at hown9 hoff9
  have hown9 := hown9.rebase (w0 := w) rfl (Nat.le_refl _) (HB3.out.trans (hb.mono HB3.out.size))
  have hown9 := hown9
  obtain ⟨B9, d9, rfl, -⟩ := (Sl.of_own hoff9).form
  obtain ⟨A9, c9, rfl, -⟩ := (Sl.of_own hown9.own).form
  have HOWN9 := Lib.hid hown9
  have HOFF9 := Lib.hid (show OwnO W4 W3.heap.size (.slice B9 os.length d9) os from hoff9)
  clear hown9 hoff9
  unfold groupV
  simp only
  have hb4 : Below w.heap.size w W4 := below_then HB3.out hb
  have b_bx4 := B3_bx.out.below hb B3_bx.out.lt
  have b_bn4 := B3_bn.out.below hb B3_bn.out.lt
  have b_bz4 := B3_bz.out.below hb B3_bz.out.lt
  have k_g4 := K3_g.out.below hb
  have hz4 := hb.size
  have HB4 := Lib.hid hb4
  have B4_bx := Lib.hid b_bx4
  have B4_bn := Lib.hid b_bn4
  have B4_bz := Lib.hid b_bz4
  have K4_g := Lib.hid k_g4
  clear hb4 b_bx4 b_bn4 b_bz4 k_g4
  clear B3_bx B3_bn B3_bz HB3 K3_g
  clear hb
  have c_bx0 := B4_bx.out.cell 0
  have c_bx1 := B4_bx.out.cell 1
  have c_bx2 := B4_bx.out.cell 2
  have c_bx3 := B4_bx.out.cell 3
  have c_bx4 := B4_bx.out.cell 4
  have l_bx := B4_bx.out.lt
  have c_bn0 := B4_bn.out.cell 0
  have l_bn := B4_bn.out.lt
  go_upto_region 7 with fail
  clear c_bx0 c_bx1 c_bx2 c_bx3 c_bx4 l_bx c_bn0 l_bn
  have hsz5 := HB4.out.size
  have hb5 : Below w.heap.size w (W4.alloc (.cells #[.int .i64 (ck + t), .int .i64 wt, .int .i64 gn, .slice A9 (keptM (goneM (ck + t) wt) ms ms.length).length c9, .slice B9 os.length d9] 36)) := (HB4.out).alloc (by first | omega | (simp; done) | (simp; omega)) _
  have hal5 : Below W4.heap.size W4 (W4.alloc (.cells #[.int .i64 (ck + t), .int .i64 wt, .int .i64 gn, .slice A9 (keptM (goneM (ck + t) wt) ms ms.length).length c9, .slice B9 os.length d9] 36)) := (Below.refl _ _).alloc (by first | omega | (simp; done) | (simp; omega)) _
  have b_bx5 : Blk (W4.alloc (.cells #[.int .i64 (ck + t), .int .i64 wt, .int .i64 gn, .slice A9 (keptM (goneM (ck + t) wt) ms ms.length).length c9, .slice B9 os.length d9] 36)) (w.heap.size) 36 #[.int .i64 ck, .int .i64 wt, .int .i64 gn, .slice A ms.length m, .slice A' os.length m'] := (B4_bx.out).alloc _
  have b_bn5 : Blk (W4.alloc (.cells #[.int .i64 (ck + t), .int .i64 wt, .int .i64 gn, .slice A9 (keptM (goneM (ck + t) wt) ms ms.length).length c9, .slice B9 os.length d9] 36)) (w.heap.size + 1) 3 #[.int .i64 t] := (B4_bn.out).alloc _
  have b_bz5 : Blk (W4.alloc (.cells #[.int .i64 (ck + t), .int .i64 wt, .int .i64 gn, .slice A9 (keptM (goneM (ck + t) wt) ms ms.length).length c9, .slice B9 os.length d9] 36)) (w.heap.size + 1 + 1) 36 #[.int .i64 0, .int .i64 0, .int .i64 0, .slice none 0 0, .slice none 0 0] := (B4_bz.out).alloc _
  have b_bo5 : Blk (W4.alloc (.cells #[.int .i64 (ck + t), .int .i64 wt, .int .i64 gn, .slice A9 (keptM (goneM (ck + t) wt) ms ms.length).length c9, .slice B9 os.length d9] 36)) (W4.heap.size) 36 #[.int .i64 (ck + t), .int .i64 wt, .int .i64 gn, .slice A9 (keptM (goneM (ck + t) wt) ms ms.length).length c9, .slice B9 os.length d9] := Blk.new_ _ 36 #[.int .i64 (ck + t), .int .i64 wt, .int .i64 gn, .slice A9 (keptM (goneM (ck + t) wt) ms ms.length).length c9, .slice B9 os.length d9] (by first | rfl | (simp; done) | (simp; omega))
  have k_g5 := K4_g.out.below hal5
  have k_own5 := (HOWN9.out).alloc (.cells #[.int .i64 (ck + t), .int .i64 wt, .int .i64 gn, .slice A9 (keptM (goneM (ck + t) wt) ms ms.length).length c9, .slice B9 os.length d9] 36)
  have k_off5 := (HOFF9.out).alloc (.cells #[.int .i64 (ck + t), .int .i64 wt, .int .i64 gn, .slice A9 (keptM (goneM (ck + t) wt) ms ms.length).length c9, .slice B9 os.length d9] 36)
  have hz5 : W4.heap.size + 1 ≤ (W4.alloc (.cells #[.int .i64 (ck + t), .int .i64 wt, .int .i64 gn, .slice A9 (keptM (goneM (ck + t) wt) ms ms.length).length c9, .slice B9 os.length d9] 36)).heap.size := by first | omega | (simp; done) | (simp; omega)
  generalize W4.alloc (.cells #[.int .i64 (ck + t), .int .i64 wt, .int .i64 gn, .slice A9 (keptM (goneM (ck + t) wt) ms ms.length).length c9, .slice B9 os.length d9] 36) = W5 at *
  have HB5 := Lib.hid hb5
  have B5_bx := Lib.hid b_bx5
  have B5_bn := Lib.hid b_bn5
  have B5_bz := Lib.hid b_bz5
  have B5_bo := Lib.hid b_bo5
  have K5_g := Lib.hid k_g5
  have K5_own := Lib.hid k_own5
  have K5_off := Lib.hid k_off5
  clear hb5 b_bx5 b_bn5 b_bz5 b_bo5 k_g5 k_own5 k_off5
  clear B4_bx B4_bn B4_bz HB4 K4_g HOWN9 HOFF9
  obtain ⟨gb, hgb⟩ : ∃ gb, gb = W4.heap.size := ⟨_, rfl⟩
  have hgb1 : w.heap.size + 3 ≤ gb := by have := HB5.out.size; omega
  rw [← hgb] at B5_bo
  have HGB := Lib.hid hgb
  have c_bx0 := B5_bx.out.cell 0
  have c_bx1 := B5_bx.out.cell 1
  have c_bx2 := B5_bx.out.cell 2
  have c_bx3 := B5_bx.out.cell 3
  have c_bx4 := B5_bx.out.cell 4
  have l_bx := B5_bx.out.lt
  have c_bn0 := B5_bn.out.cell 0
  have l_bn := B5_bn.out.lt
  have c_bo0 := B5_bo.out.cell 0
  have c_bo1 := B5_bo.out.cell 1
  have c_bo2 := B5_bo.out.cell 2
  have c_bo3 := B5_bo.out.cell 3
  have c_bo4 := B5_bo.out.cell 4
  have l_bo := B5_bo.out.lt
  have hall := stayM_all (g := ⟨ck, wt, gn, ms, os⟩) (t := t) HST.out
  unfold stayM at hall
  (try simp only at hall)
  have HALL := Lib.hid hall
  clear hall
  have c_bz0 := B5_bz.out.cell 0
  have f_bz0 := B5_bz.out.frozen 0
  have c_bz1 := B5_bz.out.cell 1
  have f_bz1 := B5_bz.out.frozen 1
  have c_bz2 := B5_bz.out.cell 2
  have f_bz2 := B5_bz.out.frozen 2
  have c_bz3 := B5_bz.out.cell 3
  have f_bz3 := B5_bz.out.frozen 3
  have c_bz4 := B5_bz.out.cell 4
  have f_bz4 := B5_bz.out.frozen 4
  have l_bz := B5_bz.out.lt
  rw [← hgb]
  clear hgb
  go_wp2_with fail
  clear c_bx0 c_bx1 c_bx2 c_bx3 c_bx4 l_bx c_bn0 l_bn c_bo0 c_bo1 c_bo2 c_bo3 c_bo4 l_bo c_bz0 f_bz0 c_bz1 f_bz1 c_bz2 f_bz2 c_bz3 f_bz3 c_bz4 f_bz4 l_bz
  have hszF := HB5.out.size
  have hbF : Below w.heap.size w (((((W5.setCell ⟨w.heap.size + 1 + 1, 0, none⟩ (.int .i64 (ck + t))).setCell ⟨w.heap.size + 1 + 1, 1, none⟩ (.int .i64 wt)).setCell ⟨w.heap.size + 1 + 1, 2, none⟩ (.int .i64 gn)).setCell ⟨w.heap.size + 1 + 1, 3, none⟩ (.slice A9 (keptM (goneM (ck + t) wt) ms ms.length).length c9)).setCell ⟨w.heap.size + 1 + 1, 4, none⟩ (.slice B9 os.length d9)) := (((((HB5.out).setCell (by show w.heap.size ≤ w.heap.size + 1 + 1; omega) _).setCell (by show w.heap.size ≤ w.heap.size + 1 + 1; omega) _).setCell (by show w.heap.size ≤ w.heap.size + 1 + 1; omega) _).setCell (by show w.heap.size ≤ w.heap.size + 1 + 1; omega) _).setCell (by show w.heap.size ≤ w.heap.size + 1 + 1; omega) _
  have b_bxF : Blk (((((W5.setCell ⟨w.heap.size + 1 + 1, 0, none⟩ (.int .i64 (ck + t))).setCell ⟨w.heap.size + 1 + 1, 1, none⟩ (.int .i64 wt)).setCell ⟨w.heap.size + 1 + 1, 2, none⟩ (.int .i64 gn)).setCell ⟨w.heap.size + 1 + 1, 3, none⟩ (.slice A9 (keptM (goneM (ck + t) wt) ms ms.length).length c9)).setCell ⟨w.heap.size + 1 + 1, 4, none⟩ (.slice B9 os.length d9)) (w.heap.size) 36 #[.int .i64 ck, .int .i64 wt, .int .i64 gn, .slice A ms.length m, .slice A' os.length m'] := (((((B5_bx.out).far (p := ⟨w.heap.size + 1 + 1, 0, none⟩) (by show w.heap.size ≠ w.heap.size + 1 + 1; omega) _).far (p := ⟨w.heap.size + 1 + 1, 1, none⟩) (by show w.heap.size ≠ w.heap.size + 1 + 1; omega) _).far (p := ⟨w.heap.size + 1 + 1, 2, none⟩) (by show w.heap.size ≠ w.heap.size + 1 + 1; omega) _).far (p := ⟨w.heap.size + 1 + 1, 3, none⟩) (by show w.heap.size ≠ w.heap.size + 1 + 1; omega) _).far (p := ⟨w.heap.size + 1 + 1, 4, none⟩) (by show w.heap.size ≠ w.heap.size + 1 + 1; omega) _
  have b_bnF : Blk (((((W5.setCell ⟨w.heap.size + 1 + 1, 0, none⟩ (.int .i64 (ck + t))).setCell ⟨w.heap.size + 1 + 1, 1, none⟩ (.int .i64 wt)).setCell ⟨w.heap.size + 1 + 1, 2, none⟩ (.int .i64 gn)).setCell ⟨w.heap.size + 1 + 1, 3, none⟩ (.slice A9 (keptM (goneM (ck + t) wt) ms ms.length).length c9)).setCell ⟨w.heap.size + 1 + 1, 4, none⟩ (.slice B9 os.length d9)) (w.heap.size + 1) 3 #[.int .i64 t] := (((((B5_bn.out).far (p := ⟨w.heap.size + 1 + 1, 0, none⟩) (by show w.heap.size + 1 ≠ w.heap.size + 1 + 1; omega) _).far (p := ⟨w.heap.size + 1 + 1, 1, none⟩) (by show w.heap.size + 1 ≠ w.heap.size + 1 + 1; omega) _).far (p := ⟨w.heap.size + 1 + 1, 2, none⟩) (by show w.heap.size + 1 ≠ w.heap.size + 1 + 1; omega) _).far (p := ⟨w.heap.size + 1 + 1, 3, none⟩) (by show w.heap.size + 1 ≠ w.heap.size + 1 + 1; omega) _).far (p := ⟨w.heap.size + 1 + 1, 4, none⟩) (by show w.heap.size + 1 ≠ w.heap.size + 1 + 1; omega) _
  have b_bzF : Blk (((((W5.setCell ⟨w.heap.size + 1 + 1, 0, none⟩ (.int .i64 (ck + t))).setCell ⟨w.heap.size + 1 + 1, 1, none⟩ (.int .i64 wt)).setCell ⟨w.heap.size + 1 + 1, 2, none⟩ (.int .i64 gn)).setCell ⟨w.heap.size + 1 + 1, 3, none⟩ (.slice A9 (keptM (goneM (ck + t) wt) ms ms.length).length c9)).setCell ⟨w.heap.size + 1 + 1, 4, none⟩ (.slice B9 os.length d9)) (w.heap.size + 1 + 1) 36 #[.int .i64 (ck + t), .int .i64 wt, .int .i64 gn, .slice A9 (keptM (goneM (ck + t) wt) ms ms.length).length c9, .slice B9 os.length d9] := (((((B5_bz.out).set_ 0 _).set_ 1 _).set_ 2 _).set_ 3 _).set_ 4 _
  have b_boF : Blk (((((W5.setCell ⟨w.heap.size + 1 + 1, 0, none⟩ (.int .i64 (ck + t))).setCell ⟨w.heap.size + 1 + 1, 1, none⟩ (.int .i64 wt)).setCell ⟨w.heap.size + 1 + 1, 2, none⟩ (.int .i64 gn)).setCell ⟨w.heap.size + 1 + 1, 3, none⟩ (.slice A9 (keptM (goneM (ck + t) wt) ms ms.length).length c9)).setCell ⟨w.heap.size + 1 + 1, 4, none⟩ (.slice B9 os.length d9)) (gb) 36 #[.int .i64 (ck + t), .int .i64 wt, .int .i64 gn, .slice A9 (keptM (goneM (ck + t) wt) ms ms.length).length c9, .slice B9 os.length d9] := (((((B5_bo.out).far (p := ⟨w.heap.size + 1 + 1, 0, none⟩) (by show gb ≠ w.heap.size + 1 + 1; omega) _).far (p := ⟨w.heap.size + 1 + 1, 1, none⟩) (by show gb ≠ w.heap.size + 1 + 1; omega) _).far (p := ⟨w.heap.size + 1 + 1, 2, none⟩) (by show gb ≠ w.heap.size + 1 + 1; omega) _).far (p := ⟨w.heap.size + 1 + 1, 3, none⟩) (by show gb ≠ w.heap.size + 1 + 1; omega) _).far (p := ⟨w.heap.size + 1 + 1, 4, none⟩) (by show gb ≠ w.heap.size + 1 + 1; omega) _
  have hoF := (((((K5_own.out).farBlk B5_bz.out (by omega) 0 (.int .i64 (ck + t))).farBlk (B5_bz.out.set_ 0 (.int .i64 (ck + t))) (by omega) 1 (.int .i64 wt)).farBlk ((B5_bz.out.set_ 0 (.int .i64 (ck + t))).set_ 1 (.int .i64 wt)) (by omega) 2 (.int .i64 gn)).farBlk (((B5_bz.out.set_ 0 (.int .i64 (ck + t))).set_ 1 (.int .i64 wt)).set_ 2 (.int .i64 gn)) (by omega) 3 (.slice A9 (keptM (goneM (ck + t) wt) ms ms.length).length c9)).farBlk ((((B5_bz.out.set_ 0 (.int .i64 (ck + t))).set_ 1 (.int .i64 wt)).set_ 2 (.int .i64 gn)).set_ 3 (.slice A9 (keptM (goneM (ck + t) wt) ms ms.length).length c9)) (by omega) 4 (.slice B9 os.length d9)
  have hfF : OwnO (((((W5.setCell ⟨w.heap.size + 1 + 1, 0, none⟩ (.int .i64 (ck + t))).setCell ⟨w.heap.size + 1 + 1, 1, none⟩ (.int .i64 wt)).setCell ⟨w.heap.size + 1 + 1, 2, none⟩ (.int .i64 gn)).setCell ⟨w.heap.size + 1 + 1, 3, none⟩ (.slice A9 (keptM (goneM (ck + t) wt) ms ms.length).length c9)).setCell ⟨w.heap.size + 1 + 1, 4, none⟩ (.slice B9 os.length d9)) W3.heap.size (.slice B9 os.length d9) os := own_far (own_far (own_far (own_far (own_far (K5_off.out) B5_bz.out (by decide) 0 (.int .i64 (ck + t))) (B5_bz.out.set_ 0 (.int .i64 (ck + t))) (by decide) 1 (.int .i64 wt)) ((B5_bz.out.set_ 0 (.int .i64 (ck + t))).set_ 1 (.int .i64 wt)) (by decide) 2 (.int .i64 gn)) (((B5_bz.out.set_ 0 (.int .i64 (ck + t))).set_ 1 (.int .i64 wt)).set_ 2 (.int .i64 gn)) (by decide) 3 (.slice A9 (keptM (goneM (ck + t) wt) ms ms.length).length c9)) ((((B5_bz.out.set_ 0 (.int .i64 (ck + t))).set_ 1 (.int .i64 wt)).set_ 2 (.int .i64 gn)).set_ 3 (.slice A9 (keptM (goneM (ck + t) wt) ms ms.length).length c9)) (by decide) 4 (.slice B9 os.length d9)
  have hoF2 := hoF.rebase (by rfl) (show w.heap.size ≤ W3.heap.size by omega) hbF
  have hall := HALL.out
  have y0 := b_bzF.cell 0
  have y1 := b_bzF.cell 1
  have y2 := b_bzF.cell 2
  have y3 := b_bzF.cell 3
  have y4 := b_bzF.cell 4
  refine bodyPost_ret (v := .tuple #[.agg #[.int .i64 (ck + t), .int .i64 wt, .int .i64 gn, .slice A9 (keptM (goneM (ck + t) wt) ms ms.length).length c9, .slice B9 os.length d9], .int .i64 0]) ?_ ?_ (⟨.slice A9 (keptM (goneM (ck + t) wt) ms ms.length).length c9, .slice B9 os.length d9, rows9, rfl, by rw [hall] at hoF2 ⊢; exact hoF2, own_base hfF (by omega), hbF⟩)
  · simp [results, Try.results61, go_sem, y0, y1, y2, y3, y4]
  · rfl
set_option maxRecDepth 100000 in
set_option maxHeartbeats 4000000 in
theorem ticked_less (v : Value) (g : GroupD) (t parts : Int) (hk : GroupOk g) (h1 : 0 ≤ t) (h2 : t ≤ 1000) (h3 : g.clock + t ≤ 1073741824) (hc : Counted g.gen parts) (hs : (stayM g t).length < g.mems.length) (w : World) (h : Gv w v g) (hnm : ∀ t ∈ g.mems, t.name.size ≤ 9223372036854775807) : Calls Try.prog 61 #[v, .int .i64 t, .int .i64 parts] w (GRes ⟨g.clock + t, g.wait, g.gen + 1, asgM (stayM g t) parts.toNat, g.offs⟩ 0 w) := by
  obtain ⟨mv, ov, rfl, hx, hy, hl1, hl2⟩ := id h
  obtain ⟨A, m, rfl, -⟩ := hx.at_
  obtain ⟨A', m', rfl, -⟩ := hy.at_
  have H := Lib.hid h
  have HX := Lib.hid hx
  have HY := Lib.hid hy
  clear h hx hy
  unfold groupV at *
  obtain ⟨ck, wt, gn, ms, os⟩ := g
  simp only at *
  have HIN := Lib.hid (show inB t 0 1000 = true by simp [inB]; omega)
  have hck : 0 ≤ ck ∧ ck ≤ 1073741824 := hk.clock
  have hck0 := hck.1
  have hck1 := hck.2
  have hsum : ck + t ≤ 1073741824 := h3
  have t2 : decide (1073741824 < ck + t) = false := decide_eq_false (by omega)
  clear hck h3
  have HCT := Lib.hid hc
  have HGN := Lib.hid (show 0 ≤ gn ∧ gn ≤ 1073741824 from hk.gen)
  have HL6 := Lib.hid (show ms.length ≤ 6 from hk.many)
  have HST := Lib.hid hs
  have hwt : 1 ≤ wt ∧ wt ≤ 1000 := hk.wait
  have HWT := Lib.hid hwt
  have hhd : ∀ t' ∈ ms, 0 ≤ t'.heard ∧ t'.heard ≤ ck := fun t' ht => by
    obtain ⟨j, hj, rfl⟩ := List.mem_iff_getElem.1 ht
    exact (hk.all j hj hj).1.heard
  have HHD := Lib.hid hhd
  unfold stayM at *
  have hstl : (keptM (goneM (ck + t) wt) ms ms.length).length < ms.length := HST.out
  have hst2 : ((keptM (goneM (ck + t) wt) ms ms.length).length : Int) < (ms.length : Int) := by omega
  clear hc hs hwt hhd hstl
  have HK := Lib.hid hk
  have HNM := Lib.hid hnm
  clear hk hnm
  go_enter Try.func61, Try.ntmps61
  go_wp2_with fail
  have hb1 : Below w.heap.size w (((w.alloc (.cells #[.int .i64 ck, .int .i64 wt, .int .i64 gn, .slice A ms.length m, .slice A' os.length m'] 36)).alloc (.cells #[.int .i64 t] 3)).alloc (.cells #[.int .i64 0, .int .i64 0, .int .i64 0, .slice none 0 0, .slice none 0 0] 36)) := (((Below.refl _ _).alloc (by first | omega | (simp; done) | (simp; omega)) _).alloc (by first | omega | (simp; done) | (simp; omega)) _).alloc (by first | omega | (simp; done) | (simp; omega)) _
  have hal1 : Below w.heap.size w (((w.alloc (.cells #[.int .i64 ck, .int .i64 wt, .int .i64 gn, .slice A ms.length m, .slice A' os.length m'] 36)).alloc (.cells #[.int .i64 t] 3)).alloc (.cells #[.int .i64 0, .int .i64 0, .int .i64 0, .slice none 0 0, .slice none 0 0] 36)) := (((Below.refl _ _).alloc (by first | omega | (simp; done) | (simp; omega)) _).alloc (by first | omega | (simp; done) | (simp; omega)) _).alloc (by first | omega | (simp; done) | (simp; omega)) _
  have b_bx1 : Blk (((w.alloc (.cells #[.int .i64 ck, .int .i64 wt, .int .i64 gn, .slice A ms.length m, .slice A' os.length m'] 36)).alloc (.cells #[.int .i64 t] 3)).alloc (.cells #[.int .i64 0, .int .i64 0, .int .i64 0, .slice none 0 0, .slice none 0 0] 36)) (w.heap.size) 36 #[.int .i64 ck, .int .i64 wt, .int .i64 gn, .slice A ms.length m, .slice A' os.length m'] := ((Blk.new_ _ 36 #[.int .i64 ck, .int .i64 wt, .int .i64 gn, .slice A ms.length m, .slice A' os.length m'] (by first | rfl | (simp; done) | (simp; omega))).alloc _).alloc _
  have b_bn1 : Blk (((w.alloc (.cells #[.int .i64 ck, .int .i64 wt, .int .i64 gn, .slice A ms.length m, .slice A' os.length m'] 36)).alloc (.cells #[.int .i64 t] 3)).alloc (.cells #[.int .i64 0, .int .i64 0, .int .i64 0, .slice none 0 0, .slice none 0 0] 36)) (w.heap.size + 1) 3 #[.int .i64 t] := (Blk.new_ _ 3 #[.int .i64 t] (by first | rfl | (simp; done) | (simp; omega))).alloc _
  have b_bz1 : Blk (((w.alloc (.cells #[.int .i64 ck, .int .i64 wt, .int .i64 gn, .slice A ms.length m, .slice A' os.length m'] 36)).alloc (.cells #[.int .i64 t] 3)).alloc (.cells #[.int .i64 0, .int .i64 0, .int .i64 0, .slice none 0 0, .slice none 0 0] 36)) (w.heap.size + 1 + 1) 36 #[.int .i64 0, .int .i64 0, .int .i64 0, .slice none 0 0, .slice none 0 0] := Blk.new_ _ 36 #[.int .i64 0, .int .i64 0, .int .i64 0, .slice none 0 0, .slice none 0 0] (by first | rfl | (simp; done) | (simp; omega))
  have k_g1 := H.out.below hal1
  have hz1 : w.heap.size + 3 ≤ (((w.alloc (.cells #[.int .i64 ck, .int .i64 wt, .int .i64 gn, .slice A ms.length m, .slice A' os.length m'] 36)).alloc (.cells #[.int .i64 t] 3)).alloc (.cells #[.int .i64 0, .int .i64 0, .int .i64 0, .slice none 0 0, .slice none 0 0] 36)).heap.size := by first | omega | (simp; done) | (simp; omega)
  generalize ((w.alloc (.cells #[.int .i64 ck, .int .i64 wt, .int .i64 gn, .slice A ms.length m, .slice A' os.length m'] 36)).alloc (.cells #[.int .i64 t] 3)).alloc (.cells #[.int .i64 0, .int .i64 0, .int .i64 0, .slice none 0 0, .slice none 0 0] 36) = W1 at *
  have HB1 := Lib.hid hb1
  have B1_bx := Lib.hid b_bx1
  have B1_bn := Lib.hid b_bn1
  have B1_bz := Lib.hid b_bz1
  have K1_g := Lib.hid k_g1
  clear hb1 b_bx1 b_bn1 b_bz1 k_g1
  clear H
  have c_bx0 := B1_bx.out.cell 0
  have c_bx1 := B1_bx.out.cell 1
  have c_bx2 := B1_bx.out.cell 2
  have c_bx3 := B1_bx.out.cell 3
  have c_bx4 := B1_bx.out.cell 4
  have l_bx := B1_bx.out.lt
  have c_bn0 := B1_bn.out.cell 0
  have l_bn := B1_bn.out.lt
  go_wp2_with fail
  clear c_bx0 c_bx1 c_bx2 c_bx3 c_bx4 l_bx c_bn0 l_bn
  refine (group_may_any _ ⟨ck, wt, gn, ms, os⟩ _ K1_g.out HNM.out).mono ?_
  rintro e W2 hT
  obtain ⟨rfl, hb⟩ := hT.yes HK.out
  clear hT
  have hb2 : Below w.heap.size w W2 := below_then HB1.out hb
  have b_bx2 := B1_bx.out.below hb B1_bx.out.lt
  have b_bn2 := B1_bn.out.below hb B1_bn.out.lt
  have b_bz2 := B1_bz.out.below hb B1_bz.out.lt
  have k_g2 := K1_g.out.below hb
  have hz2 := hb.size
  have HB2 := Lib.hid hb2
  have B2_bx := Lib.hid b_bx2
  have B2_bn := Lib.hid b_bn2
  have B2_bz := Lib.hid b_bz2
  have K2_g := Lib.hid k_g2
  clear hb2 b_bx2 b_bn2 b_bz2 k_g2
  clear B1_bx B1_bn B1_bz HB1 K1_g
  have c_bx0 := B2_bx.out.cell 0
  have c_bx1 := B2_bx.out.cell 1
  have c_bx2 := B2_bx.out.cell 2
  have c_bx3 := B2_bx.out.cell 3
  have c_bx4 := B2_bx.out.cell 4
  have l_bx := B2_bx.out.lt
  have c_bn0 := B2_bn.out.cell 0
  have l_bn := B2_bn.out.lt
  go_wp2_with (go_at_call 64; refine (In_any _ _ _ _).mono ?_; rintro e wi ⟨rfl, rfl⟩; rw [HIN.out])
  clear c_bx0 c_bx1 c_bx2 c_bx3 c_bx4 l_bx c_bn0 l_bn
  refine (partsMay_any ck wt gn parts _ _ _ _ _ _ _).mono ?_
  rintro e W3 hT
  obtain ⟨rfl, hb⟩ := hT.yes HCT.out
  clear hT
  have hb3 : Below w.heap.size w W3 := below_then HB2.out hb
  have b_bx3 := B2_bx.out.below hb B2_bx.out.lt
  have b_bn3 := B2_bn.out.below hb B2_bn.out.lt
  have b_bz3 := B2_bz.out.below hb B2_bz.out.lt
  have k_g3 := K2_g.out.below hb
  have hz3 := hb.size
  have HB3 := Lib.hid hb3
  have B3_bx := Lib.hid b_bx3
  have B3_bn := Lib.hid b_bn3
  have B3_bz := Lib.hid b_bz3
  have K3_g := Lib.hid k_g3
  clear hb3 b_bx3 b_bn3 b_bz3 k_g3
  clear B2_bx B2_bn B2_bz HB2 K2_g
  have c_bx0 := B3_bx.out.cell 0
  have c_bx1 := B3_bx.out.cell 1
  have c_bx2 := B3_bx.out.cell 2
  have c_bx3 := B3_bx.out.cell 3
  have c_bx4 := B3_bx.out.cell 4
  have l_bx := B3_bx.out.lt
  have c_bn0 := B3_bn.out.cell 0
  have l_bn := B3_bn.out.lt
  go_wp2_with fail
  clear c_bx0 c_bx1 c_bx2 c_bx3 c_bx4 l_bx c_bn0 l_bn
  refine (without_any _ ⟨ck, wt, gn, ms, os⟩ (goneM (ck + t) wt) 106 #[.pointer (some ⟨w.heap.size, 0, none⟩), .pointer (some ⟨w.heap.size + 1, 0, none⟩)] W3 K3_g.out HK.out (enters_of Try.func106 (by kernel_rfl) rfl) (fun t' ht' A n c W' hW => ticked_at _ _ ck wt t A n c w.heap.size (w.heap.size + 1) W' (B3_bx.out.below hW B3_bx.out.lt).lt (B3_bn.out.below hW B3_bn.out.lt).lt ((B3_bx.out.below hW B3_bx.out.lt).cell 0) ((B3_bx.out.below hW B3_bx.out.lt).cell 1) ((B3_bn.out.below hW B3_bn.out.lt).cell 0) (by have := HHD.out t' ht'; omega) (by omega) (by have := HWT.out; omega) (by omega))).mono ?_
  rintro e W4 ⟨mv9, ov9, rows9, rfl, hown9, hoff9, hb⟩
  simp only at hown9 hoff9
  have hown9 := hown9.rebase (w0 := w) rfl (Nat.le_refl _) (HB3.out.trans (hb.mono HB3.out.size))
  have hown9 := hown9
  obtain ⟨B9, d9, rfl, -⟩ := (Sl.of_own hoff9).form
  obtain ⟨A9, c9, rfl, -⟩ := (Sl.of_own hown9.own).form
  have HOWN9 := Lib.hid hown9
  have HOFF9 := Lib.hid (show OwnO W4 W3.heap.size (.slice B9 os.length d9) os from hoff9)
  clear hown9 hoff9
  unfold groupV
  simp only
  have hb4 : Below w.heap.size w W4 := below_then HB3.out hb
  have b_bx4 := B3_bx.out.below hb B3_bx.out.lt
  have b_bn4 := B3_bn.out.below hb B3_bn.out.lt
  have b_bz4 := B3_bz.out.below hb B3_bz.out.lt
  have k_g4 := K3_g.out.below hb
  have hz4 := hb.size
  have HB4 := Lib.hid hb4
  have B4_bx := Lib.hid b_bx4
  have B4_bn := Lib.hid b_bn4
  have B4_bz := Lib.hid b_bz4
  have K4_g := Lib.hid k_g4
  clear hb4 b_bx4 b_bn4 b_bz4 k_g4
  clear B3_bx B3_bn B3_bz HB3 K3_g
  clear hb
  have c_bx0 := B4_bx.out.cell 0
  have c_bx1 := B4_bx.out.cell 1
  have c_bx2 := B4_bx.out.cell 2
  have c_bx3 := B4_bx.out.cell 3
  have c_bx4 := B4_bx.out.cell 4
  have l_bx := B4_bx.out.lt
  have c_bn0 := B4_bn.out.cell 0
  have l_bn := B4_bn.out.lt
  go_upto_region 7 with fail
  clear c_bx0 c_bx1 c_bx2 c_bx3 c_bx4 l_bx c_bn0 l_bn
  have hsz5 := HB4.out.size
  have hb5 : Below w.heap.size w (W4.alloc (.cells #[.int .i64 (ck + t), .int .i64 wt, .int .i64 gn, .slice A9 (keptM (goneM (ck + t) wt) ms ms.length).length c9, .slice B9 os.length d9] 36)) := (HB4.out).alloc (by first | omega | (simp; done) | (simp; omega)) _
  have hal5 : Below W4.heap.size W4 (W4.alloc (.cells #[.int .i64 (ck + t), .int .i64 wt, .int .i64 gn, .slice A9 (keptM (goneM (ck + t) wt) ms ms.length).length c9, .slice B9 os.length d9] 36)) := (Below.refl _ _).alloc (by first | omega | (simp; done) | (simp; omega)) _
  have b_bx5 : Blk (W4.alloc (.cells #[.int .i64 (ck + t), .int .i64 wt, .int .i64 gn, .slice A9 (keptM (goneM (ck + t) wt) ms ms.length).length c9, .slice B9 os.length d9] 36)) (w.heap.size) 36 #[.int .i64 ck, .int .i64 wt, .int .i64 gn, .slice A ms.length m, .slice A' os.length m'] := (B4_bx.out).alloc _
  have b_bn5 : Blk (W4.alloc (.cells #[.int .i64 (ck + t), .int .i64 wt, .int .i64 gn, .slice A9 (keptM (goneM (ck + t) wt) ms ms.length).length c9, .slice B9 os.length d9] 36)) (w.heap.size + 1) 3 #[.int .i64 t] := (B4_bn.out).alloc _
  have b_bz5 : Blk (W4.alloc (.cells #[.int .i64 (ck + t), .int .i64 wt, .int .i64 gn, .slice A9 (keptM (goneM (ck + t) wt) ms ms.length).length c9, .slice B9 os.length d9] 36)) (w.heap.size + 1 + 1) 36 #[.int .i64 0, .int .i64 0, .int .i64 0, .slice none 0 0, .slice none 0 0] := (B4_bz.out).alloc _
  have b_bo5 : Blk (W4.alloc (.cells #[.int .i64 (ck + t), .int .i64 wt, .int .i64 gn, .slice A9 (keptM (goneM (ck + t) wt) ms ms.length).length c9, .slice B9 os.length d9] 36)) (W4.heap.size) 36 #[.int .i64 (ck + t), .int .i64 wt, .int .i64 gn, .slice A9 (keptM (goneM (ck + t) wt) ms ms.length).length c9, .slice B9 os.length d9] := Blk.new_ _ 36 #[.int .i64 (ck + t), .int .i64 wt, .int .i64 gn, .slice A9 (keptM (goneM (ck + t) wt) ms ms.length).length c9, .slice B9 os.length d9] (by first | rfl | (simp; done) | (simp; omega))
  have k_g5 := K4_g.out.below hal5
  have k_own5 := (HOWN9.out).alloc (.cells #[.int .i64 (ck + t), .int .i64 wt, .int .i64 gn, .slice A9 (keptM (goneM (ck + t) wt) ms ms.length).length c9, .slice B9 os.length d9] 36)
  have k_off5 := (HOFF9.out).alloc (.cells #[.int .i64 (ck + t), .int .i64 wt, .int .i64 gn, .slice A9 (keptM (goneM (ck + t) wt) ms ms.length).length c9, .slice B9 os.length d9] 36)
  have hz5 : W4.heap.size + 1 ≤ (W4.alloc (.cells #[.int .i64 (ck + t), .int .i64 wt, .int .i64 gn, .slice A9 (keptM (goneM (ck + t) wt) ms ms.length).length c9, .slice B9 os.length d9] 36)).heap.size := by first | omega | (simp; done) | (simp; omega)
  generalize W4.alloc (.cells #[.int .i64 (ck + t), .int .i64 wt, .int .i64 gn, .slice A9 (keptM (goneM (ck + t) wt) ms ms.length).length c9, .slice B9 os.length d9] 36) = W5 at *
  have HB5 := Lib.hid hb5
  have B5_bx := Lib.hid b_bx5
  have B5_bn := Lib.hid b_bn5
  have B5_bz := Lib.hid b_bz5
  have B5_bo := Lib.hid b_bo5
  have K5_g := Lib.hid k_g5
  have K5_own := Lib.hid k_own5
  have K5_off := Lib.hid k_off5
  clear hb5 b_bx5 b_bn5 b_bz5 b_bo5 k_g5 k_own5 k_off5
  clear B4_bx B4_bn B4_bz HB4 K4_g HOWN9 HOFF9
  obtain ⟨gb, hgb⟩ : ∃ gb, gb = W4.heap.size := ⟨_, rfl⟩
  have hgb1 : w.heap.size + 3 ≤ gb := by have := HB5.out.size; omega
  rw [← hgb] at B5_bo
  have HGB := Lib.hid hgb
  have c_bx0 := B5_bx.out.cell 0
  have c_bx1 := B5_bx.out.cell 1
  have c_bx2 := B5_bx.out.cell 2
  have c_bx3 := B5_bx.out.cell 3
  have c_bx4 := B5_bx.out.cell 4
  have l_bx := B5_bx.out.lt
  have c_bn0 := B5_bn.out.cell 0
  have l_bn := B5_bn.out.lt
  have c_bo0 := B5_bo.out.cell 0
  have c_bo1 := B5_bo.out.cell 1
  have c_bo2 := B5_bo.out.cell 2
  have c_bo3 := B5_bo.out.cell 3
  have c_bo4 := B5_bo.out.cell 4
  have l_bo := B5_bo.out.lt
  rw [← hgb]
  clear hgb
  go_wp2_with fail
  clear c_bx0 c_bx1 c_bx2 c_bx3 c_bx4 l_bx c_bn0 l_bn c_bo0 c_bo1 c_bo2 c_bo3 c_bo4 l_bo
  have hel : (keptM (goneM (ck + t) wt) ms ms.length).length ≤ 6 := by have h9 : (keptM (goneM (ck + t) wt) ms ms.length).length < ms.length := HST.out; have := HL6.out; omega
  refine (anew_own (ck + t) wt gn parts K5_own.out rfl K5_off.out hel (by omega) (by omega) (by have := HGN.out; omega) ⟨HCT.out.1, HCT.out.2.1⟩).mono ?_
  rintro e W30 ⟨A10, c10, rows10, rfl, hom10, hof10, hkp⟩
  have hb30 : Below w.heap.size w W30 := hom10.bel
  have b_bz30 := hkp.1 _ _ _ (by decide) B5_bz.out
  have b_bo30 := hkp.1 _ _ _ (by decide) B5_bo.out
  have hz30 := hkp.2
  have HB30 := Lib.hid hb30
  have B30_bz := Lib.hid b_bz30
  have B30_bo := Lib.hid b_bo30
  have K30_own := Lib.hid hom10
  have K30_off := Lib.hid hof10
  clear hb30 b_bz30 b_bo30 hom10 hof10 hkp
  have c_bo0 := B30_bo.out.cell 0
  have f_bo0 := B30_bo.out.frozen 0
  have c_bo1 := B30_bo.out.cell 1
  have f_bo1 := B30_bo.out.frozen 1
  have c_bo2 := B30_bo.out.cell 2
  have f_bo2 := B30_bo.out.frozen 2
  have c_bo3 := B30_bo.out.cell 3
  have f_bo3 := B30_bo.out.frozen 3
  have c_bo4 := B30_bo.out.cell 4
  have f_bo4 := B30_bo.out.frozen 4
  have l_bo := B30_bo.out.lt
  go_upto_region 9 with fail
  have hom31 := (((((K30_own.out).farBlk B30_bo.out (by omega) 0 (.int .i64 (ck + t))).farBlk (B30_bo.out.set_ 0 (.int .i64 (ck + t))) (by omega) 1 (.int .i64 wt)).farBlk ((B30_bo.out.set_ 0 (.int .i64 (ck + t))).set_ 1 (.int .i64 wt)) (by omega) 2 (.int .i64 (gn + 1))).farBlk (((B30_bo.out.set_ 0 (.int .i64 (ck + t))).set_ 1 (.int .i64 wt)).set_ 2 (.int .i64 (gn + 1))) (by omega) 3 (.slice A10 (keptM (goneM (ck + t) wt) ms ms.length).length c10)).farBlk ((((B30_bo.out.set_ 0 (.int .i64 (ck + t))).set_ 1 (.int .i64 wt)).set_ 2 (.int .i64 (gn + 1))).set_ 3 (.slice A10 (keptM (goneM (ck + t) wt) ms ms.length).length c10)) (by omega) 4 (.slice B9 os.length d9)
  have hof31 : OwnO (((((W30.setCell ⟨gb, 0, none⟩ (.int .i64 (ck + t))).setCell ⟨gb, 1, none⟩ (.int .i64 wt)).setCell ⟨gb, 2, none⟩ (.int .i64 (gn + 1))).setCell ⟨gb, 3, none⟩ (.slice A10 (keptM (goneM (ck + t) wt) ms ms.length).length c10)).setCell ⟨gb, 4, none⟩ (.slice B9 os.length d9)) W3.heap.size (.slice B9 os.length d9) os := own_far (own_far (own_far (own_far (own_far (K30_off.out) B30_bo.out (by decide) 0 (.int .i64 (ck + t))) (B30_bo.out.set_ 0 (.int .i64 (ck + t))) (by decide) 1 (.int .i64 wt)) ((B30_bo.out.set_ 0 (.int .i64 (ck + t))).set_ 1 (.int .i64 wt)) (by decide) 2 (.int .i64 (gn + 1))) (((B30_bo.out.set_ 0 (.int .i64 (ck + t))).set_ 1 (.int .i64 wt)).set_ 2 (.int .i64 (gn + 1))) (by decide) 3 (.slice A10 (keptM (goneM (ck + t) wt) ms ms.length).length c10)) ((((B30_bo.out.set_ 0 (.int .i64 (ck + t))).set_ 1 (.int .i64 wt)).set_ 2 (.int .i64 (gn + 1))).set_ 3 (.slice A10 (keptM (goneM (ck + t) wt) ms ms.length).length c10)) (by decide) 4 (.slice B9 os.length d9)
  clear c_bo0 f_bo0 c_bo1 f_bo1 c_bo2 f_bo2 c_bo3 f_bo3 c_bo4 f_bo4 l_bo
  have hsz31 := HB30.out.size
  have hb31 : Below w.heap.size w (((((W30.setCell ⟨gb, 0, none⟩ (.int .i64 (ck + t))).setCell ⟨gb, 1, none⟩ (.int .i64 wt)).setCell ⟨gb, 2, none⟩ (.int .i64 (gn + 1))).setCell ⟨gb, 3, none⟩ (.slice A10 (keptM (goneM (ck + t) wt) ms ms.length).length c10)).setCell ⟨gb, 4, none⟩ (.slice B9 os.length d9)) := (((((HB30.out).setCell (by show w.heap.size ≤ gb; omega) _).setCell (by show w.heap.size ≤ gb; omega) _).setCell (by show w.heap.size ≤ gb; omega) _).setCell (by show w.heap.size ≤ gb; omega) _).setCell (by show w.heap.size ≤ gb; omega) _
  have b_bz31 : Blk (((((W30.setCell ⟨gb, 0, none⟩ (.int .i64 (ck + t))).setCell ⟨gb, 1, none⟩ (.int .i64 wt)).setCell ⟨gb, 2, none⟩ (.int .i64 (gn + 1))).setCell ⟨gb, 3, none⟩ (.slice A10 (keptM (goneM (ck + t) wt) ms ms.length).length c10)).setCell ⟨gb, 4, none⟩ (.slice B9 os.length d9)) (w.heap.size + 2) 36 #[.int .i64 0, .int .i64 0, .int .i64 0, .slice none 0 0, .slice none 0 0] := (((((B30_bz.out).far (p := ⟨gb, 0, none⟩) (by show w.heap.size + 2 ≠ gb; omega) _).far (p := ⟨gb, 1, none⟩) (by show w.heap.size + 2 ≠ gb; omega) _).far (p := ⟨gb, 2, none⟩) (by show w.heap.size + 2 ≠ gb; omega) _).far (p := ⟨gb, 3, none⟩) (by show w.heap.size + 2 ≠ gb; omega) _).far (p := ⟨gb, 4, none⟩) (by show w.heap.size + 2 ≠ gb; omega) _
  have b_bo31 : Blk (((((W30.setCell ⟨gb, 0, none⟩ (.int .i64 (ck + t))).setCell ⟨gb, 1, none⟩ (.int .i64 wt)).setCell ⟨gb, 2, none⟩ (.int .i64 (gn + 1))).setCell ⟨gb, 3, none⟩ (.slice A10 (keptM (goneM (ck + t) wt) ms ms.length).length c10)).setCell ⟨gb, 4, none⟩ (.slice B9 os.length d9)) (gb) 36 #[.int .i64 (ck + t), .int .i64 wt, .int .i64 (gn + 1), .slice A10 (keptM (goneM (ck + t) wt) ms ms.length).length c10, .slice B9 os.length d9] := (((((B30_bo.out).set_ 0 _).set_ 1 _).set_ 2 _).set_ 3 _).set_ 4 _
  have hz31 : W30.heap.size + 0 ≤ (((((W30.setCell ⟨gb, 0, none⟩ (.int .i64 (ck + t))).setCell ⟨gb, 1, none⟩ (.int .i64 wt)).setCell ⟨gb, 2, none⟩ (.int .i64 (gn + 1))).setCell ⟨gb, 3, none⟩ (.slice A10 (keptM (goneM (ck + t) wt) ms ms.length).length c10)).setCell ⟨gb, 4, none⟩ (.slice B9 os.length d9)).heap.size := by first | omega | (simp; done) | (simp; omega)
  generalize ((((W30.setCell ⟨gb, 0, none⟩ (.int .i64 (ck + t))).setCell ⟨gb, 1, none⟩ (.int .i64 wt)).setCell ⟨gb, 2, none⟩ (.int .i64 (gn + 1))).setCell ⟨gb, 3, none⟩ (.slice A10 (keptM (goneM (ck + t) wt) ms ms.length).length c10)).setCell ⟨gb, 4, none⟩ (.slice B9 os.length d9) = W31 at *
  have HB31 := Lib.hid hb31
  have B31_bz := Lib.hid b_bz31
  have B31_bo := Lib.hid b_bo31
  clear hb31 b_bz31 b_bo31
  clear B30_bz B30_bo HB30
  have HOM31 := Lib.hid hom31
  have HOF31 := Lib.hid hof31
  clear hom31 hof31
  have c_bo0 := B31_bo.out.cell 0
  have c_bo1 := B31_bo.out.cell 1
  have c_bo2 := B31_bo.out.cell 2
  have c_bo3 := B31_bo.out.cell 3
  have c_bo4 := B31_bo.out.cell 4
  have l_bo := B31_bo.out.lt
  have c_bz0 := B31_bz.out.cell 0
  have f_bz0 := B31_bz.out.frozen 0
  have c_bz1 := B31_bz.out.cell 1
  have f_bz1 := B31_bz.out.frozen 1
  have c_bz2 := B31_bz.out.cell 2
  have f_bz2 := B31_bz.out.frozen 2
  have c_bz3 := B31_bz.out.cell 3
  have f_bz3 := B31_bz.out.frozen 3
  have c_bz4 := B31_bz.out.cell 4
  have f_bz4 := B31_bz.out.frozen 4
  have l_bz := B31_bz.out.lt
  go_wp2_with fail
  clear c_bo0 c_bo1 c_bo2 c_bo3 c_bo4 l_bo c_bz0 f_bz0 c_bz1 f_bz1 c_bz2 f_bz2 c_bz3 f_bz3 c_bz4 f_bz4 l_bz
  have hszF := HB31.out.size
  have hbF : Below w.heap.size w (((((W31.setCell ⟨w.heap.size + 2, 0, none⟩ (.int .i64 (ck + t))).setCell ⟨w.heap.size + 2, 1, none⟩ (.int .i64 wt)).setCell ⟨w.heap.size + 2, 2, none⟩ (.int .i64 (gn + 1))).setCell ⟨w.heap.size + 2, 3, none⟩ (.slice A10 (keptM (goneM (ck + t) wt) ms ms.length).length c10)).setCell ⟨w.heap.size + 2, 4, none⟩ (.slice B9 os.length d9)) := (((((HB31.out).setCell (by show w.heap.size ≤ w.heap.size + 2; omega) _).setCell (by show w.heap.size ≤ w.heap.size + 2; omega) _).setCell (by show w.heap.size ≤ w.heap.size + 2; omega) _).setCell (by show w.heap.size ≤ w.heap.size + 2; omega) _).setCell (by show w.heap.size ≤ w.heap.size + 2; omega) _
  have b_bzF : Blk (((((W31.setCell ⟨w.heap.size + 2, 0, none⟩ (.int .i64 (ck + t))).setCell ⟨w.heap.size + 2, 1, none⟩ (.int .i64 wt)).setCell ⟨w.heap.size + 2, 2, none⟩ (.int .i64 (gn + 1))).setCell ⟨w.heap.size + 2, 3, none⟩ (.slice A10 (keptM (goneM (ck + t) wt) ms ms.length).length c10)).setCell ⟨w.heap.size + 2, 4, none⟩ (.slice B9 os.length d9)) (w.heap.size + 2) 36 #[.int .i64 (ck + t), .int .i64 wt, .int .i64 (gn + 1), .slice A10 (keptM (goneM (ck + t) wt) ms ms.length).length c10, .slice B9 os.length d9] := (((((B31_bz.out).set_ 0 _).set_ 1 _).set_ 2 _).set_ 3 _).set_ 4 _
  have b_boF : Blk (((((W31.setCell ⟨w.heap.size + 2, 0, none⟩ (.int .i64 (ck + t))).setCell ⟨w.heap.size + 2, 1, none⟩ (.int .i64 wt)).setCell ⟨w.heap.size + 2, 2, none⟩ (.int .i64 (gn + 1))).setCell ⟨w.heap.size + 2, 3, none⟩ (.slice A10 (keptM (goneM (ck + t) wt) ms ms.length).length c10)).setCell ⟨w.heap.size + 2, 4, none⟩ (.slice B9 os.length d9)) (gb) 36 #[.int .i64 (ck + t), .int .i64 wt, .int .i64 (gn + 1), .slice A10 (keptM (goneM (ck + t) wt) ms ms.length).length c10, .slice B9 os.length d9] := (((((B31_bo.out).far (p := ⟨w.heap.size + 2, 0, none⟩) (by show gb ≠ w.heap.size + 2; omega) _).far (p := ⟨w.heap.size + 2, 1, none⟩) (by show gb ≠ w.heap.size + 2; omega) _).far (p := ⟨w.heap.size + 2, 2, none⟩) (by show gb ≠ w.heap.size + 2; omega) _).far (p := ⟨w.heap.size + 2, 3, none⟩) (by show gb ≠ w.heap.size + 2; omega) _).far (p := ⟨w.heap.size + 2, 4, none⟩) (by show gb ≠ w.heap.size + 2; omega) _
  have hoF := (((((HOM31.out).farBlk B31_bz.out (by omega) 0 (.int .i64 (ck + t))).farBlk (B31_bz.out.set_ 0 (.int .i64 (ck + t))) (by omega) 1 (.int .i64 wt)).farBlk ((B31_bz.out.set_ 0 (.int .i64 (ck + t))).set_ 1 (.int .i64 wt)) (by omega) 2 (.int .i64 (gn + 1))).farBlk (((B31_bz.out.set_ 0 (.int .i64 (ck + t))).set_ 1 (.int .i64 wt)).set_ 2 (.int .i64 (gn + 1))) (by omega) 3 (.slice A10 (keptM (goneM (ck + t) wt) ms ms.length).length c10)).farBlk ((((B31_bz.out.set_ 0 (.int .i64 (ck + t))).set_ 1 (.int .i64 wt)).set_ 2 (.int .i64 (gn + 1))).set_ 3 (.slice A10 (keptM (goneM (ck + t) wt) ms ms.length).length c10)) (by omega) 4 (.slice B9 os.length d9)
  have hfF : OwnO (((((W31.setCell ⟨w.heap.size + 2, 0, none⟩ (.int .i64 (ck + t))).setCell ⟨w.heap.size + 2, 1, none⟩ (.int .i64 wt)).setCell ⟨w.heap.size + 2, 2, none⟩ (.int .i64 (gn + 1))).setCell ⟨w.heap.size + 2, 3, none⟩ (.slice A10 (keptM (goneM (ck + t) wt) ms ms.length).length c10)).setCell ⟨w.heap.size + 2, 4, none⟩ (.slice B9 os.length d9)) W3.heap.size (.slice B9 os.length d9) os := own_far (own_far (own_far (own_far (own_far (HOF31.out) B31_bz.out (by decide) 0 (.int .i64 (ck + t))) (B31_bz.out.set_ 0 (.int .i64 (ck + t))) (by decide) 1 (.int .i64 wt)) ((B31_bz.out.set_ 0 (.int .i64 (ck + t))).set_ 1 (.int .i64 wt)) (by decide) 2 (.int .i64 (gn + 1))) (((B31_bz.out.set_ 0 (.int .i64 (ck + t))).set_ 1 (.int .i64 wt)).set_ 2 (.int .i64 (gn + 1))) (by decide) 3 (.slice A10 (keptM (goneM (ck + t) wt) ms ms.length).length c10)) ((((B31_bz.out.set_ 0 (.int .i64 (ck + t))).set_ 1 (.int .i64 wt)).set_ 2 (.int .i64 (gn + 1))).set_ 3 (.slice A10 (keptM (goneM (ck + t) wt) ms ms.length).length c10)) (by decide) 4 (.slice B9 os.length d9)
  have y0 := b_bzF.cell 0
  have y1 := b_bzF.cell 1
  have y2 := b_bzF.cell 2
  have y3 := b_bzF.cell 3
  have y4 := b_bzF.cell 4
  exact bodyPost_ret (v := .tuple #[.agg #[.int .i64 (ck + t), .int .i64 wt, .int .i64 (gn + 1), .slice A10 (keptM (goneM (ck + t) wt) ms ms.length).length c10, .slice B9 os.length d9], .int .i64 0]) (by simp [results, Try.results61, go_sem, y0, y1, y2, y3, y4]) rfl (⟨.slice A10 (keptM (goneM (ck + t) wt) ms ms.length).length c10, .slice B9 os.length d9, rows10, rfl, hoF.rebase rfl (by omega) hbF, own_base hfF (by omega), hbF⟩)
theorem tickedG_any (v : Value) (g : GroupD) (t parts : Int) (g' : GroupD) (r : Int) (ht : TickGTo g t parts g' r) (w : World) (h : Gv w v g) (hnm : ∀ t ∈ g.mems, t.name.size ≤ 9223372036854775807) : Calls Try.prog 61 #[v, .int .i64 t, .int .i64 parts] w (GRes g' r w) := by
  rcases ht with ⟨h1, rfl, rfl⟩ | ⟨h1, ⟨h2, rfl, rfl⟩ | ⟨⟨h2, h3, h4, h5⟩, rfl, rfl⟩⟩
  · exact ticked_fault v g t parts h1 w h hnm
  · by_cases c : t < 0 ∨ 1000 < t ∨ 1073741824 < g.clock + t
    · exact ticked_range1 v g t parts h1 c w h hnm
    · exact ticked_range2 v g t parts h1 (by omega) (by omega) (by omega) (fun e => h2 ⟨by omega, by omega, by omega, e⟩) w h hnm
  · unfold tickedG
    by_cases c : (stayM g t).length = g.mems.length
    · rw [if_pos c]
      exact ticked_same v g t parts h1 h2 h3 h4 h5 c w h hnm
    · rw [if_neg c]
      exact ticked_less v g t parts h1 h2 h3 h4 h5 (by have := stayM_le g t; omega) w h hnm
end Go.Proofs.Ytjkoceacjbhblaa
