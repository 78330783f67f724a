/- tailraceref.TickedOf, in three ways. -/
import Derived.Test.YtjkoceacjbhblaaCoordR
namespace Go.Proofs.Ytjkoceacjbhblaa
open Go.RowKit

set_option maxRecDepth 100000 in
set_option maxHeartbeats 4000000 in
theorem ticked_state (v : Value) (c : CoordD) (n : Int) (hk : ¬ CoordOk c) (w : World) (h : Cv w v c) (hnm : ∀ t ∈ c.txns, t.name.size ≤ 9223372036854775807) : Calls Try.prog 39 #[v, .int .i64 n] w (CRes zeroC [.int .i64 12] w) := by
  obtain ⟨tv, rfl, hx, hlen⟩ := id h
  obtain ⟨A, m, rfl, -⟩ := hx.at_
  have H := Lib.hid h
  clear h hx
  unfold coordV at *
  obtain ⟨ck, nx, wt, ts⟩ := c
  simp only at *
  have HNM := Lib.hid hnm
  clear hnm
  have HK := Lib.hid hk
  clear hk
  go_enter Try.func39, Try.ntmps39
  go_wp2_with fail
  have hb1 : Below w.heap.size w ((w.alloc (.cells #[.int .i64 ck, .int .i64 nx, .int .i64 wt, .slice A ts.length m] 28)).alloc (.cells #[.int .i64 0, .int .i64 0, .int .i64 0, .slice none 0 0] 28)) := ((Below.refl _ _).alloc (by first | omega | (simp; done) | (simp; omega)) _).alloc (by first | omega | (simp; done) | (simp; omega)) _
  have hal1 : Below w.heap.size w ((w.alloc (.cells #[.int .i64 ck, .int .i64 nx, .int .i64 wt, .slice A ts.length m] 28)).alloc (.cells #[.int .i64 0, .int .i64 0, .int .i64 0, .slice none 0 0] 28)) := ((Below.refl _ _).alloc (by first | omega | (simp; done) | (simp; omega)) _).alloc (by first | omega | (simp; done) | (simp; omega)) _
  have b_bx1 : Blk ((w.alloc (.cells #[.int .i64 ck, .int .i64 nx, .int .i64 wt, .slice A ts.length m] 28)).alloc (.cells #[.int .i64 0, .int .i64 0, .int .i64 0, .slice none 0 0] 28)) (w.heap.size) 28 #[.int .i64 ck, .int .i64 nx, .int .i64 wt, .slice A ts.length m] := (Blk.new_ _ 28 #[.int .i64 ck, .int .i64 nx, .int .i64 wt, .slice A ts.length m] (by first | rfl | (simp; done) | (simp; omega))).alloc _
  have b_bz1 : Blk ((w.alloc (.cells #[.int .i64 ck, .int .i64 nx, .int .i64 wt, .slice A ts.length m] 28)).alloc (.cells #[.int .i64 0, .int .i64 0, .int .i64 0, .slice none 0 0] 28)) (w.heap.size + 1) 28 #[.int .i64 0, .int .i64 0, .int .i64 0, .slice none 0 0] := Blk.new_ _ 28 #[.int .i64 0, .int .i64 0, .int .i64 0, .slice none 0 0] (by first | rfl | (simp; done) | (simp; omega))
  have hz1 : w.heap.size + 2 ≤ ((w.alloc (.cells #[.int .i64 ck, .int .i64 nx, .int .i64 wt, .slice A ts.length m] 28)).alloc (.cells #[.int .i64 0, .int .i64 0, .int .i64 0, .slice none 0 0] 28)).heap.size := by first | omega | (simp; done) | (simp; omega)
  generalize (w.alloc (.cells #[.int .i64 ck, .int .i64 nx, .int .i64 wt, .slice A ts.length m] 28)).alloc (.cells #[.int .i64 0, .int .i64 0, .int .i64 0, .slice none 0 0] 28) = W1 at *
  have HB1 := Lib.hid hb1
  have B1_bx := Lib.hid b_bx1
  have B1_bz := Lib.hid b_bz1
  clear hb1 b_bx1 b_bz1
  refine (coord_may_any _ ⟨ck, nx, wt, ts⟩ _ (H.out.below hal1) HNM.out).mono ?_
  rintro e W2 hA
  obtain ⟨rfl, hb⟩ := hA.no HK.out
  clear hA
  have hb2 : Below w.heap.size w W2 := below_then HB1.out hb
  have b_bx2 := B1_bx.out.below hb B1_bx.out.lt
  have b_bz2 := B1_bz.out.below hb B1_bz.out.lt
  have hz2 := hb.size
  have HB2 := Lib.hid hb2
  have B2_bx := Lib.hid b_bx2
  have B2_bz := Lib.hid b_bz2
  clear hb2 b_bx2 b_bz2
  clear B1_bx B1_bz HB1
  have c_bz0 := B2_bz.out.cell 0
  have f_bz0 := B2_bz.out.frozen 0
  have c_bz1 := B2_bz.out.cell 1
  have f_bz1 := B2_bz.out.frozen 1
  have c_bz2 := B2_bz.out.cell 2
  have f_bz2 := B2_bz.out.frozen 2
  have c_bz3 := B2_bz.out.cell 3
  have f_bz3 := B2_bz.out.frozen 3
  have l_bz := B2_bz.out.lt
  go_wp2_with fail
  clear c_bz0 f_bz0 c_bz1 f_bz1 c_bz2 f_bz2 c_bz3 f_bz3 l_bz
  have hszF := HB2.out.size
  have hbF : Below w.heap.size w ((((W2.setCell ⟨w.heap.size + 1, 0, none⟩ (.int .i64 0)).setCell ⟨w.heap.size + 1, 1, none⟩ (.int .i64 0)).setCell ⟨w.heap.size + 1, 2, none⟩ (.int .i64 0)).setCell ⟨w.heap.size + 1, 3, none⟩ (.slice none 0 0)) := ((((HB2.out).setCell (by show w.heap.size ≤ w.heap.size + 1; omega) _).setCell (by show w.heap.size ≤ w.heap.size + 1; omega) _).setCell (by show w.heap.size ≤ w.heap.size + 1; omega) _).setCell (by show w.heap.size ≤ w.heap.size + 1; omega) _
  have b_bxF : Blk ((((W2.setCell ⟨w.heap.size + 1, 0, none⟩ (.int .i64 0)).setCell ⟨w.heap.size + 1, 1, none⟩ (.int .i64 0)).setCell ⟨w.heap.size + 1, 2, none⟩ (.int .i64 0)).setCell ⟨w.heap.size + 1, 3, none⟩ (.slice none 0 0)) (w.heap.size) 28 #[.int .i64 ck, .int .i64 nx, .int .i64 wt, .slice A ts.length m] := ((((B2_bx.out).far (p := ⟨w.heap.size + 1, 0, none⟩) (by show w.heap.size ≠ w.heap.size + 1; omega) _).far (p := ⟨w.heap.size + 1, 1, none⟩) (by show w.heap.size ≠ w.heap.size + 1; omega) _).far (p := ⟨w.heap.size + 1, 2, none⟩) (by show w.heap.size ≠ w.heap.size + 1; omega) _).far (p := ⟨w.heap.size + 1, 3, none⟩) (by show w.heap.size ≠ w.heap.size + 1; omega) _
  have b_bzF : Blk ((((W2.setCell ⟨w.heap.size + 1, 0, none⟩ (.int .i64 0)).setCell ⟨w.heap.size + 1, 1, none⟩ (.int .i64 0)).setCell ⟨w.heap.size + 1, 2, none⟩ (.int .i64 0)).setCell ⟨w.heap.size + 1, 3, none⟩ (.slice none 0 0)) (w.heap.size + 1) 28 #[.int .i64 0, .int .i64 0, .int .i64 0, .slice none 0 0] := ((((B2_bz.out).set_ 0 _).set_ 1 _).set_ 2 _).set_ 3 _
  have y0 := b_bzF.cell 0
  have y1 := b_bzF.cell 1
  have y2 := b_bzF.cell 2
  have y3 := b_bzF.cell 3
  exact bodyPost_ret (v := .tuple #[.agg #[.int .i64 0, .int .i64 0, .int .i64 0, .slice none 0 0], .int .i64 12]) (by simp [results, Try.results39, go_sem, y0, y1, y2, y3]) rfl (CRes.zero hbF)
set_option maxRecDepth 100000 in
set_option maxHeartbeats 4000000 in
theorem ticked_range (v : Value) (c : CoordD) (n : Int) (hk : CoordOk c) (hn : ¬ TickOk c n) (w : World) (h : Cv w v c) (hnm : ∀ t ∈ c.txns, t.name.size ≤ 9223372036854775807) : Calls Try.prog 39 #[v, .int .i64 n] w (CRes zeroC [.int .i64 2] w) := by
  obtain ⟨tv, rfl, hx, hlen⟩ := id h
  obtain ⟨A, m, rfl, -⟩ := hx.at_
  have H := Lib.hid h
  clear h hx
  unfold coordV at *
  obtain ⟨ck, nx, wt, ts⟩ := c
  simp only at *
  have HNM := Lib.hid hnm
  clear hnm
  have hc : inB n 0 1000 = false ∨ (inB n 0 1000 = true ∧ 0 ≤ n ∧ n ≤ 1000 ∧ 1073741824 < ck + n) := by unfold TickOk at hn; simp only [inB] at *; simp; omega
  have ck0 := hk.clock.1
  have ck1 := hk.clock.2
  simp only at ck0 ck1
  have HK := Lib.hid hk
  clear hk hn
  rcases hc with h1 | ⟨h1, h2, h3, h4⟩
  all_goals
    go_enter Try.func39, Try.ntmps39
    go_wp2_with fail
    have hb1 : Below w.heap.size w ((w.alloc (.cells #[.int .i64 ck, .int .i64 nx, .int .i64 wt, .slice A ts.length m] 28)).alloc (.cells #[.int .i64 0, .int .i64 0, .int .i64 0, .slice none 0 0] 28)) := ((Below.refl _ _).alloc (by first | omega | (simp; done) | (simp; omega)) _).alloc (by first | omega | (simp; done) | (simp; omega)) _
    have hal1 : Below w.heap.size w ((w.alloc (.cells #[.int .i64 ck, .int .i64 nx, .int .i64 wt, .slice A ts.length m] 28)).alloc (.cells #[.int .i64 0, .int .i64 0, .int .i64 0, .slice none 0 0] 28)) := ((Below.refl _ _).alloc (by first | omega | (simp; done) | (simp; omega)) _).alloc (by first | omega | (simp; done) | (simp; omega)) _
    have b_bx1 : Blk ((w.alloc (.cells #[.int .i64 ck, .int .i64 nx, .int .i64 wt, .slice A ts.length m] 28)).alloc (.cells #[.int .i64 0, .int .i64 0, .int .i64 0, .slice none 0 0] 28)) (w.heap.size) 28 #[.int .i64 ck, .int .i64 nx, .int .i64 wt, .slice A ts.length m] := (Blk.new_ _ 28 #[.int .i64 ck, .int .i64 nx, .int .i64 wt, .slice A ts.length m] (by first | rfl | (simp; done) | (simp; omega))).alloc _
    have b_bz1 : Blk ((w.alloc (.cells #[.int .i64 ck, .int .i64 nx, .int .i64 wt, .slice A ts.length m] 28)).alloc (.cells #[.int .i64 0, .int .i64 0, .int .i64 0, .slice none 0 0] 28)) (w.heap.size + 1) 28 #[.int .i64 0, .int .i64 0, .int .i64 0, .slice none 0 0] := Blk.new_ _ 28 #[.int .i64 0, .int .i64 0, .int .i64 0, .slice none 0 0] (by first | rfl | (simp; done) | (simp; omega))
    have hz1 : w.heap.size + 2 ≤ ((w.alloc (.cells #[.int .i64 ck, .int .i64 nx, .int .i64 wt, .slice A ts.length m] 28)).alloc (.cells #[.int .i64 0, .int .i64 0, .int .i64 0, .slice none 0 0] 28)).heap.size := by first | omega | (simp; done) | (simp; omega)
    generalize (w.alloc (.cells #[.int .i64 ck, .int .i64 nx, .int .i64 wt, .slice A ts.length m] 28)).alloc (.cells #[.int .i64 0, .int .i64 0, .int .i64 0, .slice none 0 0] 28) = W1 at *
    have HB1 := Lib.hid hb1
    have B1_bx := Lib.hid b_bx1
    have B1_bz := Lib.hid b_bz1
    clear hb1 b_bx1 b_bz1
    refine (coord_may_any _ ⟨ck, nx, wt, ts⟩ _ (H.out.below hal1) HNM.out).mono ?_
    rintro e W2 hA
    obtain ⟨rfl, hb⟩ := hA.yes HK.out
    clear hA
    have hb2 : Below w.heap.size w W2 := below_then HB1.out hb
    have b_bx2 := B1_bx.out.below hb B1_bx.out.lt
    have b_bz2 := B1_bz.out.below hb B1_bz.out.lt
    have hz2 := hb.size
    have HB2 := Lib.hid hb2
    have B2_bx := Lib.hid b_bx2
    have B2_bz := Lib.hid b_bz2
    clear hb2 b_bx2 b_bz2
    clear B1_bx B1_bz HB1
    have c_bz0 := B2_bz.out.cell 0
    have f_bz0 := B2_bz.out.frozen 0
    have c_bz1 := B2_bz.out.cell 1
    have f_bz1 := B2_bz.out.frozen 1
    have c_bz2 := B2_bz.out.cell 2
    have f_bz2 := B2_bz.out.frozen 2
    have c_bz3 := B2_bz.out.cell 3
    have f_bz3 := B2_bz.out.frozen 3
    have l_bz := B2_bz.out.lt
    have c_bx0 := B2_bx.out.cell 0
    have c_bx1 := B2_bx.out.cell 1
    have c_bx2 := B2_bx.out.cell 2
    have c_bx3 := B2_bx.out.cell 3
    have l_bx := B2_bx.out.lt
    go_wp2_with (go_at_call 64; refine (In_any _ _ _ _).mono ?_; rintro e w' ⟨rfl, rfl⟩)
    clear c_bz0 f_bz0 c_bz1 f_bz1 c_bz2 f_bz2 c_bz3 f_bz3 l_bz c_bx0 c_bx1 c_bx2 c_bx3 l_bx
    have hszF := HB2.out.size
    have hbF : Below w.heap.size w ((((W2.setCell ⟨w.heap.size + 1, 0, none⟩ (.int .i64 0)).setCell ⟨w.heap.size + 1, 1, none⟩ (.int .i64 0)).setCell ⟨w.heap.size + 1, 2, none⟩ (.int .i64 0)).setCell ⟨w.heap.size + 1, 3, none⟩ (.slice none 0 0)) := ((((HB2.out).setCell (by show w.heap.size ≤ w.heap.size + 1; omega) _).setCell (by show w.heap.size ≤ w.heap.size + 1; omega) _).setCell (by show w.heap.size ≤ w.heap.size + 1; omega) _).setCell (by show w.heap.size ≤ w.heap.size + 1; omega) _
    have b_bxF : Blk ((((W2.setCell ⟨w.heap.size + 1, 0, none⟩ (.int .i64 0)).setCell ⟨w.heap.size + 1, 1, none⟩ (.int .i64 0)).setCell ⟨w.heap.size + 1, 2, none⟩ (.int .i64 0)).setCell ⟨w.heap.size + 1, 3, none⟩ (.slice none 0 0)) (w.heap.size) 28 #[.int .i64 ck, .int .i64 nx, .int .i64 wt, .slice A ts.length m] := ((((B2_bx.out).far (p := ⟨w.heap.size + 1, 0, none⟩) (by show w.heap.size ≠ w.heap.size + 1; omega) _).far (p := ⟨w.heap.size + 1, 1, none⟩) (by show w.heap.size ≠ w.heap.size + 1; omega) _).far (p := ⟨w.heap.size + 1, 2, none⟩) (by show w.heap.size ≠ w.heap.size + 1; omega) _).far (p := ⟨w.heap.size + 1, 3, none⟩) (by show w.heap.size ≠ w.heap.size + 1; omega) _
    have b_bzF : Blk ((((W2.setCell ⟨w.heap.size + 1, 0, none⟩ (.int .i64 0)).setCell ⟨w.heap.size + 1, 1, none⟩ (.int .i64 0)).setCell ⟨w.heap.size + 1, 2, none⟩ (.int .i64 0)).setCell ⟨w.heap.size + 1, 3, none⟩ (.slice none 0 0)) (w.heap.size + 1) 28 #[.int .i64 0, .int .i64 0, .int .i64 0, .slice none 0 0] := ((((B2_bz.out).set_ 0 _).set_ 1 _).set_ 2 _).set_ 3 _
    have y0 := b_bzF.cell 0
    have y1 := b_bzF.cell 1
    have y2 := b_bzF.cell 2
    have y3 := b_bzF.cell 3
    exact bodyPost_ret (v := .tuple #[.agg #[.int .i64 0, .int .i64 0, .int .i64 0, .slice none 0 0], .int .i64 2]) (by simp [results, Try.results39, go_sem, y0, y1, y2, y3]) rfl (CRes.zero hbF)
/-- the loop of tailraceref.TickedOf -/
def TickedLp (w : World) (base g3 : Nat) (bx bz bo : Array Value) (ck wt : Int) (ts : List TxnD) (tv i : Value) (wr : World) : Prop :=
  ∃ (k : Nat) (rows : List (TxnD × Value)), k ≤ ts.length ∧ i = .int .i64 k ∧ Own w wr base tv (upTo (tickT ck wt) ts k) rows ts.length ∧ Blk wr w.heap.size 28 bx ∧ Blk wr (w.heap.size + 1) 28 bz ∧ Blk wr g3 28 bo ∧ w.heap.size + 2 ≤ base ∧ base ≤ wr.heap.size ∧ Below w.heap.size w wr
set_option maxRecDepth 100000 in
set_option maxHeartbeats 4000000 in
theorem ticked_good (v : Value) (c : CoordD) (n : Int) (hk : CoordOk c) (hn : TickOk c n) (w : World) (h : Cv w v c) (hnm : ∀ t ∈ c.txns, t.name.size ≤ 9223372036854775807) : Calls Try.prog 39 #[v, .int .i64 n] w (CRes (tickC c n) [.int .i64 0] w) := by
  obtain ⟨tv, rfl, hx, hlen⟩ := id h
  obtain ⟨A, m, rfl, -⟩ := hx.at_
  have H := Lib.hid h
  clear h hx
  unfold coordV at *
  obtain ⟨ck, nx, wt, ts⟩ := c
  simp only at *
  have HNM := Lib.hid hnm
  clear hnm
  obtain ⟨h1, h2, h3⟩ := hn
  have ck0 := hk.clock.1
  have ck1 := hk.clock.2
  have wt0 := hk.wait.1
  have wt1 := hk.wait.2
  simp only at h3 ck0 ck1 wt0 wt1
  have h12 : inB n 0 1000 = true := by simp [inB]; omega
  have HK := Lib.hid hk
  clear hk
  go_enter Try.func39, Try.ntmps39
  go_wp2_with fail
  have hb1 : Below w.heap.size w ((w.alloc (.cells #[.int .i64 ck, .int .i64 nx, .int .i64 wt, .slice A ts.length m] 28)).alloc (.cells #[.int .i64 0, .int .i64 0, .int .i64 0, .slice none 0 0] 28)) := ((Below.refl _ _).alloc (by first | omega | (simp; done) | (simp; omega)) _).alloc (by first | omega | (simp; done) | (simp; omega)) _
  have hal1 : Below w.heap.size w ((w.alloc (.cells #[.int .i64 ck, .int .i64 nx, .int .i64 wt, .slice A ts.length m] 28)).alloc (.cells #[.int .i64 0, .int .i64 0, .int .i64 0, .slice none 0 0] 28)) := ((Below.refl _ _).alloc (by first | omega | (simp; done) | (simp; omega)) _).alloc (by first | omega | (simp; done) | (simp; omega)) _
  have b_bx1 : Blk ((w.alloc (.cells #[.int .i64 ck, .int .i64 nx, .int .i64 wt, .slice A ts.length m] 28)).alloc (.cells #[.int .i64 0, .int .i64 0, .int .i64 0, .slice none 0 0] 28)) (w.heap.size) 28 #[.int .i64 ck, .int .i64 nx, .int .i64 wt, .slice A ts.length m] := (Blk.new_ _ 28 #[.int .i64 ck, .int .i64 nx, .int .i64 wt, .slice A ts.length m] (by first | rfl | (simp; done) | (simp; omega))).alloc _
  have b_bz1 : Blk ((w.alloc (.cells #[.int .i64 ck, .int .i64 nx, .int .i64 wt, .slice A ts.length m] 28)).alloc (.cells #[.int .i64 0, .int .i64 0, .int .i64 0, .slice none 0 0] 28)) (w.heap.size + 1) 28 #[.int .i64 0, .int .i64 0, .int .i64 0, .slice none 0 0] := Blk.new_ _ 28 #[.int .i64 0, .int .i64 0, .int .i64 0, .slice none 0 0] (by first | rfl | (simp; done) | (simp; omega))
  have hz1 : w.heap.size + 2 ≤ ((w.alloc (.cells #[.int .i64 ck, .int .i64 nx, .int .i64 wt, .slice A ts.length m] 28)).alloc (.cells #[.int .i64 0, .int .i64 0, .int .i64 0, .slice none 0 0] 28)).heap.size := by first | omega | (simp; done) | (simp; omega)
  generalize (w.alloc (.cells #[.int .i64 ck, .int .i64 nx, .int .i64 wt, .slice A ts.length m] 28)).alloc (.cells #[.int .i64 0, .int .i64 0, .int .i64 0, .slice none 0 0] 28) = W1 at *
  have HB1 := Lib.hid hb1
  have B1_bx := Lib.hid b_bx1
  have B1_bz := Lib.hid b_bz1
  clear hb1 b_bx1 b_bz1
  refine (coord_may_any _ ⟨ck, nx, wt, ts⟩ _ (H.out.below hal1) HNM.out).mono ?_
  rintro e W2 hA
  obtain ⟨rfl, hb⟩ := hA.yes HK.out
  clear hA
  have hb2 : Below w.heap.size w W2 := below_then HB1.out hb
  have b_bx2 := B1_bx.out.below hb B1_bx.out.lt
  have b_bz2 := B1_bz.out.below hb B1_bz.out.lt
  have hz2 := hb.size
  have HB2 := Lib.hid hb2
  have B2_bx := Lib.hid b_bx2
  have B2_bz := Lib.hid b_bz2
  clear hb2 b_bx2 b_bz2
  clear B1_bx B1_bz HB1
  have c_bx0 := B2_bx.out.cell 0
  have c_bx1 := B2_bx.out.cell 1
  have c_bx2 := B2_bx.out.cell 2
  have c_bx3 := B2_bx.out.cell 3
  have l_bx := B2_bx.out.lt
  go_wp2_with (go_at_call 64; refine (In_any _ _ _ _).mono ?_; rintro e w' ⟨rfl, rfl⟩)
  clear c_bx0 c_bx1 c_bx2 c_bx3 l_bx
  have hfit := HK.out.fits
  refine (refCoordCopy_any _ ⟨ck, nx, wt, ts⟩ _ (H.out.below HB2.out) hfit.1 hfit.2.1).mono ?_
  rintro e W3 ⟨tv5, rows, rfl, hown, hb⟩
  obtain ⟨A5, c5, rfl, hc5⟩ := (Sl.of_own hown.own).form
  simp only at *
  unfold coordV
  simp only
  clear hfit
  have hb3 : Below w.heap.size w W3 := below_then HB2.out hb
  have b_bx3 := B2_bx.out.below hb B2_bx.out.lt
  have b_bz3 := B2_bz.out.below hb B2_bz.out.lt
  have hz3 := hb.size
  have HB3 := Lib.hid hb3
  have B3_bx := Lib.hid b_bx3
  have B3_bz := Lib.hid b_bz3
  clear hb3 b_bx3 b_bz3
  clear B2_bx B2_bz HB2
  have ho := hown.rebase (w0 := w) rfl (Nat.le_refl _) HB3.out
  have HO := Lib.hid ho
  clear ho hown
  have c_bx0 := B3_bx.out.cell 0
  have c_bx1 := B3_bx.out.cell 1
  have c_bx2 := B3_bx.out.cell 2
  have c_bx3 := B3_bx.out.cell 3
  have l_bx := B3_bx.out.lt
  go_wp2_with fail
  clear c_bx0 c_bx1 c_bx2 c_bx3 l_bx
  have hsz4 := HB3.out.size
  have hb4 : Below w.heap.size w (W3.alloc (.cells #[.int .i64 (ck + n), .int .i64 nx, .int .i64 wt, .slice A5 ts.length c5] 28)) := (HB3.out).alloc (by first | omega | (simp; done) | (simp; omega)) _
  have hal4 : Below W3.heap.size W3 (W3.alloc (.cells #[.int .i64 (ck + n), .int .i64 nx, .int .i64 wt, .slice A5 ts.length c5] 28)) := (Below.refl _ _).alloc (by first | omega | (simp; done) | (simp; omega)) _
  have b_bx4 : Blk (W3.alloc (.cells #[.int .i64 (ck + n), .int .i64 nx, .int .i64 wt, .slice A5 ts.length c5] 28)) (w.heap.size) 28 #[.int .i64 ck, .int .i64 nx, .int .i64 wt, .slice A ts.length m] := (B3_bx.out).alloc _
  have b_bz4 : Blk (W3.alloc (.cells #[.int .i64 (ck + n), .int .i64 nx, .int .i64 wt, .slice A5 ts.length c5] 28)) (w.heap.size + 1) 28 #[.int .i64 0, .int .i64 0, .int .i64 0, .slice none 0 0] := (B3_bz.out).alloc _
  have b_bo4 : Blk (W3.alloc (.cells #[.int .i64 (ck + n), .int .i64 nx, .int .i64 wt, .slice A5 ts.length c5] 28)) (W3.heap.size) 28 #[.int .i64 (ck + n), .int .i64 nx, .int .i64 wt, .slice A5 ts.length c5] := Blk.new_ _ 28 #[.int .i64 (ck + n), .int .i64 nx, .int .i64 wt, .slice A5 ts.length c5] (by first | rfl | (simp; done) | (simp; omega))
  have k_own4 := (HO.out).alloc (.cells #[.int .i64 (ck + n), .int .i64 nx, .int .i64 wt, .slice A5 ts.length c5] 28)
  have hz4 : W3.heap.size + 1 ≤ (W3.alloc (.cells #[.int .i64 (ck + n), .int .i64 nx, .int .i64 wt, .slice A5 ts.length c5] 28)).heap.size := by first | omega | (simp; done) | (simp; omega)
  generalize W3.alloc (.cells #[.int .i64 (ck + n), .int .i64 nx, .int .i64 wt, .slice A5 ts.length c5] 28) = W4 at *
  have HB4 := Lib.hid hb4
  have B4_bx := Lib.hid b_bx4
  have B4_bz := Lib.hid b_bz4
  have B4_bo := Lib.hid b_bo4
  have K4_own := Lib.hid k_own4
  clear hb4 b_bx4 b_bz4 b_bo4 k_own4
  clear B3_bx B3_bz HB3 HO
  go_loopw [7] (fun i wr => TickedLp w W2.heap.size W3.heap.size #[.int .i64 ck, .int .i64 nx, .int .i64 wt, .slice A ts.length m] #[.int .i64 0, .int .i64 0, .int .i64 0, .slice none 0 0] #[.int .i64 (ck + n), .int .i64 nx, .int .i64 wt, .slice A5 ts.length c5] (ck + n) wt ts (.slice A5 ts.length c5) i wr) (fun i _ => ts.length - (intOf i).toNat)
  case atStart => exact ⟨0, rows, by omega, rfl, by rw [upTo_zero]; exact K4_own.out, B4_bx.out, B4_bz.out, B4_bo.out, by omega, by omega, HB4.out⟩
  case round =>
    obtain ⟨k, rows', hk, rfl, ho, hbx, hbz, hbo, hb0, hb1, hbw⟩ := hrel
    have hq0 := hbo.cell 0
    have hq2 := hbx.cell 2
    have hq3 := hbo.cell 3
    have xlt := hbx.lt
    have olt := hbo.lt
    have HO := Lib.hid ho
    have HBX := Lib.hid hbx
    have HBZ := Lib.hid hbz
    have HBO := Lib.hid hbo
    have HBW := Lib.hid hbw
    clear hbx hbz hbw hbo
    by_cases hlt : k < ts.length
    · have hul := upTo_length (tickT (ck + n) wt) ts k
      obtain ⟨g, c2, hv, hg1, hg2, hc2, hcell⟩ := ho.at_ (by omega)
      injection hv with hA hll hcc
      clear hll
      subst hA hcc
      have hne1 := ho.ne_blk HBO.out (by decide)
      have hne2 := hne1.symm
      have hlr := own_rows ho.fst
      have hli : k < rows'.length := by omega
      have hrow : rows'[k].1 = ts[k] := (fst_get ho.fst hli (by omega)).trans (upTo_get _ ts k hlt _)
      have hx0 := (hcell k hli 0 (by decide)).1
      have hx1 := (hcell k hli 1 (by decide)).1
      have hx2 := (hcell k hli 2 (by decide)).1
      have hx3 := (hcell k hli 3 (by decide)).1
      have hx4 := (hcell k hli 4 (by decide)).1
      have hx5 := (hcell k hli 5 (by decide)).1
      have hx6 := (hcell k hli 6 (by decide)).1
      have hf3 := (hcell k hli 3 (by decide)).2
      have hf2 := (hcell k hli 2 (by decide)).2
      simp only [tcells, List.getElem?_cons_zero, List.getElem?_cons_succ, hrow, Nat.add_zero] at hx0 hx1 hx2 hx3 hx4 hx5 hx6
      obtain ⟨A3, c3, hpv, hc3⟩ := Sl.form (Sl.of_own (ho.parts rows'[k] (List.mem_take_iff_getElem.2 ⟨k, by omega, rfl⟩)))
      rw [hpv] at hx4
      have i0 : (0 : Int) ≤ (k : Int) := by omega
      have i1 : (k : Int) < (ts.length : Int) := by omega
      have htx := (HK.out.all k hlt hlt).1
      have s0 := htx.since.1
      have s1 := htx.since.2
      have v0 := htx.ver.1
      have v1 := htx.ver.2
      simp only at s0 s1 v0 v1
      have HR := Lib.hid hrow
      have HL := Lib.hid hlr
      clear hcell hrow hlr ho htx hul hpv
      by_cases hst : ts[k].state = 2
      · rw [hst] at hx3
        by_cases hw : ts[k].since + wt ≤ ck + n
        · by_cases hv : ts[k].ver < 1073741824
          · have hdo : tickT (ck + n) wt ts[k] = ⟨ts[k].name, ts[k].pid, ts[k].ver + 1, 4, ts[k].parts, ts[k].since, ts[k].done⟩ := by unfold tickT; rw [if_pos ⟨hst, by omega, hv⟩]
            have HD := Lib.hid hdo
            have HST := Lib.hid hst
            clear hdo hst
            go_wp2_with fail
            go_light
            have hge := upTo_get (tickT (ck + n) wt) ts k hlt (by rw [upTo_length]; exact hlt)
            have hkl : k < (upTo (tickT (ck + n) wt) ts k).length := by rw [upTo_length]; exact hlt
            obtain ⟨r1, o1⟩ := HO.out.putd (upTo_length _ _ _).symm (by omega) k 3 (.int .i64 4) (fun t => ⟨t.name, t.pid, t.ver, 4, t.parts, t.since, t.done⟩) hkl (by decide) (fun _ => rfl) rfl
            obtain ⟨r2, o2⟩ := o1.putd (by simp [upTo_length]) (by omega) k 2 (.int .i64 (ts[k].ver + 1)) (fun t => ⟨t.name, t.pid, t.ver + 1, t.state, t.parts, t.since, t.done⟩) (by simpa using hkl) (by decide) (fun _ => by simp [tcells, hge]) rfl
            rw [modify_two _ k _ _ (tickT (ck + n) wt) (fun _ => by rw [hge, HD.out]), ← upTo_succ _ _ _ hlt] at o2
            exact ⟨⟨k + 1, r2, by omega, by go_num, o2.alloc _, ((HBX.out.far (by show w.heap.size ≠ g; omega) _).far (by show w.heap.size ≠ g; omega) _).alloc _, ((HBZ.out.far (by show w.heap.size + 1 ≠ g; omega) _).far (by show w.heap.size + 1 ≠ g; omega) _).alloc _, ((HBO.out.far hne2 _).far hne2 _).alloc _, hb0, by simp; omega, ((HBW.out.setCell (by show w.heap.size ≤ g; omega) _).setCell (by show w.heap.size ≤ g; omega) _).alloc (by simp; exact HBW.out.size) _⟩, by simp [intOf]; omega⟩
          · have hsame : tickT (ck + n) wt ts[k] = ts[k] := by unfold tickT; rw [if_neg (by omega)]
            have HS := Lib.hid (upTo_same (tickT (ck + n) wt) ts k hlt hsame)
            clear hsame
            go_wp2_with fail
            go_light
            refine ⟨⟨k + 1, rows', by omega, by go_num, by rw [HS.out]; exact HO.out.alloc _, HBX.out.alloc _, HBZ.out.alloc _, HBO.out.alloc _, hb0, by simp; omega, HBW.out.alloc HBW.out.size _⟩, by simp [intOf]; omega⟩
        · have hsame : tickT (ck + n) wt ts[k] = ts[k] := by unfold tickT; rw [if_neg (by omega)]
          have HS := Lib.hid (upTo_same (tickT (ck + n) wt) ts k hlt hsame)
          clear hsame
          go_wp2_with fail
          go_light
          refine ⟨⟨k + 1, rows', by omega, by go_num, by rw [HS.out]; exact HO.out.alloc _, HBX.out.alloc _, HBZ.out.alloc _, HBO.out.alloc _, hb0, by simp; omega, HBW.out.alloc HBW.out.size _⟩, by simp [intOf]; omega⟩
      · have he : (ts[k].state == 2) = false := beq_eq_false_iff_ne.2 hst
        have hsame : tickT (ck + n) wt ts[k] = ts[k] := by unfold tickT; rw [if_neg (by omega)]
        have HS := Lib.hid (upTo_same (tickT (ck + n) wt) ts k hlt hsame)
        clear hsame
        go_wp2_with fail
        go_light
        refine ⟨⟨k + 1, rows', by omega, by go_num, by rw [HS.out]; exact HO.out.alloc _, HBX.out.alloc _, HBZ.out.alloc _, HBO.out.alloc _, hb0, by simp; omega, HBW.out.alloc HBW.out.size _⟩, by simp [intOf]; omega⟩
    · obtain rfl : k = ts.length := by omega
      have hq1 := HBO.out.cell 1
      have hq2' := HBO.out.cell 2
      obtain ⟨⟨z0, z1, z2, z3⟩, ⟨zf0, zf1, zf2, zf3⟩, zl⟩ := HBZ.out.all4
      clear ho
      go_wp2_with fail
      obtain ⟨⟨y0, y1, y2, y3⟩, -, -⟩ := (HBZ.out.put4 (.int .i64 (ck + n)) (.int .i64 nx) (.int .i64 wt) (.slice A5 ts.length c5)).all4
      have hb := below_put4 HBW.out (Nat.le_succ w.heap.size) (.int .i64 (ck + n)) (.int .i64 nx) (.int .i64 wt) (.slice A5 ts.length c5)
      have ho := HO.out.put4 (g := w.heap.size + 1) ⟨hb0, Nat.le_succ _⟩ (.int .i64 (ck + n)) (.int .i64 nx) (.int .i64 wt) (.slice A5 ts.length c5)
      rw [upTo_all] at ho
      exact bodyPost_ret (v := .tuple #[.agg #[.int .i64 (ck + n), .int .i64 nx, .int .i64 wt, .slice A5 ts.length c5], .int .i64 0]) (by simp [results, Try.results39, go_sem, y0, y1, y2, y3]) rfl ⟨.slice A5 ts.length c5, rows', rfl, own_len (ho.rebase (by simp) (by omega) hb) (by simp [tickC]), hb⟩
theorem ticked_any (v : Value) (c : CoordD) (n : Int) (c' : CoordD) (r : Int) (ht : TickTo c n c' r) (w : World) (h : Cv w v c) (hnm : ∀ t ∈ c.txns, t.name.size ≤ 9223372036854775807) : Calls Try.prog 39 #[v, .int .i64 n] w (CRes c' [.int .i64 r] w) := by
  rcases ht with ⟨h1, rfl, rfl⟩ | ⟨h1, h2, rfl, rfl⟩ | ⟨h1, h2, rfl, rfl⟩
  · exact ticked_state v c n h1 w h hnm
  · exact ticked_range v c n h1 h2 w h hnm
  · exact ticked_good v c n h1 h2 w h hnm
end Go.Proofs.Ytjkoceacjbhblaa
