/- Parts of a proof, merged: GStoR. No condition. -/
import Derived.BigRegion
import Derived.Deep.RegionHeld3
import Derived.Deep.DrawnRows
import Derived.Test.YtjkoceacjbhblaaGs7
import Derived.Test.YtjkoceacjbhblaaGs1
namespace Go.Proofs.Ytjkoceacjbhblaa
open Go.RowKit
attribute [local go_sem ↓] Go.wp_at_zero Go.wp_at_succ

theorem OwnM.setBlk {w0 w : World} {base n bo : Nat} {v : Value} {ds : List MemD} {rows : List (MemD × Value)} {cs : Array Value} (h : OwnM w0 w base v ds rows n) (hn : n = ds.length) (hb : Blk w bo 36 cs) (hgo : w0.heap.size ≤ bo) (j : Nat) (u : Value) : OwnM w0 (w.setCell ⟨bo, j, none⟩ u) base v ds rows n := by
  have hl : rows.length = ds.length := by rw [← h.fst]; simp
  refine ⟨h.fst, own_far h.own hb (by decide) j u, h.bel.setCell hgo _, fun t ht => ?_, fun t ht => own_far (h.parts t ht) hb (by decide) j u, h.apart⟩
  rw [List.drop_of_length_le (by omega)] at ht
  simp at ht
theorem four_succ {α : Type} {f : Int → List α} {p : Nat} (h : p < 4) : (four.take (p + 1)).flatMap f = (four.take p).flatMap f ++ f (p : Int) := by
  obtain rfl | rfl | rfl | rfl : p = 0 ∨ p = 1 ∨ p = 2 ∨ p = 3 := by omega
  all_goals simp [four]
def StP (w : World) (b1 b2 bo : Nat) (bc zc : Array Value) (ck wt gn : Int) (tv : Value) (ms : List MemD) (rows : List (MemD × Value)) (ov : Value) (xs : List OffD) (wr : World) : Prop :=
  OwnM w wr b1 tv ms rows ms.length ∧ OwnO wr b2 ov xs ∧ Blk wr w.heap.size 36 bc ∧ Blk wr (w.heap.size + 1) 36 zc ∧ Blk wr bo 36 #[.int .i64 ck, .int .i64 wt, .int .i64 gn, tv, ov] ∧ Below w.heap.size w wr ∧ b2 ≤ wr.heap.size
theorem StP.below {w : World} {b1 b2 bo : Nat} {bc zc : Array Value} {ck wt gn : Int} {tv : Value} {ms : List MemD} {rows : List (MemD × Value)} {ov : Value} {xs : List OffD} {wr wq : World} (h : StP w b1 b2 bo bc zc ck wt gn tv ms rows ov xs wr) (hb : Below wr.heap.size wr wq) : StP w b1 b2 bo bc zc ck wt gn tv ms rows ov xs wq := by
  obtain ⟨h1, h2, h3, h4, h5, h6, h7⟩ := h
  exact ⟨h1.keep hb, h2.keep hb, h3.below hb h3.lt, h4.below hb h4.lt, h5.below hb h5.lt, below_then h6 hb, Nat.le_trans h7 hb.size⟩
theorem StP.push {w : World} {b1 b2 bo : Nat} {bc zc : Array Value} {ck wt gn : Int} {tv : Value} {ms : List MemD} {rows : List (MemD × Value)} {ov : Value} {xs : List OffD} {wr w7 : World} {t : OffD} {o : Obj} {v7 : Value} (h : StP w b1 b2 bo bc zc ck wt gn tv ms rows ov xs wr) (hw : w.heap.size ≤ b1) (h12 : b1 ≤ bo) (hbo : bo < b2) (hz : w.heap.size + 1 < bo) (ho : w7.ownsRow b2 81 2 v7 (xs.length + 1) (xs.flatMap ocells ++ ocells t)) (hg : (wr.alloc o).grownBy w7 ov.ownBlock) : Blk w7 bo 36 #[.int .i64 ck, .int .i64 wt, .int .i64 gn, tv, ov] ∧ StP w b1 b2 bo bc zc ck wt gn tv ms rows v7 (xs ++ [t]) (w7.setCell ⟨bo, 4, none⟩ v7) := by
  obtain ⟨h1, h2, h3, h4, h5, h6, h7⟩ := h
  have hne : ∀ g, ov.ownBlock = some g → b2 ≤ g := fun g hg => (h2.lt g hg).1
  have g5 := (h5.alloc o).grown hg (fun e => by have := hne _ e.symm; omega)
  have g3 := (h3.alloc o).grown hg (fun e => by have := hne _ e.symm; omega)
  have g4 := (h4.alloc o).grown hg (fun e => by have := hne _ e.symm; omega)
  have g1 := h1.grow rfl hw (by omega) (own_base h2 (by omega)) hg
  refine ⟨g5, g1.setBlk rfl g5 (by omega) 4 v7, ?_, g3.far (by show w.heap.size ≠ bo; omega) _, g4.far (by show w.heap.size + 1 ≠ bo; omega) _, ?_, g1.bel.setCell (by show w.heap.size ≤ bo; omega) _, ?_⟩
  · have := ownsRow_setCell_below ho (a := ⟨bo, 4, none⟩) hbo v7
    unfold OwnO
    exact own_eq this (by simp) (by simp)
  · have := g5.set_ 4 v7
    simpa using this
  · have := hg.size
    simp at this ⊢
    omega
set_option maxRecDepth 100000 in
set_option maxHeartbeats 4000000 in
theorem storedOf_fault (v : Value) (g : GroupD) (s : ByteArray) (gen part at_ : Int) (n : Int) (hf : HereFault g s gen n) (w : World) (h : Gv w v g) (hnm : ∀ t ∈ g.mems, t.name.size ≤ 9223372036854775807) (hs : s.size ≤ 9223372036854775807) : Calls Try.prog 55 #[v, .string s, .int .i64 gen, .int .i64 part, .int .i64 at_] w (GRes zeroG n w) := by
  obtain ⟨mv, ov, rfl, hx, hy, hl1, hl2⟩ := id h
  obtain ⟨A, m, rfl, -⟩ := hx.at_
  obtain ⟨A', m', rfl, -⟩ := hy.at_
  have H := Lib.hid h
  have HX := Lib.hid hx
  have HY := Lib.hid hy
  clear h hx hy
  unfold groupV at *
  obtain ⟨ck, wt, gn, ms, os⟩ := g
  simp only at *
  have hn0 := hf.ne
  have n1 : (n == 0) = false := beq_eq_false_iff_ne.2 hn0
  have n2 : (n != 0) = true := by simpa using hn0
  have HF := Lib.hid hf
  clear hf hn0
  have HNM := Lib.hid hnm
  clear hnm
  go_enter Try.func55, Try.ntmps55
  go_wp2_with fail
  have hb1 : Below w.heap.size w ((w.alloc (.cells #[.int .i64 ck, .int .i64 wt, .int .i64 gn, .slice A ms.length m, .slice A' os.length m'] 36)).alloc (.cells #[.int .i64 0, .int .i64 0, .int .i64 0, .slice none 0 0, .slice none 0 0] 36)) := ((Below.refl _ _).alloc (by first | omega | (simp; done) | (simp; omega)) _).alloc (by first | omega | (simp; done) | (simp; omega)) _
  have hal1 : Below w.heap.size w ((w.alloc (.cells #[.int .i64 ck, .int .i64 wt, .int .i64 gn, .slice A ms.length m, .slice A' os.length m'] 36)).alloc (.cells #[.int .i64 0, .int .i64 0, .int .i64 0, .slice none 0 0, .slice none 0 0] 36)) := ((Below.refl _ _).alloc (by first | omega | (simp; done) | (simp; omega)) _).alloc (by first | omega | (simp; done) | (simp; omega)) _
  have b_bx1 : Blk ((w.alloc (.cells #[.int .i64 ck, .int .i64 wt, .int .i64 gn, .slice A ms.length m, .slice A' os.length m'] 36)).alloc (.cells #[.int .i64 0, .int .i64 0, .int .i64 0, .slice none 0 0, .slice none 0 0] 36)) (w.heap.size) 36 #[.int .i64 ck, .int .i64 wt, .int .i64 gn, .slice A ms.length m, .slice A' os.length m'] := (Blk.new_ _ 36 #[.int .i64 ck, .int .i64 wt, .int .i64 gn, .slice A ms.length m, .slice A' os.length m'] (by first | rfl | (simp; done) | (simp; omega))).alloc _
  have b_bz1 : Blk ((w.alloc (.cells #[.int .i64 ck, .int .i64 wt, .int .i64 gn, .slice A ms.length m, .slice A' os.length m'] 36)).alloc (.cells #[.int .i64 0, .int .i64 0, .int .i64 0, .slice none 0 0, .slice none 0 0] 36)) (w.heap.size + 1) 36 #[.int .i64 0, .int .i64 0, .int .i64 0, .slice none 0 0, .slice none 0 0] := Blk.new_ _ 36 #[.int .i64 0, .int .i64 0, .int .i64 0, .slice none 0 0, .slice none 0 0] (by first | rfl | (simp; done) | (simp; omega))
  have k_g1 := H.out.below hal1
  have hz1 : w.heap.size + 2 ≤ ((w.alloc (.cells #[.int .i64 ck, .int .i64 wt, .int .i64 gn, .slice A ms.length m, .slice A' os.length m'] 36)).alloc (.cells #[.int .i64 0, .int .i64 0, .int .i64 0, .slice none 0 0, .slice none 0 0] 36)).heap.size := by first | omega | (simp; done) | (simp; omega)
  generalize (w.alloc (.cells #[.int .i64 ck, .int .i64 wt, .int .i64 gn, .slice A ms.length m, .slice A' os.length m'] 36)).alloc (.cells #[.int .i64 0, .int .i64 0, .int .i64 0, .slice none 0 0, .slice none 0 0] 36) = W1 at *
  have HB1 := Lib.hid hb1
  have B1_bx := Lib.hid b_bx1
  have B1_bz := Lib.hid b_bz1
  have K1_g := Lib.hid k_g1
  clear hb1 b_bx1 b_bz1 k_g1
  clear H
  refine (hereFault_any K1_g.out HF.out HNM.out hs).mono ?_
  rintro e W2 ⟨rfl, hb⟩
  have hb2 : Below w.heap.size w W2 := below_then HB1.out hb
  have b_bx2 := B1_bx.out.below hb B1_bx.out.lt
  have b_bz2 := B1_bz.out.below hb B1_bz.out.lt
  have k_g2 := K1_g.out.below hb
  have hz2 := hb.size
  have HB2 := Lib.hid hb2
  have B2_bx := Lib.hid b_bx2
  have B2_bz := Lib.hid b_bz2
  have K2_g := Lib.hid k_g2
  clear hb2 b_bx2 b_bz2 k_g2
  clear B1_bx B1_bz HB1 K1_g
  have c_bx0 := B2_bx.out.cell 0
  have c_bx1 := B2_bx.out.cell 1
  have c_bx2 := B2_bx.out.cell 2
  have c_bx3 := B2_bx.out.cell 3
  have c_bx4 := B2_bx.out.cell 4
  have l_bx := B2_bx.out.lt
  go_wp2_with fail
  clear c_bx0 c_bx1 c_bx2 c_bx3 c_bx4 l_bx
  go_quiet (fail)
  generalize hd : World.drewN W2 _ = W3 at *
  have hb : Below W2.heap.size W2 W3 := by rw [← hd]; exact below_drewN_ _ _
  have hb3 : Below w.heap.size w W3 := below_then HB2.out hb
  have b_bx3 := B2_bx.out.below hb B2_bx.out.lt
  have b_bz3 := B2_bz.out.below hb B2_bz.out.lt
  have k_g3 := K2_g.out.below hb
  have hz3 := hb.size
  have HB3 := Lib.hid hb3
  have B3_bx := Lib.hid b_bx3
  have B3_bz := Lib.hid b_bz3
  have K3_g := Lib.hid k_g3
  clear hb3 b_bx3 b_bz3 k_g3
  clear B2_bx B2_bz HB2 K2_g
  clear hd hb
  have c_bz0 := B3_bz.out.cell 0
  have f_bz0 := B3_bz.out.frozen 0
  have c_bz1 := B3_bz.out.cell 1
  have f_bz1 := B3_bz.out.frozen 1
  have c_bz2 := B3_bz.out.cell 2
  have f_bz2 := B3_bz.out.frozen 2
  have c_bz3 := B3_bz.out.cell 3
  have f_bz3 := B3_bz.out.frozen 3
  have c_bz4 := B3_bz.out.cell 4
  have f_bz4 := B3_bz.out.frozen 4
  have l_bz := B3_bz.out.lt
  go_wp2_with fail
  clear c_bz0 f_bz0 c_bz1 f_bz1 c_bz2 f_bz2 c_bz3 f_bz3 c_bz4 f_bz4 l_bz
  have hszF := HB3.out.size
  have hbF : Below w.heap.size w (((((W3.setCell ⟨w.heap.size + 1, 0, none⟩ (.int .i64 0)).setCell ⟨w.heap.size + 1, 1, none⟩ (.int .i64 0)).setCell ⟨w.heap.size + 1, 2, none⟩ (.int .i64 0)).setCell ⟨w.heap.size + 1, 3, none⟩ (.slice none 0 0)).setCell ⟨w.heap.size + 1, 4, none⟩ (.slice none 0 0)) := (((((HB3.out).setCell (by show w.heap.size ≤ w.heap.size + 1; omega) _).setCell (by show w.heap.size ≤ w.heap.size + 1; omega) _).setCell (by show w.heap.size ≤ w.heap.size + 1; omega) _).setCell (by show w.heap.size ≤ w.heap.size + 1; omega) _).setCell (by show w.heap.size ≤ w.heap.size + 1; omega) _
  have b_bxF : Blk (((((W3.setCell ⟨w.heap.size + 1, 0, none⟩ (.int .i64 0)).setCell ⟨w.heap.size + 1, 1, none⟩ (.int .i64 0)).setCell ⟨w.heap.size + 1, 2, none⟩ (.int .i64 0)).setCell ⟨w.heap.size + 1, 3, none⟩ (.slice none 0 0)).setCell ⟨w.heap.size + 1, 4, none⟩ (.slice none 0 0)) (w.heap.size) 36 #[.int .i64 ck, .int .i64 wt, .int .i64 gn, .slice A ms.length m, .slice A' os.length m'] := (((((B3_bx.out).far (p := ⟨w.heap.size + 1, 0, none⟩) (by show w.heap.size ≠ w.heap.size + 1; omega) _).far (p := ⟨w.heap.size + 1, 1, none⟩) (by show w.heap.size ≠ w.heap.size + 1; omega) _).far (p := ⟨w.heap.size + 1, 2, none⟩) (by show w.heap.size ≠ w.heap.size + 1; omega) _).far (p := ⟨w.heap.size + 1, 3, none⟩) (by show w.heap.size ≠ w.heap.size + 1; omega) _).far (p := ⟨w.heap.size + 1, 4, none⟩) (by show w.heap.size ≠ w.heap.size + 1; omega) _
  have b_bzF : Blk (((((W3.setCell ⟨w.heap.size + 1, 0, none⟩ (.int .i64 0)).setCell ⟨w.heap.size + 1, 1, none⟩ (.int .i64 0)).setCell ⟨w.heap.size + 1, 2, none⟩ (.int .i64 0)).setCell ⟨w.heap.size + 1, 3, none⟩ (.slice none 0 0)).setCell ⟨w.heap.size + 1, 4, none⟩ (.slice none 0 0)) (w.heap.size + 1) 36 #[.int .i64 0, .int .i64 0, .int .i64 0, .slice none 0 0, .slice none 0 0] := (((((B3_bz.out).set_ 0 _).set_ 1 _).set_ 2 _).set_ 3 _).set_ 4 _
  have y0 := b_bzF.cell 0
  have y1 := b_bzF.cell 1
  have y2 := b_bzF.cell 2
  have y3 := b_bzF.cell 3
  have y4 := b_bzF.cell 4
  exact bodyPost_ret (v := .tuple #[.agg #[.int .i64 0, .int .i64 0, .int .i64 0, .slice none 0 0, .slice none 0 0], .int .i64 n]) (by simp [results, Try.results55, go_sem, y0, y1, y2, y3, y4]) rfl (GRes.zero hbF)
set_option maxRecDepth 100000 in
set_option maxHeartbeats 4000000 in
theorem storedOf_range (v : Value) (g : GroupD) (s : ByteArray) (gen part at_ : Int) (i : Nat) (hk : GroupOk g) (hn : NameOk s) (hi : idxM g.mems s = some i) (hl : i < g.mems.length) (hv : g.gen = gen) (hp : at_ < 0 ∨ 400 < at_) (w : World) (h : Gv w v g) (hnm : ∀ t ∈ g.mems, t.name.size ≤ 9223372036854775807) (hs : s.size ≤ 9223372036854775807) : Calls Try.prog 55 #[v, .string s, .int .i64 gen, .int .i64 part, .int .i64 at_] w (GRes zeroG 2 w) := by
  obtain ⟨mv, ov, rfl, hx, hy, hl1, hl2⟩ := id h
  obtain ⟨A, m, rfl, -⟩ := hx.at_
  obtain ⟨A', m', rfl, -⟩ := hy.at_
  have H := Lib.hid h
  have HX := Lib.hid hx
  have HY := Lib.hid hy
  clear h hx hy
  unfold groupV at *
  obtain ⟨ck, wt, gn, ms, os⟩ := g
  simp only at *
  have HIN := Lib.hid (show inB at_ 0 400 = false by unfold inB; rcases hp with h | h <;> simp <;> omega)
  clear hp
  have HK := Lib.hid hk
  have HN := Lib.hid hn
  have HI := Lib.hid hi
  have HV := Lib.hid hv
  have HNM := Lib.hid hnm
  clear hk hn hi hv hnm
  go_enter Try.func55, Try.ntmps55
  go_wp2_with fail
  have hb1 : Below w.heap.size w ((w.alloc (.cells #[.int .i64 ck, .int .i64 wt, .int .i64 gn, .slice A ms.length m, .slice A' os.length m'] 36)).alloc (.cells #[.int .i64 0, .int .i64 0, .int .i64 0, .slice none 0 0, .slice none 0 0] 36)) := ((Below.refl _ _).alloc (by first | omega | (simp; done) | (simp; omega)) _).alloc (by first | omega | (simp; done) | (simp; omega)) _
  have hal1 : Below w.heap.size w ((w.alloc (.cells #[.int .i64 ck, .int .i64 wt, .int .i64 gn, .slice A ms.length m, .slice A' os.length m'] 36)).alloc (.cells #[.int .i64 0, .int .i64 0, .int .i64 0, .slice none 0 0, .slice none 0 0] 36)) := ((Below.refl _ _).alloc (by first | omega | (simp; done) | (simp; omega)) _).alloc (by first | omega | (simp; done) | (simp; omega)) _
  have b_bx1 : Blk ((w.alloc (.cells #[.int .i64 ck, .int .i64 wt, .int .i64 gn, .slice A ms.length m, .slice A' os.length m'] 36)).alloc (.cells #[.int .i64 0, .int .i64 0, .int .i64 0, .slice none 0 0, .slice none 0 0] 36)) (w.heap.size) 36 #[.int .i64 ck, .int .i64 wt, .int .i64 gn, .slice A ms.length m, .slice A' os.length m'] := (Blk.new_ _ 36 #[.int .i64 ck, .int .i64 wt, .int .i64 gn, .slice A ms.length m, .slice A' os.length m'] (by first | rfl | (simp; done) | (simp; omega))).alloc _
  have b_bz1 : Blk ((w.alloc (.cells #[.int .i64 ck, .int .i64 wt, .int .i64 gn, .slice A ms.length m, .slice A' os.length m'] 36)).alloc (.cells #[.int .i64 0, .int .i64 0, .int .i64 0, .slice none 0 0, .slice none 0 0] 36)) (w.heap.size + 1) 36 #[.int .i64 0, .int .i64 0, .int .i64 0, .slice none 0 0, .slice none 0 0] := Blk.new_ _ 36 #[.int .i64 0, .int .i64 0, .int .i64 0, .slice none 0 0, .slice none 0 0] (by first | rfl | (simp; done) | (simp; omega))
  have k_g1 := H.out.below hal1
  have hz1 : w.heap.size + 2 ≤ ((w.alloc (.cells #[.int .i64 ck, .int .i64 wt, .int .i64 gn, .slice A ms.length m, .slice A' os.length m'] 36)).alloc (.cells #[.int .i64 0, .int .i64 0, .int .i64 0, .slice none 0 0, .slice none 0 0] 36)).heap.size := by first | omega | (simp; done) | (simp; omega)
  generalize (w.alloc (.cells #[.int .i64 ck, .int .i64 wt, .int .i64 gn, .slice A ms.length m, .slice A' os.length m'] 36)).alloc (.cells #[.int .i64 0, .int .i64 0, .int .i64 0, .slice none 0 0, .slice none 0 0] 36) = W1 at *
  have HB1 := Lib.hid hb1
  have B1_bx := Lib.hid b_bx1
  have B1_bz := Lib.hid b_bz1
  have K1_g := Lib.hid k_g1
  clear hb1 b_bx1 b_bz1 k_g1
  clear H
  refine (hereFault_good _ ⟨ck, wt, gn, ms, os⟩ s gen i HK.out HN.out HI.out hl HV.out _ K1_g.out HNM.out hs).mono ?_
  rintro e W2 ⟨rfl, hb⟩
  have hb2 : Below w.heap.size w W2 := below_then HB1.out hb
  have b_bx2 := B1_bx.out.below hb B1_bx.out.lt
  have b_bz2 := B1_bz.out.below hb B1_bz.out.lt
  have k_g2 := K1_g.out.below hb
  have hz2 := hb.size
  have HB2 := Lib.hid hb2
  have B2_bx := Lib.hid b_bx2
  have B2_bz := Lib.hid b_bz2
  have K2_g := Lib.hid k_g2
  clear hb2 b_bx2 b_bz2 k_g2
  clear B1_bx B1_bz HB1 K1_g
  have c_bx0 := B2_bx.out.cell 0
  have c_bx1 := B2_bx.out.cell 1
  have c_bx2 := B2_bx.out.cell 2
  have c_bx3 := B2_bx.out.cell 3
  have c_bx4 := B2_bx.out.cell 4
  have l_bx := B2_bx.out.lt
  go_wp2_with (go_at_call 64; refine (In_any _ _ _ _).mono ?_; rintro e wi ⟨rfl, rfl⟩; rw [HIN.out])
  clear c_bx0 c_bx1 c_bx2 c_bx3 c_bx4 l_bx
  have c_bx0 := B2_bx.out.cell 0
  have c_bx1 := B2_bx.out.cell 1
  have c_bx2 := B2_bx.out.cell 2
  have c_bx3 := B2_bx.out.cell 3
  have c_bx4 := B2_bx.out.cell 4
  have l_bx := B2_bx.out.lt
  go_quiet (fail)
  clear c_bx0 c_bx1 c_bx2 c_bx3 c_bx4 l_bx
  generalize hd : World.drewN W2 _ = W3 at *
  have hb : Below W2.heap.size W2 W3 := by rw [← hd]; exact below_drewN_ _ _
  have hb3 : Below w.heap.size w W3 := below_then HB2.out hb
  have b_bx3 := B2_bx.out.below hb B2_bx.out.lt
  have b_bz3 := B2_bz.out.below hb B2_bz.out.lt
  have k_g3 := K2_g.out.below hb
  have hz3 := hb.size
  have HB3 := Lib.hid hb3
  have B3_bx := Lib.hid b_bx3
  have B3_bz := Lib.hid b_bz3
  have K3_g := Lib.hid k_g3
  clear hb3 b_bx3 b_bz3 k_g3
  clear B2_bx B2_bz HB2 K2_g
  clear hd hb
  have c_bz0 := B3_bz.out.cell 0
  have f_bz0 := B3_bz.out.frozen 0
  have c_bz1 := B3_bz.out.cell 1
  have f_bz1 := B3_bz.out.frozen 1
  have c_bz2 := B3_bz.out.cell 2
  have f_bz2 := B3_bz.out.frozen 2
  have c_bz3 := B3_bz.out.cell 3
  have f_bz3 := B3_bz.out.frozen 3
  have c_bz4 := B3_bz.out.cell 4
  have f_bz4 := B3_bz.out.frozen 4
  have l_bz := B3_bz.out.lt
  go_wp2_with fail
  clear c_bz0 f_bz0 c_bz1 f_bz1 c_bz2 f_bz2 c_bz3 f_bz3 c_bz4 f_bz4 l_bz
  have hszF := HB3.out.size
  have hbF : Below w.heap.size w (((((W3.setCell ⟨w.heap.size + 1, 0, none⟩ (.int .i64 0)).setCell ⟨w.heap.size + 1, 1, none⟩ (.int .i64 0)).setCell ⟨w.heap.size + 1, 2, none⟩ (.int .i64 0)).setCell ⟨w.heap.size + 1, 3, none⟩ (.slice none 0 0)).setCell ⟨w.heap.size + 1, 4, none⟩ (.slice none 0 0)) := (((((HB3.out).setCell (by show w.heap.size ≤ w.heap.size + 1; omega) _).setCell (by show w.heap.size ≤ w.heap.size + 1; omega) _).setCell (by show w.heap.size ≤ w.heap.size + 1; omega) _).setCell (by show w.heap.size ≤ w.heap.size + 1; omega) _).setCell (by show w.heap.size ≤ w.heap.size + 1; omega) _
  have b_bxF : Blk (((((W3.setCell ⟨w.heap.size + 1, 0, none⟩ (.int .i64 0)).setCell ⟨w.heap.size + 1, 1, none⟩ (.int .i64 0)).setCell ⟨w.heap.size + 1, 2, none⟩ (.int .i64 0)).setCell ⟨w.heap.size + 1, 3, none⟩ (.slice none 0 0)).setCell ⟨w.heap.size + 1, 4, none⟩ (.slice none 0 0)) (w.heap.size) 36 #[.int .i64 ck, .int .i64 wt, .int .i64 gn, .slice A ms.length m, .slice A' os.length m'] := (((((B3_bx.out).far (p := ⟨w.heap.size + 1, 0, none⟩) (by show w.heap.size ≠ w.heap.size + 1; omega) _).far (p := ⟨w.heap.size + 1, 1, none⟩) (by show w.heap.size ≠ w.heap.size + 1; omega) _).far (p := ⟨w.heap.size + 1, 2, none⟩) (by show w.heap.size ≠ w.heap.size + 1; omega) _).far (p := ⟨w.heap.size + 1, 3, none⟩) (by show w.heap.size ≠ w.heap.size + 1; omega) _).far (p := ⟨w.heap.size + 1, 4, none⟩) (by show w.heap.size ≠ w.heap.size + 1; omega) _
  have b_bzF : Blk (((((W3.setCell ⟨w.heap.size + 1, 0, none⟩ (.int .i64 0)).setCell ⟨w.heap.size + 1, 1, none⟩ (.int .i64 0)).setCell ⟨w.heap.size + 1, 2, none⟩ (.int .i64 0)).setCell ⟨w.heap.size + 1, 3, none⟩ (.slice none 0 0)).setCell ⟨w.heap.size + 1, 4, none⟩ (.slice none 0 0)) (w.heap.size + 1) 36 #[.int .i64 0, .int .i64 0, .int .i64 0, .slice none 0 0, .slice none 0 0] := (((((B3_bz.out).set_ 0 _).set_ 1 _).set_ 2 _).set_ 3 _).set_ 4 _
  have y0 := b_bzF.cell 0
  have y1 := b_bzF.cell 1
  have y2 := b_bzF.cell 2
  have y3 := b_bzF.cell 3
  have y4 := b_bzF.cell 4
  exact bodyPost_ret (v := .tuple #[.agg #[.int .i64 0, .int .i64 0, .int .i64 0, .slice none 0 0, .slice none 0 0], .int .i64 2]) (by simp [results, Try.results55, go_sem, y0, y1, y2, y3, y4]) rfl (GRes.zero hbF)
set_option maxRecDepth 100000 in
set_option maxHeartbeats 4000000 in
theorem storedOf_state (v : Value) (g : GroupD) (s : ByteArray) (gen part at_ : Int) (i : Nat) (hk : GroupOk g) (hn : NameOk s) (hi : idxM g.mems s = some i) (hl : i < g.mems.length) (hv : g.gen = gen) (h0 : 0 ≤ at_) (h4 : at_ ≤ 400) (hp : part ∉ g.mems[i].parts) (w : World) (h : Gv w v g) (hnm : ∀ t ∈ g.mems, t.name.size ≤ 9223372036854775807) (hs : s.size ≤ 9223372036854775807) : Calls Try.prog 55 #[v, .string s, .int .i64 gen, .int .i64 part, .int .i64 at_] w (GRes zeroG 12 w) := by
  obtain ⟨mv, ov, rfl, hx, hy, hl1, hl2⟩ := id h
  obtain ⟨A, m, rfl, -, hxm⟩ := hx.at_
  obtain ⟨A', m', rfl, -⟩ := hy.at_
  have H := Lib.hid h
  have HX := Lib.hid hx
  have HY := Lib.hid hy
  clear h hx hy
  unfold groupV at *
  obtain ⟨ck, wt, gn, ms, os⟩ := g
  simp only at *
  obtain ⟨b, off, rfl, hbw, hcell⟩ := hxm (Nat.lt_of_le_of_lt (Nat.zero_le _) hl)
  obtain ⟨pv, x0, x1, x2, xi, -⟩ := hcell i hl
  obtain ⟨A3, m3, rfl, -⟩ := xi.form
  have HBW := Lib.hid hbw
  have XS := Lib.hid (And.intro x0 (And.intro x1 x2))
  have XI := Lib.hid xi
  clear hbw hcell x0 x1 x2 xi hxm
  have hix : ixM ms s = i := (ixM_some hi).2
  have HIX := Lib.hid hix
  have HIN := Lib.hid (show inB at_ 0 400 = true by unfold inB; simp; omega)
  have HPL := Lib.hid (show ms[i].parts.length ≤ 9223372036854775807 by have := (hk.all i hl hl).1.rises.small; simp only at this; omega)
  have HPM := Lib.hid hp
  have i0 : (0 : Int) ≤ (i : Int) := by omega
  have i1 : (i : Int) < (ms.length : Int) := Int.ofNat_lt.2 hl
  clear hix
  clear hp
  have HK := Lib.hid hk
  have HN := Lib.hid hn
  have HI := Lib.hid hi
  have HV := Lib.hid hv
  have HNM := Lib.hid hnm
  clear hk hn hi hv hnm
  go_enter Try.func55, Try.ntmps55
  go_wp2_with fail
  have hb1 : Below w.heap.size w ((w.alloc (.cells #[.int .i64 ck, .int .i64 wt, .int .i64 gn, .slice (some ⟨b, off, none⟩) ms.length m, .slice A' os.length m'] 36)).alloc (.cells #[.int .i64 0, .int .i64 0, .int .i64 0, .slice none 0 0, .slice none 0 0] 36)) := ((Below.refl _ _).alloc (by first | omega | (simp; done) | (simp; omega)) _).alloc (by first | omega | (simp; done) | (simp; omega)) _
  have hal1 : Below w.heap.size w ((w.alloc (.cells #[.int .i64 ck, .int .i64 wt, .int .i64 gn, .slice (some ⟨b, off, none⟩) ms.length m, .slice A' os.length m'] 36)).alloc (.cells #[.int .i64 0, .int .i64 0, .int .i64 0, .slice none 0 0, .slice none 0 0] 36)) := ((Below.refl _ _).alloc (by first | omega | (simp; done) | (simp; omega)) _).alloc (by first | omega | (simp; done) | (simp; omega)) _
  have b_bx1 : Blk ((w.alloc (.cells #[.int .i64 ck, .int .i64 wt, .int .i64 gn, .slice (some ⟨b, off, none⟩) ms.length m, .slice A' os.length m'] 36)).alloc (.cells #[.int .i64 0, .int .i64 0, .int .i64 0, .slice none 0 0, .slice none 0 0] 36)) (w.heap.size) 36 #[.int .i64 ck, .int .i64 wt, .int .i64 gn, .slice (some ⟨b, off, none⟩) ms.length m, .slice A' os.length m'] := (Blk.new_ _ 36 #[.int .i64 ck, .int .i64 wt, .int .i64 gn, .slice (some ⟨b, off, none⟩) ms.length m, .slice A' os.length m'] (by first | rfl | (simp; done) | (simp; omega))).alloc _
  have b_bz1 : Blk ((w.alloc (.cells #[.int .i64 ck, .int .i64 wt, .int .i64 gn, .slice (some ⟨b, off, none⟩) ms.length m, .slice A' os.length m'] 36)).alloc (.cells #[.int .i64 0, .int .i64 0, .int .i64 0, .slice none 0 0, .slice none 0 0] 36)) (w.heap.size + 1) 36 #[.int .i64 0, .int .i64 0, .int .i64 0, .slice none 0 0, .slice none 0 0] := Blk.new_ _ 36 #[.int .i64 0, .int .i64 0, .int .i64 0, .slice none 0 0, .slice none 0 0] (by first | rfl | (simp; done) | (simp; omega))
  have k_g1 := H.out.below hal1
  have hz1 : w.heap.size + 2 ≤ ((w.alloc (.cells #[.int .i64 ck, .int .i64 wt, .int .i64 gn, .slice (some ⟨b, off, none⟩) ms.length m, .slice A' os.length m'] 36)).alloc (.cells #[.int .i64 0, .int .i64 0, .int .i64 0, .slice none 0 0, .slice none 0 0] 36)).heap.size := by first | omega | (simp; done) | (simp; omega)
  generalize (w.alloc (.cells #[.int .i64 ck, .int .i64 wt, .int .i64 gn, .slice (some ⟨b, off, none⟩) ms.length m, .slice A' os.length m'] 36)).alloc (.cells #[.int .i64 0, .int .i64 0, .int .i64 0, .slice none 0 0, .slice none 0 0] 36) = W1 at *
  have HB1 := Lib.hid hb1
  have B1_bx := Lib.hid b_bx1
  have B1_bz := Lib.hid b_bz1
  have K1_g := Lib.hid k_g1
  clear hb1 b_bx1 b_bz1 k_g1
  clear H
  refine (hereFault_good _ ⟨ck, wt, gn, ms, os⟩ s gen i HK.out HN.out HI.out hl HV.out _ K1_g.out HNM.out hs).mono ?_
  rintro e W2 ⟨rfl, hb⟩
  have hb2 : Below w.heap.size w W2 := below_then HB1.out hb
  have b_bx2 := B1_bx.out.below hb B1_bx.out.lt
  have b_bz2 := B1_bz.out.below hb B1_bz.out.lt
  have k_g2 := K1_g.out.below hb
  have hz2 := hb.size
  have HB2 := Lib.hid hb2
  have B2_bx := Lib.hid b_bx2
  have B2_bz := Lib.hid b_bz2
  have K2_g := Lib.hid k_g2
  clear hb2 b_bx2 b_bz2 k_g2
  clear B1_bx B1_bz HB1 K1_g
  have c_bx0 := B2_bx.out.cell 0
  have c_bx1 := B2_bx.out.cell 1
  have c_bx2 := B2_bx.out.cell 2
  have c_bx3 := B2_bx.out.cell 3
  have c_bx4 := B2_bx.out.cell 4
  have l_bx := B2_bx.out.lt
  go_wp2_with (go_at_call 64; refine (In_any _ _ _ _).mono ?_; rintro e wi ⟨rfl, rfl⟩; rw [HIN.out])
  clear c_bx0 c_bx1 c_bx2 c_bx3 c_bx4 l_bx
  have c_bx0 := B2_bx.out.cell 0
  have c_bx1 := B2_bx.out.cell 1
  have c_bx2 := B2_bx.out.cell 2
  have c_bx3 := B2_bx.out.cell 3
  have c_bx4 := B2_bx.out.cell 4
  have l_bx := B2_bx.out.lt
  go_wp2_with fail
  clear c_bx0 c_bx1 c_bx2 c_bx3 c_bx4 l_bx
  obtain ⟨a0, a1, a2⟩ := XS.out
  have x0 := (HB2.out.cell (p := ⟨b, off + i * 3, none⟩) HBW.out).trans a0
  have x1 := (HB2.out.cell (p := ⟨b, off + i * 3 + 1, none⟩) HBW.out).trans a1
  have x2 := (HB2.out.cell (p := ⟨b, off + i * 3 + 2, none⟩) HBW.out).trans a2
  clear a0 a1 a2
  have hblz := HB2.out.size
  have hbl := HBW.out
  have c_bx0 := B2_bx.out.cell 0
  have c_bx1 := B2_bx.out.cell 1
  have c_bx2 := B2_bx.out.cell 2
  have c_bx3 := B2_bx.out.cell 3
  have c_bx4 := B2_bx.out.cell 4
  have l_bx := B2_bx.out.lt
  refine wp_region_held_drew (S := fun w0 => w0.cell? ⟨w.heap.size, 0, none⟩ = some (.int .i64 ck) ∧ w0.cell? ⟨w.heap.size, 1, none⟩ = some (.int .i64 wt) ∧ w0.cell? ⟨w.heap.size, 2, none⟩ = some (.int .i64 gn) ∧ w0.cell? ⟨w.heap.size, 3, none⟩ = some (.slice (some ⟨b, off, none⟩) ms.length m) ∧ w0.cell? ⟨w.heap.size, 4, none⟩ = some (.slice A' os.length m') ∧ w0.cell? ⟨b, off + i * 3, none⟩ = some (.string ms[i].name) ∧ w0.cell? ⟨b, off + i * 3 + 1, none⟩ = some (.int .i64 ms[i].heard) ∧ w0.cell? ⟨b, off + i * 3 + 2, none⟩ = some (.slice A3 ms[i].parts.length m3)) (by kernel_rfl) ?_ (fun hHeld => ?_)
  · exact ⟨c_bx0, c_bx1, c_bx2, c_bx3, c_bx4, x0, x1, x2⟩
  clear c_bx0 c_bx1 c_bx2 c_bx3 c_bx4 l_bx
  generalize hd : World.drew W2 = W3 at *
  have hb : Below W2.heap.size W2 W3 := by rw [← hd]; exact (Below.refl _ _).drew
  have hb3 : Below w.heap.size w W3 := below_then HB2.out hb
  have b_bx3 := B2_bx.out.below hb B2_bx.out.lt
  have b_bz3 := B2_bz.out.below hb B2_bz.out.lt
  have k_g3 := K2_g.out.below hb
  have hz3 := hb.size
  have HB3 := Lib.hid hb3
  have B3_bx := Lib.hid b_bx3
  have B3_bz := Lib.hid b_bz3
  have K3_g := Lib.hid k_g3
  clear hb3 b_bx3 b_bz3 k_g3
  clear B2_bx B2_bz HB2 K2_g
  have x0n := (hb.cell (p := ⟨b, off + i * 3, none⟩) (show b < W2.heap.size by omega)).trans x0
  clear x0
  have x0 := x0n
  clear x0n
  have x1n := (hb.cell (p := ⟨b, off + i * 3 + 1, none⟩) (show b < W2.heap.size by omega)).trans x1
  clear x1
  have x1 := x1n
  clear x1n
  have x2n := (hb.cell (p := ⟨b, off + i * 3 + 2, none⟩) (show b < W2.heap.size by omega)).trans x2
  clear x2
  have x2 := x2n
  clear x2n
  clear hd hb
  refine wpAnyH_take (i := 0) (v := ?_) rfl (by kernel_rfl) (by kernel_rfl) (by kernel_rfl) (fun _ _ _ h => h) (Or.inl ⟨by rfl, ?_⟩) (by assumption) ?_
  rotate_left
  · intro w0 hSw
    (try dsimp only at hSw)
    go_simp
    all_goals with_reducible rfl
  try simp only [Act.put, List.getElem_toArray, List.getElem_cons_zero, List.setIfInBounds_toArray, List.set_cons_zero, List.set_cons_succ]
  refine wpAnyH_take (i := 1) (v := ?_) rfl (by kernel_rfl) (by kernel_rfl) (by kernel_rfl) (fun _ _ _ h => h) (Or.inl ⟨by rfl, ?_⟩) (by assumption) ?_
  rotate_left
  · intro w0 hSw
    (try dsimp only at hSw)
    go_simp
    all_goals with_reducible rfl
  try simp only [Act.put, List.getElem_toArray, List.getElem_cons_zero, List.getElem_cons_succ, List.setIfInBounds_toArray, List.set_cons_zero, List.set_cons_succ]
  refine wpAnyH_take (i := 2) (v := ?_) rfl (by kernel_rfl) (by kernel_rfl) (by kernel_rfl) (fun _ _ _ h => h) (Or.inl ⟨by rfl, ?_⟩) (by assumption) ?_
  rotate_left
  · intro w0 hSw
    (try dsimp only at hSw)
    go_simp
    all_goals with_reducible rfl
  try simp only [Act.put, List.getElem_toArray, List.getElem_cons_zero, List.getElem_cons_succ, List.setIfInBounds_toArray, List.set_cons_zero, List.set_cons_succ]
  refine wpAnyH_take (i := 3) (v := ?_) rfl (by kernel_rfl) (by kernel_rfl) (by kernel_rfl) (fun _ _ _ h => h) (Or.inl ⟨by rfl, ?_⟩) (by assumption) ?_
  rotate_left
  · intro w0 hSw
    (try dsimp only at hSw)
    go_simp
    all_goals with_reducible rfl
  try simp only [Act.put, List.getElem_toArray, List.getElem_cons_zero, List.getElem_cons_succ, List.setIfInBounds_toArray, List.set_cons_zero, List.set_cons_succ]
  refine wpAnyH_take (i := 4) (v := ?_) rfl (by kernel_rfl) (by kernel_rfl) (by kernel_rfl) (fun _ _ _ h => h) (Or.inl ⟨by rfl, ?_⟩) (by assumption) ?_
  rotate_left
  · intro w0 hSw
    (try dsimp only at hSw)
    go_simp
    all_goals with_reducible rfl
  try simp only [Act.put, List.getElem_toArray, List.getElem_cons_zero, List.getElem_cons_succ, List.setIfInBounds_toArray, List.set_cons_zero, List.set_cons_succ]
  refine wpAnyH_take (i := 5) (v := ?_) rfl (by kernel_rfl) (by kernel_rfl) (by kernel_rfl) (fun _ _ _ h => h) (Or.inl ⟨by rfl, ?_⟩) (by assumption) ?_
  rotate_left
  · intro w0 hSw
    (try dsimp only at hSw)
    go_simp
    all_goals with_reducible rfl
  try simp only [Act.put, List.getElem_toArray, List.getElem_cons_zero, List.getElem_cons_succ, List.setIfInBounds_toArray, List.set_cons_zero, List.set_cons_succ]
  refine wpAnyH_take (i := 6) (v := ?_) rfl (by kernel_rfl) (by kernel_rfl) (by kernel_rfl) (fun _ _ _ h => h) (Or.inl ⟨by rfl, ?_⟩) (by assumption) ?_
  rotate_left
  · intro w0 hSw
    (try dsimp only at hSw)
    go_simp
    all_goals with_reducible rfl
  try simp only [Act.put, List.getElem_toArray, List.getElem_cons_zero, List.getElem_cons_succ, List.setIfInBounds_toArray, List.set_cons_zero, List.set_cons_succ]
  refine wpAnyH_take (i := 10) (v := ?_) rfl (by kernel_rfl) (by kernel_rfl) (by kernel_rfl) (fun _ _ _ h => h) (Or.inl ⟨by rfl, ?_⟩) (by assumption) ?_
  rotate_left
  · intro w0 hSw
    (try dsimp only at hSw)
    go_simp
    all_goals with_reducible rfl
  try simp only [Act.put, List.getElem_toArray, List.getElem_cons_zero, List.getElem_cons_succ, List.setIfInBounds_toArray, List.set_cons_zero, List.set_cons_succ]
  refine wpAnyH_ready (rs := [7]) (by kernel_rfl) (by simp) (AllReadyH.cons rfl (fun K hK => ?_) AllReadyH.nil)
  go_simp
  go_at_call 83
  refine (memberOf_any _ ⟨ck, wt, gn, ms, os⟩ s _ K3_g.out).mono ?_
  rintro e W4 ⟨rfl, hb⟩
  simp only
  rw [HIX.out]
  have hb4 : Below w.heap.size w W4 := below_then HB3.out hb
  have b_bx4 := B3_bx.out.below hb B3_bx.out.lt
  have b_bz4 := B3_bz.out.below hb B3_bz.out.lt
  have k_g4 := K3_g.out.below hb
  have hz4 := hb.size
  have HB4 := Lib.hid hb4
  have B4_bx := Lib.hid b_bx4
  have B4_bz := Lib.hid b_bz4
  have K4_g := Lib.hid k_g4
  clear hb4 b_bx4 b_bz4 k_g4
  clear B3_bx B3_bz HB3 K3_g
  clear x0 x1 x2 hbl hblz
  obtain ⟨a0, a1, a2⟩ := XS.out
  have x0 := (HB4.out.cell (p := ⟨b, off + i * 3, none⟩) HBW.out).trans a0
  have x1 := (HB4.out.cell (p := ⟨b, off + i * 3 + 1, none⟩) HBW.out).trans a1
  have x2 := (HB4.out.cell (p := ⟨b, off + i * 3 + 2, none⟩) HBW.out).trans a2
  clear a0 a1 a2
  have hblz := HB4.out.size
  have hbl := HBW.out
  refine hK.out _ _ ?_ (fun hHeld => ?_)
  · exact ⟨(B4_bx.out).cell 0, (B4_bx.out).cell 1, (B4_bx.out).cell 2, (B4_bx.out).cell 3, (B4_bx.out).cell 4, x0, x1, x2⟩
  clear hK K
  try simp only [Act.put, List.getElem_toArray, List.getElem_cons_zero, List.getElem_cons_succ, List.setIfInBounds_toArray, List.set_cons_zero, List.set_cons_succ]
  refine wpAnyH_take (i := 8) (v := ?_) rfl (by kernel_rfl) (by kernel_rfl) (by kernel_rfl) (fun _ _ _ h => h) (Or.inl ⟨by rfl, ?_⟩) (by assumption) ?_
  rotate_left
  · intro w0 hSw
    (try dsimp only at hSw)
    go_simp
    all_goals with_reducible rfl
  try simp only [Act.put, List.getElem_toArray, List.getElem_cons_zero, List.getElem_cons_succ, List.setIfInBounds_toArray, List.set_cons_zero, List.set_cons_succ]
  refine wpAnyH_take (i := 9) (v := ?_) rfl (by kernel_rfl) (by kernel_rfl) (by kernel_rfl) (fun _ _ _ h => h) (Or.inl ⟨by rfl, ?_⟩) (by assumption) ?_
  rotate_left
  · intro w0 hSw
    (try dsimp only at hSw)
    go_simp
    all_goals with_reducible rfl
  try simp only [Act.put, List.getElem_toArray, List.getElem_cons_zero, List.getElem_cons_succ, List.setIfInBounds_toArray, List.set_cons_zero, List.set_cons_succ]
  refine wpAnyH_ready (rs := [11]) (by kernel_rfl) (by simp) (AllReadyH.cons rfl (fun K hK => ?_) AllReadyH.nil)
  go_simp
  go_at_call 90
  refine (ownsPart_any _ _ _ ms[i].parts part _ (XI.out.below HB4.out) HPL.out).mono ?_
  rintro e W5 ⟨qb, rfl, hq, hb⟩
  obtain rfl : qb = false := by
    have := HPM.out
    cases qb <;> simp_all
  clear hq
  have hb5 : Below w.heap.size w W5 := below_then HB4.out hb
  have b_bx5 := B4_bx.out.below hb B4_bx.out.lt
  have b_bz5 := B4_bz.out.below hb B4_bz.out.lt
  have k_g5 := K4_g.out.below hb
  have hz5 := hb.size
  have HB5 := Lib.hid hb5
  have B5_bx := Lib.hid b_bx5
  have B5_bz := Lib.hid b_bz5
  have K5_g := Lib.hid k_g5
  clear hb5 b_bx5 b_bz5 k_g5
  clear B4_bx B4_bz HB4 K4_g
  clear x0 x1 x2 hbl hblz
  obtain ⟨a0, a1, a2⟩ := XS.out
  have x0 := (HB5.out.cell (p := ⟨b, off + i * 3, none⟩) HBW.out).trans a0
  have x1 := (HB5.out.cell (p := ⟨b, off + i * 3 + 1, none⟩) HBW.out).trans a1
  have x2 := (HB5.out.cell (p := ⟨b, off + i * 3 + 2, none⟩) HBW.out).trans a2
  clear a0 a1 a2
  have hblz := HB5.out.size
  have hbl := HBW.out
  refine hK.out _ _ ?_ (fun hHeld => ?_)
  · exact ⟨(B5_bx.out).cell 0, (B5_bx.out).cell 1, (B5_bx.out).cell 2, (B5_bx.out).cell 3, (B5_bx.out).cell 4, x0, x1, x2⟩
  clear hK K
  try simp only [Act.put, List.getElem_toArray, List.getElem_cons_zero, List.getElem_cons_succ, List.setIfInBounds_toArray, List.set_cons_zero, List.set_cons_succ]
  refine wpAnyH_take (i := 12) (v := ?_) rfl (by kernel_rfl) (by kernel_rfl) (by kernel_rfl) (fun _ _ _ h => h) (Or.inl ⟨by rfl, ?_⟩) (by assumption) ?_
  rotate_left
  · intro w0 hSw
    (try dsimp only at hSw)
    go_simp
    all_goals with_reducible rfl
  try simp only [Act.put, List.getElem_toArray, List.getElem_cons_zero, List.getElem_cons_succ, List.setIfInBounds_toArray, List.set_cons_zero, List.set_cons_succ]
  refine wpAnyH_take (i := 13) (v := ?_) rfl (by kernel_rfl) (by kernel_rfl) (by kernel_rfl) (fun _ _ _ h => h) (Or.inl ⟨by rfl, ?_⟩) (by assumption) ?_
  rotate_left
  · intro w0 hSw
    (try dsimp only at hSw)
    go_simp
    all_goals with_reducible rfl
  try simp only [Act.put, List.getElem_toArray, List.getElem_cons_zero, List.getElem_cons_succ, List.setIfInBounds_toArray, List.set_cons_zero, List.set_cons_succ]
  refine wpAnyH_done (by kernel_rfl) ?_ _
  clear x0 x1 x2 hbl hblz
  have c_bx0 := B5_bx.out.cell 0
  have c_bx1 := B5_bx.out.cell 1
  have c_bx2 := B5_bx.out.cell 2
  have c_bx3 := B5_bx.out.cell 3
  have c_bx4 := B5_bx.out.cell 4
  have l_bx := B5_bx.out.lt
  have c_bz0 := B5_bz.out.cell 0
  have f_bz0 := B5_bz.out.frozen 0
  have c_bz1 := B5_bz.out.cell 1
  have f_bz1 := B5_bz.out.frozen 1
  have c_bz2 := B5_bz.out.cell 2
  have f_bz2 := B5_bz.out.frozen 2
  have c_bz3 := B5_bz.out.cell 3
  have f_bz3 := B5_bz.out.frozen 3
  have c_bz4 := B5_bz.out.cell 4
  have f_bz4 := B5_bz.out.frozen 4
  have l_bz := B5_bz.out.lt
  go_wp2_with fail
  clear c_bx0 c_bx1 c_bx2 c_bx3 c_bx4 l_bx c_bz0 f_bz0 c_bz1 f_bz1 c_bz2 f_bz2 c_bz3 f_bz3 c_bz4 f_bz4 l_bz
  have hszF := HB5.out.size
  have hbF : Below w.heap.size w (((((W5.setCell ⟨w.heap.size + 1, 0, none⟩ (.int .i64 0)).setCell ⟨w.heap.size + 1, 1, none⟩ (.int .i64 0)).setCell ⟨w.heap.size + 1, 2, none⟩ (.int .i64 0)).setCell ⟨w.heap.size + 1, 3, none⟩ (.slice none 0 0)).setCell ⟨w.heap.size + 1, 4, none⟩ (.slice none 0 0)) := (((((HB5.out).setCell (by show w.heap.size ≤ w.heap.size + 1; omega) _).setCell (by show w.heap.size ≤ w.heap.size + 1; omega) _).setCell (by show w.heap.size ≤ w.heap.size + 1; omega) _).setCell (by show w.heap.size ≤ w.heap.size + 1; omega) _).setCell (by show w.heap.size ≤ w.heap.size + 1; omega) _
  have b_bxF : Blk (((((W5.setCell ⟨w.heap.size + 1, 0, none⟩ (.int .i64 0)).setCell ⟨w.heap.size + 1, 1, none⟩ (.int .i64 0)).setCell ⟨w.heap.size + 1, 2, none⟩ (.int .i64 0)).setCell ⟨w.heap.size + 1, 3, none⟩ (.slice none 0 0)).setCell ⟨w.heap.size + 1, 4, none⟩ (.slice none 0 0)) (w.heap.size) 36 #[.int .i64 ck, .int .i64 wt, .int .i64 gn, .slice (some ⟨b, off, none⟩) ms.length m, .slice A' os.length m'] := (((((B5_bx.out).far (p := ⟨w.heap.size + 1, 0, none⟩) (by show w.heap.size ≠ w.heap.size + 1; omega) _).far (p := ⟨w.heap.size + 1, 1, none⟩) (by show w.heap.size ≠ w.heap.size + 1; omega) _).far (p := ⟨w.heap.size + 1, 2, none⟩) (by show w.heap.size ≠ w.heap.size + 1; omega) _).far (p := ⟨w.heap.size + 1, 3, none⟩) (by show w.heap.size ≠ w.heap.size + 1; omega) _).far (p := ⟨w.heap.size + 1, 4, none⟩) (by show w.heap.size ≠ w.heap.size + 1; omega) _
  have b_bzF : Blk (((((W5.setCell ⟨w.heap.size + 1, 0, none⟩ (.int .i64 0)).setCell ⟨w.heap.size + 1, 1, none⟩ (.int .i64 0)).setCell ⟨w.heap.size + 1, 2, none⟩ (.int .i64 0)).setCell ⟨w.heap.size + 1, 3, none⟩ (.slice none 0 0)).setCell ⟨w.heap.size + 1, 4, none⟩ (.slice none 0 0)) (w.heap.size + 1) 36 #[.int .i64 0, .int .i64 0, .int .i64 0, .slice none 0 0, .slice none 0 0] := (((((B5_bz.out).set_ 0 _).set_ 1 _).set_ 2 _).set_ 3 _).set_ 4 _
  have y0 := b_bzF.cell 0
  have y1 := b_bzF.cell 1
  have y2 := b_bzF.cell 2
  have y3 := b_bzF.cell 3
  have y4 := b_bzF.cell 4
  exact bodyPost_ret (v := .tuple #[.agg #[.int .i64 0, .int .i64 0, .int .i64 0, .slice none 0 0, .slice none 0 0], .int .i64 12]) (by simp [results, Try.results55, go_sem, y0, y1, y2, y3, y4]) rfl (GRes.zero hbF)
set_option maxRecDepth 100000 in
set_option maxHeartbeats 4000000 in
theorem storedOf_good (v : Value) (g : GroupD) (s : ByteArray) (gen part at_ : Int) (i : Nat) (hk : GroupOk g) (hn : NameOk s) (hi : idxM g.mems s = some i) (hl : i < g.mems.length) (hv : g.gen = gen) (h0 : 0 ≤ at_) (h4 : at_ ≤ 400) (hp : part ∈ g.mems[i].parts) (hp0 : 0 ≤ part) (hp3 : part ≤ 3) (os' : List OffD) (hos : four.flatMap (pieceO g.offs part at_) = os') (w : World) (h : Gv w v g) (hnm : ∀ t ∈ g.mems, t.name.size ≤ 9223372036854775807) (hs : s.size ≤ 9223372036854775807) : Calls Try.prog 55 #[v, .string s, .int .i64 gen, .int .i64 part, .int .i64 at_] w (GRes (g.offsTo os') 0 w) := by
  obtain ⟨j0, hj0, hy0, hy1, hy2⟩ := info_parts off_info
  obtain ⟨mv, ov, rfl, hx, hy, hl1, hl2⟩ := id h
  obtain ⟨A, m, rfl, -, hxm⟩ := hx.at_
  obtain ⟨A', m', rfl, -, hym⟩ := hy.at_
  have H := Lib.hid h
  have HX := Lib.hid hx
  have HY := Lib.hid hy
  clear h hx hy
  unfold groupV at *
  obtain ⟨ck, wt, gn, ms, os⟩ := g
  simp only at *
  obtain ⟨b, off, rfl, hbw, hcell⟩ := hxm (Nat.lt_of_le_of_lt (Nat.zero_le _) hl)
  obtain ⟨pv, x0, x1, x2, xi, -⟩ := hcell i hl
  obtain ⟨A3, m3, rfl, -⟩ := xi.form
  have HBW := Lib.hid hbw
  have XS := Lib.hid (And.intro x0 (And.intro x1 x2))
  have XI := Lib.hid xi
  clear hbw hcell x0 x1 x2 xi hxm
  have hix : ixM ms s = i := (ixM_some hi).2
  have HIX := Lib.hid hix
  have HIN := Lib.hid (show inB at_ 0 400 = true by unfold inB; simp; omega)
  have HPL := Lib.hid (show ms[i].parts.length ≤ 9223372036854775807 by have := (hk.all i hl hl).1.rises.small; simp only at this; omega)
  have HPM := Lib.hid hp
  have i0 : (0 : Int) ≤ (i : Int) := by omega
  have i1 : (i : Int) < (ms.length : Int) := Int.ofNat_lt.2 hl
  clear hix
  have hbd2 := hk.bounds.1
  have HYM := Lib.hid hym
  have HOS := Lib.hid hos
  have HO4 := Lib.hid (show os.length ≤ 4 from hk.offs)
  clear hp hym hos
  have HK := Lib.hid hk
  have HN := Lib.hid hn
  have HI := Lib.hid hi
  have HV := Lib.hid hv
  have HNM := Lib.hid hnm
  have HJ0 := Lib.hid hj0
  have HY0 := Lib.hid hy0
  have HY1 := Lib.hid hy1
  have HY2 := Lib.hid hy2
  clear hk hn hi hv hnm hj0 hy0 hy1 hy2
  go_enter Try.func55, Try.ntmps55
  go_wp2_with fail
  have hb1 : Below w.heap.size w ((w.alloc (.cells #[.int .i64 ck, .int .i64 wt, .int .i64 gn, .slice (some ⟨b, off, none⟩) ms.length m, .slice A' os.length m'] 36)).alloc (.cells #[.int .i64 0, .int .i64 0, .int .i64 0, .slice none 0 0, .slice none 0 0] 36)) := ((Below.refl _ _).alloc (by first | omega | (simp; done) | (simp; omega)) _).alloc (by first | omega | (simp; done) | (simp; omega)) _
  have hal1 : Below w.heap.size w ((w.alloc (.cells #[.int .i64 ck, .int .i64 wt, .int .i64 gn, .slice (some ⟨b, off, none⟩) ms.length m, .slice A' os.length m'] 36)).alloc (.cells #[.int .i64 0, .int .i64 0, .int .i64 0, .slice none 0 0, .slice none 0 0] 36)) := ((Below.refl _ _).alloc (by first | omega | (simp; done) | (simp; omega)) _).alloc (by first | omega | (simp; done) | (simp; omega)) _
  have b_bx1 : Blk ((w.alloc (.cells #[.int .i64 ck, .int .i64 wt, .int .i64 gn, .slice (some ⟨b, off, none⟩) ms.length m, .slice A' os.length m'] 36)).alloc (.cells #[.int .i64 0, .int .i64 0, .int .i64 0, .slice none 0 0, .slice none 0 0] 36)) (w.heap.size) 36 #[.int .i64 ck, .int .i64 wt, .int .i64 gn, .slice (some ⟨b, off, none⟩) ms.length m, .slice A' os.length m'] := (Blk.new_ _ 36 #[.int .i64 ck, .int .i64 wt, .int .i64 gn, .slice (some ⟨b, off, none⟩) ms.length m, .slice A' os.length m'] (by first | rfl | (simp; done) | (simp; omega))).alloc _
  have b_bz1 : Blk ((w.alloc (.cells #[.int .i64 ck, .int .i64 wt, .int .i64 gn, .slice (some ⟨b, off, none⟩) ms.length m, .slice A' os.length m'] 36)).alloc (.cells #[.int .i64 0, .int .i64 0, .int .i64 0, .slice none 0 0, .slice none 0 0] 36)) (w.heap.size + 1) 36 #[.int .i64 0, .int .i64 0, .int .i64 0, .slice none 0 0, .slice none 0 0] := Blk.new_ _ 36 #[.int .i64 0, .int .i64 0, .int .i64 0, .slice none 0 0, .slice none 0 0] (by first | rfl | (simp; done) | (simp; omega))
  have k_g1 := H.out.below hal1
  have hz1 : w.heap.size + 2 ≤ ((w.alloc (.cells #[.int .i64 ck, .int .i64 wt, .int .i64 gn, .slice (some ⟨b, off, none⟩) ms.length m, .slice A' os.length m'] 36)).alloc (.cells #[.int .i64 0, .int .i64 0, .int .i64 0, .slice none 0 0, .slice none 0 0] 36)).heap.size := by first | omega | (simp; done) | (simp; omega)
  generalize (w.alloc (.cells #[.int .i64 ck, .int .i64 wt, .int .i64 gn, .slice (some ⟨b, off, none⟩) ms.length m, .slice A' os.length m'] 36)).alloc (.cells #[.int .i64 0, .int .i64 0, .int .i64 0, .slice none 0 0, .slice none 0 0] 36) = W1 at *
  have HB1 := Lib.hid hb1
  have B1_bx := Lib.hid b_bx1
  have B1_bz := Lib.hid b_bz1
  have K1_g := Lib.hid k_g1
  clear hb1 b_bx1 b_bz1 k_g1
  clear H
  refine (hereFault_good _ ⟨ck, wt, gn, ms, os⟩ s gen i HK.out HN.out HI.out hl HV.out _ K1_g.out HNM.out hs).mono ?_
  rintro e W2 ⟨rfl, hb⟩
  have hb2 : Below w.heap.size w W2 := below_then HB1.out hb
  have b_bx2 := B1_bx.out.below hb B1_bx.out.lt
  have b_bz2 := B1_bz.out.below hb B1_bz.out.lt
  have k_g2 := K1_g.out.below hb
  have hz2 := hb.size
  have HB2 := Lib.hid hb2
  have B2_bx := Lib.hid b_bx2
  have B2_bz := Lib.hid b_bz2
  have K2_g := Lib.hid k_g2
  clear hb2 b_bx2 b_bz2 k_g2
  clear B1_bx B1_bz HB1 K1_g
  have c_bx0 := B2_bx.out.cell 0
  have c_bx1 := B2_bx.out.cell 1
  have c_bx2 := B2_bx.out.cell 2
  have c_bx3 := B2_bx.out.cell 3
  have c_bx4 := B2_bx.out.cell 4
  have l_bx := B2_bx.out.lt
  go_wp2_with (go_at_call 64; refine (In_any _ _ _ _).mono ?_; rintro e wi ⟨rfl, rfl⟩; rw [HIN.out])
  clear c_bx0 c_bx1 c_bx2 c_bx3 c_bx4 l_bx
  have c_bx0 := B2_bx.out.cell 0
  have c_bx1 := B2_bx.out.cell 1
  have c_bx2 := B2_bx.out.cell 2
  have c_bx3 := B2_bx.out.cell 3
  have c_bx4 := B2_bx.out.cell 4
  have l_bx := B2_bx.out.lt
  go_wp2_with fail
  clear c_bx0 c_bx1 c_bx2 c_bx3 c_bx4 l_bx
  obtain ⟨a0, a1, a2⟩ := XS.out
  have x0 := (HB2.out.cell (p := ⟨b, off + i * 3, none⟩) HBW.out).trans a0
  have x1 := (HB2.out.cell (p := ⟨b, off + i * 3 + 1, none⟩) HBW.out).trans a1
  have x2 := (HB2.out.cell (p := ⟨b, off + i * 3 + 2, none⟩) HBW.out).trans a2
  clear a0 a1 a2
  have hblz := HB2.out.size
  have hbl := HBW.out
  have c_bx0 := B2_bx.out.cell 0
  have c_bx1 := B2_bx.out.cell 1
  have c_bx2 := B2_bx.out.cell 2
  have c_bx3 := B2_bx.out.cell 3
  have c_bx4 := B2_bx.out.cell 4
  have l_bx := B2_bx.out.lt
  refine wp_region_held_drew (S := fun w0 => w0.cell? ⟨w.heap.size, 0, none⟩ = some (.int .i64 ck) ∧ w0.cell? ⟨w.heap.size, 1, none⟩ = some (.int .i64 wt) ∧ w0.cell? ⟨w.heap.size, 2, none⟩ = some (.int .i64 gn) ∧ w0.cell? ⟨w.heap.size, 3, none⟩ = some (.slice (some ⟨b, off, none⟩) ms.length m) ∧ w0.cell? ⟨w.heap.size, 4, none⟩ = some (.slice A' os.length m') ∧ w0.cell? ⟨b, off + i * 3, none⟩ = some (.string ms[i].name) ∧ w0.cell? ⟨b, off + i * 3 + 1, none⟩ = some (.int .i64 ms[i].heard) ∧ w0.cell? ⟨b, off + i * 3 + 2, none⟩ = some (.slice A3 ms[i].parts.length m3)) (by kernel_rfl) ?_ (fun hHeld => ?_)
  · exact ⟨c_bx0, c_bx1, c_bx2, c_bx3, c_bx4, x0, x1, x2⟩
  clear c_bx0 c_bx1 c_bx2 c_bx3 c_bx4 l_bx
  generalize hd : World.drew W2 = W3 at *
  have hb : Below W2.heap.size W2 W3 := by rw [← hd]; exact (Below.refl _ _).drew
  have hb3 : Below w.heap.size w W3 := below_then HB2.out hb
  have b_bx3 := B2_bx.out.below hb B2_bx.out.lt
  have b_bz3 := B2_bz.out.below hb B2_bz.out.lt
  have k_g3 := K2_g.out.below hb
  have hz3 := hb.size
  have HB3 := Lib.hid hb3
  have B3_bx := Lib.hid b_bx3
  have B3_bz := Lib.hid b_bz3
  have K3_g := Lib.hid k_g3
  clear hb3 b_bx3 b_bz3 k_g3
  clear B2_bx B2_bz HB2 K2_g
  have x0n := (hb.cell (p := ⟨b, off + i * 3, none⟩) (show b < W2.heap.size by omega)).trans x0
  clear x0
  have x0 := x0n
  clear x0n
  have x1n := (hb.cell (p := ⟨b, off + i * 3 + 1, none⟩) (show b < W2.heap.size by omega)).trans x1
  clear x1
  have x1 := x1n
  clear x1n
  have x2n := (hb.cell (p := ⟨b, off + i * 3 + 2, none⟩) (show b < W2.heap.size by omega)).trans x2
  clear x2
  have x2 := x2n
  clear x2n
  clear hd hb
  refine wpAnyH_take (i := 0) (v := ?_) rfl (by kernel_rfl) (by kernel_rfl) (by kernel_rfl) (fun _ _ _ h => h) (Or.inl ⟨by rfl, ?_⟩) (by assumption) ?_
  rotate_left
  · intro w0 hSw
    (try dsimp only at hSw)
    go_simp
    all_goals with_reducible rfl
  try simp only [Act.put, List.getElem_toArray, List.getElem_cons_zero, List.setIfInBounds_toArray, List.set_cons_zero, List.set_cons_succ]
  refine wpAnyH_take (i := 1) (v := ?_) rfl (by kernel_rfl) (by kernel_rfl) (by kernel_rfl) (fun _ _ _ h => h) (Or.inl ⟨by rfl, ?_⟩) (by assumption) ?_
  rotate_left
  · intro w0 hSw
    (try dsimp only at hSw)
    go_simp
    all_goals with_reducible rfl
  try simp only [Act.put, List.getElem_toArray, List.getElem_cons_zero, List.getElem_cons_succ, List.setIfInBounds_toArray, List.set_cons_zero, List.set_cons_succ]
  refine wpAnyH_take (i := 2) (v := ?_) rfl (by kernel_rfl) (by kernel_rfl) (by kernel_rfl) (fun _ _ _ h => h) (Or.inl ⟨by rfl, ?_⟩) (by assumption) ?_
  rotate_left
  · intro w0 hSw
    (try dsimp only at hSw)
    go_simp
    all_goals with_reducible rfl
  try simp only [Act.put, List.getElem_toArray, List.getElem_cons_zero, List.getElem_cons_succ, List.setIfInBounds_toArray, List.set_cons_zero, List.set_cons_succ]
  refine wpAnyH_take (i := 3) (v := ?_) rfl (by kernel_rfl) (by kernel_rfl) (by kernel_rfl) (fun _ _ _ h => h) (Or.inl ⟨by rfl, ?_⟩) (by assumption) ?_
  rotate_left
  · intro w0 hSw
    (try dsimp only at hSw)
    go_simp
    all_goals with_reducible rfl
  try simp only [Act.put, List.getElem_toArray, List.getElem_cons_zero, List.getElem_cons_succ, List.setIfInBounds_toArray, List.set_cons_zero, List.set_cons_succ]
  refine wpAnyH_take (i := 4) (v := ?_) rfl (by kernel_rfl) (by kernel_rfl) (by kernel_rfl) (fun _ _ _ h => h) (Or.inl ⟨by rfl, ?_⟩) (by assumption) ?_
  rotate_left
  · intro w0 hSw
    (try dsimp only at hSw)
    go_simp
    all_goals with_reducible rfl
  try simp only [Act.put, List.getElem_toArray, List.getElem_cons_zero, List.getElem_cons_succ, List.setIfInBounds_toArray, List.set_cons_zero, List.set_cons_succ]
  refine wpAnyH_take (i := 5) (v := ?_) rfl (by kernel_rfl) (by kernel_rfl) (by kernel_rfl) (fun _ _ _ h => h) (Or.inl ⟨by rfl, ?_⟩) (by assumption) ?_
  rotate_left
  · intro w0 hSw
    (try dsimp only at hSw)
    go_simp
    all_goals with_reducible rfl
  try simp only [Act.put, List.getElem_toArray, List.getElem_cons_zero, List.getElem_cons_succ, List.setIfInBounds_toArray, List.set_cons_zero, List.set_cons_succ]
  refine wpAnyH_take (i := 6) (v := ?_) rfl (by kernel_rfl) (by kernel_rfl) (by kernel_rfl) (fun _ _ _ h => h) (Or.inl ⟨by rfl, ?_⟩) (by assumption) ?_
  rotate_left
  · intro w0 hSw
    (try dsimp only at hSw)
    go_simp
    all_goals with_reducible rfl
  try simp only [Act.put, List.getElem_toArray, List.getElem_cons_zero, List.getElem_cons_succ, List.setIfInBounds_toArray, List.set_cons_zero, List.set_cons_succ]
  refine wpAnyH_take (i := 10) (v := ?_) rfl (by kernel_rfl) (by kernel_rfl) (by kernel_rfl) (fun _ _ _ h => h) (Or.inl ⟨by rfl, ?_⟩) (by assumption) ?_
  rotate_left
  · intro w0 hSw
    (try dsimp only at hSw)
    go_simp
    all_goals with_reducible rfl
  try simp only [Act.put, List.getElem_toArray, List.getElem_cons_zero, List.getElem_cons_succ, List.setIfInBounds_toArray, List.set_cons_zero, List.set_cons_succ]
  refine wpAnyH_ready (rs := [7]) (by kernel_rfl) (by simp) (AllReadyH.cons rfl (fun K hK => ?_) AllReadyH.nil)
  go_simp
  go_at_call 83
  refine (memberOf_any _ ⟨ck, wt, gn, ms, os⟩ s _ K3_g.out).mono ?_
  rintro e W4 ⟨rfl, hb⟩
  simp only
  rw [HIX.out]
  have hb4 : Below w.heap.size w W4 := below_then HB3.out hb
  have b_bx4 := B3_bx.out.below hb B3_bx.out.lt
  have b_bz4 := B3_bz.out.below hb B3_bz.out.lt
  have k_g4 := K3_g.out.below hb
  have hz4 := hb.size
  have HB4 := Lib.hid hb4
  have B4_bx := Lib.hid b_bx4
  have B4_bz := Lib.hid b_bz4
  have K4_g := Lib.hid k_g4
  clear hb4 b_bx4 b_bz4 k_g4
  clear B3_bx B3_bz HB3 K3_g
  clear x0 x1 x2 hbl hblz
  obtain ⟨a0, a1, a2⟩ := XS.out
  have x0 := (HB4.out.cell (p := ⟨b, off + i * 3, none⟩) HBW.out).trans a0
  have x1 := (HB4.out.cell (p := ⟨b, off + i * 3 + 1, none⟩) HBW.out).trans a1
  have x2 := (HB4.out.cell (p := ⟨b, off + i * 3 + 2, none⟩) HBW.out).trans a2
  clear a0 a1 a2
  have hblz := HB4.out.size
  have hbl := HBW.out
  refine hK.out _ _ ?_ (fun hHeld => ?_)
  · exact ⟨(B4_bx.out).cell 0, (B4_bx.out).cell 1, (B4_bx.out).cell 2, (B4_bx.out).cell 3, (B4_bx.out).cell 4, x0, x1, x2⟩
  clear hK K
  try simp only [Act.put, List.getElem_toArray, List.getElem_cons_zero, List.getElem_cons_succ, List.setIfInBounds_toArray, List.set_cons_zero, List.set_cons_succ]
  refine wpAnyH_take (i := 8) (v := ?_) rfl (by kernel_rfl) (by kernel_rfl) (by kernel_rfl) (fun _ _ _ h => h) (Or.inl ⟨by rfl, ?_⟩) (by assumption) ?_
  rotate_left
  · intro w0 hSw
    (try dsimp only at hSw)
    go_simp
    all_goals with_reducible rfl
  try simp only [Act.put, List.getElem_toArray, List.getElem_cons_zero, List.getElem_cons_succ, List.setIfInBounds_toArray, List.set_cons_zero, List.set_cons_succ]
  refine wpAnyH_take (i := 9) (v := ?_) rfl (by kernel_rfl) (by kernel_rfl) (by kernel_rfl) (fun _ _ _ h => h) (Or.inl ⟨by rfl, ?_⟩) (by assumption) ?_
  rotate_left
  · intro w0 hSw
    (try dsimp only at hSw)
    go_simp
    all_goals with_reducible rfl
  try simp only [Act.put, List.getElem_toArray, List.getElem_cons_zero, List.getElem_cons_succ, List.setIfInBounds_toArray, List.set_cons_zero, List.set_cons_succ]
  refine wpAnyH_ready (rs := [11]) (by kernel_rfl) (by simp) (AllReadyH.cons rfl (fun K hK => ?_) AllReadyH.nil)
  go_simp
  go_at_call 90
  refine (ownsPart_any _ _ _ ms[i].parts part _ (XI.out.below HB4.out) HPL.out).mono ?_
  rintro e W5 ⟨qb, rfl, hq, hb⟩
  obtain rfl : qb = true := by
    have := HPM.out
    simp_all
  clear hq
  have hb5 : Below w.heap.size w W5 := below_then HB4.out hb
  have b_bx5 := B4_bx.out.below hb B4_bx.out.lt
  have b_bz5 := B4_bz.out.below hb B4_bz.out.lt
  have k_g5 := K4_g.out.below hb
  have hz5 := hb.size
  have HB5 := Lib.hid hb5
  have B5_bx := Lib.hid b_bx5
  have B5_bz := Lib.hid b_bz5
  have K5_g := Lib.hid k_g5
  clear hb5 b_bx5 b_bz5 k_g5
  clear B4_bx B4_bz HB4 K4_g
  clear x0 x1 x2 hbl hblz
  obtain ⟨a0, a1, a2⟩ := XS.out
  have x0 := (HB5.out.cell (p := ⟨b, off + i * 3, none⟩) HBW.out).trans a0
  have x1 := (HB5.out.cell (p := ⟨b, off + i * 3 + 1, none⟩) HBW.out).trans a1
  have x2 := (HB5.out.cell (p := ⟨b, off + i * 3 + 2, none⟩) HBW.out).trans a2
  clear a0 a1 a2
  have hblz := HB5.out.size
  have hbl := HBW.out
  refine hK.out _ _ ?_ (fun hHeld => ?_)
  · exact ⟨(B5_bx.out).cell 0, (B5_bx.out).cell 1, (B5_bx.out).cell 2, (B5_bx.out).cell 3, (B5_bx.out).cell 4, x0, x1, x2⟩
  clear hK K
  try simp only [Act.put, List.getElem_toArray, List.getElem_cons_zero, List.getElem_cons_succ, List.setIfInBounds_toArray, List.set_cons_zero, List.set_cons_succ]
  refine wpAnyH_take (i := 12) (v := ?_) rfl (by kernel_rfl) (by kernel_rfl) (by kernel_rfl) (fun _ _ _ h => h) (Or.inl ⟨by rfl, ?_⟩) (by assumption) ?_
  rotate_left
  · intro w0 hSw
    (try dsimp only at hSw)
    go_simp
    all_goals with_reducible rfl
  try simp only [Act.put, List.getElem_toArray, List.getElem_cons_zero, List.getElem_cons_succ, List.setIfInBounds_toArray, List.set_cons_zero, List.set_cons_succ]
  refine wpAnyH_take (i := 13) (v := ?_) rfl (by kernel_rfl) (by kernel_rfl) (by kernel_rfl) (fun _ _ _ h => h) (Or.inl ⟨by rfl, ?_⟩) (by assumption) ?_
  rotate_left
  · intro w0 hSw
    (try dsimp only at hSw)
    go_simp
    all_goals with_reducible rfl
  try simp only [Act.put, List.getElem_toArray, List.getElem_cons_zero, List.getElem_cons_succ, List.setIfInBounds_toArray, List.set_cons_zero, List.set_cons_succ]
  refine wpAnyH_done (by kernel_rfl) ?_ _
  clear x0 x1 x2 hbl hblz
  have c_bx0 := B5_bx.out.cell 0
  have c_bx1 := B5_bx.out.cell 1
  have c_bx2 := B5_bx.out.cell 2
  have c_bx3 := B5_bx.out.cell 3
  have c_bx4 := B5_bx.out.cell 4
  have l_bx := B5_bx.out.lt
  go_wp2_with fail
  clear c_bx0 c_bx1 c_bx2 c_bx3 c_bx4 l_bx
  refine (refGroupCopy_any _ ⟨ck, wt, gn, ms, os⟩ _ K5_g.out hbd2.1 hbd2.2.1 hbd2.2.2).mono ?_
  rintro e W6 ⟨mv5, ov5, rows, rfl, hown, hoff, hb⟩
  obtain ⟨A5, c5, rfl, hc5⟩ := (Sl.of_own hown.own).form
  obtain ⟨B5, d5, rfl, hd5⟩ := (Sl.of_own hoff).form
  simp only at *
  unfold groupV
  simp only
  have hb6 : Below w.heap.size w W6 := below_then HB5.out hb
  have b_bx6 := B5_bx.out.below hb B5_bx.out.lt
  have b_bz6 := B5_bz.out.below hb B5_bz.out.lt
  have k_g6 := K5_g.out.below hb
  have hz6 := hb.size
  have HB6 := Lib.hid hb6
  have B6_bx := Lib.hid b_bx6
  have B6_bz := Lib.hid b_bz6
  have K6_g := Lib.hid k_g6
  clear hb6 b_bx6 b_bz6 k_g6
  clear B5_bx B5_bz HB5 K5_g
  have ho := hown.rebase (w0 := w) rfl (Nat.le_refl _) HB6.out
  have HO := Lib.hid ho
  clear ho hown hoff hc5 hd5
  have c_bx0 := B6_bx.out.cell 0
  have c_bx1 := B6_bx.out.cell 1
  have c_bx2 := B6_bx.out.cell 2
  have c_bx3 := B6_bx.out.cell 3
  have c_bx4 := B6_bx.out.cell 4
  have l_bx := B6_bx.out.lt
  go_upto_region 10 with fail
  clear c_bx0 c_bx1 c_bx2 c_bx3 c_bx4 l_bx
  have hsz7 := HB6.out.size
  have hb7 : Below w.heap.size w (W6.alloc (.cells #[.int .i64 ck, .int .i64 wt, .int .i64 gn, .slice A5 ms.length c5, .slice none 0 0] 36)) := (HB6.out).alloc (by first | omega | (simp; done) | (simp; omega)) _
  have hal7 : Below W6.heap.size W6 (W6.alloc (.cells #[.int .i64 ck, .int .i64 wt, .int .i64 gn, .slice A5 ms.length c5, .slice none 0 0] 36)) := (Below.refl _ _).alloc (by first | omega | (simp; done) | (simp; omega)) _
  have b_bx7 : Blk (W6.alloc (.cells #[.int .i64 ck, .int .i64 wt, .int .i64 gn, .slice A5 ms.length c5, .slice none 0 0] 36)) (w.heap.size) 36 #[.int .i64 ck, .int .i64 wt, .int .i64 gn, .slice (some ⟨b, off, none⟩) ms.length m, .slice A' os.length m'] := (B6_bx.out).alloc _
  have b_bz7 : Blk (W6.alloc (.cells #[.int .i64 ck, .int .i64 wt, .int .i64 gn, .slice A5 ms.length c5, .slice none 0 0] 36)) (w.heap.size + 1) 36 #[.int .i64 0, .int .i64 0, .int .i64 0, .slice none 0 0, .slice none 0 0] := (B6_bz.out).alloc _
  have b_bo7 : Blk (W6.alloc (.cells #[.int .i64 ck, .int .i64 wt, .int .i64 gn, .slice A5 ms.length c5, .slice none 0 0] 36)) (W6.heap.size) 36 #[.int .i64 ck, .int .i64 wt, .int .i64 gn, .slice A5 ms.length c5, .slice none 0 0] := Blk.new_ _ 36 #[.int .i64 ck, .int .i64 wt, .int .i64 gn, .slice A5 ms.length c5, .slice none 0 0] (by first | rfl | (simp; done) | (simp; omega))
  have k_g7 := K6_g.out.below hal7
  have k_own7 := (HO.out).alloc (.cells #[.int .i64 ck, .int .i64 wt, .int .i64 gn, .slice A5 ms.length c5, .slice none 0 0] 36)
  have hz7 : W6.heap.size + 1 ≤ (W6.alloc (.cells #[.int .i64 ck, .int .i64 wt, .int .i64 gn, .slice A5 ms.length c5, .slice none 0 0] 36)).heap.size := by first | omega | (simp; done) | (simp; omega)
  generalize W6.alloc (.cells #[.int .i64 ck, .int .i64 wt, .int .i64 gn, .slice A5 ms.length c5, .slice none 0 0] 36) = W7 at *
  have HB7 := Lib.hid hb7
  have B7_bx := Lib.hid b_bx7
  have B7_bz := Lib.hid b_bz7
  have B7_bo := Lib.hid b_bo7
  have K7_g := Lib.hid k_g7
  have K7_own := Lib.hid k_own7
  clear hb7 b_bx7 b_bz7 b_bo7 k_g7 k_own7
  clear B6_bx B6_bz HB6 K6_g HO
  have hwz : w.heap.size ≤ W5.heap.size := by omega
  have hwb : W5.heap.size ≤ W6.heap.size := by omega
  have hwo : w.heap.size + 1 < W6.heap.size := by omega
  have hw7 : W6.heap.size + 1 ≤ W7.heap.size := by omega
  have o4 : os.length ≤ 4 := HO4.out
  have HS0 : Hid (StP w W5.heap.size (W6.heap.size + 1) W6.heap.size #[.int .i64 ck, .int .i64 wt, .int .i64 gn, .slice (some ⟨b, off, none⟩) ms.length m, .slice A' os.length m'] #[.int .i64 0, .int .i64 0, .int .i64 0, .slice none 0 0, .slice none 0 0] ck wt gn (.slice A5 ms.length c5) ms rows (.slice none 0 0) [] W7) := Lib.hid ⟨K7_own.out, by simpa [OwnO] using World.ownsRow_nil _ _ _ _, B7_bx.out, B7_bz.out, B7_bo.out, HB7.out, hw7⟩
  clear K7_own B7_bx B7_bz B7_bo HB7
  go_wp2_with fail
  go_loopw [14] (fun y wr => ∃ p : Nat, p ≤ 4 ∧ y = .int .i64 p ∧ ∃ ov xs, Hid (xs = (four.take p).flatMap (pieceO os part at_)) ∧ Hid (xs.length ≤ 5 * p) ∧ Hid (StP w W5.heap.size (W6.heap.size + 1) W6.heap.size #[.int .i64 ck, .int .i64 wt, .int .i64 gn, .slice (some ⟨b, off, none⟩) ms.length m, .slice A' os.length m'] #[.int .i64 0, .int .i64 0, .int .i64 0, .slice none 0 0, .slice none 0 0] ck wt gn (.slice A5 ms.length c5) ms rows (ov) xs wr)) (fun y _ => 4 - (intOf y).toNat)
  case atStart => exact ⟨0, by omega, rfl, .slice none 0 0, [], Lib.hid (by simp), Lib.hid (by simp), HS0⟩
  case round =>
    obtain ⟨p, hp4, rfl, ov, xs, HX1, HX2, HS⟩ := hrel
    have z0 : (0 : Int) ≤ (p : Int) := by omega
    have z1 : (p : Int) ≤ 4 := by omega
    obtain ⟨At, ct, rfl, hct⟩ := (Sl.of_own HS.out.2.1).form
    have n4 := HS.out.2.2.2.2.1.cell 4
    have nl := HS.out.2.2.2.2.1.lt
    by_cases hlt : p < 4
    · have z2 : (p : Int) < 4 := by omega
      by_cases hpp : (p : Int) = part
      · subst hpp
        go_wp2_with (at_builtin; go_must (refine wpList_append_sl _ rfl (.tmp 56) (.tmp 60) 34 rfl (W6.heap.size + 1) 81 j0 (.agg #[.int .i64 0, .int .i64 0]) 2 16 Try.underlying34 HJ0.out HY0.out HY1.out HY2.out rfl (by decide) _ _ _ (by first | rfl | simp [Act.eval, Act.put]) (HS.out.2.1.alloc _) _ 1 _ (by first | rfl | simp [Act.eval, Act.put]) (Sl.lit' _ _ _ 2 1 _ rfl (by simp)) (ocells_one [(⟨(p : Int), at_⟩ : OffD)]) (by have := HX2.out; simp only [maxLen]; omega) (by have := HX2.out; omega) (by have := HS.out.2.2.2.2.2.2; simp; omega) ?_; intro v7 w7 ho7 hg7 ha7; obtain ⟨A7, c7, rfl, hc7⟩ := (Sl.of_own ho7).form; obtain ⟨b7, s7⟩ := HS.out.push (t := (⟨(p : Int), at_⟩ : OffD)) hwz hwb (Nat.lt_succ_self _) hwo ho7 hg7; have c7' := b7.cell 4; have f7 := b7.frozen 4; have l7 := b7.lt; have S7 := Lib.hid s7; clear s7 b7))
        go_light
        exact ⟨⟨p + 1, by omega, by go_num, _, _, Lib.hid (by rw [four_succ hlt, ← HX1.out]; simp [pieceO]), Lib.hid (by have := HX2.out; simp; omega), S7⟩, by simp [intOf]; omega⟩
      · have e1 : ((p : Int) == part) = false := beq_eq_false_iff_ne.2 hpp
        have HNP := Lib.hid hpp
        clear hpp n4 nl
        go_wp2_with fail
        go_loopw [15] (fun y wq => ∃ q : Nat, q ≤ os.length ∧ y = .int .i64 q ∧ ∃ ov2 xs2, Hid (xs2 = xs ++ (os.take q).filter fun o => o.part == (p : Int)) ∧ Hid (xs2.length ≤ 5 * p + q) ∧ Hid (StP w W5.heap.size (W6.heap.size + 1) W6.heap.size #[.int .i64 ck, .int .i64 wt, .int .i64 gn, .slice (some ⟨b, off, none⟩) ms.length m, .slice A' os.length m'] #[.int .i64 0, .int .i64 0, .int .i64 0, .slice none 0 0, .slice none 0 0] ck wt gn (.slice A5 ms.length c5) ms rows (ov2) xs2 wq)) (fun y _ => os.length - (intOf y).toNat)
        case atStart => exact ⟨0, by omega, rfl, _, xs, Lib.hid (by simp), Lib.hid (by have := HX2.out; omega), HS⟩
        case round =>
          obtain ⟨q, hq, rfl, ov2, xs2, H1, H2, HS2⟩ := hrel
          have z3 : (0 : Int) ≤ (q : Int) := by omega
          have z4 : (q : Int) ≤ 4 := by omega
          have z5 : (os.length : Int) ≤ 4 := by omega
          obtain ⟨At, ct, rfl, hct⟩ := (Sl.of_own HS2.out.2.1).form
          have g4 := HS2.out.2.2.1.cell 4
          have gl := HS2.out.2.2.1.lt
          have n4 := HS2.out.2.2.2.2.1.cell 4
          have nl := HS2.out.2.2.2.2.1.lt
          by_cases hlq : q < os.length
          · have z6 : (q : Int) < (os.length : Int) := by omega
            obtain ⟨b', off', rfl, hbb, hcell⟩ := HYM.out (by omega)
            obtain ⟨x0, x1⟩ := hcell q hlq
            have X0 := (HS2.out.2.2.2.2.2.1.cell (p := ⟨b', off' + q * 2, none⟩) hbb).trans x0
            have X1 := (HS2.out.2.2.2.2.2.1.cell (p := ⟨b', off' + q * 2 + 1, none⟩) hbb).trans x1
            have hble : b' < wr.heap.size := by have := HS2.out.2.2.2.2.2.1.size; omega
            clear x0 x1 hcell
            by_cases hpq : os[q].part = (p : Int)
            · have e2 : (os[q].part == (p : Int)) = true := by simpa using hpq
              have HPQ := Lib.hid hpq
              clear hpq
              have HS3 := Lib.hid (HS2.out.below ((Below.refl _ wr).drew))
              go_wp2_with fail
              go_region_law ((refine step_append_sl rfl (.tmp 79) (.tmp 85) 34 rfl (W6.heap.size + 1) 81 j0 (.agg #[.int .i64 0, .int .i64 0]) 2 16 Try.underlying34 HJ0.out HY0.out HY1.out HY2.out rfl (by decide) _ _ _ (by first | rfl | simp [Act.eval, Act.put]) (HS3.out.2.1.alloc _) _ 1 _ (by first | rfl | simp [Act.eval, Act.put]) (Sl.lit' _ _ _ 2 1 _ rfl (by simp)) (ocells_one [os[q]]) (by have := H2.out; simp only [maxLen]; omega) (by have := H2.out; omega) (by have := HS3.out.2.2.2.2.2.2; simp; omega) ?_; intro v7 w7 ho7 hg7 ha7; obtain ⟨A7, c7, rfl, hc7⟩ := (Sl.of_own ho7).form; obtain ⟨b7, s7⟩ := HS3.out.push (t := os[q]) hwz hwb (Nat.lt_succ_self _) hwo ho7 hg7; have c7' := b7.cell 4; have f7 := b7.frozen 4; have l7 := b7.lt; have S7 := Lib.hid s7; clear s7 b7))
              all_goals
                go_wp2
                go_light
                exact ⟨⟨q + 1, by omega, by go_num, _, _, Lib.hid (by rw [H1.out, List.take_succ_eq_append_getElem hlq, List.filter_append]; simp [HPQ.out]), Lib.hid (by have := H2.out; simp; omega), S7⟩, by simp [intOf]; omega⟩
            · have e2 : (os[q].part == (p : Int)) = false := beq_eq_false_iff_ne.2 hpq
              have HPQ := Lib.hid hpq
              clear hpq
              go_wp2
              go_light
              exact ⟨⟨q + 1, by omega, by go_num, _, _, Lib.hid (by rw [H1.out, List.take_succ_eq_append_getElem hlq, List.filter_append]; simp [HPQ.out]), Lib.hid (by have := H2.out; omega), HS2⟩, by simp [intOf]; omega⟩
          · obtain rfl : q = os.length := by omega
            go_wp2
            go_light
            exact ⟨⟨p + 1, by omega, by go_num, _, _, Lib.hid (by rw [four_succ hlt, ← HX1.out, H1.out]; simp [pieceO, HNP.out]), Lib.hid (by have := H2.out; omega), HS2⟩, by simp [intOf]; omega⟩
    · obtain rfl : p = 4 := by omega
      obtain rfl : xs = os' := HX1.out.trans HOS.out
      clear n4 nl
      obtain ⟨s1, s2, s3, s4, s5, s6, s7⟩ := HS.out
      have KO9 := Lib.hid s1
      have KF9 := Lib.hid s2
      have BX9 := Lib.hid s3
      have BZ9 := Lib.hid s4
      have BO9 := Lib.hid s5
      have HB9 := Lib.hid s6
      clear s1 s2 s3 s4 s5 s6 HS
      have c_bo0 := BO9.out.cell 0
      have c_bo1 := BO9.out.cell 1
      have c_bo2 := BO9.out.cell 2
      have c_bo3 := BO9.out.cell 3
      have c_bo4 := BO9.out.cell 4
      have l_bo := BO9.out.lt
      have c_bz0 := BZ9.out.cell 0
      have f_bz0 := BZ9.out.frozen 0
      have c_bz1 := BZ9.out.cell 1
      have f_bz1 := BZ9.out.frozen 1
      have c_bz2 := BZ9.out.cell 2
      have f_bz2 := BZ9.out.frozen 2
      have c_bz3 := BZ9.out.cell 3
      have f_bz3 := BZ9.out.frozen 3
      have c_bz4 := BZ9.out.cell 4
      have f_bz4 := BZ9.out.frozen 4
      have l_bz := BZ9.out.lt
      go_wp2
      clear c_bo0 c_bo1 c_bo2 c_bo3 c_bo4 l_bo c_bz0 f_bz0 c_bz1 f_bz1 c_bz2 f_bz2 c_bz3 f_bz3 c_bz4 f_bz4 l_bz
      have hszF := HB9.out.size
      have hbF : Below w.heap.size w (((((wr.setCell ⟨w.heap.size + 1, 0, none⟩ (.int .i64 ck)).setCell ⟨w.heap.size + 1, 1, none⟩ (.int .i64 wt)).setCell ⟨w.heap.size + 1, 2, none⟩ (.int .i64 gn)).setCell ⟨w.heap.size + 1, 3, none⟩ (.slice A5 ms.length c5)).setCell ⟨w.heap.size + 1, 4, none⟩ (.slice At xs.length ct)) := (((((HB9.out).setCell (by show w.heap.size ≤ w.heap.size + 1; omega) _).setCell (by show w.heap.size ≤ w.heap.size + 1; omega) _).setCell (by show w.heap.size ≤ w.heap.size + 1; omega) _).setCell (by show w.heap.size ≤ w.heap.size + 1; omega) _).setCell (by show w.heap.size ≤ w.heap.size + 1; omega) _
      have b_bxF : Blk (((((wr.setCell ⟨w.heap.size + 1, 0, none⟩ (.int .i64 ck)).setCell ⟨w.heap.size + 1, 1, none⟩ (.int .i64 wt)).setCell ⟨w.heap.size + 1, 2, none⟩ (.int .i64 gn)).setCell ⟨w.heap.size + 1, 3, none⟩ (.slice A5 ms.length c5)).setCell ⟨w.heap.size + 1, 4, none⟩ (.slice At xs.length ct)) (w.heap.size) 36 #[.int .i64 ck, .int .i64 wt, .int .i64 gn, .slice (some ⟨b, off, none⟩) ms.length m, .slice A' os.length m'] := (((((BX9.out).far (p := ⟨w.heap.size + 1, 0, none⟩) (by show w.heap.size ≠ w.heap.size + 1; omega) _).far (p := ⟨w.heap.size + 1, 1, none⟩) (by show w.heap.size ≠ w.heap.size + 1; omega) _).far (p := ⟨w.heap.size + 1, 2, none⟩) (by show w.heap.size ≠ w.heap.size + 1; omega) _).far (p := ⟨w.heap.size + 1, 3, none⟩) (by show w.heap.size ≠ w.heap.size + 1; omega) _).far (p := ⟨w.heap.size + 1, 4, none⟩) (by show w.heap.size ≠ w.heap.size + 1; omega) _
      have b_bzF : Blk (((((wr.setCell ⟨w.heap.size + 1, 0, none⟩ (.int .i64 ck)).setCell ⟨w.heap.size + 1, 1, none⟩ (.int .i64 wt)).setCell ⟨w.heap.size + 1, 2, none⟩ (.int .i64 gn)).setCell ⟨w.heap.size + 1, 3, none⟩ (.slice A5 ms.length c5)).setCell ⟨w.heap.size + 1, 4, none⟩ (.slice At xs.length ct)) (w.heap.size + 1) 36 #[.int .i64 ck, .int .i64 wt, .int .i64 gn, .slice A5 ms.length c5, .slice At xs.length ct] := (((((BZ9.out).set_ 0 _).set_ 1 _).set_ 2 _).set_ 3 _).set_ 4 _
      have b_boF : Blk (((((wr.setCell ⟨w.heap.size + 1, 0, none⟩ (.int .i64 ck)).setCell ⟨w.heap.size + 1, 1, none⟩ (.int .i64 wt)).setCell ⟨w.heap.size + 1, 2, none⟩ (.int .i64 gn)).setCell ⟨w.heap.size + 1, 3, none⟩ (.slice A5 ms.length c5)).setCell ⟨w.heap.size + 1, 4, none⟩ (.slice At xs.length ct)) (W6.heap.size) 36 #[.int .i64 ck, .int .i64 wt, .int .i64 gn, .slice A5 ms.length c5, .slice At xs.length ct] := (((((BO9.out).far (p := ⟨w.heap.size + 1, 0, none⟩) (by show W6.heap.size ≠ w.heap.size + 1; omega) _).far (p := ⟨w.heap.size + 1, 1, none⟩) (by show W6.heap.size ≠ w.heap.size + 1; omega) _).far (p := ⟨w.heap.size + 1, 2, none⟩) (by show W6.heap.size ≠ w.heap.size + 1; omega) _).far (p := ⟨w.heap.size + 1, 3, none⟩) (by show W6.heap.size ≠ w.heap.size + 1; omega) _).far (p := ⟨w.heap.size + 1, 4, none⟩) (by show W6.heap.size ≠ w.heap.size + 1; omega) _
      have hoF := (((((KO9.out).under (a := ⟨w.heap.size + 1, 0, none⟩) (by constructor <;> (try dsimp only) <;> omega) (.int .i64 ck)).under (a := ⟨w.heap.size + 1, 1, none⟩) (by constructor <;> (try dsimp only) <;> omega) (.int .i64 wt)).under (a := ⟨w.heap.size + 1, 2, none⟩) (by constructor <;> (try dsimp only) <;> omega) (.int .i64 gn)).under (a := ⟨w.heap.size + 1, 3, none⟩) (by constructor <;> (try dsimp only) <;> omega) (.slice A5 ms.length c5)).under (a := ⟨w.heap.size + 1, 4, none⟩) (by constructor <;> (try dsimp only) <;> omega) (.slice At xs.length ct)
      have hfF := (((((KF9.out).under (a := ⟨w.heap.size + 1, 0, none⟩) (by (try dsimp only); omega) (.int .i64 ck)).under (a := ⟨w.heap.size + 1, 1, none⟩) (by (try dsimp only); omega) (.int .i64 wt)).under (a := ⟨w.heap.size + 1, 2, none⟩) (by (try dsimp only); omega) (.int .i64 gn)).under (a := ⟨w.heap.size + 1, 3, none⟩) (by (try dsimp only); omega) (.slice A5 ms.length c5)).under (a := ⟨w.heap.size + 1, 4, none⟩) (by (try dsimp only); omega) (.slice At xs.length ct)
      have y0 := b_bzF.cell 0
      have y1 := b_bzF.cell 1
      have y2 := b_bzF.cell 2
      have y3 := b_bzF.cell 3
      have y4 := b_bzF.cell 4
      exact bodyPost_ret (v := .tuple #[.agg #[.int .i64 ck, .int .i64 wt, .int .i64 gn, .slice A5 ms.length c5, .slice At xs.length ct], .int .i64 0]) (by simp [results, Try.results55, go_sem, y0, y1, y2, y3, y4]) rfl (⟨.slice A5 ms.length c5, .slice At xs.length ct, rows, rfl, ownM_len (hoF.rebase rfl (by omega) hbF) rfl, own_base hfF (by omega), hbF⟩)
end Go.Proofs.Ytjkoceacjbhblaa
