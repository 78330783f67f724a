/- Parts of a proof, merged: GStoB. No condition. -/
import Derived.Test.YtjkoceacjbhblaaGs4
import Derived.Test.YtjkoceacjbhblaaGs6
namespace Go.Proofs.Ytjkoceacjbhblaa
open Go.RowKit

theorem OwnM.row2 {w0 w : World} {base n : Nat} {g m : Nat} {ds : List MemD} {rows : List (MemD × Value)} (h : OwnM w0 w base (.slice (some ⟨g, 0, none⟩) n m) ds rows n) (hn : n = ds.length) (i : Nat) (hi : i < ds.length) :
    base ≤ g ∧ g < w.heap.size ∧ ∃ A3 m3, w.cell? ⟨g, i * 3 + 2, none⟩ = some (.slice A3 ds[i].parts.length m3) ∧ w.frozen? ⟨g, i * 3 + 2, none⟩ = false ∧ w.ownsRow base 3 1 (.slice A3 ds[i].parts.length m3) ds[i].parts.length (ds[i].parts.map (Value.int .i64)) := by
  subst hn
  have hl := ownM_rows h.fst
  have hi' : i < rows.length := by omega
  have he := fstM_get h.fst hi' hi
  obtain ⟨g', m', hv, hg1, hg2, -, hcell⟩ := h.at_ (by omega)
  injection hv with h1 _ _
  injection h1 with h1
  injection h1 with h1 _ _
  subst h1
  have ho := h.parts rows[i] (List.mem_take_iff_getElem.2 ⟨i, by omega, rfl⟩)
  rw [he] at ho
  obtain ⟨A3, m3, hp, -⟩ := (Sl.of_own ho).form
  rw [hp] at ho
  have k := hcell i hi' 2 (by decide)
  have k1 := k.1
  simp only [mcells, List.getElem?_cons_zero, List.getElem?_cons_succ, hp] at k1
  exact ⟨hg1, hg2, A3, m3, k1, k.2, ho⟩
theorem OwnM.grown {w0 w w7 : World} {base n k : Nat} {v ov : Value} {ds : List MemD} {rows : List (MemD × Value)} {xs : List Value} (h : OwnM w0 w base v ds rows n) (hn : n = ds.length) (hb0 : w0.heap.size ≤ base) (ho : w.ownsRow base 81 2 ov k xs) (hg : w.grownBy w7 ov.ownBlock) : OwnM w0 w7 base v ds rows n := by
  have hl : rows.length = ds.length := by rw [← h.fst]; simp
  refine ⟨h.fst, h.own.kept hg (own_apart h.own ho (by decide)), ?_, fun t ht => ?_, fun t ht => ?_, h.apart⟩
  · exact h.bel.grown hg h.bel.size fun b hb => by have := (ho.lt b hb).1; omega
  · rw [List.drop_of_length_le (by omega)] at ht
    simp at ht
  · exact (h.parts t ht).kept hg (own_apart (h.parts t ht) ho (by decide))
theorem OwnM.setFar {w0 w : World} {base b2 n go d : Nat} {v : Value} {ds : List MemD} {rows : List (MemD × Value)} {os : List OffD} (h : OwnM w0 w base v ds rows n) (hn : n = ds.length) (ho : OwnO w b2 (.slice (some ⟨go, 0, none⟩) os.length d) os) (hgo : w0.heap.size ≤ go) (j : Nat) (u : Value) : OwnM w0 (w.setCell ⟨go, j, none⟩ u) base v ds rows n := by
  have hl : rows.length = ds.length := by rw [← h.fst]; simp
  obtain ⟨cs, fr, hb⟩ : ∃ cs fr, w.heap[go]? = some (.cells cs 81 fr) := by
    rcases ho.2 with ⟨e, _⟩ | ⟨g', cap, cur, e, _, hh, _⟩
    · cases e
    · injection e with e1
      injection e1 with e1
      injection e1 with e1
      subst e1
      exact ⟨_, _, hh⟩
  refine ⟨h.fst, own_far h.own hb (by decide) j u, h.bel.setCell hgo _, fun t ht => ?_, fun t ht => own_far (h.parts t ht) hb (by decide) j u, h.apart⟩
  rw [List.drop_of_length_le (by omega)] at ht
  simp at ht
theorem offs_one (os : List OffD) : ∀ u ∈ os.flatMap ocells, u.oneCell' = true := by
  intro u hu
  simp only [List.mem_flatMap, ocells, List.mem_cons, List.not_mem_nil, or_false] at hu
  obtain ⟨o, -, rfl | rfl⟩ := hu <;> rfl
theorem ocells_take (os : List OffD) : ∀ k, (os.take k).flatMap ocells = (os.flatMap ocells).take (k * 2) := by
  induction os with
  | nil => intro k; simp
  | cons o os ih =>
    intro k
    rcases k with _ | k
    · simp
    · have e : (k + 1) * 2 = (ocells o).length + k * 2 := by simp [ocells]; omega
      rw [List.take_succ_cons, List.flatMap_cons, List.flatMap_cons, e, List.take_length_add_append, ih k]
theorem ocells_drop (os : List OffD) : ∀ k, (os.drop k).flatMap ocells = (os.flatMap ocells).drop (k * 2) := by
  induction os with
  | nil => intro k; simp
  | cons o os ih =>
    intro k
    rcases k with _ | k
    · simp
    · have e : (k + 1) * 2 = (ocells o).length + k * 2 := by simp [ocells]; omega
      rw [List.drop_succ_cons, List.flatMap_cons, e, List.drop_length_add_append, ih k]
theorem newO_cells (os : List OffD) (p a : Int) (k : Nat) : (newO os p a k).flatMap ocells = insC (os.flatMap ocells) (k * 2) [.int .i64 p, .int .i64 a] := by
  unfold newO insC
  rw [List.flatMap_append, List.flatMap_cons, ocells_take, ocells_drop]
  simp [ocells]
theorem ocells_len (os : List OffD) : (os.flatMap ocells).length = os.length * 2 := by
  induction os with
  | nil => rfl
  | cons o os ih => rw [List.flatMap_cons, List.length_append, ih]; simp [ocells]; omega
theorem setO_cells {os : List OffD} {p : Int} (a : Int) {k : Nat} (h : k < os.length) (hp : os[k].part = p) : (setO os p a k).flatMap ocells = (os.flatMap ocells).set (k * 2 + 1) (.int .i64 a) := by
  have hs : os = os.take k ++ os[k] :: os.drop (k + 1) := by rw [← List.drop_eq_getElem_cons h, List.take_append_drop]
  have hl := ocells_len (os.take k)
  rw [List.length_take, Nat.min_eq_left (by omega)] at hl
  conv => rhs; rw [hs]
  unfold setO
  rw [List.flatMap_append, List.flatMap_append, List.flatMap_cons, List.flatMap_cons, List.set_append_right _ _ (by omega), hl, show k * 2 + 1 - k * 2 = 1 by omega]
  simp [ocells, hp]
theorem setO_len {os : List OffD} {p a : Int} {k : Nat} (h : k < os.length) : (setO os p a k).length = os.length := by unfold setO; simp; omega
theorem newO_len {os : List OffD} {p a : Int} {k : Nat} (h : k ≤ os.length) : (newO os p a k).length = os.length + 1 := by unfold newO; simp; omega
theorem OwnO.form {w : World} {base : Nat} {B : Option Addr} {d : Nat} {os : List OffD} (h : OwnO w base (.slice B os.length d) os) : (os = [] ∧ B = none) ∨ ∃ go, B = some ⟨go, 0, none⟩ := by
  rcases h.2 with ⟨e, e0⟩ | ⟨g, c', cur, e, -⟩
  · injection e with e1
    exact Or.inl ⟨List.eq_nil_of_length_eq_zero e0, e1⟩
  · injection e with e1
    exact Or.inr ⟨g, e1⟩
theorem OwnO.cellP {w : World} {base go d : Nat} {os : List OffD} (h : OwnO w base (.slice (some ⟨go, 0, none⟩) os.length d) os) {k : Nat} (hk : k < os.length) : w.cell? ⟨go, k * 2, none⟩ = some (.int .i64 os[k].part) ∧ w.cell? ⟨go, k * 2 + 1, none⟩ = some (.int .i64 os[k].at_) ∧ w.frozen? ⟨go, k * 2 + 1, none⟩ = false ∧ base ≤ go ∧ go < w.heap.size := by
  have h1 := World.ownsRow.cellAt h (k * 2) (by omega)
  have h2 := World.ownsRow.cellAt h (k * 2 + 1) (by omega)
  have e1 := cells_get ocells 2 (fun _ => rfl) os k hk 0 (by decide)
  have e2 := cells_get ocells 2 (fun _ => rfl) os k hk 1 (by decide)
  rw [Nat.add_zero] at e1
  exact ⟨h1.trans e1, h2.trans e2, World.ownsRow.frozenAt h _, (h.lt go rfl).1, (h.lt go rfl).2⟩
theorem OwnO.setAt {w : World} {base go d : Nat} {os : List OffD} {p a : Int} {k : Nat} (h : OwnO w base (.slice (some ⟨go, 0, none⟩) os.length d) os) (hk : k < os.length) (hp : os[k].part = p) : OwnO (w.setCell ⟨go, k * 2 + 1, none⟩ (.int .i64 a)) base (.slice (some ⟨go, 0, none⟩) os.length d) (setO os p a k) := by
  unfold OwnO
  rw [setO_len hk, setO_cells a hk hp]
  exact (World.ownsRow.stored h _ _).1
set_option maxRecDepth 100000 in
set_option maxHeartbeats 4000000 in
theorem store_fault (v : Value) (g : GroupD) (s : ByteArray) (gen part at_ : Int) (n : Int) (hf : HereFault g s gen n) (w : World) (h : Gv w v g) : Calls Try.prog 54 #[v, .string s, .int .i64 gen, .int .i64 part, .int .i64 at_] w (GRes zeroG n w) := by
  obtain ⟨mv, ov, rfl, hx, hy, hl1, hl2⟩ := id h
  obtain ⟨A, m, rfl, -⟩ := hx.at_
  obtain ⟨A', m', rfl, -⟩ := hy.at_
  have H := Lib.hid h
  have HX := Lib.hid hx
  have HY := Lib.hid hy
  clear h hx hy
  unfold groupV at *
  obtain ⟨ck, wt, gn, ms, os⟩ := g
  simp only at *
  have hn0 := hf.ne
  have n1 : (n == 0) = false := beq_eq_false_iff_ne.2 hn0
  have n2 : (n != 0) = true := by simpa using hn0
  have HF := Lib.hid hf
  clear hf hn0
  go_enter Try.func54, Try.ntmps54
  go_wp2_with fail
  have hb1 : Below w.heap.size w ((w.alloc (.cells #[.int .i64 ck, .int .i64 wt, .int .i64 gn, .slice A ms.length m, .slice A' os.length m'] 36)).alloc (.cells #[.int .i64 0, .int .i64 0, .int .i64 0, .slice none 0 0, .slice none 0 0] 36)) := ((Below.refl _ _).alloc (by first | omega | (simp; done) | (simp; omega)) _).alloc (by first | omega | (simp; done) | (simp; omega)) _
  have hal1 : Below w.heap.size w ((w.alloc (.cells #[.int .i64 ck, .int .i64 wt, .int .i64 gn, .slice A ms.length m, .slice A' os.length m'] 36)).alloc (.cells #[.int .i64 0, .int .i64 0, .int .i64 0, .slice none 0 0, .slice none 0 0] 36)) := ((Below.refl _ _).alloc (by first | omega | (simp; done) | (simp; omega)) _).alloc (by first | omega | (simp; done) | (simp; omega)) _
  have b_bx1 : Blk ((w.alloc (.cells #[.int .i64 ck, .int .i64 wt, .int .i64 gn, .slice A ms.length m, .slice A' os.length m'] 36)).alloc (.cells #[.int .i64 0, .int .i64 0, .int .i64 0, .slice none 0 0, .slice none 0 0] 36)) (w.heap.size) 36 #[.int .i64 ck, .int .i64 wt, .int .i64 gn, .slice A ms.length m, .slice A' os.length m'] := (Blk.new_ _ 36 #[.int .i64 ck, .int .i64 wt, .int .i64 gn, .slice A ms.length m, .slice A' os.length m'] (by first | rfl | (simp; done) | (simp; omega))).alloc _
  have b_bz1 : Blk ((w.alloc (.cells #[.int .i64 ck, .int .i64 wt, .int .i64 gn, .slice A ms.length m, .slice A' os.length m'] 36)).alloc (.cells #[.int .i64 0, .int .i64 0, .int .i64 0, .slice none 0 0, .slice none 0 0] 36)) (w.heap.size + 1) 36 #[.int .i64 0, .int .i64 0, .int .i64 0, .slice none 0 0, .slice none 0 0] := Blk.new_ _ 36 #[.int .i64 0, .int .i64 0, .int .i64 0, .slice none 0 0, .slice none 0 0] (by first | rfl | (simp; done) | (simp; omega))
  have hz1 : w.heap.size + 2 ≤ ((w.alloc (.cells #[.int .i64 ck, .int .i64 wt, .int .i64 gn, .slice A ms.length m, .slice A' os.length m'] 36)).alloc (.cells #[.int .i64 0, .int .i64 0, .int .i64 0, .slice none 0 0, .slice none 0 0] 36)).heap.size := by first | omega | (simp; done) | (simp; omega)
  generalize (w.alloc (.cells #[.int .i64 ck, .int .i64 wt, .int .i64 gn, .slice A ms.length m, .slice A' os.length m'] 36)).alloc (.cells #[.int .i64 0, .int .i64 0, .int .i64 0, .slice none 0 0, .slice none 0 0] 36) = W1 at *
  have HB1 := Lib.hid hb1
  have B1_bx := Lib.hid b_bx1
  have B1_bz := Lib.hid b_bz1
  clear hb1 b_bx1 b_bz1
  refine (here_refuses (H.out.below hal1) HF.out).mono ?_
  rintro e W2 ⟨rfl, hb⟩
  have hb2 : Below w.heap.size w W2 := below_then HB1.out hb
  have b_bx2 := B1_bx.out.below hb B1_bx.out.lt
  have b_bz2 := B1_bz.out.below hb B1_bz.out.lt
  have hz2 := hb.size
  have HB2 := Lib.hid hb2
  have B2_bx := Lib.hid b_bx2
  have B2_bz := Lib.hid b_bz2
  clear hb2 b_bx2 b_bz2
  clear B1_bx B1_bz HB1
  have c_bx0 := B2_bx.out.cell 0
  have f_bx0 := B2_bx.out.frozen 0
  have c_bx1 := B2_bx.out.cell 1
  have f_bx1 := B2_bx.out.frozen 1
  have c_bx2 := B2_bx.out.cell 2
  have f_bx2 := B2_bx.out.frozen 2
  have c_bx3 := B2_bx.out.cell 3
  have f_bx3 := B2_bx.out.frozen 3
  have c_bx4 := B2_bx.out.cell 4
  have f_bx4 := B2_bx.out.frozen 4
  have l_bx := B2_bx.out.lt
  have c_bz0 := B2_bz.out.cell 0
  have f_bz0 := B2_bz.out.frozen 0
  have c_bz1 := B2_bz.out.cell 1
  have f_bz1 := B2_bz.out.frozen 1
  have c_bz2 := B2_bz.out.cell 2
  have f_bz2 := B2_bz.out.frozen 2
  have c_bz3 := B2_bz.out.cell 3
  have f_bz3 := B2_bz.out.frozen 3
  have c_bz4 := B2_bz.out.cell 4
  have f_bz4 := B2_bz.out.frozen 4
  have l_bz := B2_bz.out.lt
  have hszE := HB2.out.size
  have hbE : Below w.heap.size w (((((W2.setCell ⟨w.heap.size, 0, none⟩ (.int .i64 0)).setCell ⟨w.heap.size, 1, none⟩ (.int .i64 0)).setCell ⟨w.heap.size, 2, none⟩ (.int .i64 0)).setCell ⟨w.heap.size, 3, none⟩ (.slice none 0 0)).setCell ⟨w.heap.size, 4, none⟩ (.slice none 0 0)) := (((((HB2.out).setCell (by show w.heap.size ≤ w.heap.size; omega) _).setCell (by show w.heap.size ≤ w.heap.size; omega) _).setCell (by show w.heap.size ≤ w.heap.size; omega) _).setCell (by show w.heap.size ≤ w.heap.size; omega) _).setCell (by show w.heap.size ≤ w.heap.size; omega) _
  have b_bxE : Blk (((((W2.setCell ⟨w.heap.size, 0, none⟩ (.int .i64 0)).setCell ⟨w.heap.size, 1, none⟩ (.int .i64 0)).setCell ⟨w.heap.size, 2, none⟩ (.int .i64 0)).setCell ⟨w.heap.size, 3, none⟩ (.slice none 0 0)).setCell ⟨w.heap.size, 4, none⟩ (.slice none 0 0)) (w.heap.size) 36 #[.int .i64 0, .int .i64 0, .int .i64 0, .slice none 0 0, .slice none 0 0] := (((((B2_bx.out).set_ 0 _).set_ 1 _).set_ 2 _).set_ 3 _).set_ 4 _
  have b_bzE : Blk (((((W2.setCell ⟨w.heap.size, 0, none⟩ (.int .i64 0)).setCell ⟨w.heap.size, 1, none⟩ (.int .i64 0)).setCell ⟨w.heap.size, 2, none⟩ (.int .i64 0)).setCell ⟨w.heap.size, 3, none⟩ (.slice none 0 0)).setCell ⟨w.heap.size, 4, none⟩ (.slice none 0 0)) (w.heap.size + 1) 36 #[.int .i64 0, .int .i64 0, .int .i64 0, .slice none 0 0, .slice none 0 0] := (((((B2_bz.out).far (p := ⟨w.heap.size, 0, none⟩) (by show w.heap.size + 1 ≠ w.heap.size; omega) _).far (p := ⟨w.heap.size, 1, none⟩) (by show w.heap.size + 1 ≠ w.heap.size; omega) _).far (p := ⟨w.heap.size, 2, none⟩) (by show w.heap.size + 1 ≠ w.heap.size; omega) _).far (p := ⟨w.heap.size, 3, none⟩) (by show w.heap.size + 1 ≠ w.heap.size; omega) _).far (p := ⟨w.heap.size, 4, none⟩) (by show w.heap.size + 1 ≠ w.heap.size; omega) _
  have z0 := b_bzE.cell 0
  have z1 := b_bzE.cell 1
  have z2 := b_bzE.cell 2
  have z3 := b_bzE.cell 3
  have z4 := b_bzE.cell 4
  have zf0 := b_bzE.frozen 0
  have zf1 := b_bzE.frozen 1
  have zf2 := b_bzE.frozen 2
  have zf3 := b_bzE.frozen 3
  have zf4 := b_bzE.frozen 4
  have zl := b_bzE.lt
  clear b_bxE b_bzE hbE
  go_wp2_with fail
  clear c_bx0 f_bx0 c_bx1 f_bx1 c_bx2 f_bx2 c_bx3 f_bx3 c_bx4 f_bx4 l_bx c_bz0 f_bz0 c_bz1 f_bz1 c_bz2 f_bz2 c_bz3 f_bz3 c_bz4 f_bz4 l_bz
  have hszF := HB2.out.size
  have hbF : Below w.heap.size w ((((((((((W2.setCell ⟨w.heap.size, 0, none⟩ (.int .i64 0)).setCell ⟨w.heap.size, 1, none⟩ (.int .i64 0)).setCell ⟨w.heap.size, 2, none⟩ (.int .i64 0)).setCell ⟨w.heap.size, 3, none⟩ (.slice none 0 0)).setCell ⟨w.heap.size, 4, none⟩ (.slice none 0 0)).setCell ⟨w.heap.size + 1, 0, none⟩ (.int .i64 0)).setCell ⟨w.heap.size + 1, 1, none⟩ (.int .i64 0)).setCell ⟨w.heap.size + 1, 2, none⟩ (.int .i64 0)).setCell ⟨w.heap.size + 1, 3, none⟩ (.slice none 0 0)).setCell ⟨w.heap.size + 1, 4, none⟩ (.slice none 0 0)) := ((((((((((HB2.out).setCell (by show w.heap.size ≤ w.heap.size; omega) _).setCell (by show w.heap.size ≤ w.heap.size; omega) _).setCell (by show w.heap.size ≤ w.heap.size; omega) _).setCell (by show w.heap.size ≤ w.heap.size; omega) _).setCell (by show w.heap.size ≤ w.heap.size; omega) _).setCell (by show w.heap.size ≤ w.heap.size + 1; omega) _).setCell (by show w.heap.size ≤ w.heap.size + 1; omega) _).setCell (by show w.heap.size ≤ w.heap.size + 1; omega) _).setCell (by show w.heap.size ≤ w.heap.size + 1; omega) _).setCell (by show w.heap.size ≤ w.heap.size + 1; omega) _
  have b_bxF : Blk ((((((((((W2.setCell ⟨w.heap.size, 0, none⟩ (.int .i64 0)).setCell ⟨w.heap.size, 1, none⟩ (.int .i64 0)).setCell ⟨w.heap.size, 2, none⟩ (.int .i64 0)).setCell ⟨w.heap.size, 3, none⟩ (.slice none 0 0)).setCell ⟨w.heap.size, 4, none⟩ (.slice none 0 0)).setCell ⟨w.heap.size + 1, 0, none⟩ (.int .i64 0)).setCell ⟨w.heap.size + 1, 1, none⟩ (.int .i64 0)).setCell ⟨w.heap.size + 1, 2, none⟩ (.int .i64 0)).setCell ⟨w.heap.size + 1, 3, none⟩ (.slice none 0 0)).setCell ⟨w.heap.size + 1, 4, none⟩ (.slice none 0 0)) (w.heap.size) 36 #[.int .i64 0, .int .i64 0, .int .i64 0, .slice none 0 0, .slice none 0 0] := ((((((((((B2_bx.out).set_ 0 _).set_ 1 _).set_ 2 _).set_ 3 _).set_ 4 _).far (p := ⟨w.heap.size + 1, 0, none⟩) (by show w.heap.size ≠ w.heap.size + 1; omega) _).far (p := ⟨w.heap.size + 1, 1, none⟩) (by show w.heap.size ≠ w.heap.size + 1; omega) _).far (p := ⟨w.heap.size + 1, 2, none⟩) (by show w.heap.size ≠ w.heap.size + 1; omega) _).far (p := ⟨w.heap.size + 1, 3, none⟩) (by show w.heap.size ≠ w.heap.size + 1; omega) _).far (p := ⟨w.heap.size + 1, 4, none⟩) (by show w.heap.size ≠ w.heap.size + 1; omega) _
  have b_bzF : Blk ((((((((((W2.setCell ⟨w.heap.size, 0, none⟩ (.int .i64 0)).setCell ⟨w.heap.size, 1, none⟩ (.int .i64 0)).setCell ⟨w.heap.size, 2, none⟩ (.int .i64 0)).setCell ⟨w.heap.size, 3, none⟩ (.slice none 0 0)).setCell ⟨w.heap.size, 4, none⟩ (.slice none 0 0)).setCell ⟨w.heap.size + 1, 0, none⟩ (.int .i64 0)).setCell ⟨w.heap.size + 1, 1, none⟩ (.int .i64 0)).setCell ⟨w.heap.size + 1, 2, none⟩ (.int .i64 0)).setCell ⟨w.heap.size + 1, 3, none⟩ (.slice none 0 0)).setCell ⟨w.heap.size + 1, 4, none⟩ (.slice none 0 0)) (w.heap.size + 1) 36 #[.int .i64 0, .int .i64 0, .int .i64 0, .slice none 0 0, .slice none 0 0] := ((((((((((B2_bz.out).far (p := ⟨w.heap.size, 0, none⟩) (by show w.heap.size + 1 ≠ w.heap.size; omega) _).far (p := ⟨w.heap.size, 1, none⟩) (by show w.heap.size + 1 ≠ w.heap.size; omega) _).far (p := ⟨w.heap.size, 2, none⟩) (by show w.heap.size + 1 ≠ w.heap.size; omega) _).far (p := ⟨w.heap.size, 3, none⟩) (by show w.heap.size + 1 ≠ w.heap.size; omega) _).far (p := ⟨w.heap.size, 4, none⟩) (by show w.heap.size + 1 ≠ w.heap.size; omega) _).set_ 0 _).set_ 1 _).set_ 2 _).set_ 3 _).set_ 4 _
  have y0 := b_bzF.cell 0
  have y1 := b_bzF.cell 1
  have y2 := b_bzF.cell 2
  have y3 := b_bzF.cell 3
  have y4 := b_bzF.cell 4
  exact bodyPost_ret (v := .tuple #[.agg #[.int .i64 0, .int .i64 0, .int .i64 0, .slice none 0 0, .slice none 0 0], .int .i64 n]) (by simp [results, Try.results54, go_sem, y0, y1, y2, y3, y4]) rfl (GRes.zero hbF)
set_option maxRecDepth 100000 in
set_option maxHeartbeats 4000000 in
theorem store_range (v : Value) (g : GroupD) (s : ByteArray) (gen part at_ : Int) (i : Nat) (hk : GroupOk g) (hn : NameOk s) (hi : idxM g.mems s = some i) (hl : i < g.mems.length) (hv : g.gen = gen) (hp : at_ < 0 ∨ 400 < at_) (w : World) (h : Gv w v g) : Calls Try.prog 54 #[v, .string s, .int .i64 gen, .int .i64 part, .int .i64 at_] w (GRes zeroG 2 w) := by
  obtain ⟨mv, ov, rfl, hx, hy, hl1, hl2⟩ := id h
  obtain ⟨A, m, rfl, -⟩ := hx.at_
  obtain ⟨A', m', rfl, -⟩ := hy.at_
  have H := Lib.hid h
  have HX := Lib.hid hx
  have HY := Lib.hid hy
  clear h hx hy
  unfold groupV at *
  obtain ⟨ck, wt, gn, ms, os⟩ := g
  simp only at *
  have HK := Lib.hid hk
  have HN := Lib.hid hn
  have HI := Lib.hid hi
  have HV := Lib.hid hv
  clear hk hn hi hv
  have q0 : decide (at_ < 0) = true ∨ (decide (at_ < 0) = false ∧ decide (400 < at_) = true) := by
    rcases Int.lt_or_le at_ 0 with e | e
    · exact Or.inl (decide_eq_true e)
    · exact Or.inr ⟨decide_eq_false (by omega), decide_eq_true (by omega)⟩
  clear hp
  go_enter Try.func54, Try.ntmps54
  go_wp2_with fail
  have hb1 : Below w.heap.size w ((w.alloc (.cells #[.int .i64 ck, .int .i64 wt, .int .i64 gn, .slice A ms.length m, .slice A' os.length m'] 36)).alloc (.cells #[.int .i64 0, .int .i64 0, .int .i64 0, .slice none 0 0, .slice none 0 0] 36)) := ((Below.refl _ _).alloc (by first | omega | (simp; done) | (simp; omega)) _).alloc (by first | omega | (simp; done) | (simp; omega)) _
  have hal1 : Below w.heap.size w ((w.alloc (.cells #[.int .i64 ck, .int .i64 wt, .int .i64 gn, .slice A ms.length m, .slice A' os.length m'] 36)).alloc (.cells #[.int .i64 0, .int .i64 0, .int .i64 0, .slice none 0 0, .slice none 0 0] 36)) := ((Below.refl _ _).alloc (by first | omega | (simp; done) | (simp; omega)) _).alloc (by first | omega | (simp; done) | (simp; omega)) _
  have b_bx1 : Blk ((w.alloc (.cells #[.int .i64 ck, .int .i64 wt, .int .i64 gn, .slice A ms.length m, .slice A' os.length m'] 36)).alloc (.cells #[.int .i64 0, .int .i64 0, .int .i64 0, .slice none 0 0, .slice none 0 0] 36)) (w.heap.size) 36 #[.int .i64 ck, .int .i64 wt, .int .i64 gn, .slice A ms.length m, .slice A' os.length m'] := (Blk.new_ _ 36 #[.int .i64 ck, .int .i64 wt, .int .i64 gn, .slice A ms.length m, .slice A' os.length m'] (by first | rfl | (simp; done) | (simp; omega))).alloc _
  have b_bz1 : Blk ((w.alloc (.cells #[.int .i64 ck, .int .i64 wt, .int .i64 gn, .slice A ms.length m, .slice A' os.length m'] 36)).alloc (.cells #[.int .i64 0, .int .i64 0, .int .i64 0, .slice none 0 0, .slice none 0 0] 36)) (w.heap.size + 1) 36 #[.int .i64 0, .int .i64 0, .int .i64 0, .slice none 0 0, .slice none 0 0] := Blk.new_ _ 36 #[.int .i64 0, .int .i64 0, .int .i64 0, .slice none 0 0, .slice none 0 0] (by first | rfl | (simp; done) | (simp; omega))
  have hz1 : w.heap.size + 2 ≤ ((w.alloc (.cells #[.int .i64 ck, .int .i64 wt, .int .i64 gn, .slice A ms.length m, .slice A' os.length m'] 36)).alloc (.cells #[.int .i64 0, .int .i64 0, .int .i64 0, .slice none 0 0, .slice none 0 0] 36)).heap.size := by first | omega | (simp; done) | (simp; omega)
  generalize (w.alloc (.cells #[.int .i64 ck, .int .i64 wt, .int .i64 gn, .slice A ms.length m, .slice A' os.length m'] 36)).alloc (.cells #[.int .i64 0, .int .i64 0, .int .i64 0, .slice none 0 0, .slice none 0 0] 36) = W1 at *
  have HB1 := Lib.hid hb1
  have B1_bx := Lib.hid b_bx1
  have B1_bz := Lib.hid b_bz1
  clear hb1 b_bx1 b_bz1
  refine (here_good _ ⟨ck, wt, gn, ms, os⟩ s gen i HK.out HN.out HI.out hl HV.out _ (H.out.below hal1)).mono ?_
  rintro e W2 ⟨mv5, ov5, rows, rfl, hown, hoff, hb⟩
  obtain ⟨A5, c5, rfl, hc5⟩ := (Sl.of_own hown.own).form
  obtain ⟨B5, d5, rfl, hd5⟩ := (Sl.of_own hoff).form
  simp only at *
  unfold groupV
  simp only
  have hb2 : Below w.heap.size w W2 := below_then HB1.out hb
  have b_bx2 := B1_bx.out.below hb B1_bx.out.lt
  have b_bz2 := B1_bz.out.below hb B1_bz.out.lt
  have hz2 := hb.size
  have HB2 := Lib.hid hb2
  have B2_bx := Lib.hid b_bx2
  have B2_bz := Lib.hid b_bz2
  clear hb2 b_bx2 b_bz2
  clear B1_bx B1_bz HB1
  have ho := hown.rebase (w0 := w) rfl (Nat.le_refl _) HB2.out
  obtain ⟨gg, c6, hv6, hg1, hg2, hc6, -⟩ := ho.at_ (Nat.lt_of_le_of_lt (Nat.zero_le i) hl)
  injection hv6 with hv7 hv8 hv9
  subst hv7
  clear hv8 hv9 hc6
  have HO := Lib.hid ho
  have hoff2 : OwnO W2 W1.heap.size (.slice B5 os.length d5) os := hoff
  have HFO := Lib.hid hoff2
  clear ho hown hoff hoff2 hc5 hd5
  have c_bx0 := B2_bx.out.cell 0
  have f_bx0 := B2_bx.out.frozen 0
  have c_bx1 := B2_bx.out.cell 1
  have f_bx1 := B2_bx.out.frozen 1
  have c_bx2 := B2_bx.out.cell 2
  have f_bx2 := B2_bx.out.frozen 2
  have c_bx3 := B2_bx.out.cell 3
  have f_bx3 := B2_bx.out.frozen 3
  have c_bx4 := B2_bx.out.cell 4
  have f_bx4 := B2_bx.out.frozen 4
  have l_bx := B2_bx.out.lt
  go_upto_region 2 with fail
  clear c_bx0 f_bx0 c_bx1 f_bx1 c_bx2 f_bx2 c_bx3 f_bx3 c_bx4 f_bx4 l_bx
  have hsz3 := HB2.out.size
  have hb3 : Below w.heap.size w (((((W2.setCell ⟨w.heap.size, 0, none⟩ (.int .i64 ck)).setCell ⟨w.heap.size, 1, none⟩ (.int .i64 wt)).setCell ⟨w.heap.size, 2, none⟩ (.int .i64 gn)).setCell ⟨w.heap.size, 3, none⟩ (.slice (some ⟨gg, 0, none⟩) ms.length c5)).setCell ⟨w.heap.size, 4, none⟩ (.slice B5 os.length d5)) := (((((HB2.out).setCell (by show w.heap.size ≤ w.heap.size; omega) _).setCell (by show w.heap.size ≤ w.heap.size; omega) _).setCell (by show w.heap.size ≤ w.heap.size; omega) _).setCell (by show w.heap.size ≤ w.heap.size; omega) _).setCell (by show w.heap.size ≤ w.heap.size; omega) _
  have b_bx3 : Blk (((((W2.setCell ⟨w.heap.size, 0, none⟩ (.int .i64 ck)).setCell ⟨w.heap.size, 1, none⟩ (.int .i64 wt)).setCell ⟨w.heap.size, 2, none⟩ (.int .i64 gn)).setCell ⟨w.heap.size, 3, none⟩ (.slice (some ⟨gg, 0, none⟩) ms.length c5)).setCell ⟨w.heap.size, 4, none⟩ (.slice B5 os.length d5)) (w.heap.size) 36 #[.int .i64 ck, .int .i64 wt, .int .i64 gn, .slice (some ⟨gg, 0, none⟩) ms.length c5, .slice B5 os.length d5] := (((((B2_bx.out).set_ 0 _).set_ 1 _).set_ 2 _).set_ 3 _).set_ 4 _
  have b_bz3 : Blk (((((W2.setCell ⟨w.heap.size, 0, none⟩ (.int .i64 ck)).setCell ⟨w.heap.size, 1, none⟩ (.int .i64 wt)).setCell ⟨w.heap.size, 2, none⟩ (.int .i64 gn)).setCell ⟨w.heap.size, 3, none⟩ (.slice (some ⟨gg, 0, none⟩) ms.length c5)).setCell ⟨w.heap.size, 4, none⟩ (.slice B5 os.length d5)) (w.heap.size + 1) 36 #[.int .i64 0, .int .i64 0, .int .i64 0, .slice none 0 0, .slice none 0 0] := (((((B2_bz.out).far (p := ⟨w.heap.size, 0, none⟩) (by show w.heap.size + 1 ≠ w.heap.size; omega) _).far (p := ⟨w.heap.size, 1, none⟩) (by show w.heap.size + 1 ≠ w.heap.size; omega) _).far (p := ⟨w.heap.size, 2, none⟩) (by show w.heap.size + 1 ≠ w.heap.size; omega) _).far (p := ⟨w.heap.size, 3, none⟩) (by show w.heap.size + 1 ≠ w.heap.size; omega) _).far (p := ⟨w.heap.size, 4, none⟩) (by show w.heap.size + 1 ≠ w.heap.size; omega) _
  have k_own3 := (((((HO.out).under (a := ⟨w.heap.size, 0, none⟩) (by constructor <;> (try dsimp only) <;> omega) (.int .i64 ck)).under (a := ⟨w.heap.size, 1, none⟩) (by constructor <;> (try dsimp only) <;> omega) (.int .i64 wt)).under (a := ⟨w.heap.size, 2, none⟩) (by constructor <;> (try dsimp only) <;> omega) (.int .i64 gn)).under (a := ⟨w.heap.size, 3, none⟩) (by constructor <;> (try dsimp only) <;> omega) (.slice (some ⟨gg, 0, none⟩) ms.length c5)).under (a := ⟨w.heap.size, 4, none⟩) (by constructor <;> (try dsimp only) <;> omega) (.slice B5 os.length d5)
  have k_off3 := (((((HFO.out).under (a := ⟨w.heap.size, 0, none⟩) (by (try dsimp only); omega) (.int .i64 ck)).under (a := ⟨w.heap.size, 1, none⟩) (by (try dsimp only); omega) (.int .i64 wt)).under (a := ⟨w.heap.size, 2, none⟩) (by (try dsimp only); omega) (.int .i64 gn)).under (a := ⟨w.heap.size, 3, none⟩) (by (try dsimp only); omega) (.slice (some ⟨gg, 0, none⟩) ms.length c5)).under (a := ⟨w.heap.size, 4, none⟩) (by (try dsimp only); omega) (.slice B5 os.length d5)
  have hz3 : W2.heap.size + 0 ≤ (((((W2.setCell ⟨w.heap.size, 0, none⟩ (.int .i64 ck)).setCell ⟨w.heap.size, 1, none⟩ (.int .i64 wt)).setCell ⟨w.heap.size, 2, none⟩ (.int .i64 gn)).setCell ⟨w.heap.size, 3, none⟩ (.slice (some ⟨gg, 0, none⟩) ms.length c5)).setCell ⟨w.heap.size, 4, none⟩ (.slice B5 os.length d5)).heap.size := by first | omega | (simp; done) | (simp; omega)
  generalize ((((W2.setCell ⟨w.heap.size, 0, none⟩ (.int .i64 ck)).setCell ⟨w.heap.size, 1, none⟩ (.int .i64 wt)).setCell ⟨w.heap.size, 2, none⟩ (.int .i64 gn)).setCell ⟨w.heap.size, 3, none⟩ (.slice (some ⟨gg, 0, none⟩) ms.length c5)).setCell ⟨w.heap.size, 4, none⟩ (.slice B5 os.length d5) = W3 at *
  have HB3 := Lib.hid hb3
  have B3_bx := Lib.hid b_bx3
  have B3_bz := Lib.hid b_bz3
  have K3_own := Lib.hid k_own3
  have K3_off := Lib.hid k_off3
  clear hb3 b_bx3 b_bz3 k_own3 k_off3
  clear B2_bx B2_bz HB2 HO HFO
  rcases q0 with q0 | ⟨q0, q1⟩
  all_goals
    have c_bx0 := B3_bx.out.cell 0
    have f_bx0 := B3_bx.out.frozen 0
    have c_bx1 := B3_bx.out.cell 1
    have f_bx1 := B3_bx.out.frozen 1
    have c_bx2 := B3_bx.out.cell 2
    have f_bx2 := B3_bx.out.frozen 2
    have c_bx3 := B3_bx.out.cell 3
    have f_bx3 := B3_bx.out.frozen 3
    have c_bx4 := B3_bx.out.cell 4
    have f_bx4 := B3_bx.out.frozen 4
    have l_bx := B3_bx.out.lt
    have c_bz0 := B3_bz.out.cell 0
    have f_bz0 := B3_bz.out.frozen 0
    have c_bz1 := B3_bz.out.cell 1
    have f_bz1 := B3_bz.out.frozen 1
    have c_bz2 := B3_bz.out.cell 2
    have f_bz2 := B3_bz.out.frozen 2
    have c_bz3 := B3_bz.out.cell 3
    have f_bz3 := B3_bz.out.frozen 3
    have c_bz4 := B3_bz.out.cell 4
    have f_bz4 := B3_bz.out.frozen 4
    have l_bz := B3_bz.out.lt
    go_wp2_with fail
    clear c_bx0 f_bx0 c_bx1 f_bx1 c_bx2 f_bx2 c_bx3 f_bx3 c_bx4 f_bx4 l_bx c_bz0 f_bz0 c_bz1 f_bz1 c_bz2 f_bz2 c_bz3 f_bz3 c_bz4 f_bz4 l_bz
    have hszF := HB3.out.size
    have hbF : Below w.heap.size w (((((W3.setCell ⟨w.heap.size + 1, 0, none⟩ (.int .i64 0)).setCell ⟨w.heap.size + 1, 1, none⟩ (.int .i64 0)).setCell ⟨w.heap.size + 1, 2, none⟩ (.int .i64 0)).setCell ⟨w.heap.size + 1, 3, none⟩ (.slice none 0 0)).setCell ⟨w.heap.size + 1, 4, none⟩ (.slice none 0 0)) := (((((HB3.out).setCell (by show w.heap.size ≤ w.heap.size + 1; omega) _).setCell (by show w.heap.size ≤ w.heap.size + 1; omega) _).setCell (by show w.heap.size ≤ w.heap.size + 1; omega) _).setCell (by show w.heap.size ≤ w.heap.size + 1; omega) _).setCell (by show w.heap.size ≤ w.heap.size + 1; omega) _
    have b_bxF : Blk (((((W3.setCell ⟨w.heap.size + 1, 0, none⟩ (.int .i64 0)).setCell ⟨w.heap.size + 1, 1, none⟩ (.int .i64 0)).setCell ⟨w.heap.size + 1, 2, none⟩ (.int .i64 0)).setCell ⟨w.heap.size + 1, 3, none⟩ (.slice none 0 0)).setCell ⟨w.heap.size + 1, 4, none⟩ (.slice none 0 0)) (w.heap.size) 36 #[.int .i64 ck, .int .i64 wt, .int .i64 gn, .slice (some ⟨gg, 0, none⟩) ms.length c5, .slice B5 os.length d5] := (((((B3_bx.out).far (p := ⟨w.heap.size + 1, 0, none⟩) (by show w.heap.size ≠ w.heap.size + 1; omega) _).far (p := ⟨w.heap.size + 1, 1, none⟩) (by show w.heap.size ≠ w.heap.size + 1; omega) _).far (p := ⟨w.heap.size + 1, 2, none⟩) (by show w.heap.size ≠ w.heap.size + 1; omega) _).far (p := ⟨w.heap.size + 1, 3, none⟩) (by show w.heap.size ≠ w.heap.size + 1; omega) _).far (p := ⟨w.heap.size + 1, 4, none⟩) (by show w.heap.size ≠ w.heap.size + 1; omega) _
    have b_bzF : Blk (((((W3.setCell ⟨w.heap.size + 1, 0, none⟩ (.int .i64 0)).setCell ⟨w.heap.size + 1, 1, none⟩ (.int .i64 0)).setCell ⟨w.heap.size + 1, 2, none⟩ (.int .i64 0)).setCell ⟨w.heap.size + 1, 3, none⟩ (.slice none 0 0)).setCell ⟨w.heap.size + 1, 4, none⟩ (.slice none 0 0)) (w.heap.size + 1) 36 #[.int .i64 0, .int .i64 0, .int .i64 0, .slice none 0 0, .slice none 0 0] := (((((B3_bz.out).set_ 0 _).set_ 1 _).set_ 2 _).set_ 3 _).set_ 4 _
    have y0 := b_bzF.cell 0
    have y1 := b_bzF.cell 1
    have y2 := b_bzF.cell 2
    have y3 := b_bzF.cell 3
    have y4 := b_bzF.cell 4
    refine bodyPost_ret (v := .tuple #[.agg #[.int .i64 0, .int .i64 0, .int .i64 0, .slice none 0 0, .slice none 0 0], .int .i64 2]) ?_ ?_ (GRes.zero hbF)
    · simp [results, Try.results54, go_sem, y0, y1, y2, y3, y4]
    · rfl
set_option maxRecDepth 100000 in
set_option maxHeartbeats 4000000 in
theorem store_state (v : Value) (g : GroupD) (s : ByteArray) (gen part at_ : Int) (i : Nat) (hk : GroupOk g) (hn : NameOk s) (hi : idxM g.mems s = some i) (hl : i < g.mems.length) (hv : g.gen = gen) (h0 : 0 ≤ at_) (h4 : at_ ≤ 400) (hp : part ∉ g.mems[i].parts) (w : World) (h : Gv w v g) : Calls Try.prog 54 #[v, .string s, .int .i64 gen, .int .i64 part, .int .i64 at_] w (GRes zeroG 12 w) := by
  obtain ⟨mv, ov, rfl, hx, hy, hl1, hl2⟩ := id h
  obtain ⟨A, m, rfl, -⟩ := hx.at_
  obtain ⟨A', m', rfl, -⟩ := hy.at_
  have H := Lib.hid h
  have HX := Lib.hid hx
  have HY := Lib.hid hy
  clear h hx hy
  unfold groupV at *
  obtain ⟨ck, wt, gn, ms, os⟩ := g
  simp only at *
  have q0 : decide (at_ < 0) = false := decide_eq_false (by omega)
  have q1 : decide (400 < at_) = false := decide_eq_false (by omega)
  have i0 : (0 : Int) ≤ (i : Int) := by omega
  have i1 : (i : Int) < (ms.length : Int) := Int.ofNat_lt.2 hl
  have HPL := Lib.hid (show ms[i].parts.length ≤ 9223372036854775807 by have := (hk.all i hl hl).1.rises.small; simp only at this; omega)
  have HPM := Lib.hid hp
  clear hp
  have HK := Lib.hid hk
  have HN := Lib.hid hn
  have HI := Lib.hid hi
  have HV := Lib.hid hv
  clear hk hn hi hv
  go_enter Try.func54, Try.ntmps54
  go_wp2_with fail
  have hb1 : Below w.heap.size w ((w.alloc (.cells #[.int .i64 ck, .int .i64 wt, .int .i64 gn, .slice A ms.length m, .slice A' os.length m'] 36)).alloc (.cells #[.int .i64 0, .int .i64 0, .int .i64 0, .slice none 0 0, .slice none 0 0] 36)) := ((Below.refl _ _).alloc (by first | omega | (simp; done) | (simp; omega)) _).alloc (by first | omega | (simp; done) | (simp; omega)) _
  have hal1 : Below w.heap.size w ((w.alloc (.cells #[.int .i64 ck, .int .i64 wt, .int .i64 gn, .slice A ms.length m, .slice A' os.length m'] 36)).alloc (.cells #[.int .i64 0, .int .i64 0, .int .i64 0, .slice none 0 0, .slice none 0 0] 36)) := ((Below.refl _ _).alloc (by first | omega | (simp; done) | (simp; omega)) _).alloc (by first | omega | (simp; done) | (simp; omega)) _
  have b_bx1 : Blk ((w.alloc (.cells #[.int .i64 ck, .int .i64 wt, .int .i64 gn, .slice A ms.length m, .slice A' os.length m'] 36)).alloc (.cells #[.int .i64 0, .int .i64 0, .int .i64 0, .slice none 0 0, .slice none 0 0] 36)) (w.heap.size) 36 #[.int .i64 ck, .int .i64 wt, .int .i64 gn, .slice A ms.length m, .slice A' os.length m'] := (Blk.new_ _ 36 #[.int .i64 ck, .int .i64 wt, .int .i64 gn, .slice A ms.length m, .slice A' os.length m'] (by first | rfl | (simp; done) | (simp; omega))).alloc _
  have b_bz1 : Blk ((w.alloc (.cells #[.int .i64 ck, .int .i64 wt, .int .i64 gn, .slice A ms.length m, .slice A' os.length m'] 36)).alloc (.cells #[.int .i64 0, .int .i64 0, .int .i64 0, .slice none 0 0, .slice none 0 0] 36)) (w.heap.size + 1) 36 #[.int .i64 0, .int .i64 0, .int .i64 0, .slice none 0 0, .slice none 0 0] := Blk.new_ _ 36 #[.int .i64 0, .int .i64 0, .int .i64 0, .slice none 0 0, .slice none 0 0] (by first | rfl | (simp; done) | (simp; omega))
  have hz1 : w.heap.size + 2 ≤ ((w.alloc (.cells #[.int .i64 ck, .int .i64 wt, .int .i64 gn, .slice A ms.length m, .slice A' os.length m'] 36)).alloc (.cells #[.int .i64 0, .int .i64 0, .int .i64 0, .slice none 0 0, .slice none 0 0] 36)).heap.size := by first | omega | (simp; done) | (simp; omega)
  generalize (w.alloc (.cells #[.int .i64 ck, .int .i64 wt, .int .i64 gn, .slice A ms.length m, .slice A' os.length m'] 36)).alloc (.cells #[.int .i64 0, .int .i64 0, .int .i64 0, .slice none 0 0, .slice none 0 0] 36) = W1 at *
  have HB1 := Lib.hid hb1
  have B1_bx := Lib.hid b_bx1
  have B1_bz := Lib.hid b_bz1
  clear hb1 b_bx1 b_bz1
  refine (here_good _ ⟨ck, wt, gn, ms, os⟩ s gen i HK.out HN.out HI.out hl HV.out _ (H.out.below hal1)).mono ?_
  rintro e W2 ⟨mv5, ov5, rows, rfl, hown, hoff, hb⟩
  obtain ⟨A5, c5, rfl, hc5⟩ := (Sl.of_own hown.own).form
  obtain ⟨B5, d5, rfl, hd5⟩ := (Sl.of_own hoff).form
  simp only at *
  unfold groupV
  simp only
  have hb2 : Below w.heap.size w W2 := below_then HB1.out hb
  have b_bx2 := B1_bx.out.below hb B1_bx.out.lt
  have b_bz2 := B1_bz.out.below hb B1_bz.out.lt
  have hz2 := hb.size
  have HB2 := Lib.hid hb2
  have B2_bx := Lib.hid b_bx2
  have B2_bz := Lib.hid b_bz2
  clear hb2 b_bx2 b_bz2
  clear B1_bx B1_bz HB1
  have ho := hown.rebase (w0 := w) rfl (Nat.le_refl _) HB2.out
  obtain ⟨gg, c6, hv6, hg1, hg2, hc6, -⟩ := ho.at_ (Nat.lt_of_le_of_lt (Nat.zero_le i) hl)
  injection hv6 with hv7 hv8 hv9
  subst hv7
  clear hv8 hv9 hc6
  have HO := Lib.hid ho
  have hoff2 : OwnO W2 W1.heap.size (.slice B5 os.length d5) os := hoff
  have HFO := Lib.hid hoff2
  clear ho hown hoff hoff2 hc5 hd5
  have c_bx0 := B2_bx.out.cell 0
  have f_bx0 := B2_bx.out.frozen 0
  have c_bx1 := B2_bx.out.cell 1
  have f_bx1 := B2_bx.out.frozen 1
  have c_bx2 := B2_bx.out.cell 2
  have f_bx2 := B2_bx.out.frozen 2
  have c_bx3 := B2_bx.out.cell 3
  have f_bx3 := B2_bx.out.frozen 3
  have c_bx4 := B2_bx.out.cell 4
  have f_bx4 := B2_bx.out.frozen 4
  have l_bx := B2_bx.out.lt
  go_upto_region 2 with fail
  clear c_bx0 f_bx0 c_bx1 f_bx1 c_bx2 f_bx2 c_bx3 f_bx3 c_bx4 f_bx4 l_bx
  have hsz3 := HB2.out.size
  have hb3 : Below w.heap.size w (((((W2.setCell ⟨w.heap.size, 0, none⟩ (.int .i64 ck)).setCell ⟨w.heap.size, 1, none⟩ (.int .i64 wt)).setCell ⟨w.heap.size, 2, none⟩ (.int .i64 gn)).setCell ⟨w.heap.size, 3, none⟩ (.slice (some ⟨gg, 0, none⟩) ms.length c5)).setCell ⟨w.heap.size, 4, none⟩ (.slice B5 os.length d5)) := (((((HB2.out).setCell (by show w.heap.size ≤ w.heap.size; omega) _).setCell (by show w.heap.size ≤ w.heap.size; omega) _).setCell (by show w.heap.size ≤ w.heap.size; omega) _).setCell (by show w.heap.size ≤ w.heap.size; omega) _).setCell (by show w.heap.size ≤ w.heap.size; omega) _
  have b_bx3 : Blk (((((W2.setCell ⟨w.heap.size, 0, none⟩ (.int .i64 ck)).setCell ⟨w.heap.size, 1, none⟩ (.int .i64 wt)).setCell ⟨w.heap.size, 2, none⟩ (.int .i64 gn)).setCell ⟨w.heap.size, 3, none⟩ (.slice (some ⟨gg, 0, none⟩) ms.length c5)).setCell ⟨w.heap.size, 4, none⟩ (.slice B5 os.length d5)) (w.heap.size) 36 #[.int .i64 ck, .int .i64 wt, .int .i64 gn, .slice (some ⟨gg, 0, none⟩) ms.length c5, .slice B5 os.length d5] := (((((B2_bx.out).set_ 0 _).set_ 1 _).set_ 2 _).set_ 3 _).set_ 4 _
  have b_bz3 : Blk (((((W2.setCell ⟨w.heap.size, 0, none⟩ (.int .i64 ck)).setCell ⟨w.heap.size, 1, none⟩ (.int .i64 wt)).setCell ⟨w.heap.size, 2, none⟩ (.int .i64 gn)).setCell ⟨w.heap.size, 3, none⟩ (.slice (some ⟨gg, 0, none⟩) ms.length c5)).setCell ⟨w.heap.size, 4, none⟩ (.slice B5 os.length d5)) (w.heap.size + 1) 36 #[.int .i64 0, .int .i64 0, .int .i64 0, .slice none 0 0, .slice none 0 0] := (((((B2_bz.out).far (p := ⟨w.heap.size, 0, none⟩) (by show w.heap.size + 1 ≠ w.heap.size; omega) _).far (p := ⟨w.heap.size, 1, none⟩) (by show w.heap.size + 1 ≠ w.heap.size; omega) _).far (p := ⟨w.heap.size, 2, none⟩) (by show w.heap.size + 1 ≠ w.heap.size; omega) _).far (p := ⟨w.heap.size, 3, none⟩) (by show w.heap.size + 1 ≠ w.heap.size; omega) _).far (p := ⟨w.heap.size, 4, none⟩) (by show w.heap.size + 1 ≠ w.heap.size; omega) _
  have k_own3 := (((((HO.out).under (a := ⟨w.heap.size, 0, none⟩) (by constructor <;> (try dsimp only) <;> omega) (.int .i64 ck)).under (a := ⟨w.heap.size, 1, none⟩) (by constructor <;> (try dsimp only) <;> omega) (.int .i64 wt)).under (a := ⟨w.heap.size, 2, none⟩) (by constructor <;> (try dsimp only) <;> omega) (.int .i64 gn)).under (a := ⟨w.heap.size, 3, none⟩) (by constructor <;> (try dsimp only) <;> omega) (.slice (some ⟨gg, 0, none⟩) ms.length c5)).under (a := ⟨w.heap.size, 4, none⟩) (by constructor <;> (try dsimp only) <;> omega) (.slice B5 os.length d5)
  have k_off3 := (((((HFO.out).under (a := ⟨w.heap.size, 0, none⟩) (by (try dsimp only); omega) (.int .i64 ck)).under (a := ⟨w.heap.size, 1, none⟩) (by (try dsimp only); omega) (.int .i64 wt)).under (a := ⟨w.heap.size, 2, none⟩) (by (try dsimp only); omega) (.int .i64 gn)).under (a := ⟨w.heap.size, 3, none⟩) (by (try dsimp only); omega) (.slice (some ⟨gg, 0, none⟩) ms.length c5)).under (a := ⟨w.heap.size, 4, none⟩) (by (try dsimp only); omega) (.slice B5 os.length d5)
  have hz3 : W2.heap.size + 0 ≤ (((((W2.setCell ⟨w.heap.size, 0, none⟩ (.int .i64 ck)).setCell ⟨w.heap.size, 1, none⟩ (.int .i64 wt)).setCell ⟨w.heap.size, 2, none⟩ (.int .i64 gn)).setCell ⟨w.heap.size, 3, none⟩ (.slice (some ⟨gg, 0, none⟩) ms.length c5)).setCell ⟨w.heap.size, 4, none⟩ (.slice B5 os.length d5)).heap.size := by first | omega | (simp; done) | (simp; omega)
  generalize ((((W2.setCell ⟨w.heap.size, 0, none⟩ (.int .i64 ck)).setCell ⟨w.heap.size, 1, none⟩ (.int .i64 wt)).setCell ⟨w.heap.size, 2, none⟩ (.int .i64 gn)).setCell ⟨w.heap.size, 3, none⟩ (.slice (some ⟨gg, 0, none⟩) ms.length c5)).setCell ⟨w.heap.size, 4, none⟩ (.slice B5 os.length d5) = W3 at *
  have HB3 := Lib.hid hb3
  have B3_bx := Lib.hid b_bx3
  have B3_bz := Lib.hid b_bz3
  have K3_own := Lib.hid k_own3
  have K3_off := Lib.hid k_off3
  clear hb3 b_bx3 b_bz3 k_own3 k_off3
  clear B2_bx B2_bz HB2 HO HFO
  obtain ⟨hg3, hg4, A3, m3, r2, rf2, ro⟩ := K3_own.out.row2 rfl i hl
  have c_bx0 := B3_bx.out.cell 0
  have c_bx1 := B3_bx.out.cell 1
  have c_bx2 := B3_bx.out.cell 2
  have c_bx3 := B3_bx.out.cell 3
  have c_bx4 := B3_bx.out.cell 4
  have l_bx := B3_bx.out.lt
  go_wp2_with fail
  clear c_bx0 c_bx1 c_bx2 c_bx3 c_bx4 l_bx
  refine (contains_int _ ms[i].parts part _ (Sl.of_own ro) HPL.out).mono ?_
  rintro e W4 ⟨qb, rfl, hq, hb⟩
  obtain rfl : qb = false := by
    have := HPM.out
    cases qb <;> simp_all
  clear hq r2 rf2 ro hg3 hg4
  have hb4 : Below w.heap.size w W4 := below_then HB3.out hb
  have b_bx4 := B3_bx.out.below hb B3_bx.out.lt
  have b_bz4 := B3_bz.out.below hb B3_bz.out.lt
  have k_own4 := K3_own.out.keep hb
  have k_off4 := K3_off.out.keep hb
  have hz4 := hb.size
  have HB4 := Lib.hid hb4
  have B4_bx := Lib.hid b_bx4
  have B4_bz := Lib.hid b_bz4
  have K4_own := Lib.hid k_own4
  have K4_off := Lib.hid k_off4
  clear hb4 b_bx4 b_bz4 k_own4 k_off4
  clear B3_bx B3_bz HB3 K3_own K3_off
  have c_bx0 := B4_bx.out.cell 0
  have f_bx0 := B4_bx.out.frozen 0
  have c_bx1 := B4_bx.out.cell 1
  have f_bx1 := B4_bx.out.frozen 1
  have c_bx2 := B4_bx.out.cell 2
  have f_bx2 := B4_bx.out.frozen 2
  have c_bx3 := B4_bx.out.cell 3
  have f_bx3 := B4_bx.out.frozen 3
  have c_bx4 := B4_bx.out.cell 4
  have f_bx4 := B4_bx.out.frozen 4
  have l_bx := B4_bx.out.lt
  have c_bz0 := B4_bz.out.cell 0
  have f_bz0 := B4_bz.out.frozen 0
  have c_bz1 := B4_bz.out.cell 1
  have f_bz1 := B4_bz.out.frozen 1
  have c_bz2 := B4_bz.out.cell 2
  have f_bz2 := B4_bz.out.frozen 2
  have c_bz3 := B4_bz.out.cell 3
  have f_bz3 := B4_bz.out.frozen 3
  have c_bz4 := B4_bz.out.cell 4
  have f_bz4 := B4_bz.out.frozen 4
  have l_bz := B4_bz.out.lt
  go_wp2_with fail
  clear c_bx0 f_bx0 c_bx1 f_bx1 c_bx2 f_bx2 c_bx3 f_bx3 c_bx4 f_bx4 l_bx c_bz0 f_bz0 c_bz1 f_bz1 c_bz2 f_bz2 c_bz3 f_bz3 c_bz4 f_bz4 l_bz
  have hszF := HB4.out.size
  have hbF : Below w.heap.size w (((((W4.setCell ⟨w.heap.size + 1, 0, none⟩ (.int .i64 0)).setCell ⟨w.heap.size + 1, 1, none⟩ (.int .i64 0)).setCell ⟨w.heap.size + 1, 2, none⟩ (.int .i64 0)).setCell ⟨w.heap.size + 1, 3, none⟩ (.slice none 0 0)).setCell ⟨w.heap.size + 1, 4, none⟩ (.slice none 0 0)) := (((((HB4.out).setCell (by show w.heap.size ≤ w.heap.size + 1; omega) _).setCell (by show w.heap.size ≤ w.heap.size + 1; omega) _).setCell (by show w.heap.size ≤ w.heap.size + 1; omega) _).setCell (by show w.heap.size ≤ w.heap.size + 1; omega) _).setCell (by show w.heap.size ≤ w.heap.size + 1; omega) _
  have b_bxF : Blk (((((W4.setCell ⟨w.heap.size + 1, 0, none⟩ (.int .i64 0)).setCell ⟨w.heap.size + 1, 1, none⟩ (.int .i64 0)).setCell ⟨w.heap.size + 1, 2, none⟩ (.int .i64 0)).setCell ⟨w.heap.size + 1, 3, none⟩ (.slice none 0 0)).setCell ⟨w.heap.size + 1, 4, none⟩ (.slice none 0 0)) (w.heap.size) 36 #[.int .i64 ck, .int .i64 wt, .int .i64 gn, .slice (some ⟨gg, 0, none⟩) ms.length c5, .slice B5 os.length d5] := (((((B4_bx.out).far (p := ⟨w.heap.size + 1, 0, none⟩) (by show w.heap.size ≠ w.heap.size + 1; omega) _).far (p := ⟨w.heap.size + 1, 1, none⟩) (by show w.heap.size ≠ w.heap.size + 1; omega) _).far (p := ⟨w.heap.size + 1, 2, none⟩) (by show w.heap.size ≠ w.heap.size + 1; omega) _).far (p := ⟨w.heap.size + 1, 3, none⟩) (by show w.heap.size ≠ w.heap.size + 1; omega) _).far (p := ⟨w.heap.size + 1, 4, none⟩) (by show w.heap.size ≠ w.heap.size + 1; omega) _
  have b_bzF : Blk (((((W4.setCell ⟨w.heap.size + 1, 0, none⟩ (.int .i64 0)).setCell ⟨w.heap.size + 1, 1, none⟩ (.int .i64 0)).setCell ⟨w.heap.size + 1, 2, none⟩ (.int .i64 0)).setCell ⟨w.heap.size + 1, 3, none⟩ (.slice none 0 0)).setCell ⟨w.heap.size + 1, 4, none⟩ (.slice none 0 0)) (w.heap.size + 1) 36 #[.int .i64 0, .int .i64 0, .int .i64 0, .slice none 0 0, .slice none 0 0] := (((((B4_bz.out).set_ 0 _).set_ 1 _).set_ 2 _).set_ 3 _).set_ 4 _
  have y0 := b_bzF.cell 0
  have y1 := b_bzF.cell 1
  have y2 := b_bzF.cell 2
  have y3 := b_bzF.cell 3
  have y4 := b_bzF.cell 4
  exact bodyPost_ret (v := .tuple #[.agg #[.int .i64 0, .int .i64 0, .int .i64 0, .slice none 0 0, .slice none 0 0], .int .i64 12]) (by simp [results, Try.results54, go_sem, y0, y1, y2, y3, y4]) rfl (GRes.zero hbF)
set_option maxRecDepth 100000 in
set_option maxHeartbeats 4000000 in
theorem store_set (v : Value) (g : GroupD) (s : ByteArray) (gen part at_ : Int) (i : Nat) (hk : GroupOk g) (hn : NameOk s) (hi : idxM g.mems s = some i) (hl : i < g.mems.length) (hv : g.gen = gen) (h0 : 0 ≤ at_) (h4 : at_ ≤ 400) (hp : part ∈ g.mems[i].parts) (k : Nat) (hpl : PlaceO g.offs part k) (hke : k < g.offs.length) (hpe : g.offs[k].part = part) (w : World) (h : Gv w v g) : Calls Try.prog 54 #[v, .string s, .int .i64 gen, .int .i64 part, .int .i64 at_] w (GRes (g.offsTo (setO g.offs part at_ k)) 0 w) := by
  obtain ⟨mv, ov, rfl, hx, hy, hl1, hl2⟩ := id h
  obtain ⟨A, m, rfl, -⟩ := hx.at_
  obtain ⟨A', m', rfl, -⟩ := hy.at_
  have H := Lib.hid h
  have HX := Lib.hid hx
  have HY := Lib.hid hy
  clear h hx hy
  unfold groupV at *
  obtain ⟨ck, wt, gn, ms, os⟩ := g
  simp only at *
  have q0 : decide (at_ < 0) = false := decide_eq_false (by omega)
  have q1 : decide (400 < at_) = false := decide_eq_false (by omega)
  have i0 : (0 : Int) ≤ (i : Int) := by omega
  have i1 : (i : Int) < (ms.length : Int) := Int.ofNat_lt.2 hl
  have HPL := Lib.hid (show ms[i].parts.length ≤ 9223372036854775807 by have := (hk.all i hl hl).1.rises.small; simp only at this; omega)
  have HPM := Lib.hid hp
  have HO4 := Lib.hid (show os.length ≤ 4 from hk.offs)
  have HPO := Lib.hid hpl
  have HKE := Lib.hid (show k < os.length from hke)
  have HPE := Lib.hid hpe
  clear hp hpl hpe
  have HK := Lib.hid hk
  have HN := Lib.hid hn
  have HI := Lib.hid hi
  have HV := Lib.hid hv
  clear hk hn hi hv
  go_enter Try.func54, Try.ntmps54
  go_wp2_with fail
  have hb1 : Below w.heap.size w ((w.alloc (.cells #[.int .i64 ck, .int .i64 wt, .int .i64 gn, .slice A ms.length m, .slice A' os.length m'] 36)).alloc (.cells #[.int .i64 0, .int .i64 0, .int .i64 0, .slice none 0 0, .slice none 0 0] 36)) := ((Below.refl _ _).alloc (by first | omega | (simp; done) | (simp; omega)) _).alloc (by first | omega | (simp; done) | (simp; omega)) _
  have hal1 : Below w.heap.size w ((w.alloc (.cells #[.int .i64 ck, .int .i64 wt, .int .i64 gn, .slice A ms.length m, .slice A' os.length m'] 36)).alloc (.cells #[.int .i64 0, .int .i64 0, .int .i64 0, .slice none 0 0, .slice none 0 0] 36)) := ((Below.refl _ _).alloc (by first | omega | (simp; done) | (simp; omega)) _).alloc (by first | omega | (simp; done) | (simp; omega)) _
  have b_bx1 : Blk ((w.alloc (.cells #[.int .i64 ck, .int .i64 wt, .int .i64 gn, .slice A ms.length m, .slice A' os.length m'] 36)).alloc (.cells #[.int .i64 0, .int .i64 0, .int .i64 0, .slice none 0 0, .slice none 0 0] 36)) (w.heap.size) 36 #[.int .i64 ck, .int .i64 wt, .int .i64 gn, .slice A ms.length m, .slice A' os.length m'] := (Blk.new_ _ 36 #[.int .i64 ck, .int .i64 wt, .int .i64 gn, .slice A ms.length m, .slice A' os.length m'] (by first | rfl | (simp; done) | (simp; omega))).alloc _
  have b_bz1 : Blk ((w.alloc (.cells #[.int .i64 ck, .int .i64 wt, .int .i64 gn, .slice A ms.length m, .slice A' os.length m'] 36)).alloc (.cells #[.int .i64 0, .int .i64 0, .int .i64 0, .slice none 0 0, .slice none 0 0] 36)) (w.heap.size + 1) 36 #[.int .i64 0, .int .i64 0, .int .i64 0, .slice none 0 0, .slice none 0 0] := Blk.new_ _ 36 #[.int .i64 0, .int .i64 0, .int .i64 0, .slice none 0 0, .slice none 0 0] (by first | rfl | (simp; done) | (simp; omega))
  have hz1 : w.heap.size + 2 ≤ ((w.alloc (.cells #[.int .i64 ck, .int .i64 wt, .int .i64 gn, .slice A ms.length m, .slice A' os.length m'] 36)).alloc (.cells #[.int .i64 0, .int .i64 0, .int .i64 0, .slice none 0 0, .slice none 0 0] 36)).heap.size := by first | omega | (simp; done) | (simp; omega)
  generalize (w.alloc (.cells #[.int .i64 ck, .int .i64 wt, .int .i64 gn, .slice A ms.length m, .slice A' os.length m'] 36)).alloc (.cells #[.int .i64 0, .int .i64 0, .int .i64 0, .slice none 0 0, .slice none 0 0] 36) = W1 at *
  have HB1 := Lib.hid hb1
  have B1_bx := Lib.hid b_bx1
  have B1_bz := Lib.hid b_bz1
  clear hb1 b_bx1 b_bz1
  refine (here_good _ ⟨ck, wt, gn, ms, os⟩ s gen i HK.out HN.out HI.out hl HV.out _ (H.out.below hal1)).mono ?_
  rintro e W2 ⟨mv5, ov5, rows, rfl, hown, hoff, hb⟩
  obtain ⟨A5, c5, rfl, hc5⟩ := (Sl.of_own hown.own).form
  obtain ⟨B5, d5, rfl, hd5⟩ := (Sl.of_own hoff).form
  simp only at *
  unfold groupV
  simp only
  have hb2 : Below w.heap.size w W2 := below_then HB1.out hb
  have b_bx2 := B1_bx.out.below hb B1_bx.out.lt
  have b_bz2 := B1_bz.out.below hb B1_bz.out.lt
  have hz2 := hb.size
  have HB2 := Lib.hid hb2
  have B2_bx := Lib.hid b_bx2
  have B2_bz := Lib.hid b_bz2
  clear hb2 b_bx2 b_bz2
  clear B1_bx B1_bz HB1
  have ho := hown.rebase (w0 := w) rfl (Nat.le_refl _) HB2.out
  obtain ⟨gg, c6, hv6, hg1, hg2, hc6, -⟩ := ho.at_ (Nat.lt_of_le_of_lt (Nat.zero_le i) hl)
  injection hv6 with hv7 hv8 hv9
  subst hv7
  clear hv8 hv9 hc6
  have HO := Lib.hid ho
  have hoff2 : OwnO W2 W1.heap.size (.slice B5 os.length d5) os := hoff
  have HFO := Lib.hid hoff2
  clear ho hown hoff hoff2 hc5 hd5
  have c_bx0 := B2_bx.out.cell 0
  have f_bx0 := B2_bx.out.frozen 0
  have c_bx1 := B2_bx.out.cell 1
  have f_bx1 := B2_bx.out.frozen 1
  have c_bx2 := B2_bx.out.cell 2
  have f_bx2 := B2_bx.out.frozen 2
  have c_bx3 := B2_bx.out.cell 3
  have f_bx3 := B2_bx.out.frozen 3
  have c_bx4 := B2_bx.out.cell 4
  have f_bx4 := B2_bx.out.frozen 4
  have l_bx := B2_bx.out.lt
  go_upto_region 2 with fail
  clear c_bx0 f_bx0 c_bx1 f_bx1 c_bx2 f_bx2 c_bx3 f_bx3 c_bx4 f_bx4 l_bx
  have hsz3 := HB2.out.size
  have hb3 : Below w.heap.size w (((((W2.setCell ⟨w.heap.size, 0, none⟩ (.int .i64 ck)).setCell ⟨w.heap.size, 1, none⟩ (.int .i64 wt)).setCell ⟨w.heap.size, 2, none⟩ (.int .i64 gn)).setCell ⟨w.heap.size, 3, none⟩ (.slice (some ⟨gg, 0, none⟩) ms.length c5)).setCell ⟨w.heap.size, 4, none⟩ (.slice B5 os.length d5)) := (((((HB2.out).setCell (by show w.heap.size ≤ w.heap.size; omega) _).setCell (by show w.heap.size ≤ w.heap.size; omega) _).setCell (by show w.heap.size ≤ w.heap.size; omega) _).setCell (by show w.heap.size ≤ w.heap.size; omega) _).setCell (by show w.heap.size ≤ w.heap.size; omega) _
  have b_bx3 : Blk (((((W2.setCell ⟨w.heap.size, 0, none⟩ (.int .i64 ck)).setCell ⟨w.heap.size, 1, none⟩ (.int .i64 wt)).setCell ⟨w.heap.size, 2, none⟩ (.int .i64 gn)).setCell ⟨w.heap.size, 3, none⟩ (.slice (some ⟨gg, 0, none⟩) ms.length c5)).setCell ⟨w.heap.size, 4, none⟩ (.slice B5 os.length d5)) (w.heap.size) 36 #[.int .i64 ck, .int .i64 wt, .int .i64 gn, .slice (some ⟨gg, 0, none⟩) ms.length c5, .slice B5 os.length d5] := (((((B2_bx.out).set_ 0 _).set_ 1 _).set_ 2 _).set_ 3 _).set_ 4 _
  have b_bz3 : Blk (((((W2.setCell ⟨w.heap.size, 0, none⟩ (.int .i64 ck)).setCell ⟨w.heap.size, 1, none⟩ (.int .i64 wt)).setCell ⟨w.heap.size, 2, none⟩ (.int .i64 gn)).setCell ⟨w.heap.size, 3, none⟩ (.slice (some ⟨gg, 0, none⟩) ms.length c5)).setCell ⟨w.heap.size, 4, none⟩ (.slice B5 os.length d5)) (w.heap.size + 1) 36 #[.int .i64 0, .int .i64 0, .int .i64 0, .slice none 0 0, .slice none 0 0] := (((((B2_bz.out).far (p := ⟨w.heap.size, 0, none⟩) (by show w.heap.size + 1 ≠ w.heap.size; omega) _).far (p := ⟨w.heap.size, 1, none⟩) (by show w.heap.size + 1 ≠ w.heap.size; omega) _).far (p := ⟨w.heap.size, 2, none⟩) (by show w.heap.size + 1 ≠ w.heap.size; omega) _).far (p := ⟨w.heap.size, 3, none⟩) (by show w.heap.size + 1 ≠ w.heap.size; omega) _).far (p := ⟨w.heap.size, 4, none⟩) (by show w.heap.size + 1 ≠ w.heap.size; omega) _
  have k_own3 := (((((HO.out).under (a := ⟨w.heap.size, 0, none⟩) (by constructor <;> (try dsimp only) <;> omega) (.int .i64 ck)).under (a := ⟨w.heap.size, 1, none⟩) (by constructor <;> (try dsimp only) <;> omega) (.int .i64 wt)).under (a := ⟨w.heap.size, 2, none⟩) (by constructor <;> (try dsimp only) <;> omega) (.int .i64 gn)).under (a := ⟨w.heap.size, 3, none⟩) (by constructor <;> (try dsimp only) <;> omega) (.slice (some ⟨gg, 0, none⟩) ms.length c5)).under (a := ⟨w.heap.size, 4, none⟩) (by constructor <;> (try dsimp only) <;> omega) (.slice B5 os.length d5)
  have k_off3 := (((((HFO.out).under (a := ⟨w.heap.size, 0, none⟩) (by (try dsimp only); omega) (.int .i64 ck)).under (a := ⟨w.heap.size, 1, none⟩) (by (try dsimp only); omega) (.int .i64 wt)).under (a := ⟨w.heap.size, 2, none⟩) (by (try dsimp only); omega) (.int .i64 gn)).under (a := ⟨w.heap.size, 3, none⟩) (by (try dsimp only); omega) (.slice (some ⟨gg, 0, none⟩) ms.length c5)).under (a := ⟨w.heap.size, 4, none⟩) (by (try dsimp only); omega) (.slice B5 os.length d5)
  have hz3 : W2.heap.size + 0 ≤ (((((W2.setCell ⟨w.heap.size, 0, none⟩ (.int .i64 ck)).setCell ⟨w.heap.size, 1, none⟩ (.int .i64 wt)).setCell ⟨w.heap.size, 2, none⟩ (.int .i64 gn)).setCell ⟨w.heap.size, 3, none⟩ (.slice (some ⟨gg, 0, none⟩) ms.length c5)).setCell ⟨w.heap.size, 4, none⟩ (.slice B5 os.length d5)).heap.size := by first | omega | (simp; done) | (simp; omega)
  generalize ((((W2.setCell ⟨w.heap.size, 0, none⟩ (.int .i64 ck)).setCell ⟨w.heap.size, 1, none⟩ (.int .i64 wt)).setCell ⟨w.heap.size, 2, none⟩ (.int .i64 gn)).setCell ⟨w.heap.size, 3, none⟩ (.slice (some ⟨gg, 0, none⟩) ms.length c5)).setCell ⟨w.heap.size, 4, none⟩ (.slice B5 os.length d5) = W3 at *
  have HB3 := Lib.hid hb3
  have B3_bx := Lib.hid b_bx3
  have B3_bz := Lib.hid b_bz3
  have K3_own := Lib.hid k_own3
  have K3_off := Lib.hid k_off3
  clear hb3 b_bx3 b_bz3 k_own3 k_off3
  clear B2_bx B2_bz HB2 HO HFO
  obtain ⟨hg3, hg4, A3, m3, r2, rf2, ro⟩ := K3_own.out.row2 rfl i hl
  have c_bx0 := B3_bx.out.cell 0
  have c_bx1 := B3_bx.out.cell 1
  have c_bx2 := B3_bx.out.cell 2
  have c_bx3 := B3_bx.out.cell 3
  have c_bx4 := B3_bx.out.cell 4
  have l_bx := B3_bx.out.lt
  go_wp2_with fail
  clear c_bx0 c_bx1 c_bx2 c_bx3 c_bx4 l_bx
  refine (contains_int _ ms[i].parts part _ (Sl.of_own ro) HPL.out).mono ?_
  rintro e W4 ⟨qb, rfl, hq, hb⟩
  obtain rfl : qb = true := by
    have := HPM.out
    simp_all
  clear hq r2 rf2 ro hg3 hg4
  have hb4 : Below w.heap.size w W4 := below_then HB3.out hb
  have b_bx4 := B3_bx.out.below hb B3_bx.out.lt
  have b_bz4 := B3_bz.out.below hb B3_bz.out.lt
  have k_own4 := K3_own.out.keep hb
  have k_off4 := K3_off.out.keep hb
  have hz4 := hb.size
  have HB4 := Lib.hid hb4
  have B4_bx := Lib.hid b_bx4
  have B4_bz := Lib.hid b_bz4
  have K4_own := Lib.hid k_own4
  have K4_off := Lib.hid k_off4
  clear hb4 b_bx4 b_bz4 k_own4 k_off4
  clear B3_bx B3_bz HB3 K3_own K3_off
  have c_bx0 := B4_bx.out.cell 0
  have c_bx1 := B4_bx.out.cell 1
  have c_bx2 := B4_bx.out.cell 2
  have c_bx3 := B4_bx.out.cell 3
  have c_bx4 := B4_bx.out.cell 4
  have l_bx := B4_bx.out.lt
  have c_bx0 := B4_bx.out.cell 0
  have f_bx0 := B4_bx.out.frozen 0
  have c_bx1 := B4_bx.out.cell 1
  have f_bx1 := B4_bx.out.frozen 1
  have c_bx2 := B4_bx.out.cell 2
  have f_bx2 := B4_bx.out.frozen 2
  have c_bx3 := B4_bx.out.cell 3
  have f_bx3 := B4_bx.out.frozen 3
  have c_bx4 := B4_bx.out.cell 4
  have f_bx4 := B4_bx.out.frozen 4
  have l_bx := B4_bx.out.lt
  have kle : k ≤ os.length := HPO.out.le
  have o4 : (os.length : Int) ≤ 4 := by have := HO4.out; omega
  go_wp2_with fail
  go_loop [14] (fun y => ∃ q : Nat, q ≤ k ∧ y = .int .i64 q) (fun y => k - (intOf y).toNat)
  case atStart => exact ⟨0, Nat.zero_le _, rfl⟩
  case round =>
    obtain ⟨q, hqk, rfl⟩ := hrel
    have z0 : (0 : Int) ≤ (q : Int) := by omega
    by_cases hlt : q < k
    · have hql : q < os.length := by omega
      have z1 : (q : Int) < (os.length : Int) := by omega
      obtain ⟨go, rfl⟩ : ∃ go, B5 = some ⟨go, 0, none⟩ := by
        rcases K4_off.out.form with ⟨e, -⟩ | e
        · rw [e] at hql; simp at hql
        · exact e
      obtain ⟨z2, -, -, -, z3⟩ := K4_off.out.cellP hql
      have z4 : decide (os[q].part < part) = true := decide_eq_true (HPO.out.lo q hql hlt)
      go_wp2
      go_round
      case rel => exact ⟨q + 1, by omega, by go_num⟩
      case measure => simp [intOf]; omega
    · obtain rfl : q = k := by omega
      have hql := HKE.out
      have z1 : (q : Int) < (os.length : Int) := by omega
      obtain ⟨go, rfl⟩ : ∃ go, B5 = some ⟨go, 0, none⟩ := by
        rcases K4_off.out.form with ⟨e, -⟩ | e
        · rw [e] at hql; simp at hql
        · exact e
      obtain ⟨z2, z5, z6, z7, z3⟩ := K4_off.out.cellP hql
      rw [HPE.out] at z2
      go_upto_region 14 with fail
      clear z2 z5 z6
      clear c_bx0 c_bx1 c_bx2 c_bx3 c_bx4 l_bx f_bx0 f_bx1 f_bx2 f_bx3 f_bx4
      have hsz5 := HB4.out.size
      have hb5 : Below w.heap.size w (W4.setCell ⟨go, q * 2 + 1, none⟩ (.int .i64 at_)) := (HB4.out).setCell (by show w.heap.size ≤ go; omega) _
      have b_bx5 : Blk (W4.setCell ⟨go, q * 2 + 1, none⟩ (.int .i64 at_)) (w.heap.size) 36 #[.int .i64 ck, .int .i64 wt, .int .i64 gn, .slice (some ⟨gg, 0, none⟩) ms.length c5, .slice (some ⟨go, 0, none⟩) os.length d5] := (B4_bx.out).far (p := ⟨go, q * 2 + 1, none⟩) (by show w.heap.size ≠ go; omega) _
      have b_bz5 : Blk (W4.setCell ⟨go, q * 2 + 1, none⟩ (.int .i64 at_)) (w.heap.size + 1) 36 #[.int .i64 0, .int .i64 0, .int .i64 0, .slice none 0 0, .slice none 0 0] := (B4_bz.out).far (p := ⟨go, q * 2 + 1, none⟩) (by show w.heap.size + 1 ≠ go; omega) _
      have k_own5 := (K4_own.out.setFar rfl K4_off.out (by omega) (q * 2 + 1) (.int .i64 at_))
      have k_off5 := (K4_off.out.setAt (a := at_) HKE.out HPE.out)
      have hz5 : W4.heap.size + 0 ≤ (W4.setCell ⟨go, q * 2 + 1, none⟩ (.int .i64 at_)).heap.size := by first | omega | (simp; done) | (simp; omega)
      generalize W4.setCell ⟨go, q * 2 + 1, none⟩ (.int .i64 at_) = W5 at *
      have HB5 := Lib.hid hb5
      have B5_bx := Lib.hid b_bx5
      have B5_bz := Lib.hid b_bz5
      have K5_own := Lib.hid k_own5
      have K5_off := Lib.hid k_off5
      clear hb5 b_bx5 b_bz5 k_own5 k_off5
      clear B4_bx B4_bz HB4 K4_own K4_off
      have c_bx0 := B5_bx.out.cell 0
      have c_bx1 := B5_bx.out.cell 1
      have c_bx2 := B5_bx.out.cell 2
      have c_bx3 := B5_bx.out.cell 3
      have c_bx4 := B5_bx.out.cell 4
      have l_bx := B5_bx.out.lt
      have c_bz0 := B5_bz.out.cell 0
      have f_bz0 := B5_bz.out.frozen 0
      have c_bz1 := B5_bz.out.cell 1
      have f_bz1 := B5_bz.out.frozen 1
      have c_bz2 := B5_bz.out.cell 2
      have f_bz2 := B5_bz.out.frozen 2
      have c_bz3 := B5_bz.out.cell 3
      have f_bz3 := B5_bz.out.frozen 3
      have c_bz4 := B5_bz.out.cell 4
      have f_bz4 := B5_bz.out.frozen 4
      have l_bz := B5_bz.out.lt
      go_wp2_with fail
      clear c_bx0 c_bx1 c_bx2 c_bx3 c_bx4 l_bx c_bz0 f_bz0 c_bz1 f_bz1 c_bz2 f_bz2 c_bz3 f_bz3 c_bz4 f_bz4 l_bz
      have hszF := HB5.out.size
      have hbF : Below w.heap.size w (((((W5.setCell ⟨w.heap.size + 1, 0, none⟩ (.int .i64 ck)).setCell ⟨w.heap.size + 1, 1, none⟩ (.int .i64 wt)).setCell ⟨w.heap.size + 1, 2, none⟩ (.int .i64 gn)).setCell ⟨w.heap.size + 1, 3, none⟩ (.slice (some ⟨gg, 0, none⟩) ms.length c5)).setCell ⟨w.heap.size + 1, 4, none⟩ (.slice (some ⟨go, 0, none⟩) os.length d5)) := (((((HB5.out).setCell (by show w.heap.size ≤ w.heap.size + 1; omega) _).setCell (by show w.heap.size ≤ w.heap.size + 1; omega) _).setCell (by show w.heap.size ≤ w.heap.size + 1; omega) _).setCell (by show w.heap.size ≤ w.heap.size + 1; omega) _).setCell (by show w.heap.size ≤ w.heap.size + 1; omega) _
      have b_bxF : Blk (((((W5.setCell ⟨w.heap.size + 1, 0, none⟩ (.int .i64 ck)).setCell ⟨w.heap.size + 1, 1, none⟩ (.int .i64 wt)).setCell ⟨w.heap.size + 1, 2, none⟩ (.int .i64 gn)).setCell ⟨w.heap.size + 1, 3, none⟩ (.slice (some ⟨gg, 0, none⟩) ms.length c5)).setCell ⟨w.heap.size + 1, 4, none⟩ (.slice (some ⟨go, 0, none⟩) os.length d5)) (w.heap.size) 36 #[.int .i64 ck, .int .i64 wt, .int .i64 gn, .slice (some ⟨gg, 0, none⟩) ms.length c5, .slice (some ⟨go, 0, none⟩) os.length d5] := (((((B5_bx.out).far (p := ⟨w.heap.size + 1, 0, none⟩) (by show w.heap.size ≠ w.heap.size + 1; omega) _).far (p := ⟨w.heap.size + 1, 1, none⟩) (by show w.heap.size ≠ w.heap.size + 1; omega) _).far (p := ⟨w.heap.size + 1, 2, none⟩) (by show w.heap.size ≠ w.heap.size + 1; omega) _).far (p := ⟨w.heap.size + 1, 3, none⟩) (by show w.heap.size ≠ w.heap.size + 1; omega) _).far (p := ⟨w.heap.size + 1, 4, none⟩) (by show w.heap.size ≠ w.heap.size + 1; omega) _
      have b_bzF : Blk (((((W5.setCell ⟨w.heap.size + 1, 0, none⟩ (.int .i64 ck)).setCell ⟨w.heap.size + 1, 1, none⟩ (.int .i64 wt)).setCell ⟨w.heap.size + 1, 2, none⟩ (.int .i64 gn)).setCell ⟨w.heap.size + 1, 3, none⟩ (.slice (some ⟨gg, 0, none⟩) ms.length c5)).setCell ⟨w.heap.size + 1, 4, none⟩ (.slice (some ⟨go, 0, none⟩) os.length d5)) (w.heap.size + 1) 36 #[.int .i64 ck, .int .i64 wt, .int .i64 gn, .slice (some ⟨gg, 0, none⟩) ms.length c5, .slice (some ⟨go, 0, none⟩) os.length d5] := (((((B5_bz.out).set_ 0 _).set_ 1 _).set_ 2 _).set_ 3 _).set_ 4 _
      have hoF := (((((K5_own.out).under (a := ⟨w.heap.size + 1, 0, none⟩) (by constructor <;> (try dsimp only) <;> omega) (.int .i64 ck)).under (a := ⟨w.heap.size + 1, 1, none⟩) (by constructor <;> (try dsimp only) <;> omega) (.int .i64 wt)).under (a := ⟨w.heap.size + 1, 2, none⟩) (by constructor <;> (try dsimp only) <;> omega) (.int .i64 gn)).under (a := ⟨w.heap.size + 1, 3, none⟩) (by constructor <;> (try dsimp only) <;> omega) (.slice (some ⟨gg, 0, none⟩) ms.length c5)).under (a := ⟨w.heap.size + 1, 4, none⟩) (by constructor <;> (try dsimp only) <;> omega) (.slice (some ⟨go, 0, none⟩) os.length d5)
      have hfF := (((((K5_off.out).under (a := ⟨w.heap.size + 1, 0, none⟩) (by (try dsimp only); omega) (.int .i64 ck)).under (a := ⟨w.heap.size + 1, 1, none⟩) (by (try dsimp only); omega) (.int .i64 wt)).under (a := ⟨w.heap.size + 1, 2, none⟩) (by (try dsimp only); omega) (.int .i64 gn)).under (a := ⟨w.heap.size + 1, 3, none⟩) (by (try dsimp only); omega) (.slice (some ⟨gg, 0, none⟩) ms.length c5)).under (a := ⟨w.heap.size + 1, 4, none⟩) (by (try dsimp only); omega) (.slice (some ⟨go, 0, none⟩) os.length d5)
      have y0 := b_bzF.cell 0
      have y1 := b_bzF.cell 1
      have y2 := b_bzF.cell 2
      have y3 := b_bzF.cell 3
      have y4 := b_bzF.cell 4
      exact bodyPost_ret (v := .tuple #[.agg #[.int .i64 ck, .int .i64 wt, .int .i64 gn, .slice (some ⟨gg, 0, none⟩) ms.length c5, .slice (some ⟨go, 0, none⟩) os.length d5], .int .i64 0]) (by simp [results, Try.results54, go_sem, y0, y1, y2, y3, y4]) rfl (⟨.slice (some ⟨gg, 0, none⟩) ms.length c5, .slice (some ⟨go, 0, none⟩) os.length d5, rows, rfl, ownM_len (hoF.rebase rfl (by omega) hbF) rfl, own_base hfF (by omega), hbF⟩)
set_option maxRecDepth 100000 in
set_option maxHeartbeats 4000000 in
theorem store_new (v : Value) (g : GroupD) (s : ByteArray) (gen part at_ : Int) (i : Nat) (hk : GroupOk g) (hn : NameOk s) (hi : idxM g.mems s = some i) (hl : i < g.mems.length) (hv : g.gen = gen) (h0 : 0 ≤ at_) (h4 : at_ ≤ 400) (hp : part ∈ g.mems[i].parts) (k : Nat) (hpl : PlaceO g.offs part k) (hne : ∀ h : k < g.offs.length, g.offs[k].part ≠ part) (w : World) (h : Gv w v g) : Calls Try.prog 54 #[v, .string s, .int .i64 gen, .int .i64 part, .int .i64 at_] w (GRes (g.offsTo (newO g.offs part at_ k)) 0 w) := by
  obtain ⟨mv, ov, rfl, hx, hy, hl1, hl2⟩ := id h
  obtain ⟨A, m, rfl, -⟩ := hx.at_
  obtain ⟨A', m', rfl, -⟩ := hy.at_
  have H := Lib.hid h
  have HX := Lib.hid hx
  have HY := Lib.hid hy
  clear h hx hy
  unfold groupV at *
  obtain ⟨ck, wt, gn, ms, os⟩ := g
  simp only at *
  have q0 : decide (at_ < 0) = false := decide_eq_false (by omega)
  have q1 : decide (400 < at_) = false := decide_eq_false (by omega)
  have i0 : (0 : Int) ≤ (i : Int) := by omega
  have i1 : (i : Int) < (ms.length : Int) := Int.ofNat_lt.2 hl
  have HPL := Lib.hid (show ms[i].parts.length ≤ 9223372036854775807 by have := (hk.all i hl hl).1.rises.small; simp only at this; omega)
  have HPM := Lib.hid hp
  have HO4 := Lib.hid (show os.length ≤ 4 from hk.offs)
  have HPO := Lib.hid hpl
  have HNE := Lib.hid hne
  clear hp hpl hne
  have HK := Lib.hid hk
  have HN := Lib.hid hn
  have HI := Lib.hid hi
  have HV := Lib.hid hv
  clear hk hn hi hv
  go_enter Try.func54, Try.ntmps54
  go_wp2_with fail
  have hb1 : Below w.heap.size w ((w.alloc (.cells #[.int .i64 ck, .int .i64 wt, .int .i64 gn, .slice A ms.length m, .slice A' os.length m'] 36)).alloc (.cells #[.int .i64 0, .int .i64 0, .int .i64 0, .slice none 0 0, .slice none 0 0] 36)) := ((Below.refl _ _).alloc (by first | omega | (simp; done) | (simp; omega)) _).alloc (by first | omega | (simp; done) | (simp; omega)) _
  have hal1 : Below w.heap.size w ((w.alloc (.cells #[.int .i64 ck, .int .i64 wt, .int .i64 gn, .slice A ms.length m, .slice A' os.length m'] 36)).alloc (.cells #[.int .i64 0, .int .i64 0, .int .i64 0, .slice none 0 0, .slice none 0 0] 36)) := ((Below.refl _ _).alloc (by first | omega | (simp; done) | (simp; omega)) _).alloc (by first | omega | (simp; done) | (simp; omega)) _
  have b_bx1 : Blk ((w.alloc (.cells #[.int .i64 ck, .int .i64 wt, .int .i64 gn, .slice A ms.length m, .slice A' os.length m'] 36)).alloc (.cells #[.int .i64 0, .int .i64 0, .int .i64 0, .slice none 0 0, .slice none 0 0] 36)) (w.heap.size) 36 #[.int .i64 ck, .int .i64 wt, .int .i64 gn, .slice A ms.length m, .slice A' os.length m'] := (Blk.new_ _ 36 #[.int .i64 ck, .int .i64 wt, .int .i64 gn, .slice A ms.length m, .slice A' os.length m'] (by first | rfl | (simp; done) | (simp; omega))).alloc _
  have b_bz1 : Blk ((w.alloc (.cells #[.int .i64 ck, .int .i64 wt, .int .i64 gn, .slice A ms.length m, .slice A' os.length m'] 36)).alloc (.cells #[.int .i64 0, .int .i64 0, .int .i64 0, .slice none 0 0, .slice none 0 0] 36)) (w.heap.size + 1) 36 #[.int .i64 0, .int .i64 0, .int .i64 0, .slice none 0 0, .slice none 0 0] := Blk.new_ _ 36 #[.int .i64 0, .int .i64 0, .int .i64 0, .slice none 0 0, .slice none 0 0] (by first | rfl | (simp; done) | (simp; omega))
  have hz1 : w.heap.size + 2 ≤ ((w.alloc (.cells #[.int .i64 ck, .int .i64 wt, .int .i64 gn, .slice A ms.length m, .slice A' os.length m'] 36)).alloc (.cells #[.int .i64 0, .int .i64 0, .int .i64 0, .slice none 0 0, .slice none 0 0] 36)).heap.size := by first | omega | (simp; done) | (simp; omega)
  generalize (w.alloc (.cells #[.int .i64 ck, .int .i64 wt, .int .i64 gn, .slice A ms.length m, .slice A' os.length m'] 36)).alloc (.cells #[.int .i64 0, .int .i64 0, .int .i64 0, .slice none 0 0, .slice none 0 0] 36) = W1 at *
  have HB1 := Lib.hid hb1
  have B1_bx := Lib.hid b_bx1
  have B1_bz := Lib.hid b_bz1
  clear hb1 b_bx1 b_bz1
  refine (here_good _ ⟨ck, wt, gn, ms, os⟩ s gen i HK.out HN.out HI.out hl HV.out _ (H.out.below hal1)).mono ?_
  rintro e W2 ⟨mv5, ov5, rows, rfl, hown, hoff, hb⟩
  obtain ⟨A5, c5, rfl, hc5⟩ := (Sl.of_own hown.own).form
  obtain ⟨B5, d5, rfl, hd5⟩ := (Sl.of_own hoff).form
  simp only at *
  unfold groupV
  simp only
  have hb2 : Below w.heap.size w W2 := below_then HB1.out hb
  have b_bx2 := B1_bx.out.below hb B1_bx.out.lt
  have b_bz2 := B1_bz.out.below hb B1_bz.out.lt
  have hz2 := hb.size
  have HB2 := Lib.hid hb2
  have B2_bx := Lib.hid b_bx2
  have B2_bz := Lib.hid b_bz2
  clear hb2 b_bx2 b_bz2
  clear B1_bx B1_bz HB1
  have ho := hown.rebase (w0 := w) rfl (Nat.le_refl _) HB2.out
  obtain ⟨gg, c6, hv6, hg1, hg2, hc6, -⟩ := ho.at_ (Nat.lt_of_le_of_lt (Nat.zero_le i) hl)
  injection hv6 with hv7 hv8 hv9
  subst hv7
  clear hv8 hv9 hc6
  have HO := Lib.hid ho
  have hoff2 : OwnO W2 W1.heap.size (.slice B5 os.length d5) os := hoff
  have HFO := Lib.hid hoff2
  clear ho hown hoff hoff2 hc5 hd5
  have c_bx0 := B2_bx.out.cell 0
  have f_bx0 := B2_bx.out.frozen 0
  have c_bx1 := B2_bx.out.cell 1
  have f_bx1 := B2_bx.out.frozen 1
  have c_bx2 := B2_bx.out.cell 2
  have f_bx2 := B2_bx.out.frozen 2
  have c_bx3 := B2_bx.out.cell 3
  have f_bx3 := B2_bx.out.frozen 3
  have c_bx4 := B2_bx.out.cell 4
  have f_bx4 := B2_bx.out.frozen 4
  have l_bx := B2_bx.out.lt
  go_upto_region 2 with fail
  clear c_bx0 f_bx0 c_bx1 f_bx1 c_bx2 f_bx2 c_bx3 f_bx3 c_bx4 f_bx4 l_bx
  have hsz3 := HB2.out.size
  have hb3 : Below w.heap.size w (((((W2.setCell ⟨w.heap.size, 0, none⟩ (.int .i64 ck)).setCell ⟨w.heap.size, 1, none⟩ (.int .i64 wt)).setCell ⟨w.heap.size, 2, none⟩ (.int .i64 gn)).setCell ⟨w.heap.size, 3, none⟩ (.slice (some ⟨gg, 0, none⟩) ms.length c5)).setCell ⟨w.heap.size, 4, none⟩ (.slice B5 os.length d5)) := (((((HB2.out).setCell (by show w.heap.size ≤ w.heap.size; omega) _).setCell (by show w.heap.size ≤ w.heap.size; omega) _).setCell (by show w.heap.size ≤ w.heap.size; omega) _).setCell (by show w.heap.size ≤ w.heap.size; omega) _).setCell (by show w.heap.size ≤ w.heap.size; omega) _
  have b_bx3 : Blk (((((W2.setCell ⟨w.heap.size, 0, none⟩ (.int .i64 ck)).setCell ⟨w.heap.size, 1, none⟩ (.int .i64 wt)).setCell ⟨w.heap.size, 2, none⟩ (.int .i64 gn)).setCell ⟨w.heap.size, 3, none⟩ (.slice (some ⟨gg, 0, none⟩) ms.length c5)).setCell ⟨w.heap.size, 4, none⟩ (.slice B5 os.length d5)) (w.heap.size) 36 #[.int .i64 ck, .int .i64 wt, .int .i64 gn, .slice (some ⟨gg, 0, none⟩) ms.length c5, .slice B5 os.length d5] := (((((B2_bx.out).set_ 0 _).set_ 1 _).set_ 2 _).set_ 3 _).set_ 4 _
  have b_bz3 : Blk (((((W2.setCell ⟨w.heap.size, 0, none⟩ (.int .i64 ck)).setCell ⟨w.heap.size, 1, none⟩ (.int .i64 wt)).setCell ⟨w.heap.size, 2, none⟩ (.int .i64 gn)).setCell ⟨w.heap.size, 3, none⟩ (.slice (some ⟨gg, 0, none⟩) ms.length c5)).setCell ⟨w.heap.size, 4, none⟩ (.slice B5 os.length d5)) (w.heap.size + 1) 36 #[.int .i64 0, .int .i64 0, .int .i64 0, .slice none 0 0, .slice none 0 0] := (((((B2_bz.out).far (p := ⟨w.heap.size, 0, none⟩) (by show w.heap.size + 1 ≠ w.heap.size; omega) _).far (p := ⟨w.heap.size, 1, none⟩) (by show w.heap.size + 1 ≠ w.heap.size; omega) _).far (p := ⟨w.heap.size, 2, none⟩) (by show w.heap.size + 1 ≠ w.heap.size; omega) _).far (p := ⟨w.heap.size, 3, none⟩) (by show w.heap.size + 1 ≠ w.heap.size; omega) _).far (p := ⟨w.heap.size, 4, none⟩) (by show w.heap.size + 1 ≠ w.heap.size; omega) _
  have k_own3 := (((((HO.out).under (a := ⟨w.heap.size, 0, none⟩) (by constructor <;> (try dsimp only) <;> omega) (.int .i64 ck)).under (a := ⟨w.heap.size, 1, none⟩) (by constructor <;> (try dsimp only) <;> omega) (.int .i64 wt)).under (a := ⟨w.heap.size, 2, none⟩) (by constructor <;> (try dsimp only) <;> omega) (.int .i64 gn)).under (a := ⟨w.heap.size, 3, none⟩) (by constructor <;> (try dsimp only) <;> omega) (.slice (some ⟨gg, 0, none⟩) ms.length c5)).under (a := ⟨w.heap.size, 4, none⟩) (by constructor <;> (try dsimp only) <;> omega) (.slice B5 os.length d5)
  have k_off3 := (((((HFO.out).under (a := ⟨w.heap.size, 0, none⟩) (by (try dsimp only); omega) (.int .i64 ck)).under (a := ⟨w.heap.size, 1, none⟩) (by (try dsimp only); omega) (.int .i64 wt)).under (a := ⟨w.heap.size, 2, none⟩) (by (try dsimp only); omega) (.int .i64 gn)).under (a := ⟨w.heap.size, 3, none⟩) (by (try dsimp only); omega) (.slice (some ⟨gg, 0, none⟩) ms.length c5)).under (a := ⟨w.heap.size, 4, none⟩) (by (try dsimp only); omega) (.slice B5 os.length d5)
  have hz3 : W2.heap.size + 0 ≤ (((((W2.setCell ⟨w.heap.size, 0, none⟩ (.int .i64 ck)).setCell ⟨w.heap.size, 1, none⟩ (.int .i64 wt)).setCell ⟨w.heap.size, 2, none⟩ (.int .i64 gn)).setCell ⟨w.heap.size, 3, none⟩ (.slice (some ⟨gg, 0, none⟩) ms.length c5)).setCell ⟨w.heap.size, 4, none⟩ (.slice B5 os.length d5)).heap.size := by first | omega | (simp; done) | (simp; omega)
  generalize ((((W2.setCell ⟨w.heap.size, 0, none⟩ (.int .i64 ck)).setCell ⟨w.heap.size, 1, none⟩ (.int .i64 wt)).setCell ⟨w.heap.size, 2, none⟩ (.int .i64 gn)).setCell ⟨w.heap.size, 3, none⟩ (.slice (some ⟨gg, 0, none⟩) ms.length c5)).setCell ⟨w.heap.size, 4, none⟩ (.slice B5 os.length d5) = W3 at *
  have HB3 := Lib.hid hb3
  have B3_bx := Lib.hid b_bx3
  have B3_bz := Lib.hid b_bz3
  have K3_own := Lib.hid k_own3
  have K3_off := Lib.hid k_off3
  clear hb3 b_bx3 b_bz3 k_own3 k_off3
  clear B2_bx B2_bz HB2 HO HFO
  obtain ⟨hg3, hg4, A3, m3, r2, rf2, ro⟩ := K3_own.out.row2 rfl i hl
  have c_bx0 := B3_bx.out.cell 0
  have c_bx1 := B3_bx.out.cell 1
  have c_bx2 := B3_bx.out.cell 2
  have c_bx3 := B3_bx.out.cell 3
  have c_bx4 := B3_bx.out.cell 4
  have l_bx := B3_bx.out.lt
  go_wp2_with fail
  clear c_bx0 c_bx1 c_bx2 c_bx3 c_bx4 l_bx
  refine (contains_int _ ms[i].parts part _ (Sl.of_own ro) HPL.out).mono ?_
  rintro e W4 ⟨qb, rfl, hq, hb⟩
  obtain rfl : qb = true := by
    have := HPM.out
    simp_all
  clear hq r2 rf2 ro hg3 hg4
  have hb4 : Below w.heap.size w W4 := below_then HB3.out hb
  have b_bx4 := B3_bx.out.below hb B3_bx.out.lt
  have b_bz4 := B3_bz.out.below hb B3_bz.out.lt
  have k_own4 := K3_own.out.keep hb
  have k_off4 := K3_off.out.keep hb
  have hz4 := hb.size
  have HB4 := Lib.hid hb4
  have B4_bx := Lib.hid b_bx4
  have B4_bz := Lib.hid b_bz4
  have K4_own := Lib.hid k_own4
  have K4_off := Lib.hid k_off4
  clear hb4 b_bx4 b_bz4 k_own4 k_off4
  clear B3_bx B3_bz HB3 K3_own K3_off
  have c_bx0 := B4_bx.out.cell 0
  have c_bx1 := B4_bx.out.cell 1
  have c_bx2 := B4_bx.out.cell 2
  have c_bx3 := B4_bx.out.cell 3
  have c_bx4 := B4_bx.out.cell 4
  have l_bx := B4_bx.out.lt
  have c_bx0 := B4_bx.out.cell 0
  have f_bx0 := B4_bx.out.frozen 0
  have c_bx1 := B4_bx.out.cell 1
  have f_bx1 := B4_bx.out.frozen 1
  have c_bx2 := B4_bx.out.cell 2
  have f_bx2 := B4_bx.out.frozen 2
  have c_bx3 := B4_bx.out.cell 3
  have f_bx3 := B4_bx.out.frozen 3
  have c_bx4 := B4_bx.out.cell 4
  have f_bx4 := B4_bx.out.frozen 4
  have l_bx := B4_bx.out.lt
  have kle : k ≤ os.length := HPO.out.le
  have o4 : (os.length : Int) ≤ 4 := by have := HO4.out; omega
  go_wp2_with fail
  go_loop [14] (fun y => ∃ q : Nat, q ≤ k ∧ y = .int .i64 q) (fun y => k - (intOf y).toNat)
  case atStart => exact ⟨0, Nat.zero_le _, rfl⟩
  case round =>
    obtain ⟨q, hqk, rfl⟩ := hrel
    have z0 : (0 : Int) ≤ (q : Int) := by omega
    by_cases hlt : q < k
    · have hql : q < os.length := by omega
      have z1 : (q : Int) < (os.length : Int) := by omega
      obtain ⟨go, rfl⟩ : ∃ go, B5 = some ⟨go, 0, none⟩ := by
        rcases K4_off.out.form with ⟨e, -⟩ | e
        · rw [e] at hql; simp at hql
        · exact e
      obtain ⟨z2, -, -, -, z3⟩ := K4_off.out.cellP hql
      have z4 : decide (os[q].part < part) = true := decide_eq_true (HPO.out.lo q hql hlt)
      go_wp2
      go_round
      case rel => exact ⟨q + 1, by omega, by go_num⟩
      case measure => simp [intOf]; omega
    · obtain rfl : q = k := by omega
      have hkey : (os.length = 0 ∧ B5 = none) ∨ (∃ go, B5 = some ⟨go, 0, none⟩ ∧ ¬ q < os.length) ∨ (∃ go, ∃ h : q < os.length, B5 = some ⟨go, 0, none⟩ ∧ W4.cell? ⟨go, q * 2, none⟩ = some (.int .i64 os[q].part) ∧ go < W4.heap.size ∧ (os[q].part == part) = false ∧ decide (os[q].part < part) = false) := by
        rcases K4_off.out.form with ⟨e, e2⟩ | ⟨go, rfl⟩
        · exact Or.inl ⟨by rw [e]; rfl, e2⟩
        · by_cases hql : q < os.length
          · obtain ⟨z2, -, -, -, z3⟩ := K4_off.out.cellP hql
            exact Or.inr (Or.inr ⟨go, hql, rfl, z2, z3, beq_eq_false_iff_ne.2 (HNE.out hql), decide_eq_false (by have := HPO.out.hi q hql (Nat.le_refl _); omega)⟩)
          · exact Or.inr (Or.inl ⟨go, rfl, hql⟩)
      rcases hkey with ⟨hz, rfl⟩ | ⟨go, rfl, hz⟩ | ⟨go, hz, rfl, z2, z3, z4, z5⟩
      all_goals
        (try have z8 : ¬ ((q : Int) < (os.length : Int)) := by omega)
        (try have z9 : (q : Int) < (os.length : Int) := by omega)
        have HZ := Lib.hid hz
        (try clear hz)
        go_wp2_with fail
        (try clear z2)
        clear c_bx0 c_bx1 c_bx2 c_bx3 c_bx4 l_bx f_bx0 f_bx1 f_bx2 f_bx3 f_bx4
        have lof := K4_off.out.lt
        have hsz5 := HB4.out.size
        have hb5 : Below w.heap.size w (W4.alloc (.cells #[.int .i64 part, .int .i64 at_] 81)) := (HB4.out).alloc (by first | omega | (simp; done) | (simp; omega)) _
        have hal5 : Below W4.heap.size W4 (W4.alloc (.cells #[.int .i64 part, .int .i64 at_] 81)) := (Below.refl _ _).alloc (by first | omega | (simp; done) | (simp; omega)) _
        have b_bx5 : Blk (W4.alloc (.cells #[.int .i64 part, .int .i64 at_] 81)) (w.heap.size) 36 #[.int .i64 ck, .int .i64 wt, .int .i64 gn, .slice (some ⟨gg, 0, none⟩) ms.length c5, _] := (B4_bx.out).alloc _
        have b_bz5 : Blk (W4.alloc (.cells #[.int .i64 part, .int .i64 at_] 81)) (w.heap.size + 1) 36 #[.int .i64 0, .int .i64 0, .int .i64 0, .slice none 0 0, .slice none 0 0] := (B4_bz.out).alloc _
        have b_bp5 : Blk (W4.alloc (.cells #[.int .i64 part, .int .i64 at_] 81)) (W4.heap.size) 81 #[.int .i64 part, .int .i64 at_] := Blk.new_ _ 81 #[.int .i64 part, .int .i64 at_] (by first | rfl | (simp; done) | (simp; omega))
        have k_own5 := (K4_own.out).alloc (.cells #[.int .i64 part, .int .i64 at_] 81)
        have k_off5 := (K4_off.out).alloc (.cells #[.int .i64 part, .int .i64 at_] 81)
        have hz5 : W4.heap.size + 1 ≤ (W4.alloc (.cells #[.int .i64 part, .int .i64 at_] 81)).heap.size := by first | omega | (simp; done) | (simp; omega)
        generalize W4.alloc (.cells #[.int .i64 part, .int .i64 at_] 81) = W5 at *
        have HB5 := Lib.hid hb5
        have B5_bx := Lib.hid b_bx5
        have B5_bz := Lib.hid b_bz5
        have B5_bp := Lib.hid b_bp5
        have K5_own := Lib.hid k_own5
        have K5_off := Lib.hid k_off5
        clear hb5 b_bx5 b_bz5 b_bp5 k_own5 k_off5
        clear B4_bx B4_bz HB4 K4_own K4_off
        refine (insO_any K5_off.out HPO.out.le (by have := HO4.out; omega) part at_ B5_bp.out (Nat.le_refl _) (fun e => by have := (lof _ e).2; omega) (by omega) (offs_one _)).mono ?_
        rintro e W6 ⟨p5, rfl, ho5, hst5⟩
        obtain ⟨A9, c9, rfl, hc9⟩ := (Sl.of_own ho5).form
        have hb6 : Below w.heap.size w W6 := HB5.out.trans (hst5.below HB5.out.size (fun b hb => by have := (lof b hb).1; omega))
        have b_bx6 := B5_bx.out.grown hst5.1 (fun e => by have := (lof _ e.symm).1; omega)
        have b_bz6 := B5_bz.out.grown hst5.1 (fun e => by have := (lof _ e.symm).1; omega)
        have hz6 := hst5.size
        have k_own6 := K5_own.out.grown rfl (by omega) K5_off.out hst5.1
        have k_off6 : OwnO W6 W1.heap.size (.slice A9 (os.length + 1) c9) (newO os part at_ q) := own_eq ho5 (newO_len HPO.out.le).symm (newO_cells os part at_ q).symm
        have HB6 := Lib.hid hb6
        have B6_bx := Lib.hid b_bx6
        have B6_bz := Lib.hid b_bz6
        have K6_own := Lib.hid k_own6
        have K6_off := Lib.hid k_off6
        clear hb6 b_bx6 b_bz6 k_own6 k_off6
        clear ho5 hst5 lof hc9 B5_bx B5_bz B5_bp HB5 K5_own K5_off
        have c_bx0 := B6_bx.out.cell 0
        have f_bx0 := B6_bx.out.frozen 0
        have c_bx1 := B6_bx.out.cell 1
        have f_bx1 := B6_bx.out.frozen 1
        have c_bx2 := B6_bx.out.cell 2
        have f_bx2 := B6_bx.out.frozen 2
        have c_bx3 := B6_bx.out.cell 3
        have f_bx3 := B6_bx.out.frozen 3
        have c_bx4 := B6_bx.out.cell 4
        have f_bx4 := B6_bx.out.frozen 4
        have l_bx := B6_bx.out.lt
        go_upto_region 14 with fail
        clear c_bx0 f_bx0 c_bx1 f_bx1 c_bx2 f_bx2 c_bx3 f_bx3 c_bx4 f_bx4 l_bx
        have hsz7 := HB6.out.size
        have hb7 : Below w.heap.size w (W6.setCell ⟨w.heap.size, 4, none⟩ (.slice A9 (os.length + 1) c9)) := (HB6.out).setCell (by show w.heap.size ≤ w.heap.size; omega) _
        have b_bx7 : Blk (W6.setCell ⟨w.heap.size, 4, none⟩ (.slice A9 (os.length + 1) c9)) (w.heap.size) 36 #[.int .i64 ck, .int .i64 wt, .int .i64 gn, .slice (some ⟨gg, 0, none⟩) ms.length c5, .slice A9 (os.length + 1) c9] := (B6_bx.out).set_ 4 _
        have b_bz7 : Blk (W6.setCell ⟨w.heap.size, 4, none⟩ (.slice A9 (os.length + 1) c9)) (w.heap.size + 1) 36 #[.int .i64 0, .int .i64 0, .int .i64 0, .slice none 0 0, .slice none 0 0] := (B6_bz.out).far (p := ⟨w.heap.size, 4, none⟩) (by show w.heap.size + 1 ≠ w.heap.size; omega) _
        have k_own7 := (K6_own.out).under (a := ⟨w.heap.size, 4, none⟩) (by constructor <;> (try dsimp only) <;> omega) (.slice A9 (os.length + 1) c9)
        have k_off7 := (K6_off.out).under (a := ⟨w.heap.size, 4, none⟩) (by (try dsimp only); omega) (.slice A9 (os.length + 1) c9)
        have hz7 : W6.heap.size + 0 ≤ (W6.setCell ⟨w.heap.size, 4, none⟩ (.slice A9 (os.length + 1) c9)).heap.size := by first | omega | (simp; done) | (simp; omega)
        generalize W6.setCell ⟨w.heap.size, 4, none⟩ (.slice A9 (os.length + 1) c9) = W7 at *
        have HB7 := Lib.hid hb7
        have B7_bx := Lib.hid b_bx7
        have B7_bz := Lib.hid b_bz7
        have K7_own := Lib.hid k_own7
        have K7_off := Lib.hid k_off7
        clear hb7 b_bx7 b_bz7 k_own7 k_off7
        clear B6_bx B6_bz HB6 K6_own K6_off
        have c_bx0 := B7_bx.out.cell 0
        have c_bx1 := B7_bx.out.cell 1
        have c_bx2 := B7_bx.out.cell 2
        have c_bx3 := B7_bx.out.cell 3
        have c_bx4 := B7_bx.out.cell 4
        have l_bx := B7_bx.out.lt
        have c_bz0 := B7_bz.out.cell 0
        have f_bz0 := B7_bz.out.frozen 0
        have c_bz1 := B7_bz.out.cell 1
        have f_bz1 := B7_bz.out.frozen 1
        have c_bz2 := B7_bz.out.cell 2
        have f_bz2 := B7_bz.out.frozen 2
        have c_bz3 := B7_bz.out.cell 3
        have f_bz3 := B7_bz.out.frozen 3
        have c_bz4 := B7_bz.out.cell 4
        have f_bz4 := B7_bz.out.frozen 4
        have l_bz := B7_bz.out.lt
        go_wp2_with fail
        clear c_bx0 c_bx1 c_bx2 c_bx3 c_bx4 l_bx c_bz0 f_bz0 c_bz1 f_bz1 c_bz2 f_bz2 c_bz3 f_bz3 c_bz4 f_bz4 l_bz
        have hszF := HB7.out.size
        have hbF : Below w.heap.size w (((((W7.setCell ⟨w.heap.size + 1, 0, none⟩ (.int .i64 ck)).setCell ⟨w.heap.size + 1, 1, none⟩ (.int .i64 wt)).setCell ⟨w.heap.size + 1, 2, none⟩ (.int .i64 gn)).setCell ⟨w.heap.size + 1, 3, none⟩ (.slice (some ⟨gg, 0, none⟩) ms.length c5)).setCell ⟨w.heap.size + 1, 4, none⟩ (.slice A9 (os.length + 1) c9)) := (((((HB7.out).setCell (by show w.heap.size ≤ w.heap.size + 1; omega) _).setCell (by show w.heap.size ≤ w.heap.size + 1; omega) _).setCell (by show w.heap.size ≤ w.heap.size + 1; omega) _).setCell (by show w.heap.size ≤ w.heap.size + 1; omega) _).setCell (by show w.heap.size ≤ w.heap.size + 1; omega) _
        have b_bxF : Blk (((((W7.setCell ⟨w.heap.size + 1, 0, none⟩ (.int .i64 ck)).setCell ⟨w.heap.size + 1, 1, none⟩ (.int .i64 wt)).setCell ⟨w.heap.size + 1, 2, none⟩ (.int .i64 gn)).setCell ⟨w.heap.size + 1, 3, none⟩ (.slice (some ⟨gg, 0, none⟩) ms.length c5)).setCell ⟨w.heap.size + 1, 4, none⟩ (.slice A9 (os.length + 1) c9)) (w.heap.size) 36 #[.int .i64 ck, .int .i64 wt, .int .i64 gn, .slice (some ⟨gg, 0, none⟩) ms.length c5, .slice A9 (os.length + 1) c9] := (((((B7_bx.out).far (p := ⟨w.heap.size + 1, 0, none⟩) (by show w.heap.size ≠ w.heap.size + 1; omega) _).far (p := ⟨w.heap.size + 1, 1, none⟩) (by show w.heap.size ≠ w.heap.size + 1; omega) _).far (p := ⟨w.heap.size + 1, 2, none⟩) (by show w.heap.size ≠ w.heap.size + 1; omega) _).far (p := ⟨w.heap.size + 1, 3, none⟩) (by show w.heap.size ≠ w.heap.size + 1; omega) _).far (p := ⟨w.heap.size + 1, 4, none⟩) (by show w.heap.size ≠ w.heap.size + 1; omega) _
        have b_bzF : Blk (((((W7.setCell ⟨w.heap.size + 1, 0, none⟩ (.int .i64 ck)).setCell ⟨w.heap.size + 1, 1, none⟩ (.int .i64 wt)).setCell ⟨w.heap.size + 1, 2, none⟩ (.int .i64 gn)).setCell ⟨w.heap.size + 1, 3, none⟩ (.slice (some ⟨gg, 0, none⟩) ms.length c5)).setCell ⟨w.heap.size + 1, 4, none⟩ (.slice A9 (os.length + 1) c9)) (w.heap.size + 1) 36 #[.int .i64 ck, .int .i64 wt, .int .i64 gn, .slice (some ⟨gg, 0, none⟩) ms.length c5, .slice A9 (os.length + 1) c9] := (((((B7_bz.out).set_ 0 _).set_ 1 _).set_ 2 _).set_ 3 _).set_ 4 _
        have hoF := (((((K7_own.out).under (a := ⟨w.heap.size + 1, 0, none⟩) (by constructor <;> (try dsimp only) <;> omega) (.int .i64 ck)).under (a := ⟨w.heap.size + 1, 1, none⟩) (by constructor <;> (try dsimp only) <;> omega) (.int .i64 wt)).under (a := ⟨w.heap.size + 1, 2, none⟩) (by constructor <;> (try dsimp only) <;> omega) (.int .i64 gn)).under (a := ⟨w.heap.size + 1, 3, none⟩) (by constructor <;> (try dsimp only) <;> omega) (.slice (some ⟨gg, 0, none⟩) ms.length c5)).under (a := ⟨w.heap.size + 1, 4, none⟩) (by constructor <;> (try dsimp only) <;> omega) (.slice A9 (os.length + 1) c9)
        have hfF := (((((K7_off.out).under (a := ⟨w.heap.size + 1, 0, none⟩) (by (try dsimp only); omega) (.int .i64 ck)).under (a := ⟨w.heap.size + 1, 1, none⟩) (by (try dsimp only); omega) (.int .i64 wt)).under (a := ⟨w.heap.size + 1, 2, none⟩) (by (try dsimp only); omega) (.int .i64 gn)).under (a := ⟨w.heap.size + 1, 3, none⟩) (by (try dsimp only); omega) (.slice (some ⟨gg, 0, none⟩) ms.length c5)).under (a := ⟨w.heap.size + 1, 4, none⟩) (by (try dsimp only); omega) (.slice A9 (os.length + 1) c9)
        have y0 := b_bzF.cell 0
        have y1 := b_bzF.cell 1
        have y2 := b_bzF.cell 2
        have y3 := b_bzF.cell 3
        have y4 := b_bzF.cell 4
        refine bodyPost_ret (v := .tuple #[.agg #[.int .i64 ck, .int .i64 wt, .int .i64 gn, .slice (some ⟨gg, 0, none⟩) ms.length c5, .slice A9 (os.length + 1) c9], .int .i64 0]) ?_ ?_ (⟨.slice (some ⟨gg, 0, none⟩) ms.length c5, .slice A9 (os.length + 1) c9, rows, rfl, ownM_len (hoF.rebase rfl (by omega) hbF) rfl, own_base hfF (by omega), hbF⟩)
        · simp [results, Try.results54, go_sem, y0, y1, y2, y3, y4]
        · rfl
end Go.Proofs.Ytjkoceacjbhblaa
