/- What group's calls leave: a group of their own and an error number; one row written. -/
import Derived.Test.YtjkoceacjbhblaaRefCopyG
import Derived.Test.YtjkoceacjbhblaaCoordE
namespace Go.Proofs.Ytjkoceacjbhblaa
open Go.RowKit

/-- one cell of a row written, but for its parts -/
def setRowM (rows : List (MemD × Value)) (i : Nat) (f : MemD → MemD) : List (MemD × Value) := rows.modify i fun t => (f t.1, t.2)
theorem setRowM_fst (rows : List (MemD × Value)) (i : Nat) (f : MemD → MemD) : (setRowM rows i f).map Prod.fst = (rows.map Prod.fst).modify i f := by
  induction rows generalizing i with
  | nil => cases i <;> simp [setRowM]
  | cons t rows ih =>
    rcases i with _ | i
    · simp [setRowM]
    · have := ih i
      simp only [setRowM] at *
      simp [this]
theorem setRowM_snd (rows : List (MemD × Value)) (i : Nat) (f : MemD → MemD) : (setRowM rows i f).map Prod.snd = rows.map Prod.snd := by
  induction rows generalizing i with
  | nil => cases i <;> simp [setRowM]
  | cons t rows ih =>
    rcases i with _ | i
    · simp [setRowM]
    · have := ih i
      simp only [setRowM] at *
      simp [this]
theorem setRowM_cells : ∀ (rows : List (MemD × Value)) (i : Nat) (f : MemD → MemD) (j : Nat) (u : Value) (hi : i < rows.length) (_ : j < 3) (_ : mcells (f rows[i].1, rows[i].2) = (mcells rows[i]).set j u), (setRowM rows i f).flatMap mcells = (rows.flatMap mcells).set (i * 3 + j) u
  | [], i, f, j, u, hi, _, _ => by simp at hi
  | t :: rows, 0, f, j, u, _, hj, h => by
    have hl : (mcells t).length = 3 := rfl
    simp only [List.getElem_cons_zero] at h
    simp only [setRowM, List.modify_zero_cons, List.flatMap_cons, Nat.zero_mul, Nat.zero_add]
    rw [List.set_append_left _ _ (by omega), h]
  | t :: rows, i + 1, f, j, u, hi, hj, h => by
    have hl : (mcells t).length = 3 := rfl
    have ih := setRowM_cells rows i f j u (by simpa using hi) hj (by simpa using h)
    simp only [setRowM] at ih
    simp only [setRowM, List.modify_succ_cons, List.flatMap_cons, ih]
    rw [List.set_append_right _ _ (by rw [hl]; omega), hl, show (i + 1) * 3 + j - 3 = i * 3 + j from by omega]

theorem OwnM.put {w0 w : World} {base n : Nat} {g c : Nat} {ds : List MemD} {rows : List (MemD × Value)} (h : OwnM w0 w base (.slice (some ⟨g, 0, none⟩) n c) ds rows n) (hn : n = ds.length) (hg : w0.heap.size ≤ g) (i j : Nat) (u : Value) (f : MemD → MemD)
    (hi : i < rows.length) (hj : j < 3) (hc : mcells (f rows[i].1, rows[i].2) = (mcells rows[i]).set j u) (hp : (f rows[i].1).parts = rows[i].1.parts) :
    OwnM w0 (w.setCell ⟨g, i * 3 + j, none⟩ u) base (.slice (some ⟨g, 0, none⟩) n c) (ds.modify i f) (setRowM rows i f) n := by
  subst hn
  have hl : rows.length = ds.length := by rw [← h.fst]; simp
  have hg5 : ∃ cs fr, w.heap[g]? = some (.cells cs 79 fr) := by
    rcases h.own.2 with ⟨e, _⟩ | ⟨g', cap, cur, e, _, hh, _⟩
    · cases e
    · injection e with e1
      injection e1 with e1
      injection e1 with e1
      subst e1
      exact ⟨_, _, hh⟩
  obtain ⟨cs, fr, hg5⟩ := hg5
  have hlen : (ds.modify i f).length = ds.length := by simp
  have key : ∀ t ∈ setRowM rows i f, ∃ t' ∈ rows, t.2 = t'.2 ∧ t.1.parts = t'.1.parts := by
    intro t ht
    obtain ⟨m, hm, rfl⟩ := List.mem_iff_getElem.1 ht
    have hm' : m < rows.length := by simpa [setRowM] using hm
    refine ⟨rows[m], List.getElem_mem _, ?_⟩
    simp only [setRowM, List.getElem_modify]
    split
    · rename_i e
      subst e
      exact ⟨rfl, hp⟩
    · exact ⟨rfl, rfl⟩
  have e1 : rows.take ds.length = rows := by rw [← hl, List.take_length]
  have e2 : (setRowM rows i f).take ds.length = setRowM rows i f := by rw [← hl, ← show (setRowM rows i f).length = rows.length from by simp [setRowM], List.take_length]
  refine ⟨(setRowM_fst rows i f).trans (by rw [h.fst]), ?_, h.bel.setCell hg _, ?_, ?_, ?_⟩
  · rw [setRowM_cells rows i f j u hi hj hc, hlen]
    exact (World.ownsRow.stored h.own _ _).1
  · intro t ht
    rw [← hl, ← show (setRowM rows i f).length = rows.length from by simp [setRowM], List.drop_length] at ht
    simp at ht
  · intro t ht
    rw [e2] at ht
    obtain ⟨t', ht', h1, h2⟩ := key t ht
    rw [h1, h2]
    exact own_far (h.parts t' (by rw [e1]; exact ht')) hg5 (by decide) _ _
  · rw [e2]
    have ha := h.apart
    rw [e1] at ha
    have : ((setRowM rows i f).map Prod.snd).Pairwise fun a b => a.ownBlock = none ∨ a.ownBlock ≠ b.ownBlock := by
      rw [setRowM_snd]
      exact List.pairwise_map.2 ha
    exact List.pairwise_map.1 this


theorem ownM_rows {rows : List (MemD × Value)} {ts : List MemD} (h : rows.map Prod.fst = ts) : rows.length = ts.length := by
  rw [← h]
  simp
theorem fstM_get {rows : List (MemD × Value)} {ts : List MemD} (h : rows.map Prod.fst = ts) {i : Nat} (hi : i < rows.length) (hi' : i < ts.length) : rows[i].1 = ts[i] := by
  subst h
  simp
theorem OwnM.putd {w0 w : World} {base n : Nat} {g c : Nat} {ds : List MemD} {rows : List (MemD × Value)} (h : OwnM w0 w base (.slice (some ⟨g, 0, none⟩) n c) ds rows n) (hn : n = ds.length) (hg : w0.heap.size ≤ g) (i j : Nat) (u : Value) (f : MemD → MemD)
    (hi : i < ds.length) (hj : j < 3) (hc : ∀ v, mcells (f ds[i], v) = (mcells (ds[i], v)).set j u) (hp : (f ds[i]).parts = ds[i].parts) :
    ∃ rows', OwnM w0 (w.setCell ⟨g, i * 3 + j, none⟩ u) base (.slice (some ⟨g, 0, none⟩) n c) (ds.modify i f) rows' n := by
  have hl := ownM_rows h.fst
  have hi' : i < rows.length := by omega
  have he := fstM_get h.fst hi' hi
  refine ⟨_, h.put hn hg i j u f hi' hj ?_ (by rw [he]; exact hp)⟩
  have := hc rows[i].2
  rw [← he] at this
  exact this
theorem OwnM.row {w0 w : World} {base n : Nat} {g m : Nat} {ds : List MemD} {rows : List (MemD × Value)} (h : OwnM w0 w base (.slice (some ⟨g, 0, none⟩) n m) ds rows n) (hn : n = ds.length) (i : Nat) (hi : i < ds.length) :
    base ≤ g ∧ g < w.heap.size ∧ w.cell? ⟨g, i * 3 + 1, none⟩ = some (.int .i64 ds[i].heard) ∧ w.frozen? ⟨g, i * 3 + 1, none⟩ = false := by
  subst hn
  have hl := ownM_rows h.fst
  have hi' : i < rows.length := by omega
  have he := fstM_get h.fst hi' hi
  obtain ⟨g', m', hv, hg1, hg2, -, hcell⟩ := h.at_ (by omega)
  injection hv with h1 _ _
  injection h1 with h1
  injection h1 with h1 _ _
  subst h1
  have k := hcell i hi' 1 (by decide)
  have k1 := k.1
  simp only [mcells, List.getElem?_cons_zero, List.getElem?_cons_succ, he] at k1
  exact ⟨hg1, hg2, k1, k.2⟩
/-- the offsets stay while a member's cell is written -/
theorem OwnM.offs_put {w0 w : World} {base base' n g m : Nat} {ds : List MemD} {rows : List (MemD × Value)} {ov : Value} {os : List OffD} (h : OwnM w0 w base (.slice (some ⟨g, 0, none⟩) n m) ds rows n) (ho : OwnO w base' ov os) (j : Nat) (u : Value) : OwnO (w.setCell ⟨g, j, none⟩ u) base' ov os := by
  rcases h.own.2 with ⟨e, _⟩ | ⟨g', cap, cur, e, _, hh, _⟩
  · cases e
  · injection e with e1
    injection e1 with e1
    injection e1 with e1
    subst e1
    exact own_far ho hh (by decide) _ _
theorem OwnM.alloc {w0 w : World} {base n : Nat} {v : Value} {ds : List MemD} {rows : List (MemD × Value)} (h : OwnM w0 w base v ds rows n) (o : Obj) : OwnM w0 (w.alloc o) base v ds rows n :=
  h.keep ((Below.refl _ _).alloc (Nat.le_refl _) o)
theorem OwnO.alloc {w : World} {base : Nat} {v : Value} {os : List OffD} (h : OwnO w base v os) (o : Obj) : OwnO (w.alloc o) base v os :=
  h.keep ((Below.refl _ _).alloc (Nat.le_refl _) o)
def zeroG : GroupD := ⟨0, 0, 0, [], []⟩
def GroupD.Fits (c : GroupD) : Prop := (c.mems.length ≤ 9223372036854775807 ∧ c.offs.length ≤ 9223372036854775807) ∧ ∀ t ∈ c.mems, t.parts.length ≤ 9223372036854775807
theorem zeroG_fits : zeroG.Fits := by simp [GroupD.Fits, zeroG]
theorem GroupOk.fits {c : GroupD} (h : GroupOk c) : c.Fits := ⟨⟨h.bounds.2.1, h.bounds.2.2.1⟩, h.bounds.2.2.2⟩
def GroupD.upd (c : GroupD) (i : Nat) (f : MemD → MemD) : GroupD := ⟨c.clock, c.wait, c.gen, c.mems.modify i f, c.offs⟩
theorem updG_fits {c : GroupD} (h : GroupOk c) (i : Nat) (f : MemD → MemD) (hf : ∀ t, (f t).parts = t.parts) : (c.upd i f).Fits := by
  obtain ⟨⟨h1, h2⟩, h3⟩ := h.fits
  refine ⟨⟨?_, h2⟩, fun t ht => ?_⟩
  · show (c.mems.modify i f).length ≤ _
    simpa using h1
  · obtain ⟨j, hj, rfl⟩ := List.mem_iff_getElem.1 (show t ∈ c.mems.modify i f from ht)
    have hj' : j < c.mems.length := by simpa using hj
    rw [List.getElem_modify]
    split
    · rw [hf]; exact h3 _ (List.getElem_mem _)
    · exact h3 _ (List.getElem_mem _)
/-- a group in memory of its own, and an error number -/
def GRes (c : GroupD) (n : Int) (w : World) (e : Ending) (w' : World) : Prop :=
  ∃ mv ov rows, e = .returned (.tuple #[groupV c mv ov, .int .i64 n]) ∧ OwnM w w' w.heap.size mv c.mems rows c.mems.length ∧ OwnO w' w.heap.size ov c.offs ∧ Below w.heap.size w w'
theorem GRes.zero {n : Int} {w w' : World} (hb : Below w.heap.size w w') : GRes zeroG n w (.returned (.tuple #[.agg #[.int .i64 0, .int .i64 0, .int .i64 0, .slice none 0 0, .slice none 0 0], .int .i64 n])) w' :=
  ⟨.slice none 0 0, .slice none 0 0, [], rfl, ⟨rfl, World.ownsRow_nil _ _ _ _, hb, by simp, by simp, by simp⟩, World.ownsRow_nil _ _ _ _, hb⟩
theorem OwnM.gv {w0 w : World} {base : Nat} {mv ov : Value} {c : GroupD} {rows : List (MemD × Value)} (h : OwnM w0 w base mv c.mems rows c.mems.length) (ho : OwnO w base ov c.offs) (hf : c.Fits) : Gv w (groupV c mv ov) c :=
  ⟨mv, ov, rfl, h.mems rfl hf.2, ho.offs, hf.1.1, hf.1.2⟩
theorem GRes.open_ {c : GroupD} {n : Int} {w w' : World} {e : Ending} (h : GRes c n w e w') (hf : c.Fits) : ∃ A m B k, e = .returned (.tuple #[.agg #[.int .i64 c.clock, .int .i64 c.wait, .int .i64 c.gen, .slice A c.mems.length m, .slice B c.offs.length k], .int .i64 n]) ∧ Gv w' (.agg #[.int .i64 c.clock, .int .i64 c.wait, .int .i64 c.gen, .slice A c.mems.length m, .slice B c.offs.length k]) c ∧ Below w.heap.size w w' := by
  obtain ⟨mv, ov, rows, rfl, ho, hf', hb⟩ := h
  obtain ⟨A, m, rfl, -⟩ := (Sl.of_own ho.own).form
  obtain ⟨B, k, rfl, -⟩ := (Sl.of_own hf').form
  exact ⟨A, m, B, k, rfl, ho.gv hf' hf, hb⟩
theorem CopyPostM.open_ {c : GroupD} {w w' : World} {e : Ending} (h : CopyPostM w c e w') (hf : c.Fits) : ∃ A m B k, e = .returned (.agg #[.int .i64 c.clock, .int .i64 c.wait, .int .i64 c.gen, .slice A c.mems.length m, .slice B c.offs.length k]) ∧ Gv w' (.agg #[.int .i64 c.clock, .int .i64 c.wait, .int .i64 c.gen, .slice A c.mems.length m, .slice B c.offs.length k]) c ∧ Below w.heap.size w w' := by
  obtain ⟨mv, ov, rows, rfl, ho, hf', hb⟩ := h
  have hf2 : OwnO w' w.heap.size ov c.offs := hf'
  obtain ⟨A, m, rfl, -⟩ := (Sl.of_own ho.own).form
  obtain ⟨B, k, rfl, -⟩ := (Sl.of_own hf').form
  exact ⟨A, m, B, k, rfl, ho.gv hf2 hf, hb⟩

/-! a member of a generation -/
def HereFault (g : GroupD) (s : ByteArray) (gen n : Int) : Prop := NameFaultM g s n ∨ (GroupOk g ∧ NameOk s ∧ ((idxM g.mems s = none ∧ n = 5) ∨ ∃ i, ∃ _h : i < g.mems.length, idxM g.mems s = some i ∧ g.gen ≠ gen ∧ n = 10))
def Here (g : GroupD) (s : ByteArray) (gen : Int) (i : Nat) : Prop := GroupOk g ∧ NameOk s ∧ idxM g.mems s = some i ∧ i < g.mems.length ∧ g.gen = gen
theorem here_or (g : GroupD) (s : ByteArray) (gen : Int) : (∃ n, HereFault g s gen n) ∨ ∃ i, Here g s gen i := by
  rcases name_faultM_or g s with ⟨n, h⟩ | ⟨h1, h2⟩
  · exact Or.inl ⟨n, Or.inl h⟩
  · rcases hi : idxM g.mems s with _ | i
    · exact Or.inl ⟨5, Or.inr ⟨h1, h2, Or.inl ⟨hi, rfl⟩⟩⟩
    · have hl := (ixM_some hi).1
      by_cases hv : g.gen = gen
      · exact Or.inr ⟨i, h1, h2, hi, hl, hv⟩
      · exact Or.inl ⟨10, Or.inr ⟨h1, h2, Or.inr ⟨i, hl, hi, hv, rfl⟩⟩⟩
theorem HereFault.ne {g : GroupD} {s : ByteArray} {gen n : Int} (h : HereFault g s gen n) : n ≠ 0 := by
  rcases h with h | ⟨_, _, ⟨_, rfl⟩ | ⟨_, _, _, _, rfl⟩⟩
  · exact h.ne
  · decide
  · decide
/-! Beat -/
def heardT (x : Int) (t : MemD) : MemD := ⟨t.name, x, t.parts⟩
def BeatTo (g : GroupD) (s : ByteArray) (gen : Int) (g' : GroupD) (n : Int) : Prop := (HereFault g s gen n ∧ g' = zeroG) ∨ ∃ i, Here g s gen i ∧ g' = g.upd i (heardT g.clock) ∧ n = 0
theorem beat_to (g : GroupD) (s : ByteArray) (gen : Int) : ∃ g' n, BeatTo g s gen g' n := by
  rcases here_or g s gen with ⟨n, h⟩ | ⟨i, h⟩
  · exact ⟨_, n, Or.inl ⟨h, rfl⟩⟩
  · exact ⟨_, _, Or.inr ⟨i, h, rfl, rfl⟩⟩
theorem BeatTo.fits {g : GroupD} {s : ByteArray} {gen : Int} {g' : GroupD} {n : Int} (h : BeatTo g s gen g' n) : g'.Fits := by
  rcases h with ⟨-, rfl⟩ | ⟨i, h, rfl, -⟩
  · exact zeroG_fits
  · exact updG_fits h.1 i _ fun _ => rfl

end Go.Proofs.Ytjkoceacjbhblaa
