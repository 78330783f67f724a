/- Parts of a proof, merged: CoordE, GrpR, AsgA, AsgB, AsgC, AsgD, JoiH, ParI. No condition. -/
import Derived.Test.YtjkoceacjbhblaaGt6
import Derived.Test.YtjkoceacjbhblaaGt4
import Derived.BigRegion
import Derived.Shelf.Slices.SearchI
import Derived.Shelf.Slices.Cells
import Derived.Shelf.Slices.Empties
import Derived.Shelf.Spec.SlicesInsertGrow
namespace Go.Proofs.Ytjkoceacjbhblaa
open Go.RowKit

theorem Txs.row {w w' : World} {A : Option Addr} {n m : Nat} {ds : List TxnD} (h : Txs w (.slice A n m) ds) (hb : Below w.heap.size w w') (i : Nat) (hi : i < ds.length) :
    ∃ b off A3 m3, A = some ⟨b, off, none⟩ ∧ b < w.heap.size ∧ w'.cell? ⟨b, off + i * 7, none⟩ = some (.string ds[i].name) ∧ w'.cell? ⟨b, off + i * 7 + 1, none⟩ = some (.int .i64 ds[i].pid) ∧ w'.cell? ⟨b, off + i * 7 + 2, none⟩ = some (.int .i64 ds[i].ver) ∧ w'.cell? ⟨b, off + i * 7 + 3, none⟩ = some (.int .i64 ds[i].state) ∧
      w'.cell? ⟨b, off + i * 7 + 4, none⟩ = some (.slice A3 ds[i].parts.length m3) ∧ w'.cell? ⟨b, off + i * 7 + 5, none⟩ = some (.int .i64 ds[i].since) ∧ w'.cell? ⟨b, off + i * 7 + 6, none⟩ = some (.int .i64 ds[i].done) ∧ Is w (.slice A3 ds[i].parts.length m3) ds[i].parts := by
  obtain ⟨A', m', hv, -, hq⟩ := h.at_
  injection hv with h1 h2 h3
  subst h1
  obtain ⟨b, off, rfl, hbl, hcell⟩ := hq (by omega)
  obtain ⟨pv, x0, x1, x2, x3, x4, x5, x6, xi, -⟩ := hcell i hi
  obtain ⟨A3, m3, rfl, -⟩ := Sl.form xi
  have k : ∀ o, w'.cell? ⟨b, o, none⟩ = w.cell? ⟨b, o, none⟩ := fun o => hb.cell (p := ⟨b, o, none⟩) hbl
  exact ⟨b, off, A3, m3, rfl, hbl, (k _).trans x0, (k _).trans x1, (k _).trans x2, (k _).trans x3, (k _).trans x4, (k _).trans x5, (k _).trans x6, xi⟩
theorem Own.row {w0 w : World} {base n : Nat} {g m : Nat} {ds : List TxnD} {rows : List (TxnD × Value)} (h : Own w0 w base (.slice (some ⟨g, 0, none⟩) n m) ds rows n) (hn : n = ds.length) (i : Nat) (hi : i < ds.length) :
    base ≤ g ∧ g < w.heap.size ∧ ∃ A3 m3, (w.cell? ⟨g, i * 7, none⟩ = some (.string ds[i].name) ∧ w.cell? ⟨g, i * 7 + 1, none⟩ = some (.int .i64 ds[i].pid) ∧ w.cell? ⟨g, i * 7 + 2, none⟩ = some (.int .i64 ds[i].ver) ∧ w.cell? ⟨g, i * 7 + 3, none⟩ = some (.int .i64 ds[i].state) ∧
      w.cell? ⟨g, i * 7 + 4, none⟩ = some (.slice A3 ds[i].parts.length m3) ∧ w.cell? ⟨g, i * 7 + 5, none⟩ = some (.int .i64 ds[i].since) ∧ w.cell? ⟨g, i * 7 + 6, none⟩ = some (.int .i64 ds[i].done)) ∧ (∀ j, j < 7 → w.frozen? ⟨g, i * 7 + j, none⟩ = false) ∧
      w.ownsRow base 3 1 (.slice A3 ds[i].parts.length m3) ds[i].parts.length (ds[i].parts.map (Value.int .i64)) := by
  subst hn
  have hl := own_rows h.fst
  have hi' : i < rows.length := by omega
  have he := fst_get h.fst hi' hi
  obtain ⟨g', m', hv, hg1, hg2, -, hcell⟩ := h.at_ (by omega)
  injection hv with h1 _ _
  injection h1 with h1
  injection h1 with h1 _ _
  subst h1
  have ho := h.parts rows[i] (List.mem_take_iff_getElem.2 ⟨i, by omega, rfl⟩)
  rw [he] at ho
  obtain ⟨A3, m3, hp, -⟩ := (Sl.of_own ho).form
  rw [hp] at ho
  have k := fun j hj => (hcell i hi' j hj).1
  have k0 := k 0 (by decide)
  have k1 := k 1 (by decide)
  have k2 := k 2 (by decide)
  have k3 := k 3 (by decide)
  have k4 := k 4 (by decide)
  have k5 := k 5 (by decide)
  have k6 := k 6 (by decide)
  simp only [tcells, List.getElem?_cons_zero, List.getElem?_cons_succ, he, hp, Nat.add_zero] at k0 k1 k2 k3 k4 k5 k6
  exact ⟨hg1, hg2, A3, m3, ⟨k0, k1, k2, k3, k4, k5, k6⟩, fun j hj => (hcell i hi' j hj).2, ho⟩
theorem upd_fits {c : CoordD} (h : CoordOk c) (i : Nat) (f : TxnD → TxnD) (hf : ∀ t, (f t).parts.length ≤ 4 ∨ (f t).parts = t.parts) : (c.upd i f).Fits := by
  have hc : c.Fits := h.fits
  have hm := h.many
  have key : ∀ t ∈ c.txns.modify i f, t.parts.length ≤ 4 := by
    intro t ht
    obtain ⟨j, hj, rfl⟩ := List.mem_iff_getElem.1 ht
    have hj' : j < c.txns.length := by simpa using hj
    have h4 := (h.all j hj' hj').1.rises.small
    rw [List.getElem_modify]
    split
    · rcases hf c.txns[j] with h1 | h1
      · exact h1
      · rw [h1]; exact h4
    · exact h4
  have hl : (c.txns.modify i f).length ≤ 8 := by simpa using hm
  refine ⟨?_, fun t ht => ?_, ?_, fun t ht => ?_⟩
  · show (c.txns.modify i f).length * 80 ≤ _; omega
  · have := key t ht; omega
  · show (c.txns.modify i f).length ≤ _; omega
  · have := key t ht; omega

def setState (x : Int) (t : TxnD) : TxnD := ⟨t.name, t.pid, t.ver, x, t.parts, t.since, t.done⟩
def setDone (x : Int) (t : TxnD) : TxnD := ⟨t.name, t.pid, t.ver, t.state, t.parts, t.since, x⟩
def wantOf (commit : Bool) : Int := bif commit then 3 else 4
def EndAt (c : CoordD) (i : Nat) (x : Int) (c' : CoordD) (code : Int) : Prop :=
  ∃ h : i < c.txns.length, (c.txns[i].state = 2 ∧ c' = c.upd i (setState x) ∧ code = 0) ∨ (c.txns[i].state = 1 ∧ (c.txns[i].done = 0 ∨ c.txns[i].done = x) ∧ c' = c.upd i (setDone x) ∧ code = 0) ∨
    (c.txns[i].state = 1 ∧ c.txns[i].done = 7 - x ∧ c' = zeroC ∧ code = 12) ∨ (c.txns[i].state = x ∧ c' = c ∧ code = 0) ∨ (c.txns[i].state = 7 - x ∧ c' = zeroC ∧ code = 12)
def EndTo (c : CoordD) (s : ByteArray) (ver : Int) (commit : Bool) (c' : CoordD) (code : Int) : Prop :=
  (KnownFault c s ver code ∧ c' = zeroC) ∨ ∃ i, Known c s ver i ∧ EndAt c i (wantOf commit) c' code
theorem EndTo.fits {c : CoordD} {s : ByteArray} {ver : Int} {commit : Bool} {c' : CoordD} {code : Int} (h : EndTo c s ver commit c' code) : c'.Fits := by
  rcases h with ⟨-, rfl⟩ | ⟨i, ⟨hk, -⟩, hl, h⟩
  · exact zero_fits
  · rcases h with ⟨-, rfl, -⟩ | ⟨-, -, rfl, -⟩ | ⟨-, -, rfl, -⟩ | ⟨-, rfl, -⟩ | ⟨-, rfl, -⟩
    · exact upd_fits hk i _ fun _ => Or.inr rfl
    · exact upd_fits hk i _ fun _ => Or.inr rfl
    · exact zero_fits
    · exact hk.fits
    · exact zero_fits

end Go.Proofs.Ytjkoceacjbhblaa
namespace Go.Proofs.Ytjkoceacjbhblaa
open Go.RowKit

/-- one cell of a row written, but for its parts -/
def setRowM (rows : List (MemD × Value)) (i : Nat) (f : MemD → MemD) : List (MemD × Value) := rows.modify i fun t => (f t.1, t.2)
theorem setRowM_fst (rows : List (MemD × Value)) (i : Nat) (f : MemD → MemD) : (setRowM rows i f).map Prod.fst = (rows.map Prod.fst).modify i f := by
  induction rows generalizing i with
  | nil => cases i <;> simp [setRowM]
  | cons t rows ih =>
    rcases i with _ | i
    · simp [setRowM]
    · have := ih i
      simp only [setRowM] at *
      simp [this]
theorem setRowM_snd (rows : List (MemD × Value)) (i : Nat) (f : MemD → MemD) : (setRowM rows i f).map Prod.snd = rows.map Prod.snd := by
  induction rows generalizing i with
  | nil => cases i <;> simp [setRowM]
  | cons t rows ih =>
    rcases i with _ | i
    · simp [setRowM]
    · have := ih i
      simp only [setRowM] at *
      simp [this]
theorem setRowM_cells : ∀ (rows : List (MemD × Value)) (i : Nat) (f : MemD → MemD) (j : Nat) (u : Value) (hi : i < rows.length) (_ : j < 3) (_ : mcells (f rows[i].1, rows[i].2) = (mcells rows[i]).set j u), (setRowM rows i f).flatMap mcells = (rows.flatMap mcells).set (i * 3 + j) u
  | [], i, f, j, u, hi, _, _ => by simp at hi
  | t :: rows, 0, f, j, u, _, hj, h => by
    have hl : (mcells t).length = 3 := rfl
    simp only [List.getElem_cons_zero] at h
    simp only [setRowM, List.modify_zero_cons, List.flatMap_cons, Nat.zero_mul, Nat.zero_add]
    rw [List.set_append_left _ _ (by omega), h]
  | t :: rows, i + 1, f, j, u, hi, hj, h => by
    have hl : (mcells t).length = 3 := rfl
    have ih := setRowM_cells rows i f j u (by simpa using hi) hj (by simpa using h)
    simp only [setRowM] at ih
    simp only [setRowM, List.modify_succ_cons, List.flatMap_cons, ih]
    rw [List.set_append_right _ _ (by rw [hl]; omega), hl, show (i + 1) * 3 + j - 3 = i * 3 + j from by omega]

theorem OwnM.put {w0 w : World} {base n : Nat} {g c : Nat} {ds : List MemD} {rows : List (MemD × Value)} (h : OwnM w0 w base (.slice (some ⟨g, 0, none⟩) n c) ds rows n) (hn : n = ds.length) (hg : w0.heap.size ≤ g) (i j : Nat) (u : Value) (f : MemD → MemD)
    (hi : i < rows.length) (hj : j < 3) (hc : mcells (f rows[i].1, rows[i].2) = (mcells rows[i]).set j u) (hp : (f rows[i].1).parts = rows[i].1.parts) :
    OwnM w0 (w.setCell ⟨g, i * 3 + j, none⟩ u) base (.slice (some ⟨g, 0, none⟩) n c) (ds.modify i f) (setRowM rows i f) n := by
  subst hn
  have hl : rows.length = ds.length := by rw [← h.fst]; simp
  have hg5 : ∃ cs fr, w.heap[g]? = some (.cells cs 79 fr) := by
    rcases h.own.2 with ⟨e, _⟩ | ⟨g', cap, cur, e, _, hh, _⟩
    · cases e
    · injection e with e1
      injection e1 with e1
      injection e1 with e1
      subst e1
      exact ⟨_, _, hh⟩
  obtain ⟨cs, fr, hg5⟩ := hg5
  have hlen : (ds.modify i f).length = ds.length := by simp
  have key : ∀ t ∈ setRowM rows i f, ∃ t' ∈ rows, t.2 = t'.2 ∧ t.1.parts = t'.1.parts := by
    intro t ht
    obtain ⟨m, hm, rfl⟩ := List.mem_iff_getElem.1 ht
    have hm' : m < rows.length := by simpa [setRowM] using hm
    refine ⟨rows[m], List.getElem_mem _, ?_⟩
    simp only [setRowM, List.getElem_modify]
    split
    · rename_i e
      subst e
      exact ⟨rfl, hp⟩
    · exact ⟨rfl, rfl⟩
  have e1 : rows.take ds.length = rows := by rw [← hl, List.take_length]
  have e2 : (setRowM rows i f).take ds.length = setRowM rows i f := by rw [← hl, ← show (setRowM rows i f).length = rows.length from by simp [setRowM], List.take_length]
  refine ⟨(setRowM_fst rows i f).trans (by rw [h.fst]), ?_, h.bel.setCell hg _, ?_, ?_, ?_⟩
  · rw [setRowM_cells rows i f j u hi hj hc, hlen]
    exact (World.ownsRow.stored h.own _ _).1
  · intro t ht
    rw [← hl, ← show (setRowM rows i f).length = rows.length from by simp [setRowM], List.drop_length] at ht
    simp at ht
  · intro t ht
    rw [e2] at ht
    obtain ⟨t', ht', h1, h2⟩ := key t ht
    rw [h1, h2]
    exact own_far (h.parts t' (by rw [e1]; exact ht')) hg5 (by decide) _ _
  · rw [e2]
    have ha := h.apart
    rw [e1] at ha
    have : ((setRowM rows i f).map Prod.snd).Pairwise fun a b => a.ownBlock = none ∨ a.ownBlock ≠ b.ownBlock := by
      rw [setRowM_snd]
      exact List.pairwise_map.2 ha
    exact List.pairwise_map.1 this

theorem ownM_rows {rows : List (MemD × Value)} {ts : List MemD} (h : rows.map Prod.fst = ts) : rows.length = ts.length := by
  rw [← h]
  simp
theorem fstM_get {rows : List (MemD × Value)} {ts : List MemD} (h : rows.map Prod.fst = ts) {i : Nat} (hi : i < rows.length) (hi' : i < ts.length) : rows[i].1 = ts[i] := by
  subst h
  simp
theorem OwnM.row {w0 w : World} {base n : Nat} {g m : Nat} {ds : List MemD} {rows : List (MemD × Value)} (h : OwnM w0 w base (.slice (some ⟨g, 0, none⟩) n m) ds rows n) (hn : n = ds.length) (i : Nat) (hi : i < ds.length) :
    base ≤ g ∧ g < w.heap.size ∧ w.cell? ⟨g, i * 3 + 1, none⟩ = some (.int .i64 ds[i].heard) ∧ w.frozen? ⟨g, i * 3 + 1, none⟩ = false := by
  subst hn
  have hl := ownM_rows h.fst
  have hi' : i < rows.length := by omega
  have he := fstM_get h.fst hi' hi
  obtain ⟨g', m', hv, hg1, hg2, -, hcell⟩ := h.at_ (by omega)
  injection hv with h1 _ _
  injection h1 with h1
  injection h1 with h1 _ _
  subst h1
  have k := hcell i hi' 1 (by decide)
  have k1 := k.1
  simp only [mcells, List.getElem?_cons_zero, List.getElem?_cons_succ, he] at k1
  exact ⟨hg1, hg2, k1, k.2⟩
theorem OwnM.alloc {w0 w : World} {base n : Nat} {v : Value} {ds : List MemD} {rows : List (MemD × Value)} (h : OwnM w0 w base v ds rows n) (o : Obj) : OwnM w0 (w.alloc o) base v ds rows n :=
  h.keep ((Below.refl _ _).alloc (Nat.le_refl _) o)
theorem OwnO.alloc {w : World} {base : Nat} {v : Value} {os : List OffD} (h : OwnO w base v os) (o : Obj) : OwnO (w.alloc o) base v os :=
  h.keep ((Below.refl _ _).alloc (Nat.le_refl _) o)
def zeroG : GroupD := ⟨0, 0, 0, [], []⟩
def GroupD.Fits (c : GroupD) : Prop := (c.mems.length ≤ 9223372036854775807 ∧ c.offs.length ≤ 9223372036854775807) ∧ ∀ t ∈ c.mems, t.parts.length ≤ 9223372036854775807
theorem zeroG_fits : zeroG.Fits := by simp [GroupD.Fits, zeroG]
theorem GroupOk.fits {c : GroupD} (h : GroupOk c) : c.Fits := ⟨⟨h.bounds.2.1, h.bounds.2.2.1⟩, h.bounds.2.2.2⟩
def GroupD.upd (c : GroupD) (i : Nat) (f : MemD → MemD) : GroupD := ⟨c.clock, c.wait, c.gen, c.mems.modify i f, c.offs⟩
theorem updG_fits {c : GroupD} (h : GroupOk c) (i : Nat) (f : MemD → MemD) (hf : ∀ t, (f t).parts = t.parts) : (c.upd i f).Fits := by
  obtain ⟨⟨h1, h2⟩, h3⟩ := h.fits
  refine ⟨⟨?_, h2⟩, fun t ht => ?_⟩
  · show (c.mems.modify i f).length ≤ _
    simpa using h1
  · obtain ⟨j, hj, rfl⟩ := List.mem_iff_getElem.1 (show t ∈ c.mems.modify i f from ht)
    have hj' : j < c.mems.length := by simpa using hj
    rw [List.getElem_modify]
    split
    · rw [hf]; exact h3 _ (List.getElem_mem _)
    · exact h3 _ (List.getElem_mem _)
/-- a group in memory of its own, and an error number -/
def GRes (c : GroupD) (n : Int) (w : World) (e : Ending) (w' : World) : Prop :=
  ∃ mv ov rows, e = .returned (.tuple #[groupV c mv ov, .int .i64 n]) ∧ OwnM w w' w.heap.size mv c.mems rows c.mems.length ∧ OwnO w' w.heap.size ov c.offs ∧ Below w.heap.size w w'
theorem GRes.zero {n : Int} {w w' : World} (hb : Below w.heap.size w w') : GRes zeroG n w (.returned (.tuple #[.agg #[.int .i64 0, .int .i64 0, .int .i64 0, .slice none 0 0, .slice none 0 0], .int .i64 n])) w' :=
  ⟨.slice none 0 0, .slice none 0 0, [], rfl, ⟨rfl, World.ownsRow_nil _ _ _ _, hb, by simp, by simp, by simp⟩, World.ownsRow_nil _ _ _ _, hb⟩
theorem OwnM.gv {w0 w : World} {base : Nat} {mv ov : Value} {c : GroupD} {rows : List (MemD × Value)} (h : OwnM w0 w base mv c.mems rows c.mems.length) (ho : OwnO w base ov c.offs) (hf : c.Fits) : Gv w (groupV c mv ov) c :=
  ⟨mv, ov, rfl, h.mems rfl hf.2, ho.offs, hf.1.1, hf.1.2⟩
theorem GRes.open_ {c : GroupD} {n : Int} {w w' : World} {e : Ending} (h : GRes c n w e w') (hf : c.Fits) : ∃ A m B k, e = .returned (.tuple #[.agg #[.int .i64 c.clock, .int .i64 c.wait, .int .i64 c.gen, .slice A c.mems.length m, .slice B c.offs.length k], .int .i64 n]) ∧ Gv w' (.agg #[.int .i64 c.clock, .int .i64 c.wait, .int .i64 c.gen, .slice A c.mems.length m, .slice B c.offs.length k]) c ∧ Below w.heap.size w w' := by
  obtain ⟨mv, ov, rows, rfl, ho, hf', hb⟩ := h
  obtain ⟨A, m, rfl, -⟩ := (Sl.of_own ho.own).form
  obtain ⟨B, k, rfl, -⟩ := (Sl.of_own hf').form
  exact ⟨A, m, B, k, rfl, ho.gv hf' hf, hb⟩
theorem CopyPostM.open_ {c : GroupD} {w w' : World} {e : Ending} (h : CopyPostM w c e w') (hf : c.Fits) : ∃ A m B k, e = .returned (.agg #[.int .i64 c.clock, .int .i64 c.wait, .int .i64 c.gen, .slice A c.mems.length m, .slice B c.offs.length k]) ∧ Gv w' (.agg #[.int .i64 c.clock, .int .i64 c.wait, .int .i64 c.gen, .slice A c.mems.length m, .slice B c.offs.length k]) c ∧ Below w.heap.size w w' := by
  obtain ⟨mv, ov, rows, rfl, ho, hf', hb⟩ := h
  have hf2 : OwnO w' w.heap.size ov c.offs := hf'
  obtain ⟨A, m, rfl, -⟩ := (Sl.of_own ho.own).form
  obtain ⟨B, k, rfl, -⟩ := (Sl.of_own hf').form
  exact ⟨A, m, B, k, rfl, ho.gv hf2 hf, hb⟩

def HereFault (g : GroupD) (s : ByteArray) (gen n : Int) : Prop := NameFaultM g s n ∨ (GroupOk g ∧ NameOk s ∧ ((idxM g.mems s = none ∧ n = 5) ∨ ∃ i, ∃ _h : i < g.mems.length, idxM g.mems s = some i ∧ g.gen ≠ gen ∧ n = 10))
def Here (g : GroupD) (s : ByteArray) (gen : Int) (i : Nat) : Prop := GroupOk g ∧ NameOk s ∧ idxM g.mems s = some i ∧ i < g.mems.length ∧ g.gen = gen
theorem HereFault.ne {g : GroupD} {s : ByteArray} {gen n : Int} (h : HereFault g s gen n) : n ≠ 0 := by
  rcases h with h | ⟨_, _, ⟨_, rfl⟩ | ⟨_, _, _, _, rfl⟩⟩
  · exact h.ne
  · decide
  · decide
def heardT (x : Int) (t : MemD) : MemD := ⟨t.name, x, t.parts⟩
def BeatTo (g : GroupD) (s : ByteArray) (gen : Int) (g' : GroupD) (n : Int) : Prop := (HereFault g s gen n ∧ g' = zeroG) ∨ ∃ i, Here g s gen i ∧ g' = g.upd i (heardT g.clock) ∧ n = 0
theorem BeatTo.fits {g : GroupD} {s : ByteArray} {gen : Int} {g' : GroupD} {n : Int} (h : BeatTo g s gen g' n) : g'.Fits := by
  rcases h with ⟨-, rfl⟩ | ⟨i, h, rfl, -⟩
  · exact zeroG_fits
  · exact updG_fits h.1 i _ fun _ => rfl

end Go.Proofs.Ytjkoceacjbhblaa
namespace Go.Proofs.Ytjkoceacjbhblaa
open Go.RowKit

/-- the world w0, but for block b -/
structure OnlyB (w0 : World) (b : Nat) (W : World) : Prop where
  os : W.os = w0.os
  tape : W.tape = w0.tape
  output : W.output = w0.output
  size : W.heap.size = w0.heap.size
  far : ∀ k, k ≠ b → W.heap[k]? = w0.heap[k]?
theorem OnlyB.refl (w : World) (b : Nat) : OnlyB w b w := ⟨rfl, rfl, rfl, rfl, fun _ _ => rfl⟩
section
variable {w0 W w : World} {b : Nat}
theorem OnlyB.set_ (h : OnlyB w0 b W) (i : Nat) (u : Value) : OnlyB w0 b (W.setCell ⟨b, i, none⟩ u) := by
  have hb := (Below.refl b W).setCell (p := ⟨b, i, none⟩) (Nat.le_refl _) u
  exact ⟨hb.os.trans h.os, hb.tape.trans h.tape, hb.output.trans h.output, by rw [← h.size]; simp, fun k hk => (Below.heap_setCell W _ _ k hk).trans (h.far k hk)⟩
theorem OnlyB.drew (h : OnlyB w0 b W) : OnlyB w0 b W.drew := ⟨h.os, h.tape, h.output, h.size, h.far⟩
theorem OnlyB.drewN (h : OnlyB w0 b W) (m : Nat) : OnlyB w0 b (W.drewN m) := ⟨h.os, h.tape, h.output, h.size, h.far⟩
theorem OnlyB.cell (h : OnlyB w0 b W) {p : Addr} (hp : p.block ≠ b) : W.cell? p = w0.cell? p := World.cell?_of_block (h.far _ hp)
theorem OnlyB.grown (h : OnlyB w0 b W) : w0.grownBy W (some b) := ⟨h.os, h.tape, h.output, by rw [h.size]; exact Nat.le_refl _, fun k _ hk => h.far k fun e => hk (by rw [e])⟩
theorem OnlyB.blk (h : OnlyB w0 b W) {g : Nat} {t : TypeId} {cs : Array Value} (k : Blk w0 g t cs) (hg : g ≠ b) : Blk W g t cs := (h.far g hg).trans k
theorem OnlyB.own (h : OnlyB w0 b W) {base n size : Nat} {e : TypeId} {v : Value} {xs : List Value} (k : w0.ownsRow base e size v n xs) (hv : v.ownBlock = none ∨ v.ownBlock ≠ some b) : W.ownsRow base e size v n xs := k.kept h.grown hv
theorem grownBy_below (h : Below w0.heap.size w0 w) (row : Option Nat) : w0.grownBy w row := ⟨h.os, h.tape, h.output, h.size, fun k hk _ => h.block k hk⟩
theorem grownBy_then {w1 w2 : World} {row : Option Nat} (h : w0.grownBy w1 row) (k : w1.grownBy w2 row) : w0.grownBy w2 row :=
  ⟨k.os.trans h.os, k.tape.trans h.tape, k.output.trans h.output, Nat.le_trans h.size k.size, fun i hi hr => (k.block i (Nat.lt_of_lt_of_le hi h.size) hr).trans (h.block i hi hr)⟩
end
/-- the members, with the parts that they are given -/
def setP (l : List Int) (t : MemD) : MemD := ⟨t.name, t.heard, l⟩
noncomputable def asgM (ms : List MemD) (P : Nat) : List MemD := ms.mapIdx fun i t => setP (pts (Lt (cmpF (ms.map MemD.name))) ms.length P i) t
theorem asgM_len (ms : List MemD) (P : Nat) : (asgM ms P).length = ms.length := by simp [asgM]
theorem asgM_parts {ms : List MemD} {P : Nat} : ∀ t ∈ asgM ms P, t.parts.length ≤ P := by
  intro t ht
  obtain ⟨i, hi, rfl⟩ := List.mem_iff_getElem.1 ht
  simp only [asgM, List.getElem_mapIdx, setP]
  unfold pts casts
  rw [List.length_map]
  exact Nat.le_trans (List.length_filter_le _ _) (by simp)
/-- the first k are given theirs -/
def rowsAt (rows : List (MemD × Value)) (ls : Nat → List Int) (vs : Nat → Value) (k : Nat) : List (MemD × Value) := rows.mapIdx fun i t => if i < k then (setP (ls i) t.1, vs i) else t
theorem rowsAt_zero (rows : List (MemD × Value)) (ls : Nat → List Int) (vs : Nat → Value) : rowsAt rows ls vs 0 = rows := by
  apply List.ext_getElem
  · simp [rowsAt]
  · intro i h1 h2
    simp [rowsAt]
theorem rowsAt_len (rows : List (MemD × Value)) (ls : Nat → List Int) (vs : Nat → Value) (k : Nat) : (rowsAt rows ls vs k).length = rows.length := by simp [rowsAt]
theorem mcells_same {l m : List (MemD × Value)} (hl : l.length = m.length) (h : ∀ i (h1 : i < l.length) (h2 : i < m.length), mcells l[i] = mcells m[i]) : l.flatMap mcells = m.flatMap mcells := by
  have e : l.map mcells = m.map mcells := by
    apply List.ext_getElem
    · simp [hl]
    · intro i h1 h2
      simp only [List.getElem_map]
      exact h i (by simpa using h1) (by simpa using h2)
  rw [List.flatMap_def, List.flatMap_def, e]
theorem rowsAt_step (rows : List (MemD × Value)) (ls : Nat → List Int) (vs : Nat → Value) (k : Nat) (hk : k < rows.length) : (rowsAt rows ls vs (k + 1)).flatMap mcells = ((rowsAt rows ls vs k).flatMap mcells).set (k * 3 + 2) (vs k) := by
  rw [← setPartsM_cells _ _ _ (by rw [rowsAt_len]; exact hk)]
  refine mcells_same (by simp [rowsAt_len, setPartsM]) fun i h1 h2 => ?_
  have hi : i < rows.length := by rw [rowsAt_len] at h1; exact h1
  by_cases e : k = i
  · subst e
    simp [setPartsM, rowsAt, mcells, setP]
  · by_cases e2 : i < k
    · have e3 : i < k + 1 := by omega
      simp [setPartsM, rowsAt, e, e2, e3]
    · have e3 : ¬ i < k + 1 := by omega
      simp [setPartsM, rowsAt, e, e2, e3]
theorem rowsAt_all (rows : List (MemD × Value)) (P : Nat) (vs : Nat → Value) : (rowsAt rows (fun i => pts (Lt (cmpF (rows.map fun t => t.1.name))) rows.length P i) vs rows.length).map Prod.fst = asgM (rows.map Prod.fst) P := by
  have e0 : (rows.map Prod.fst).map MemD.name = rows.map fun t => t.1.name := by rw [List.map_map]; rfl
  apply List.ext_getElem
  · simp [rowsAt, asgM]
  · intro i h1 h2
    have hi : i < rows.length := by simpa [rowsAt] using h1
    simp only [rowsAt, asgM, List.getElem_map, List.getElem_mapIdx, if_pos hi, List.length_map, e0]
/-- what group.assigned hands back -/
def AsgdPost (ck wt gn : Int) (gm n c : Nat) (ov : Value) (ms : List MemD) (P base : Nat) (w : World) (e : Ending) (w' : World) : Prop :=
  ∃ rows : List (MemD × Value), e = .returned (.agg #[.int .i64 ck, .int .i64 wt, .int .i64 (gn + 1), .slice (some ⟨gm, 0, none⟩) n c, ov]) ∧ rows.map Prod.fst = asgM ms P ∧
    w'.ownsRow base 79 3 (.slice (some ⟨gm, 0, none⟩) n c) n (rows.flatMap mcells) ∧ (∀ t ∈ rows, w'.ownsRow w.heap.size 3 1 t.2 t.1.parts.length (t.1.parts.map (Value.int .i64))) ∧
    (rows.Pairwise fun a b => a.2.ownBlock = none ∨ a.2.ownBlock ≠ b.2.ownBlock) ∧ w.grownBy w' (some gm)
theorem asgd_rows {W1 W2 W3 : World} {base bo n gm : Nat} {vs : Nat → Value} {ls : Nat → List Int} {rows : List (MemD × Value)} (h : Lst W1 W2 base bo n vs ls) (hb : gm < base) (k : OnlyB W2 gm W3) (hn : rows.length = n) (base0 : Nat) (hb0 : base0 ≤ base) :
    (∀ t ∈ rowsAt rows ls vs n, W3.ownsRow base0 3 1 t.2 t.1.parts.length (t.1.parts.map (Value.int .i64))) ∧ ((rowsAt rows ls vs n).Pairwise fun a b => a.2.ownBlock = none ∨ a.2.ownBlock ≠ b.2.ownBlock) := by
  have at_ : ∀ i (hi : i < (rowsAt rows ls vs n).length), i < n ∧ (rowsAt rows ls vs n)[i].1.parts = ls i ∧ (rowsAt rows ls vs n)[i].2 = vs i := by
    intro i hi
    have hi' : i < n := by rw [rowsAt_len] at hi; omega
    simp [rowsAt, hi', setP]
  constructor
  · intro t ht
    obtain ⟨i, hi, rfl⟩ := List.mem_iff_getElem.1 ht
    obtain ⟨h1, h2, h3⟩ := at_ i hi
    rw [h2, h3]
    refine own_base (k.own (h.own i h1) ?_) hb0
    cases hv : (vs i).ownBlock with
    | none => exact Or.inl rfl
    | some g =>
      right
      intro e
      injection e with e
      have := ((h.own i h1).lt g hv).1
      omega
  · rw [List.pairwise_iff_getElem]
    intro i j hi hj hij
    obtain ⟨h1, -, h3⟩ := at_ i hi
    obtain ⟨h4, -, h6⟩ := at_ j hj
    rw [h3, h6]
    exact h.apart i j h1 h4 (by omega)
end Go.Proofs.Ytjkoceacjbhblaa
namespace Go.Proofs.Ytjkoceacjbhblaa
open Go.RowKit

theorem str_info_ : (Try.prog.info? 9).map (fun i => (i.zero, i.size, i.bytes)) = some (some (.string .empty), 1, 16) := by kernel_rfl
theorem lit_at (w : World) (e : TypeId) (cs : Array Value) (size n g : Nat) (h : cs.size = n * size) (hg : g = w.heap.size) : Sl (w.alloc (.cells cs e)) size (.slice (some ⟨g, 0, none⟩) n n) n cs.toList := by
  subst hg
  exact Sl.lit w e cs size n h
theorem names_take (ns : List ByteArray) (k : Nat) (hk : k < ns.length) : (ns.take k).map Value.string ++ [.string ns[k]] = (ns.take (k + 1)).map Value.string := by
  rw [List.take_succ_eq_append_getElem hk, List.map_append]
  rfl
theorem grown_three {w W2 W3 F : World} {gm : Nat} (h : Below w.heap.size w W2) (k : OnlyB W2 gm W3) (f : Below w.heap.size W3 F) : w.grownBy F (some gm) :=
  ⟨f.os.trans (k.os.trans h.os), f.tape.trans (k.tape.trans h.tape), f.output.trans (k.output.trans h.output), Nat.le_trans h.size (by rw [← k.size]; exact f.size), fun i hi hr => (f.block i hi).trans ((k.far i fun e => hr (by rw [e])).trans (h.block i hi))⟩
theorem mrow_cell {w : World} {base gm n c : Nat} {rows : List (MemD × Value)} (h : w.ownsRow base 79 3 (.slice (some ⟨gm, 0, none⟩) n c) n (rows.flatMap mcells)) (hl : rows.length = n) (i : Nat) (hi : i < rows.length) :
    w.cell? ⟨gm, i * 3, none⟩ = some (.string rows[i].1.name) ∧ w.cell? ⟨gm, i * 3 + 1, none⟩ = some (.int .i64 rows[i].1.heard) ∧ w.cell? ⟨gm, i * 3 + 2, none⟩ = some rows[i].2 ∧ w.frozen? ⟨gm, i * 3 + 2, none⟩ = false := by
  have key : ∀ j u, j < 3 → (mcells rows[i])[j]? = some u → w.cell? ⟨gm, i * 3 + j, none⟩ = some u := fun j u hj hu => by
    rw [World.ownsRow.cellAt h (i * 3 + j) (by omega)]
    exact (cells_get mcells 3 (fun _ => rfl) rows i hi j hj).trans hu
  exact ⟨key 0 _ (by omega) rfl, key 1 _ (by omega) rfl, key 2 _ (by omega) rfl, World.ownsRow.frozenAt h _⟩

set_option maxRecDepth 100000 in
set_option maxHeartbeats 8000000 in
theorem assigned_any (ck wt gn : Int) (gm n c : Nat) (B : Option Addr) (no d : Nat) (rows : List (MemD × Value)) (pt : Int) (base : Nat) (w : World) (h : w.ownsRow base 79 3 (.slice (some ⟨gm, 0, none⟩) n c) n (rows.flatMap mcells)) (hl : rows.length = n) (hn : n ≤ 6)
    (hsl : ∀ t ∈ rows, ∃ A k m, t.2 = .slice A k m) (hg : -1000000000000 ≤ gn ∧ gn ≤ 1000000000000) (hp : 0 ≤ pt ∧ pt ≤ 4) :
    Calls Try.prog 100 #[.agg #[.int .i64 ck, .int .i64 wt, .int .i64 gn, .slice (some ⟨gm, 0, none⟩) n c, .slice B no d], .int .i64 pt] w (AsgdPost ck wt gn gm n c (.slice B no d) (rows.map Prod.fst) pt.toNat base w) := by
  obtain ⟨i0, hi0, hz0, hz1, hz2⟩ := info_parts str_info_
  have hgl := h.lt gm rfl
  have H := Lib.hid h
  have HL := Lib.hid hl
  have HSL := Lib.hid hsl
  clear h hl hsl
  go_enter Try.func100, Try.ntmps100
  go_wp2_with fail
  have hb0 : Below w.heap.size w ((w.alloc (.cells #[.int .i64 ck, .int .i64 wt, .int .i64 (gn + 1), .slice (some ⟨gm, 0, none⟩) n c, .slice B no d] 36)).alloc (.cells #[.int .i64 0, .int .i64 0, .int .i64 0, .slice none 0 0, .slice none 0 0] 36)) := ((Below.refl _ _).alloc (Nat.le_refl _) _).alloc (by simp) _
  have bx0 : Blk ((w.alloc (.cells #[.int .i64 ck, .int .i64 wt, .int .i64 (gn + 1), .slice (some ⟨gm, 0, none⟩) n c, .slice B no d] 36)).alloc (.cells #[.int .i64 0, .int .i64 0, .int .i64 0, .slice none 0 0, .slice none 0 0] 36)) w.heap.size 36 #[.int .i64 ck, .int .i64 wt, .int .i64 (gn + 1), .slice (some ⟨gm, 0, none⟩) n c, .slice B no d] := (Blk.new _ _ _).alloc _
  have bz0 : Blk ((w.alloc (.cells #[.int .i64 ck, .int .i64 wt, .int .i64 (gn + 1), .slice (some ⟨gm, 0, none⟩) n c, .slice B no d] 36)).alloc (.cells #[.int .i64 0, .int .i64 0, .int .i64 0, .slice none 0 0, .slice none 0 0] 36)) (w.heap.size + 1) 36 #[.int .i64 0, .int .i64 0, .int .i64 0, .slice none 0 0, .slice none 0 0] := Blk.new_ _ _ _ (by simp)
  have hz0 : ((w.alloc (.cells #[.int .i64 ck, .int .i64 wt, .int .i64 (gn + 1), .slice (some ⟨gm, 0, none⟩) n c, .slice B no d] 36)).alloc (.cells #[.int .i64 0, .int .i64 0, .int .i64 0, .slice none 0 0, .slice none 0 0] 36)).heap.size = w.heap.size + 2 := by simp
  generalize (w.alloc (.cells #[.int .i64 ck, .int .i64 wt, .int .i64 (gn + 1), .slice (some ⟨gm, 0, none⟩) n c, .slice B no d] 36)).alloc (.cells #[.int .i64 0, .int .i64 0, .int .i64 0, .slice none 0 0, .slice none 0 0] 36) = W0 at *
  have hr0 := own_keep H.out hb0 (fun b hb => (H.out.lt b hb).2)
  have HR0 := Lib.hid hr0
  have HB0 := Lib.hid hb0
  have BX0 := Lib.hid bx0
  have BZ0 := Lib.hid bz0
  have HZ0 := Lib.hid hz0
  clear hr0 hb0 bx0 bz0 hz0
  obtain ⟨ns, hns⟩ : ∃ ns, ns = rows.map fun t => t.1.name := ⟨_, rfl⟩
  have hnl : ns.length = n := by rw [hns, List.length_map]; exact HL.out
  have HNS := Lib.hid hns
  have HNL := Lib.hid hnl
  clear hns hnl
  go_loopw [5, 17] (fun x y wr => ∃ (k : Nat), k ≤ n ∧ y = .int .i64 k ∧ Hid (wr.ownsRow W0.heap.size 9 1 x k ((ns.take k).map Value.string)) ∧ Hid (Below W0.heap.size W0 wr)) (fun _ y _ => n - (intOf y).toNat)
  case atStart => exact ⟨0, by omega, rfl, World.ownsRow_nil _ _ _ _, Below.refl _ _⟩
  case round =>
    obtain ⟨k, hk, rfl, HO, HW⟩ := hrel
    obtain ⟨A5, c5, rfl, -⟩ := (Sl.of_own HO.out).form
    by_cases hlt : k < n
    · have hz : (k : Int) < (n : Int) := by omega
      have hkl : k < rows.length := by rw [HL.out]; exact hlt
      obtain ⟨q0, q1, q2, -⟩ := mrow_cell (own_keep HR0.out HW.out (fun b hb => (HR0.out.lt b hb).2)) HL.out k hkl
      obtain ⟨A6, k6, m6, e6⟩ := HSL.out _ (List.getElem_mem hkl)
      rw [e6] at q2
      have hnk : k < ns.length := by rw [HNL.out]; exact hlt
      have hnm : rows[k].1.name = ns[k] := by simp [HNS.out]
      rw [hnm] at q0
      have hws := HW.out.size
      have HO' := Lib.hid (HO.out.alloc (.cells #[.string ns[k], .int .i64 rows[k].1.heard, .slice A6 k6 m6] 79))
      have hnt := names_take ns k hnk
      have HNT := Lib.hid hnt
      clear e6 hnm hnt
      go_wp2_with (at_builtin; go_must (refine wpList_append_sl _ rfl (.tmp 21) (.tmp 24) 63 rfl W0.heap.size 9 i0 (.string .empty) 1 16 Try.underlying63 hi0 hz0 hz1 hz2 rfl (by decide) _ _ _ (by rfl) (HO'.out.alloc _) _ 1 _ (by rfl) (lit_at _ _ _ 1 1 (wr.heap.size + 1) rfl (by simp)) (by intro x hx; simp at hx; subst hx; rfl) (by simp only [maxLen]; omega) (by omega) (by simp; omega) ?_; intro v4 w4 ho4 hg4 ha4))
      go_light
      refine ⟨⟨k + 1, by omega, by go_num, (by show World.ownsRow _ _ _ _ _ _ _; rw [← HNT.out]; exact ho4), ?_⟩, by simp [intOf]; omega⟩
      exact own_below (HW.out.alloc HW.out.size _) (Nat.le_refl _) HO'.out _ hg4
    · obtain rfl : k = n := by omega
      have hz : ¬ (k : Int) < (k : Int) := by omega
      have hss : Ss wr (.slice A5 k c5) ns := by
        have := Sl.of_own HO.out
        rw [List.take_of_length_le (by rw [HNL.out]; exact Nat.le_refl _)] at this
        have hq := HNL.out
        subst hq
        exact this
      have HSS := Lib.hid hss
      clear hss
      go_wp2_with fail
      go_at_call 51
      refine (assign_any ns k A5 c5 pt wr HSS.out HNL.out (by omega) (by omega)).mono ?_
      rintro e1 W2 ⟨bo, vs, rfl, hls⟩
      have hbw := HW.out.trans (hls.bel.mono HW.out.size)
      have hbo := hls.ge
      have hr2 := own_keep HR0.out hbw (fun b hb => (HR0.out.lt b hb).2)
      have bx2 := BX0.out.below hbw BX0.out.lt
      have bz2 := BZ0.out.below hbw BZ0.out.lt
      have HLS := Lib.hid hls
      have HR2 := Lib.hid hr2
      have HBX2 := Lib.hid bx2
      have HBZ2 := Lib.hid bz2
      have HB2 := Lib.hid (HB0.out.trans (hbw.mono (by have := HZ0.out; omega)))
      have hwz : w.heap.size ≤ wr.heap.size := by have := HW.out.size; have := HZ0.out; omega
      have hgm2 : gm < wr.heap.size := by have := HW.out.size; have := HZ0.out; omega
      have hbx2 : w.heap.size < W2.heap.size := bx2.lt
      have hbx3 : w.heap.size + 1 < W2.heap.size := bz2.lt
      have hbo2 := hls.lt
      have hbon : bo ≠ gm := by omega
      clear hls hbw hr2 bx2 bz2 HB0 BX0 BZ0 HR0 HO HW HSS hbo
      go_wp2_with fail
      go_loopw [31] (fun x wr3 => ∃ j : Nat, j ≤ k ∧ x = .int .i64 j ∧ Hid (OnlyB W2 gm wr3) ∧ Hid (wr3.ownsRow base 79 3 (.slice (some ⟨gm, 0, none⟩) k c) k ((rowsAt rows (fun i => pts (Lt (cmpF ns)) k pt.toNat i) vs j).flatMap mcells))) (fun x _ => k - (intOf x).toNat)
      case atStart => exact ⟨0, by omega, rfl, OnlyB.refl _ _, by rw [rowsAt_zero]; exact HR2.out⟩
      case round =>
        obtain ⟨j, hj, rfl, HY, HM⟩ := hrel
        have hsz3 : wr.heap.size = W2.heap.size := HY.out.size
        by_cases hjk : j < k
        · have hzj : (j : Int) < (k : Int) := by omega
          have hjl : j < rows.length := by rw [HL.out]; exact hjk
          have c3 := (HY.out.blk HBX2.out (by omega)).cell 3
          have cl : wr.cell? ⟨bo, j, none⟩ = some (vs j) := (HY.out.cell hbon).trans (HLS.out.cell hjk)
          obtain ⟨A7, c7, e7, -⟩ := (Sl.of_own (HLS.out.own j hjk)).form
          obtain ⟨-, -, m2, mf⟩ := mrow_cell HM.out (by rw [rowsAt_len]; exact HL.out) j (by rw [rowsAt_len]; exact hjl)
          rw [e7] at cl
          have hlb : bo < wr.heap.size := by omega
          have hlx : w.heap.size < wr.heap.size := by omega
          have hlg : gm < wr.heap.size := by omega
          have S1 := HY.out.set_ (j * 3 + 2) (vs j)
          have S2 := (World.ownsRow.stored HM.out (j * 3 + 2) (vs j)).1
          rw [← rowsAt_step rows _ vs j hjl] at S2
          rw [e7] at S1
          have S3 : (wr.setCell ⟨gm, j * 3 + 2, none⟩ (.slice A7 (pts (Lt (cmpF ns)) k pt.toNat j).length c7)).ownsRow base 79 3 (.slice (some ⟨gm, 0, none⟩) k c) k ((rowsAt rows (fun i => pts (Lt (cmpF ns)) k pt.toNat i) vs (j + 1)).flatMap mcells) := by
            rw [← e7]; exact S2
          have HS1 := Lib.hid S1
          have HS3 := Lib.hid S3
          clear S1 S2 S3 e7 hsz3
          go_wp2_with fail
          go_light
          exact ⟨⟨j + 1, by omega, by go_num, HS1.out, HS3.out⟩, by simp [intOf]; omega⟩
        · obtain rfl : j = k := by omega
          have hzj : ¬ (j : Int) < (j : Int) := by omega
          have cx := HY.out.blk HBX2.out (by omega)
          have cz := HY.out.blk HBZ2.out (by omega)
          have x0 := cx.cell 0
          have x1 := cx.cell 1
          have x2 := cx.cell 2
          have x3 := cx.cell 3
          have x4 := cx.cell 4
          have z0 := cz.cell 0
          have z1 := cz.cell 1
          have z2 := cz.cell 2
          have z3 := cz.cell 3
          have z4 := cz.cell 4
          have f0 := cz.frozen 0
          have f1 := cz.frozen 1
          have f2 := cz.frozen 2
          have f3 := cz.frozen 3
          have f4 := cz.frozen 4
          have lz := cz.lt
          clear cx cz
          go_wp2_with fail
          clear x0 x1 x2 x3 x4 z0 z1 z2 z3 z4 f0 f1 f2 f3 f4 lz
          have bzF : Blk (((((wr.setCell ⟨w.heap.size + 1, 0, none⟩ (.int .i64 ck)).setCell ⟨w.heap.size + 1, 1, none⟩ (.int .i64 wt)).setCell ⟨w.heap.size + 1, 2, none⟩ (.int .i64 (gn + 1))).setCell ⟨w.heap.size + 1, 3, none⟩ (.slice (some ⟨gm, 0, none⟩) j c)).setCell ⟨w.heap.size + 1, 4, none⟩ (.slice B no d)) (w.heap.size + 1) 36 #[.int .i64 ck, .int .i64 wt, .int .i64 (gn + 1), .slice (some ⟨gm, 0, none⟩) j c, .slice B no d] := ((((((HY.out.blk HBZ2.out (by omega)).set_ 0 (.int .i64 ck)).set_ 1 (.int .i64 wt)).set_ 2 (.int .i64 (gn + 1))).set_ 3 (.slice (some ⟨gm, 0, none⟩) j c)).set_ 4 (.slice B no d))
          have hbF : Below w.heap.size wr (((((wr.setCell ⟨w.heap.size + 1, 0, none⟩ (.int .i64 ck)).setCell ⟨w.heap.size + 1, 1, none⟩ (.int .i64 wt)).setCell ⟨w.heap.size + 1, 2, none⟩ (.int .i64 (gn + 1))).setCell ⟨w.heap.size + 1, 3, none⟩ (.slice (some ⟨gm, 0, none⟩) j c)).setCell ⟨w.heap.size + 1, 4, none⟩ (.slice B no d)) := ((((((Below.refl w.heap.size wr).setCell (by show w.heap.size ≤ w.heap.size + 1; omega) (.int .i64 ck)).setCell (by show w.heap.size ≤ w.heap.size + 1; omega) (.int .i64 wt)).setCell (by show w.heap.size ≤ w.heap.size + 1; omega) (.int .i64 (gn + 1))).setCell (by show w.heap.size ≤ w.heap.size + 1; omega) (.slice (some ⟨gm, 0, none⟩) j c)).setCell (by show w.heap.size ≤ w.heap.size + 1; omega) (.slice B no d))
          have y0 := bzF.cell 0
          have y1 := bzF.cell 1
          have y2 := bzF.cell 2
          have y3 := bzF.cell 3
          have y4 := bzF.cell 4
          obtain ⟨p1, p2⟩ := asgd_rows HLS.out hgm2 HY.out HL.out w.heap.size hwz
          have mF : (((((wr.setCell ⟨w.heap.size + 1, 0, none⟩ (.int .i64 ck)).setCell ⟨w.heap.size + 1, 1, none⟩ (.int .i64 wt)).setCell ⟨w.heap.size + 1, 2, none⟩ (.int .i64 (gn + 1))).setCell ⟨w.heap.size + 1, 3, none⟩ (.slice (some ⟨gm, 0, none⟩) j c)).setCell ⟨w.heap.size + 1, 4, none⟩ (.slice B no d)).ownsRow base 79 3 (.slice (some ⟨gm, 0, none⟩) j c) j ((rowsAt rows (fun i => pts (Lt (cmpF ns)) j pt.toNat i) vs j).flatMap mcells) := (own_far (own_far (own_far (own_far (own_far HM.out (HY.out.blk HBZ2.out (by omega)) (by decide) 0 (.int .i64 ck)) ((HY.out.blk HBZ2.out (by omega)).set_ 0 (.int .i64 ck)) (by decide) 1 (.int .i64 wt)) (((HY.out.blk HBZ2.out (by omega)).set_ 0 (.int .i64 ck)).set_ 1 (.int .i64 wt)) (by decide) 2 (.int .i64 (gn + 1))) ((((HY.out.blk HBZ2.out (by omega)).set_ 0 (.int .i64 ck)).set_ 1 (.int .i64 wt)).set_ 2 (.int .i64 (gn + 1))) (by decide) 3 (.slice (some ⟨gm, 0, none⟩) j c)) (((((HY.out.blk HBZ2.out (by omega)).set_ 0 (.int .i64 ck)).set_ 1 (.int .i64 wt)).set_ 2 (.int .i64 (gn + 1))).set_ 3 (.slice (some ⟨gm, 0, none⟩) j c)) (by decide) 4 (.slice B no d))
          have pF : ∀ t ∈ rowsAt rows (fun i => pts (Lt (cmpF ns)) j pt.toNat i) vs j, (((((wr.setCell ⟨w.heap.size + 1, 0, none⟩ (.int .i64 ck)).setCell ⟨w.heap.size + 1, 1, none⟩ (.int .i64 wt)).setCell ⟨w.heap.size + 1, 2, none⟩ (.int .i64 (gn + 1))).setCell ⟨w.heap.size + 1, 3, none⟩ (.slice (some ⟨gm, 0, none⟩) j c)).setCell ⟨w.heap.size + 1, 4, none⟩ (.slice B no d)).ownsRow w.heap.size 3 1 t.2 t.1.parts.length (t.1.parts.map (Value.int .i64)) := fun t ht => (own_far (own_far (own_far (own_far (own_far (p1 t ht) (HY.out.blk HBZ2.out (by omega)) (by decide) 0 (.int .i64 ck)) ((HY.out.blk HBZ2.out (by omega)).set_ 0 (.int .i64 ck)) (by decide) 1 (.int .i64 wt)) (((HY.out.blk HBZ2.out (by omega)).set_ 0 (.int .i64 ck)).set_ 1 (.int .i64 wt)) (by decide) 2 (.int .i64 (gn + 1))) ((((HY.out.blk HBZ2.out (by omega)).set_ 0 (.int .i64 ck)).set_ 1 (.int .i64 wt)).set_ 2 (.int .i64 (gn + 1))) (by decide) 3 (.slice (some ⟨gm, 0, none⟩) j c)) (((((HY.out.blk HBZ2.out (by omega)).set_ 0 (.int .i64 ck)).set_ 1 (.int .i64 wt)).set_ 2 (.int .i64 (gn + 1))).set_ 3 (.slice (some ⟨gm, 0, none⟩) j c)) (by decide) 4 (.slice B no d))
          refine bodyPost_ret (v := .agg #[.int .i64 ck, .int .i64 wt, .int .i64 (gn + 1), .slice (some ⟨gm, 0, none⟩) j c, .slice B no d]) ?_ ?_ ⟨_, rfl, ?_, mF, pF, p2, grown_three HB2.out HY.out hbF⟩
          · simp [results, Try.results100, go_sem, y0, y1, y2, y3, y4]
          · rfl
          · rw [HNS.out, ← HL.out]
            exact rowsAt_all rows _ vs
end Go.Proofs.Ytjkoceacjbhblaa
namespace Go.Proofs.Ytjkoceacjbhblaa
open Go.RowKit

set_option maxRecDepth 100000 in
set_option maxHeartbeats 8000000 in
theorem anew_any (ck wt gn : Int) (gm n c : Nat) (B : Option Addr) (no d : Nat) (rows : List (MemD × Value)) (pt : Int) (base : Nat) (w : World) (h : w.ownsRow base 79 3 (.slice (some ⟨gm, 0, none⟩) n c) n (rows.flatMap mcells)) (hl : rows.length = n) (hn : n ≤ 6)
    (hg : -1000000000000 ≤ gn ∧ gn ≤ 1000000000000) (hp : 0 ≤ pt ∧ pt ≤ 4) :
    Calls Try.prog 102 #[.agg #[.int .i64 ck, .int .i64 wt, .int .i64 gn, .slice (some ⟨gm, 0, none⟩) n c, .slice B no d], .int .i64 pt] w (AsgdPost ck wt gn gm n c (.slice B no d) (rows.map Prod.fst) pt.toNat base w) := by
  obtain ⟨i0, hi0, hz0, hz1, hz2⟩ := info_parts str_info_
  have hgl := h.lt gm rfl
  have H := Lib.hid h
  have HL := Lib.hid hl
  clear h hl
  go_enter Try.func102, Try.ntmps102
  go_wp2_with fail
  have hb0 : Below w.heap.size w ((w.alloc (.cells #[.int .i64 ck, .int .i64 wt, .int .i64 (gn + 1), .slice (some ⟨gm, 0, none⟩) n c, .slice B no d] 36)).alloc (.cells #[.int .i64 0, .int .i64 0, .int .i64 0, .slice none 0 0, .slice none 0 0] 36)) := ((Below.refl _ _).alloc (Nat.le_refl _) _).alloc (by simp) _
  have bx0 : Blk ((w.alloc (.cells #[.int .i64 ck, .int .i64 wt, .int .i64 (gn + 1), .slice (some ⟨gm, 0, none⟩) n c, .slice B no d] 36)).alloc (.cells #[.int .i64 0, .int .i64 0, .int .i64 0, .slice none 0 0, .slice none 0 0] 36)) w.heap.size 36 #[.int .i64 ck, .int .i64 wt, .int .i64 (gn + 1), .slice (some ⟨gm, 0, none⟩) n c, .slice B no d] := (Blk.new _ _ _).alloc _
  have bz0 : Blk ((w.alloc (.cells #[.int .i64 ck, .int .i64 wt, .int .i64 (gn + 1), .slice (some ⟨gm, 0, none⟩) n c, .slice B no d] 36)).alloc (.cells #[.int .i64 0, .int .i64 0, .int .i64 0, .slice none 0 0, .slice none 0 0] 36)) (w.heap.size + 1) 36 #[.int .i64 0, .int .i64 0, .int .i64 0, .slice none 0 0, .slice none 0 0] := Blk.new_ _ _ _ (by simp)
  have hz0 : ((w.alloc (.cells #[.int .i64 ck, .int .i64 wt, .int .i64 (gn + 1), .slice (some ⟨gm, 0, none⟩) n c, .slice B no d] 36)).alloc (.cells #[.int .i64 0, .int .i64 0, .int .i64 0, .slice none 0 0, .slice none 0 0] 36)).heap.size = w.heap.size + 2 := by simp
  generalize (w.alloc (.cells #[.int .i64 ck, .int .i64 wt, .int .i64 (gn + 1), .slice (some ⟨gm, 0, none⟩) n c, .slice B no d] 36)).alloc (.cells #[.int .i64 0, .int .i64 0, .int .i64 0, .slice none 0 0, .slice none 0 0] 36) = W0 at *
  have hr0 := own_keep H.out hb0 (fun b hb => (H.out.lt b hb).2)
  have HR0 := Lib.hid hr0
  have HB0 := Lib.hid hb0
  have BX0 := Lib.hid bx0
  have BZ0 := Lib.hid bz0
  have HZ0 := Lib.hid hz0
  clear hr0 hb0 bx0 bz0 hz0
  obtain ⟨ns, hns⟩ : ∃ ns, ns = rows.map fun t => t.1.name := ⟨_, rfl⟩
  have hnl : ns.length = n := by rw [hns, List.length_map]; exact HL.out
  have HNS := Lib.hid hns
  have HNL := Lib.hid hnl
  clear hns hnl
  go_loopw [5, 6] (fun x y wr => ∃ (k : Nat), k ≤ n ∧ y = .int .i64 k ∧ Hid (wr.ownsRow W0.heap.size 9 1 x k ((ns.take k).map Value.string)) ∧ Hid (Below W0.heap.size W0 wr)) (fun _ y _ => n - (intOf y).toNat)
  case atStart => exact ⟨0, by omega, rfl, World.ownsRow_nil _ _ _ _, Below.refl _ _⟩
  case round =>
    obtain ⟨k, hk, rfl, HO, HW⟩ := hrel
    obtain ⟨A5, c5, rfl, -⟩ := (Sl.of_own HO.out).form
    by_cases hlt : k < n
    · have hz : (k : Int) < (n : Int) := by omega
      have hkl : k < rows.length := by rw [HL.out]; exact hlt
      have c3 := (BX0.out.below HW.out BX0.out.lt).cell 3
      obtain ⟨q0, -, -, -⟩ := mrow_cell (own_keep HR0.out HW.out (fun b hb => (HR0.out.lt b hb).2)) HL.out k hkl
      have hnk : k < ns.length := by rw [HNL.out]; exact hlt
      have hnm : rows[k].1.name = ns[k] := by simp [HNS.out]
      rw [hnm] at q0
      have hws := HW.out.size
      have hnt := names_take ns k hnk
      have HNT := Lib.hid hnt
      clear hnm hnt
      go_wp2_with (at_builtin; go_must (refine wpList_append_sl _ rfl (.tmp 20) (.tmp 27) 63 rfl W0.heap.size 9 i0 (.string .empty) 1 16 Try.underlying63 hi0 hz0 hz1 hz2 rfl (by decide) _ _ _ (by rfl) (HO.out.alloc _) _ 1 _ (by rfl) (lit_at _ _ _ 1 1 wr.heap.size rfl (by simp)) (by intro x hx; simp at hx; subst hx; rfl) (by simp only [maxLen]; omega) (by omega) (by simp; omega) ?_; intro v4 w4 ho4 hg4 ha4))
      go_light
      refine ⟨⟨k + 1, by omega, by go_num, (by show World.ownsRow _ _ _ _ _ _ _; rw [← HNT.out]; exact ho4), ?_⟩, by simp [intOf]; omega⟩
      exact own_below HW.out (Nat.le_refl _) HO.out _ hg4
    · obtain rfl : k = n := by omega
      have hz : ¬ (k : Int) < (k : Int) := by omega
      have hss : Ss wr (.slice A5 k c5) ns := by
        have := Sl.of_own HO.out
        rw [List.take_of_length_le (by rw [HNL.out]; exact Nat.le_refl _)] at this
        have hq := HNL.out
        subst hq
        exact this
      have HSS := Lib.hid hss
      clear hss
      have c3 := (BX0.out.below HW.out BX0.out.lt).cell 3
      go_wp2_with fail
      go_at_call 52
      refine (assignedOf_any ns k A5 c5 pt wr HSS.out HNL.out (by omega) (by omega)).mono ?_
      rintro e1 W2 ⟨bo, vs, rfl, hls⟩
      have hbw := HW.out.trans (hls.bel.mono HW.out.size)
      have hbo := hls.ge
      have hr2 := own_keep HR0.out hbw (fun b hb => (HR0.out.lt b hb).2)
      have bx2 := BX0.out.below hbw BX0.out.lt
      have bz2 := BZ0.out.below hbw BZ0.out.lt
      have HLS := Lib.hid hls
      have HR2 := Lib.hid hr2
      have HBX2 := Lib.hid bx2
      have HBZ2 := Lib.hid bz2
      have HB2 := Lib.hid (HB0.out.trans (hbw.mono (by have := HZ0.out; omega)))
      have hwz : w.heap.size ≤ wr.heap.size := by have := HW.out.size; have := HZ0.out; omega
      have hgm2 : gm < wr.heap.size := by have := HW.out.size; have := HZ0.out; omega
      have hbx2 : w.heap.size < W2.heap.size := bx2.lt
      have hbx3 : w.heap.size + 1 < W2.heap.size := bz2.lt
      have hbo2 := hls.lt
      have hbon : bo ≠ gm := by omega
      clear hls hbw hr2 bx2 bz2 HB0 BX0 BZ0 HR0 HO HW HSS hbo c3
      go_wp2_with fail
      go_loopw [8] (fun x wr3 => ∃ j : Nat, j ≤ k ∧ x = .int .i64 j ∧ Hid (OnlyB W2 gm wr3) ∧ Hid (wr3.ownsRow base 79 3 (.slice (some ⟨gm, 0, none⟩) k c) k ((rowsAt rows (fun i => pts (Lt (cmpF ns)) k pt.toNat i) vs j).flatMap mcells))) (fun x _ => k - (intOf x).toNat)
      case atStart => exact ⟨0, by omega, rfl, OnlyB.refl _ _, by rw [rowsAt_zero]; exact HR2.out⟩
      case round =>
        obtain ⟨j, hj, rfl, HY, HM⟩ := hrel
        have hsz3 : wr.heap.size = W2.heap.size := HY.out.size
        by_cases hjk : j < k
        · have hzj : (j : Int) < (k : Int) := by omega
          have hjl : j < rows.length := by rw [HL.out]; exact hjk
          have c3 := (HY.out.blk HBX2.out (by omega)).cell 3
          have cl : wr.cell? ⟨bo, j, none⟩ = some (vs j) := (HY.out.cell hbon).trans (HLS.out.cell hjk)
          obtain ⟨A7, c7, e7, -⟩ := (Sl.of_own (HLS.out.own j hjk)).form
          obtain ⟨-, -, m2, mf⟩ := mrow_cell HM.out (by rw [rowsAt_len]; exact HL.out) j (by rw [rowsAt_len]; exact hjl)
          rw [e7] at cl
          have hlb : bo < wr.heap.size := by omega
          have hlx : w.heap.size < wr.heap.size := by omega
          have hlg : gm < wr.heap.size := by omega
          have S1 := HY.out.set_ (j * 3 + 2) (vs j)
          have S2 := (World.ownsRow.stored HM.out (j * 3 + 2) (vs j)).1
          rw [← rowsAt_step rows _ vs j hjl] at S2
          rw [e7] at S1
          have S3 : (wr.setCell ⟨gm, j * 3 + 2, none⟩ (.slice A7 (pts (Lt (cmpF ns)) k pt.toNat j).length c7)).ownsRow base 79 3 (.slice (some ⟨gm, 0, none⟩) k c) k ((rowsAt rows (fun i => pts (Lt (cmpF ns)) k pt.toNat i) vs (j + 1)).flatMap mcells) := by
            rw [← e7]; exact S2
          have HS1 := Lib.hid S1
          have HS3 := Lib.hid S3
          clear S1 S2 S3 e7 hsz3
          go_wp2_with fail
          go_big_region
          all_goals go_wp2
          all_goals go_light
          all_goals exact ⟨⟨j + 1, by omega, by go_num, HS1.out.drew, HS3.out⟩, by simp [intOf]; omega⟩
        · obtain rfl : j = k := by omega
          have hzj : ¬ (j : Int) < (j : Int) := by omega
          have cx := HY.out.blk HBX2.out (by omega)
          have cz := HY.out.blk HBZ2.out (by omega)
          have x0 := cx.cell 0
          have x1 := cx.cell 1
          have x2 := cx.cell 2
          have x3 := cx.cell 3
          have x4 := cx.cell 4
          have z0 := cz.cell 0
          have z1 := cz.cell 1
          have z2 := cz.cell 2
          have z3 := cz.cell 3
          have z4 := cz.cell 4
          have f0 := cz.frozen 0
          have f1 := cz.frozen 1
          have f2 := cz.frozen 2
          have f3 := cz.frozen 3
          have f4 := cz.frozen 4
          have lz := cz.lt
          clear cx cz
          go_wp2_with fail
          clear x0 x1 x2 x3 x4 z0 z1 z2 z3 z4 f0 f1 f2 f3 f4 lz
          have bzF : Blk (((((wr.setCell ⟨w.heap.size + 1, 0, none⟩ (.int .i64 ck)).setCell ⟨w.heap.size + 1, 1, none⟩ (.int .i64 wt)).setCell ⟨w.heap.size + 1, 2, none⟩ (.int .i64 (gn + 1))).setCell ⟨w.heap.size + 1, 3, none⟩ (.slice (some ⟨gm, 0, none⟩) j c)).setCell ⟨w.heap.size + 1, 4, none⟩ (.slice B no d)) (w.heap.size + 1) 36 #[.int .i64 ck, .int .i64 wt, .int .i64 (gn + 1), .slice (some ⟨gm, 0, none⟩) j c, .slice B no d] := ((((((HY.out.blk HBZ2.out (by omega)).set_ 0 (.int .i64 ck)).set_ 1 (.int .i64 wt)).set_ 2 (.int .i64 (gn + 1))).set_ 3 (.slice (some ⟨gm, 0, none⟩) j c)).set_ 4 (.slice B no d))
          have hbF : Below w.heap.size wr (((((wr.setCell ⟨w.heap.size + 1, 0, none⟩ (.int .i64 ck)).setCell ⟨w.heap.size + 1, 1, none⟩ (.int .i64 wt)).setCell ⟨w.heap.size + 1, 2, none⟩ (.int .i64 (gn + 1))).setCell ⟨w.heap.size + 1, 3, none⟩ (.slice (some ⟨gm, 0, none⟩) j c)).setCell ⟨w.heap.size + 1, 4, none⟩ (.slice B no d)) := ((((((Below.refl w.heap.size wr).setCell (by show w.heap.size ≤ w.heap.size + 1; omega) (.int .i64 ck)).setCell (by show w.heap.size ≤ w.heap.size + 1; omega) (.int .i64 wt)).setCell (by show w.heap.size ≤ w.heap.size + 1; omega) (.int .i64 (gn + 1))).setCell (by show w.heap.size ≤ w.heap.size + 1; omega) (.slice (some ⟨gm, 0, none⟩) j c)).setCell (by show w.heap.size ≤ w.heap.size + 1; omega) (.slice B no d))
          have y0 := bzF.cell 0
          have y1 := bzF.cell 1
          have y2 := bzF.cell 2
          have y3 := bzF.cell 3
          have y4 := bzF.cell 4
          obtain ⟨p1, p2⟩ := asgd_rows HLS.out hgm2 HY.out HL.out w.heap.size hwz
          have mF : (((((wr.setCell ⟨w.heap.size + 1, 0, none⟩ (.int .i64 ck)).setCell ⟨w.heap.size + 1, 1, none⟩ (.int .i64 wt)).setCell ⟨w.heap.size + 1, 2, none⟩ (.int .i64 (gn + 1))).setCell ⟨w.heap.size + 1, 3, none⟩ (.slice (some ⟨gm, 0, none⟩) j c)).setCell ⟨w.heap.size + 1, 4, none⟩ (.slice B no d)).ownsRow base 79 3 (.slice (some ⟨gm, 0, none⟩) j c) j ((rowsAt rows (fun i => pts (Lt (cmpF ns)) j pt.toNat i) vs j).flatMap mcells) := (own_far (own_far (own_far (own_far (own_far HM.out (HY.out.blk HBZ2.out (by omega)) (by decide) 0 (.int .i64 ck)) ((HY.out.blk HBZ2.out (by omega)).set_ 0 (.int .i64 ck)) (by decide) 1 (.int .i64 wt)) (((HY.out.blk HBZ2.out (by omega)).set_ 0 (.int .i64 ck)).set_ 1 (.int .i64 wt)) (by decide) 2 (.int .i64 (gn + 1))) ((((HY.out.blk HBZ2.out (by omega)).set_ 0 (.int .i64 ck)).set_ 1 (.int .i64 wt)).set_ 2 (.int .i64 (gn + 1))) (by decide) 3 (.slice (some ⟨gm, 0, none⟩) j c)) (((((HY.out.blk HBZ2.out (by omega)).set_ 0 (.int .i64 ck)).set_ 1 (.int .i64 wt)).set_ 2 (.int .i64 (gn + 1))).set_ 3 (.slice (some ⟨gm, 0, none⟩) j c)) (by decide) 4 (.slice B no d))
          have pF : ∀ t ∈ rowsAt rows (fun i => pts (Lt (cmpF ns)) j pt.toNat i) vs j, (((((wr.setCell ⟨w.heap.size + 1, 0, none⟩ (.int .i64 ck)).setCell ⟨w.heap.size + 1, 1, none⟩ (.int .i64 wt)).setCell ⟨w.heap.size + 1, 2, none⟩ (.int .i64 (gn + 1))).setCell ⟨w.heap.size + 1, 3, none⟩ (.slice (some ⟨gm, 0, none⟩) j c)).setCell ⟨w.heap.size + 1, 4, none⟩ (.slice B no d)).ownsRow w.heap.size 3 1 t.2 t.1.parts.length (t.1.parts.map (Value.int .i64)) := fun t ht => (own_far (own_far (own_far (own_far (own_far (p1 t ht) (HY.out.blk HBZ2.out (by omega)) (by decide) 0 (.int .i64 ck)) ((HY.out.blk HBZ2.out (by omega)).set_ 0 (.int .i64 ck)) (by decide) 1 (.int .i64 wt)) (((HY.out.blk HBZ2.out (by omega)).set_ 0 (.int .i64 ck)).set_ 1 (.int .i64 wt)) (by decide) 2 (.int .i64 (gn + 1))) ((((HY.out.blk HBZ2.out (by omega)).set_ 0 (.int .i64 ck)).set_ 1 (.int .i64 wt)).set_ 2 (.int .i64 (gn + 1))) (by decide) 3 (.slice (some ⟨gm, 0, none⟩) j c)) (((((HY.out.blk HBZ2.out (by omega)).set_ 0 (.int .i64 ck)).set_ 1 (.int .i64 wt)).set_ 2 (.int .i64 (gn + 1))).set_ 3 (.slice (some ⟨gm, 0, none⟩) j c)) (by decide) 4 (.slice B no d))
          refine bodyPost_ret (v := .agg #[.int .i64 ck, .int .i64 wt, .int .i64 (gn + 1), .slice (some ⟨gm, 0, none⟩) j c, .slice B no d]) ?_ ?_ ⟨_, rfl, ?_, mF, pF, p2, grown_three HB2.out HY.out hbF⟩
          · simp [results, Try.results102, go_sem, y0, y1, y2, y3, y4]
          · rfl
          · rw [HNS.out, ← HL.out]
            exact rowsAt_all rows _ vs
end Go.Proofs.Ytjkoceacjbhblaa
namespace Go.Proofs.Ytjkoceacjbhblaa
open Go.RowKit

def Counted (gn parts : Int) : Prop := 0 ≤ parts ∧ parts ≤ 4 ∧ gn < 1073741824
noncomputable def nextG (g : GroupD) (ms : List MemD) (parts : Int) : GroupD := ⟨g.clock, g.wait, g.gen + 1, asgM ms parts.toNat, g.offs⟩
theorem nextG_fits {g : GroupD} (h : GroupOk g) {ms : List MemD} (hl : ms.length ≤ 6) {parts : Int} (hc : Counted g.gen parts) : (nextG g ms parts).Fits := by
  refine ⟨⟨?_, h.bounds.2.2.1⟩, fun t ht => ?_⟩
  · show (asgM ms parts.toNat).length ≤ _
    rw [asgM_len]; omega
  · have := asgM_parts t ht
    have := hc.2.1
    omega
def JoinTo (g : GroupD) (s : ByteArray) (parts : Int) (g' : GroupD) (n : Int) : Prop :=
  (NameFaultM g s n ∧ g' = zeroG) ∨ (GroupOk g ∧ NameOk s ∧ ((¬ Counted g.gen parts ∧ n = 2 ∧ g' = zeroG) ∨ (Counted g.gen parts ∧ (((∃ i, idxM g.mems s = some i) ∧ n = 6 ∧ g' = zeroG) ∨
    (idxM g.mems s = none ∧ ((g.mems.length = 6 ∧ n = 16 ∧ g' = zeroG) ∨ (g.mems.length < 6 ∧ n = 0 ∧ g' = nextG g (g.mems ++ [⟨s, g.clock, []⟩]) parts)))))))
theorem JoinTo.fits {g : GroupD} {s : ByteArray} {parts : Int} {g' : GroupD} {n : Int} (h : JoinTo g s parts g' n) : g'.Fits := by
  rcases h with ⟨-, rfl⟩ | ⟨h1, -, ⟨-, -, rfl⟩ | ⟨h3, ⟨-, -, rfl⟩ | ⟨-, ⟨-, -, rfl⟩ | ⟨h4, -, rfl⟩⟩⟩⟩
  all_goals first | exact zeroG_fits | exact nextG_fits h1 (by simp; omega) h3

set_option maxRecDepth 100000 in
set_option maxHeartbeats 2000000 in
theorem counted_any (ck wt gn parts : Int) (A B : Option Addr) (n c k d : Nat) (w : World) :
    Calls Try.prog 99 #[.agg #[.int .i64 ck, .int .i64 wt, .int .i64 gn, .slice A n c, .slice B k d], .int .i64 parts] w (Tells (Counted gn parts) w) := by
  have hb : Below w.heap.size w (w.alloc (.cells #[.int .i64 ck, .int .i64 wt, .int .i64 gn, .slice A n c, .slice B k d] 36)) := (Below.refl _ _).alloc (Nat.le_refl _) _
  have HB := Lib.hid hb
  clear hb
  by_cases h1 : 0 ≤ parts
  · by_cases h2 : parts ≤ 4
    · go_enter Try.func99, Try.ntmps99
      go_wp2
      go_ret
      exact ⟨_, rfl, by simp [Counted, h1, h2], HB.out⟩
    · go_enter Try.func99, Try.ntmps99
      go_wp2
      go_ret
      exact ⟨_, rfl, by simp [Counted]; omega, HB.out⟩
  · go_enter Try.func99, Try.ntmps99
    go_wp2
    go_ret
    exact ⟨_, rfl, by simp [Counted]; omega, HB.out⟩

set_option maxRecDepth 100000 in
set_option maxHeartbeats 2000000 in
theorem partsMay_any (ck wt gn parts : Int) (A B : Option Addr) (n c k d : Nat) (w : World) :
    Calls Try.prog 101 #[.agg #[.int .i64 ck, .int .i64 wt, .int .i64 gn, .slice A n c, .slice B k d], .int .i64 parts] w (Tells (Counted gn parts) w) := by
  have hb : Below w.heap.size w (w.alloc (.cells #[.int .i64 ck, .int .i64 wt, .int .i64 gn, .slice A n c, .slice B k d] 36)) := (Below.refl _ _).alloc (Nat.le_refl _) _
  have HB := Lib.hid hb
  clear hb
  by_cases h1 : 0 ≤ parts ∧ parts ≤ 4
  · have hd : inB parts 0 4 = true := by simp [inB, h1]
    go_enter Try.func101, Try.ntmps101
    go_wp2_with (go_at_call 64; refine (In_any _ _ _ _).mono ?_; rintro e w' ⟨rfl, rfl⟩)
    go_ret
    exact ⟨_, rfl, by simp [Counted, h1], HB.out⟩
  · have hd : inB parts 0 4 = false := by
      rcases Int.lt_or_le parts 0 with h | h
      · simp [inB]; omega
      · simp [inB]; omega
    go_enter Try.func101, Try.ntmps101
    go_wp2_with (go_at_call 64; refine (In_any _ _ _ _).mono ?_; rintro e w' ⟨rfl, rfl⟩)
    go_ret
    exact ⟨_, rfl, by simp [Counted]; omega, HB.out⟩
end Go.Proofs.Ytjkoceacjbhblaa
namespace Go.Proofs.Ytjkoceacjbhblaa
open Go.RowKit

theorem own_block {w : World} {base size n : Nat} {e : TypeId} {v : Value} {xs : List Value} (h : w.ownsRow base e size v n xs) (hn : 0 < n) : ∃ g c, v = .slice (some ⟨g, 0, none⟩) n c := by
  rcases h.2 with ⟨_, e0⟩ | ⟨g, c, cur, e, -⟩
  · omega
  · exact ⟨g, c, e⟩
theorem own_off {w : World} {base size n g : Nat} {e t : TypeId} {v : Value} {xs : List Value} {cs : Array Value} (h : w.ownsRow base e size v n xs) (b : Blk w g t cs) (ht : t ≠ e) : some g ≠ v.ownBlock := by
  rcases h.2 with ⟨e1, _⟩ | ⟨k, c, cur, e1, _, hk, _⟩
  · rw [e1]; simp [Value.ownBlock]
  · rw [e1]
    intro q
    injection q with q
    subst q
    unfold Blk at b
    rw [hk] at b
    injection b with b
    injection b with _ b _
    exact ht b.symm
theorem own_apart2 {w : World} {b1 b2 : Nat} {e1 e2 : TypeId} {s1 s2 n1 n2 g n c : Nat} {v1 : Value} {x1 x2 : List Value} (h1 : w.ownsRow b1 e1 s1 v1 n1 x1) (h2 : w.ownsRow b2 e2 s2 (.slice (some ⟨g, 0, none⟩) n c) n2 x2) (he : e1 ≠ e2) : v1.ownBlock = none ∨ v1.ownBlock ≠ some g := own_apart h1 h2 he
theorem AsgdPost.ownM {w W W' : World} {ck wt gn : Int} {gm n c P base : Nat} {ov : Value} {ms0 ms : List MemD} {e : Ending} (h : AsgdPost ck wt gn gm n c ov ms0 P base W e W') (hms : ms0 = ms) (hn : ms.length = n) (hb0 : w.heap.size ≤ base) (hb : base ≤ W.heap.size) (hB : Below w.heap.size w W) :
    ∃ rows, e = .returned (.agg #[.int .i64 ck, .int .i64 wt, .int .i64 (gn + 1), .slice (some ⟨gm, 0, none⟩) n c, ov]) ∧ OwnM w W' base (.slice (some ⟨gm, 0, none⟩) n c) (asgM ms P) rows (asgM ms P).length ∧ W.grownBy W' (some gm) := by
  subst hms
  obtain ⟨rows, rfl, h1, h2, h3, h4, h5⟩ := h
  have hl : rows.length = (asgM ms0 P).length := by rw [← h1]; simp
  refine ⟨rows, rfl, ⟨h1, ?_, hB.grown h5 hB.size fun k hk => ?_, fun t ht => ?_, fun t ht => ?_, ?_⟩, h5⟩
  · rw [asgM_len, hn]; exact h2
  · injection hk with hk
    subst hk
    exact Nat.le_trans hb0 (h2.lt gm rfl).1
  · rw [List.drop_of_length_le (by omega)] at ht
    simp at ht
  · rw [List.take_of_length_le (by omega)] at ht
    exact own_base (h3 t ht) hb
  · rw [List.take_of_length_le (by omega)]
    exact h4
end Go.Proofs.Ytjkoceacjbhblaa
namespace Go.Proofs.Ytjkoceacjbhblaa
open Go.RowKit Go.Shelf

def shelfRen : Go.Shelf.Ren := ⟨fun | 25 => 93 | 31 => 117 | 32 => 118 | 37 => 126 | 23 => 94 | 21 => 98 | 27 => 122 | 28 => 123 | 35 => 130 | 39 => 133 | n => n,
  fun | 0 => 0 | 3 => 3 | 4 => 4 | 22 => 24 | 40 => 126 | n => n, fun n => n⟩
theorem setCells_row (g : Nat) : ∀ (vs : List Value) (o : Nat) (w : World) (cur : Array Value) (t : TypeId), w.heap[g]? = some (.cells cur t (0, 0)) → o + vs.length ≤ cur.size → ∃ cur' : Array Value, (w.setCells g o vs).heap[g]? = some (.cells cur' t (0, 0)) ∧ cur'.toList = cur.toList.take o ++ vs ++ cur.toList.drop (o + vs.length)
  | [], o, w, cur, t, h, _ => ⟨cur, h, by simp⟩
  | v :: r, o, w, cur, t, h, hl => by
    simp only [List.length_cons] at hl
    obtain ⟨cur', h1, h2⟩ := setCells_row g r (o + 1) (w.setCell ⟨g, o, none⟩ v) (cur.setIfInBounds o v) t (heap_setCell_same w g o cur t v h) (by simp; omega)
    refine ⟨cur', h1, ?_⟩
    rw [h2, Array.toList_setIfInBounds, List.drop_set_of_lt (by omega)]
    have hl2 : o < cur.toList.length := by simp; omega
    rw [List.take_succ_eq_append_getElem (by simpa using hl2), List.take_set, List.getElem_set_self, List.set_eq_of_length_le (by simp; omega)]
    simp [show o + 1 + r.length = o + (r.length + 1) by omega]
def delAt (ps : List Int) (i : Nat) : List Int := ps.take i ++ ps.drop (i + 1)
def insAt (ps : List Int) (i : Nat) (x : Int) : List Int := ps.take i ++ x :: ps.drop i
end Go.Proofs.Ytjkoceacjbhblaa
