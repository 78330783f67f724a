/- What coord's calls answer, as plain functions; a copied coordinator in which one row is written. -/
import Derived.Test.YtjkoceacjbhblaaCoordS
import Derived.Test.YtjkoceacjbhblaaCoordCopy
namespace Go.Proofs.Ytjkoceacjbhblaa
open Go.RowKit

def ClashAt (ts : List TxnD) (t : TxnD) (j : Nat) : Prop := ∃ h : j < ts.length, Clash ts[j] t
theorem TxnsOk.step {clock next : Int} {ts : List TxnD} {k : Nat} (h : TxnsOk clock next ts k) (hk : k < ts.length) (ht : TxnOk clock next ts[k]) (hc : ¬ ∃ j, j < k ∧ ClashAt ts ts[k] j) : TxnsOk clock next ts (k + 1) := by
  intro i hi hik
  rcases Nat.lt_succ_iff_lt_or_eq.1 hik with h' | rfl
  · exact h i hi h'
  · exact ⟨ht, fun j hj hcl => hc ⟨j, hj, by omega, hcl⟩⟩
theorem not_ok_txn {c : CoordD} {k : Nat} (hk : k < c.txns.length) (h : ¬ TxnOk c.clock c.next c.txns[k]) : ¬ CoordOk c := fun hc => h (hc.all k hk hk).1
theorem not_ok_clash {c : CoordD} {k : Nat} (hk : k < c.txns.length) (h : ∃ j, j < k ∧ ClashAt c.txns c.txns[k] j) : ¬ CoordOk c := by
  intro hc
  obtain ⟨j, hj, hl, hcl⟩ := h
  exact (hc.all k hk hk).2 j hj hcl
def zeroC : CoordD := ⟨0, 0, 0, []⟩
def idxOf (ts : List TxnD) (s : ByteArray) : Option Nat := ts.findIdx? fun t => decide (t.name = s)
def CoordD.upd (c : CoordD) (i : Nat) (f : TxnD → TxnD) : CoordD := ⟨c.clock, c.next, c.wait, c.txns.modify i f⟩
theorem idx_some {ts : List TxnD} {s : ByteArray} {k : Nat} (hk : k < ts.length) (h : ts[k].name = s) (hn : ∀ j (hj : j < ts.length), j < k → ts[j].name ≠ s) : idxOf ts s = some k := by
  unfold idxOf
  rw [List.findIdx?_eq_some_iff_getElem]
  exact ⟨hk, by simpa using h, fun j hj => by simpa using hn j (by omega) hj⟩
theorem idx_none {ts : List TxnD} {s : ByteArray} (hn : ∀ j (hj : j < ts.length), ts[j].name ≠ s) : idxOf ts s = none := by
  unfold idxOf
  rw [List.findIdx?_eq_none_iff]
  intro t ht
  obtain ⟨j, hj, rfl⟩ := List.mem_iff_getElem.1 ht
  simpa using hn j hj
/-- the index that the calls give: -1: there is none -/
def ixOf (ts : List TxnD) (s : ByteArray) : Int := match idxOf ts s with | none => -1 | some k => k
theorem ix_of_finds {ts : List TxnD} {s : ByteArray} {r : Int} (h : (∃ k : Nat, k < ts.length ∧ r = k ∧ (∃ h : k < ts.length, ts[k].name = s) ∧ ∀ j, j < k → ¬ ∃ h : j < ts.length, ts[j].name = s) ∨ (r = -1 ∧ ∀ j, j < ts.length → ¬ ∃ h : j < ts.length, ts[j].name = s)) : r = ixOf ts s := by
  unfold ixOf
  rcases h with ⟨k, hk, rfl, ⟨_, h1⟩, h2⟩ | ⟨rfl, h2⟩
  · rw [idx_some hk h1 fun j hj hjk e => h2 j hjk ⟨hj, e⟩]
  · rw [idx_none fun j hj e => h2 j hj ⟨hj, e⟩]
theorem ix_some {ts : List TxnD} {s : ByteArray} {i : Nat} (h : idxOf ts s = some i) : i < ts.length ∧ ixOf ts s = i := by
  refine ⟨?_, by simp [ixOf, h]⟩
  have := (List.findIdx?_eq_some_iff_getElem.1 h).1
  exact this

/-- one cell of a row written, but for its parts -/
def setRow (rows : List (TxnD × Value)) (i : Nat) (f : TxnD → TxnD) : List (TxnD × Value) := rows.modify i fun t => (f t.1, t.2)
theorem setRow_fst (rows : List (TxnD × Value)) (i : Nat) (f : TxnD → TxnD) : (setRow rows i f).map Prod.fst = (rows.map Prod.fst).modify i f := by
  induction rows generalizing i with
  | nil => cases i <;> simp [setRow]
  | cons t rows ih =>
    rcases i with _ | i
    · simp [setRow]
    · have := ih i
      simp only [setRow] at *
      simp [this]
theorem setRow_snd (rows : List (TxnD × Value)) (i : Nat) (f : TxnD → TxnD) : (setRow rows i f).map Prod.snd = rows.map Prod.snd := by
  induction rows generalizing i with
  | nil => cases i <;> simp [setRow]
  | cons t rows ih =>
    rcases i with _ | i
    · simp [setRow]
    · have := ih i
      simp only [setRow] at *
      simp [this]
theorem setRow_cells : ∀ (rows : List (TxnD × Value)) (i : Nat) (f : TxnD → TxnD) (j : Nat) (u : Value) (hi : i < rows.length) (_ : j < 7) (_ : tcells (f rows[i].1, rows[i].2) = (tcells rows[i]).set j u), (setRow rows i f).flatMap tcells = (rows.flatMap tcells).set (i * 7 + j) u
  | [], i, f, j, u, hi, _, _ => by simp at hi
  | t :: rows, 0, f, j, u, _, hj, h => by
    have hl : (tcells t).length = 7 := rfl
    simp only [List.getElem_cons_zero] at h
    simp only [setRow, List.modify_zero_cons, List.flatMap_cons, Nat.zero_mul, Nat.zero_add]
    rw [List.set_append_left _ _ (by omega), h]
  | t :: rows, i + 1, f, j, u, hi, hj, h => by
    have hl : (tcells t).length = 7 := rfl
    have ih := setRow_cells rows i f j u (by simpa using hi) hj (by simpa using h)
    simp only [setRow] at ih
    simp only [setRow, List.modify_succ_cons, List.flatMap_cons, ih]
    rw [List.set_append_right _ _ (by rw [hl]; omega), hl, show (i + 1) * 7 + j - 7 = i * 7 + j from by omega]

theorem Own.put {w0 w : World} {base n : Nat} {g c : Nat} {ds : List TxnD} {rows : List (TxnD × Value)} (h : Own w0 w base (.slice (some ⟨g, 0, none⟩) n c) ds rows n) (hn : n = ds.length) (hg : w0.heap.size ≤ g) (i j : Nat) (u : Value) (f : TxnD → TxnD)
    (hi : i < rows.length) (hj : j < 7) (hc : tcells (f rows[i].1, rows[i].2) = (tcells rows[i]).set j u) (hp : (f rows[i].1).parts = rows[i].1.parts) :
    Own w0 (w.setCell ⟨g, i * 7 + j, none⟩ u) base (.slice (some ⟨g, 0, none⟩) n c) (ds.modify i f) (setRow rows i f) n := by
  subst hn
  have hl : rows.length = ds.length := by rw [← h.fst]; simp
  have hg5 : ∃ cs fr, w.heap[g]? = some (.cells cs 76 fr) := by
    rcases h.own.2 with ⟨e, _⟩ | ⟨g', cap, cur, e, _, hh, _⟩
    · cases e
    · injection e with e1
      injection e1 with e1
      injection e1 with e1
      subst e1
      exact ⟨_, _, hh⟩
  obtain ⟨cs, fr, hg5⟩ := hg5
  have hlen : (ds.modify i f).length = ds.length := by simp
  have key : ∀ t ∈ setRow rows i f, ∃ t' ∈ rows, t.2 = t'.2 ∧ t.1.parts = t'.1.parts := by
    intro t ht
    obtain ⟨m, hm, rfl⟩ := List.mem_iff_getElem.1 ht
    have hm' : m < rows.length := by simpa [setRow] using hm
    refine ⟨rows[m], List.getElem_mem _, ?_⟩
    simp only [setRow, List.getElem_modify]
    split
    · rename_i e
      subst e
      exact ⟨rfl, hp⟩
    · exact ⟨rfl, rfl⟩
  have e1 : rows.take ds.length = rows := by rw [← hl, List.take_length]
  have e2 : (setRow rows i f).take ds.length = setRow rows i f := by rw [← hl, ← show (setRow rows i f).length = rows.length from by simp [setRow], List.take_length]
  refine ⟨(setRow_fst rows i f).trans (by rw [h.fst]), ?_, h.bel.setCell hg _, ?_, ?_, ?_⟩
  · rw [setRow_cells rows i f j u hi hj hc, hlen]
    exact (World.ownsRow.stored h.own _ _).1
  · intro t ht
    rw [← hl, ← show (setRow rows i f).length = rows.length from by simp [setRow], List.drop_length] at ht
    simp at ht
  · intro t ht
    rw [e2] at ht
    obtain ⟨t', ht', h1, h2⟩ := key t ht
    rw [h1, h2]
    exact own_far (h.parts t' (by rw [e1]; exact ht')) hg5 (by decide) _ _
  · rw [e2]
    have ha := h.apart
    rw [e1] at ha
    have : ((setRow rows i f).map Prod.snd).Pairwise fun a b => a.ownBlock = none ∨ a.ownBlock ≠ b.ownBlock := by
      rw [setRow_snd]
      exact List.pairwise_map.2 ha
    exact List.pairwise_map.1 this

/-- an owned coordinator reads as it should -/
theorem Own.cv {w0 w : World} {base n : Nat} {tv : Value} {c : CoordD} {rows : List (TxnD × Value)} (h : Own w0 w base tv c.txns rows n) (hn : n = c.txns.length) (hc : c.txns.length ≤ 9223372036854775807) (hp : ∀ t ∈ c.txns, t.parts.length ≤ 9223372036854775807) : Cv w (coordV c tv) c := by
  subst hn
  have hl : rows.length = c.txns.length := by rw [← h.fst]; simp
  refine ⟨tv, rfl, ⟨rows, h.fst, Sl.of_own h.own, fun t ht => ?_⟩, hc⟩
  have ht' : t ∈ rows.take c.txns.length := by rw [← hl, List.take_length]; exact ht
  refine ⟨?_, hp _ (by rw [← h.fst]; exact List.mem_map_of_mem ht)⟩
  have := Sl.of_own (h.parts t ht')
  exact this

end Go.Proofs.Ytjkoceacjbhblaa
