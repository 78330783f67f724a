/- Rows of replicas of the call's own. -/
import Derived.Test.YtpjjfnpdopdnkaaPartD
import Derived.Test.YtpjjfnpdopdnkaaMemX
namespace Go.Proofs.Ytpjjfnpdopdnkaa
open Go.RowKit

theorem rcells_one (l : List (RepD × Value)) (h : ∀ t ∈ l, t.2.oneCell' = true) : ∀ x ∈ l.flatMap rcells, x.oneCell' = true := by
  intro x hx
  simp only [List.mem_flatMap] at hx
  obtain ⟨e, he, hx⟩ := hx
  simp only [rcells, List.mem_cons, List.not_mem_nil, or_false] at hx
  rcases hx with rfl | rfl | rfl | rfl <;> first | rfl | exact h e he
theorem bools_one (l : List Bool) : ∀ x ∈ l.map Value.bool, x.oneCell' = true := by
  intro x hx
  obtain ⟨b, _, rfl⟩ := List.mem_map.1 hx
  rfl
/-- the rows with new parts at place k -/
def setPartsP (rows : List (RepD × Value)) (k : Nat) (v : Value) : List (RepD × Value) := rows.modify k fun t => (t.1, v)
theorem setPartsP_fst : ∀ (rows : List (RepD × Value)) (k : Nat) (v : Value), (setPartsP rows k v).map Prod.fst = rows.map Prod.fst
  | [], k, v => by simp [setPartsP]
  | t :: rows, 0, v => by simp [setPartsP]
  | t :: rows, k + 1, v => by
    have := setPartsP_fst rows k v
    simp only [setPartsP] at *
    simp [this]
theorem setPartsP_cells : ∀ (rows : List (RepD × Value)) (k : Nat) (v : Value), k < rows.length → (setPartsP rows k v).flatMap rcells = (rows.flatMap rcells).set (k * 4 + 1) v
  | [], k, v, h => by simp at h
  | t :: rows, 0, v, h => by simp [setPartsP, rcells]
  | t :: rows, k + 1, v, h => by
    have ih := setPartsP_cells rows k v (by simpa using h)
    simp only [setPartsP] at ih
    have hl : (rcells t).length = 4 := rfl
    simp only [setPartsP, List.modify_succ_cons, List.flatMap_cons, ih]
    rw [List.set_append_right _ _ (by rw [hl]; omega), hl, show (k + 1) * 4 + 1 - 4 = k * 4 + 1 from by omega]
theorem setPartsP_take (rows : List (RepD × Value)) (k : Nat) (v : Value) (h : k < rows.length) : (setPartsP rows k v).take (k + 1) = rows.take k ++ [(rows[k].1, v)] := by
  have hl : k < (setPartsP rows k v).length := by simp [setPartsP]; exact h
  rw [List.take_succ_eq_append_getElem hl]
  congr 1
  · simp only [setPartsP, List.take_modify]
    exact List.modify_eq_self (by simp; omega)
  · simp [setPartsP]
theorem setPartsP_drop (rows : List (RepD × Value)) (k : Nat) (v : Value) : (setPartsP rows k v).drop (k + 1) = rows.drop (k + 1) := by
  simp [setPartsP, List.drop_modify_of_lt]

/-- v is a row of replicas of the call's own (the call began in w0); the first k have bytes of their own, no two in one block; the others have the bytes that they had -/
structure OwnP (w0 w : World) (base : Nat) (v : Value) (ds : List RepD) (rows : List (RepD × Value)) (k : Nat) : Prop where
  fst : rows.map Prod.fst = ds
  own : w.ownsRow base 71 4 v ds.length (rows.flatMap rcells)
  bel : Below w0.heap.size w0 w
  old : ∀ t ∈ rows.drop k, By w0 t.2 t.1.bytes
  parts : ∀ t ∈ rows.take k, w.ownsRow base 5 1 t.2 t.1.bytes.length (bvs t.1.bytes)
  apart : (rows.take k).Pairwise fun a b => a.2.ownBlock = none ∨ a.2.ownBlock ≠ b.2.ownBlock

theorem OwnP.step {w0 w w5 : World} {base g c k : Nat} {ds : List RepD} {rows : List (RepD × Value)} {v5 : Value} (h : OwnP w0 w base (.slice (some ⟨g, 0, none⟩) ds.length c) ds rows k) (hk : k < rows.length) (hb0 : w0.heap.size ≤ base) (hb : base ≤ w.heap.size)
    (hbel : Below w.heap.size w w5) (ho : w5.ownsRow w.heap.size 5 1 v5 rows[k].1.bytes.length (bvs rows[k].1.bytes)) :
    OwnP w0 (w5.setCell ⟨g, k * 4 + 1, none⟩ v5) base (.slice (some ⟨g, 0, none⟩) ds.length c) ds (setPartsP rows k v5) (k + 1) := by
  have hgl := h.own.lt g rfl
  have hown5 := own_keep h.own hbel (fun b hb => (h.own.lt b hb).2)
  have hg5 : ∃ cs fr, w5.heap[g]? = some (.cells cs 71 fr) := by
    rcases hown5.2 with ⟨e, _⟩ | ⟨g', cap, cur, e, _, hh, _⟩
    · cases e
    · injection e with e1
      injection e1 with e1
      injection e1 with e1
      subst e1
      exact ⟨_, _, hh⟩
  obtain ⟨cs, fr, hg5⟩ := hg5
  refine ⟨(setPartsP_fst rows k v5).trans h.fst, ?_, ?_, ?_, ?_, ?_⟩
  · rw [setPartsP_cells rows k v5 hk]
    exact (World.ownsRow.stored hown5 _ _).1
  · exact (h.bel.trans (hbel.mono h.bel.size)).setCell (by show w0.heap.size ≤ g; omega) _
  · intro t ht
    rw [setPartsP_drop] at ht
    refine h.old t ?_
    have : rows.drop (k + 1) = (rows.drop k).drop 1 := by simp [List.drop_drop]
    rw [this] at ht
    exact List.mem_of_mem_drop ht
  · intro t ht
    rw [setPartsP_take rows k v5 hk] at ht
    rcases List.mem_append.1 ht with ht | ht
    · exact own_far (own_keep (h.parts t ht) hbel (fun b hb => ((h.parts t ht).lt b hb).2)) hg5 (by decide) _ _
    · simp only [List.mem_singleton] at ht
      subst ht
      exact own_far (own_base ho hb) hg5 (by decide) _ _
  · rw [setPartsP_take rows k v5 hk]
    refine List.pairwise_append.2 ⟨h.apart, by simp, fun a ha b hb' => ?_⟩
    simp only [List.mem_singleton] at hb'
    subst hb'
    rcases hab : a.2.ownBlock with _ | x
    · exact Or.inl rfl
    · refine Or.inr fun e => ?_
      have h1 := (h.parts a ha).lt x hab
      have h2 := ho.lt x e.symm
      omega
theorem OwnP.more {w0 w : World} {base base' k : Nat} {v : Value} {ds : List RepD} {rows : List (RepD × Value)} (h : OwnP w0 w base v ds rows k) (hb : base' ≤ base) : OwnP w0 w base' v ds rows k :=
  ⟨h.fst, own_base h.own hb, h.bel, h.old, fun t ht => own_base (h.parts t ht) hb, h.apart⟩

theorem OwnP.under {w0 w : World} {base k : Nat} {v : Value} {ds : List RepD} {rows : List (RepD × Value)} (h : OwnP w0 w base v ds rows k) {a : Addr} (ha : a.block < base ∧ w0.heap.size ≤ a.block) (u : Value) : OwnP w0 (w.setCell a u) base v ds rows k :=
  ⟨h.fst, ownsRow_setCell_below h.own ha.1 u, h.bel.setCell ha.2 u, h.old, fun t ht => ownsRow_setCell_below (h.parts t ht) ha.1 u, h.apart⟩

theorem OwnP.at_ {w0 w : World} {base : Nat} {v : Value} {ds : List RepD} {rows : List (RepD × Value)} {k : Nat} (h : OwnP w0 w base v ds rows k) (hn : 0 < ds.length) : ∃ g c, v = .slice (some ⟨g, 0, none⟩) ds.length c ∧ base ≤ g ∧ g < w.heap.size ∧ ds.length ≤ c ∧ ∀ i (hi : i < rows.length) (j : Nat), j < 4 → w.cell? ⟨g, i * 4 + j, none⟩ = (rcells rows[i])[j]? ∧ w.frozen? ⟨g, i * 4 + j, none⟩ = false := by
  obtain ⟨g, c, hv, hb, hlt⟩ := h.own.form hn
  subst hv
  have hle : ds.length ≤ c := by
    obtain ⟨_, A, c', he, hc, _⟩ := Sl.of_own h.own
    injection he with _ _ e; omega
  refine ⟨g, c, rfl, hb, hlt, hle, fun i hi j hj => ⟨?_, World.ownsRow.frozenAt h.own _⟩⟩
  have hl : rows.length = ds.length := by rw [← h.fst]; simp
  rw [World.ownsRow.cellAt h.own _ (by omega)]
  exact cells_get rcells 4 (fun _ => rfl) rows i hi j hj


/-- a row of another element type, of the call's own, stays while a row's slice is replaced -/
theorem OwnP.offs {w0 w w5 : World} {base base' g c k j n sz : Nat} {e : TypeId} {ds : List RepD} {rows : List (RepD × Value)} {u : Value} {xs : List Value} (h : OwnP w0 w base (.slice (some ⟨g, 0, none⟩) ds.length c) ds rows k) (hbel : Below w.heap.size w w5) (hof : w5.ownsRow base' e sz u n xs) (he : 71 ≠ e) (v5 : Value) : (w5.setCell ⟨g, j, none⟩ v5).ownsRow base' e sz u n xs := by
  have hown5 := own_keep h.own hbel (fun b hb => (h.own.lt b hb).2)
  rcases hown5.2 with ⟨e', _⟩ | ⟨g', cap, cur, e', _, hh, _⟩
  · cases e'
  · injection e' with e1
    injection e1 with e1
    injection e1 with e1
    subst e1
    exact own_far hof hh he _ _
/-- the three rows of a part of the call's own -/
structure OwnPart (w0 w : World) (base : Nat) (c : PartD) (iv kv rv : Value) (rows : List (RepD × Value)) (k : Nat) : Prop where
  isr : w.ownsRow base 4 1 iv c.isr.length (c.isr.map Value.bool)
  known : w.ownsRow base 3 1 kv c.known.length (c.known.map (Value.int .i64))
  reps : OwnP w0 w base rv c.reps rows k
theorem OwnPart.under {w0 w : World} {base k : Nat} {c : PartD} {iv kv rv : Value} {rows : List (RepD × Value)} (h : OwnPart w0 w base c iv kv rv rows k) {a : Addr} (ha : a.block < base ∧ w0.heap.size ≤ a.block) (u : Value) : OwnPart w0 (w.setCell a u) base c iv kv rv rows k :=
  ⟨ownsRow_setCell_below h.isr ha.1 u, ownsRow_setCell_below h.known ha.1 u, h.reps.under ha u⟩
theorem OwnPart.more {w0 w : World} {base base' k : Nat} {c : PartD} {iv kv rv : Value} {rows : List (RepD × Value)} (h : OwnPart w0 w base c iv kv rv rows k) (hb : base' ≤ base) : OwnPart w0 w base' c iv kv rv rows k :=
  ⟨own_base h.isr hb, own_base h.known hb, h.reps.more hb⟩
/-- what part.Copy leaves -/
def CopyPostP (w : World) (c : PartD) (e : Ending) (w' : World) : Prop := ∃ iv kv rv rows, e = .returned (partV c iv kv rv) ∧ OwnPart w w' w.heap.size c iv kv rv rows c.reps.length ∧ Below w.heap.size w w'
theorem OwnPart.pv {w0 w : World} {base : Nat} {c : PartD} {iv kv rv : Value} {rows : List (RepD × Value)} (h : OwnPart w0 w base c iv kv rv rows c.reps.length) (h1 : c.isr.length ≤ 9223372036854775807) (h2 : c.known.length ≤ 9223372036854775807) (h3 : c.reps.length ≤ 9223372036854775807) (h4 : ∀ t ∈ c.reps, t.bytes.length ≤ 9223372036854775807) : Pv w (partV c iv kv rv) c := by
  have hl : rows.length = c.reps.length := by rw [← h.reps.fst]; simp
  refine ⟨iv, kv, rv, rfl, Sl.of_own h.isr, Sl.of_own h.known, ⟨rows, h.reps.fst, Sl.of_own h.reps.own, fun t ht => ?_⟩, h1, h2, h3⟩
  have ht' : t ∈ rows.take c.reps.length := by rw [← hl, List.take_length]; exact ht
  refine ⟨?_, h4 _ (by rw [← h.reps.fst]; exact List.mem_map_of_mem ht)⟩
  have := Sl.of_own (h.reps.parts t ht')
  exact this
end Go.Proofs.Ytpjjfnpdopdnkaa
