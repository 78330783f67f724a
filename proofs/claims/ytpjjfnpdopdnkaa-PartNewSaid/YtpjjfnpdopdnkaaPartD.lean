/- Parts as plain data, and how they lie in memory. -/
import Derived.Test.YtpjjfnpdopdnkaaSame1
import Derived.Test.YtpjjfnpdopdnkaaBlkB
import Derived.Test.YtpjjfnpdopdnkaaTells
namespace Go.Proofs.Ytpjjfnpdopdnkaa
open Go.RowKit

structure RepD where
  up : Bool
  bytes : List UInt8
  synced : Int
  high : Int
structure PartD where
  epoch : Int
  leader : Int
  isr : List Bool
  known : List Int
  reps : List RepD
  few : Int
  base : Int
/-- a row of the slice: its data and the slice of its bytes -/
def rcells (t : RepD × Value) : List Value := [.bool t.1.up, t.2, .int .i64 t.1.synced, .int .i64 t.1.high]
theorem rcells_get : ∀ (l : List (RepD × Value)) (i : Nat) (h : i < l.length) (j : Nat), j < 4 → (l.flatMap rcells)[i * 4 + j]? = (rcells l[i])[j]?
  | e :: l, 0, _, j, hj => by
    rw [List.flatMap_cons, List.getElem?_append_left (by simp [rcells]; omega)]
    simp
  | e :: l, i + 1, h, j, hj => by
    have hl : (rcells e).length = 4 := rfl
    rw [List.flatMap_cons, List.getElem?_append_right (by rw [hl]; omega), hl, show (i + 1) * 4 + j - 4 = i * 4 + j from by omega]
    exact rcells_get l i (by simpa using h) j hj
/-- v reads as the replicas ds -/
def Reps (w : World) (v : Value) (ds : List RepD) : Prop :=
  ∃ rows : List (RepD × Value), rows.map Prod.fst = ds ∧ Sl w 4 v ds.length (rows.flatMap rcells) ∧ ∀ t ∈ rows, By w t.2 t.1.bytes ∧ t.1.bytes.length ≤ 9223372036854775807
def partV (c : PartD) (iv kv rv : Value) : Value := .agg #[.int .i64 c.epoch, .int .i64 c.leader, iv, kv, rv, .int .i64 c.few, .int .i64 c.base]
def Pv (w : World) (v : Value) (c : PartD) : Prop := ∃ iv kv rv, v = partV c iv kv rv ∧ Bs w iv c.isr ∧ Is w kv c.known ∧ Reps w rv c.reps ∧ c.isr.length ≤ 9223372036854775807 ∧ c.known.length ≤ 9223372036854775807 ∧ c.reps.length ≤ 9223372036854775807
theorem Reps.below {w w' : World} {v : Value} {ds : List RepD} (h : Reps w v ds) (hb : Below w.heap.size w w') : Reps w' v ds := by
  obtain ⟨rows, h1, h2, h3⟩ := h
  exact ⟨rows, h1, h2.below hb, fun t ht => ⟨(h3 t ht).1.below hb, (h3 t ht).2⟩⟩
theorem Pv.below {w w' : World} {v : Value} {c : PartD} (h : Pv w v c) (hb : Below w.heap.size w w') : Pv w' v c := by
  obtain ⟨iv, kv, rv, h1, h2, h3, h4, h5⟩ := h
  exact ⟨iv, kv, rv, h1, h2.below hb, h3.below hb, h4.below hb, h5⟩
theorem Reps.at_ {w : World} {v : Value} {ds : List RepD} (h : Reps w v ds) : ∃ A c, v = .slice A ds.length c ∧ ds.length ≤ c ∧ (0 < ds.length → ∃ b off, A = some ⟨b, off, none⟩ ∧ b < w.heap.size ∧
    ∀ i (hi : i < ds.length), ∃ pv, w.cell? ⟨b, off + i * 4, none⟩ = some (.bool ds[i].up) ∧ w.cell? ⟨b, off + i * 4 + 1, none⟩ = some pv ∧ w.cell? ⟨b, off + i * 4 + 2, none⟩ = some (.int .i64 ds[i].synced) ∧ w.cell? ⟨b, off + i * 4 + 3, none⟩ = some (.int .i64 ds[i].high) ∧ By w pv ds[i].bytes ∧ ds[i].bytes.length ≤ 9223372036854775807) := by
  obtain ⟨rows, hr, ⟨hl, A, c, hv, hc, h2⟩, h3⟩ := h
  refine ⟨A, c, hv, hc, fun hn => ?_⟩
  obtain ⟨b, off, hA, hb, hcell⟩ := h2 hn
  refine ⟨b, off, hA, hb, fun i hi => ?_⟩
  subst hr
  have hi' : i < rows.length := by simpa using hi
  have he : (rows.map Prod.fst)[i] = rows[i].1 := by simp
  rw [he]
  have key : ∀ j u, j < 4 → (rcells rows[i])[j]? = some u → w.cell? ⟨b, off + i * 4 + j, none⟩ = some u := fun j u hj hu => by
    rw [Nat.add_assoc]
    exact hcell (i * 4 + j) u ((rcells_get rows i hi' j hj).trans hu)
  have hm := h3 rows[i] (List.getElem_mem _)
  exact ⟨rows[i].2, key 0 _ (by omega) rfl, key 1 _ (by omega) rfl, key 2 _ (by omega) rfl, key 3 _ (by omega) rfl, hm.1, hm.2⟩
end Go.Proofs.Ytpjjfnpdopdnkaa
