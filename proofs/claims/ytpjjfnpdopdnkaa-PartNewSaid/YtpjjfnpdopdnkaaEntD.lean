/- Entries as plain data, and slices of entries: what they are. -/
import Derived.Test.YtpjjfnpdopdnkaaMem
namespace Go.Proofs.Ytpjjfnpdopdnkaa
open Go.RowKit

structure Ent where
  ep : Int
  pid : Int
  ver : Int
  seq : Int
  kind : Int
  txn : Bool
  text : ByteArray
def Ent.cells (e : Ent) : List Value := [.int .i64 e.ep, .int .i64 e.pid, .int .i64 e.ver, .int .i64 e.seq, .int .i64 e.kind, .bool e.txn, .string e.text]
theorem Ent.ext_ {x y : Ent} (h1 : x.ep = y.ep) (h2 : x.pid = y.pid) (h3 : x.ver = y.ver) (h4 : x.seq = y.seq) (h5 : x.kind = y.kind) (h6 : x.txn = y.txn) (h7 : x.text = y.text) : x = y := by
  cases x; cases y; simp_all
def ecs (l : List Ent) : List Value := l.flatMap Ent.cells
theorem ecs_length (l : List Ent) : (ecs l).length = l.length * 7 := by
  induction l with
  | nil => rfl
  | cons e l ih => simp only [ecs, List.flatMap_cons, List.length_append, List.length_cons] at *; rw [ih]; simp [Ent.cells]; omega
theorem ecs_append (l r : List Ent) : ecs (l ++ r) = ecs l ++ ecs r := by simp [ecs]
theorem ecs_one (l : List Ent) : ∀ x ∈ ecs l, x.oneCell' = true := by
  intro x hx
  simp only [ecs, List.mem_flatMap] at hx
  obtain ⟨e, _, hx⟩ := hx
  simp only [Ent.cells, List.mem_cons, List.not_mem_nil, or_false] at hx
  rcases hx with rfl | rfl | rfl | rfl | rfl | rfl | rfl <;> rfl
theorem ecs_get : ∀ (l : List Ent) (i : Nat) (h : i < l.length) (j : Nat), j < 7 → (ecs l)[i * 7 + j]? = (l[i].cells)[j]?
  | e :: l, 0, _, j, hj => by
    have : (ecs (e :: l)) = e.cells ++ ecs l := rfl
    rw [this, List.getElem?_append_left (by simp [Ent.cells]; omega)]
    simp
  | e :: l, i + 1, h, j, hj => by
    have e1 : (ecs (e :: l)) = e.cells ++ ecs l := rfl
    have hl : e.cells.length = 7 := rfl
    rw [e1, List.getElem?_append_right (by rw [hl]; omega), hl, show (i + 1) * 7 + j - 7 = i * 7 + j from by omega]
    exact ecs_get l i (by simpa using h) j hj
/-- v reads as the entries l -/
def Es (w : World) (v : Value) (l : List Ent) : Prop := Sl w 7 v l.length (ecs l)
theorem Es.below {w w' : World} {v : Value} {l : List Ent} (h : Es w v l) (hb : Below w.heap.size w w') : Es w' v l := Sl.below h hb
theorem Es.at_ {w : World} {v : Value} {l : List Ent} (h : Es w v l) : ∃ A c, v = .slice A l.length c ∧ l.length ≤ c ∧ (0 < l.length → ∃ b off, A = some ⟨b, off, none⟩ ∧ b < w.heap.size ∧
    ∀ i (hi : i < l.length), w.cell? ⟨b, off + i * 7, none⟩ = some (.int .i64 l[i].ep) ∧ w.cell? ⟨b, off + i * 7 + 1, none⟩ = some (.int .i64 l[i].pid) ∧ w.cell? ⟨b, off + i * 7 + 2, none⟩ = some (.int .i64 l[i].ver) ∧ w.cell? ⟨b, off + i * 7 + 3, none⟩ = some (.int .i64 l[i].seq) ∧
      w.cell? ⟨b, off + i * 7 + 4, none⟩ = some (.int .i64 l[i].kind) ∧ w.cell? ⟨b, off + i * 7 + 5, none⟩ = some (.bool l[i].txn) ∧ w.cell? ⟨b, off + i * 7 + 6, none⟩ = some (.string l[i].text)) := by
  obtain ⟨_, A, c, hv, hc, h2⟩ := h
  refine ⟨A, c, hv, hc, fun hn => ?_⟩
  obtain ⟨b, off, hA, hb, hcell⟩ := h2 hn
  refine ⟨b, off, hA, hb, fun i hi => ?_⟩
  have key : ∀ j u, j < 7 → (l[i].cells)[j]? = some u → w.cell? ⟨b, off + i * 7 + j, none⟩ = some u := fun j u hj hu => by
    rw [Nat.add_assoc]
    exact hcell (i * 7 + j) u ((ecs_get l i hi j hj).trans hu)
  exact ⟨key 0 _ (by omega) rfl, key 1 _ (by omega) rfl, key 2 _ (by omega) rfl, key 3 _ (by omega) rfl, key 4 _ (by omega) rfl, key 5 _ (by omega) rfl, key 6 _ (by omega) rfl⟩
end Go.Proofs.Ytpjjfnpdopdnkaa
