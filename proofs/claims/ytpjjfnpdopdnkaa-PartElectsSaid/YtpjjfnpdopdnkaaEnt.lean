/- Entries as plain data, and slices of entries. -/
import Derived.Test.YtpjjfnpdopdnkaaWire3
import Derived.Test.YtpjjfnpdopdnkaaDec1
namespace Go.Proofs.Ytpjjfnpdopdnkaa
open Go.RowKit

structure Ent where
  ep : Int
  pid : Int
  ver : Int
  seq : Int
  kind : Int
  txn : Bool
  text : ByteArray
def Ent.cells (e : Ent) : List Value := [.int .i64 e.ep, .int .i64 e.pid, .int .i64 e.ver, .int .i64 e.seq, .int .i64 e.kind, .bool e.txn, .string e.text]
theorem Ent.ext_ {x y : Ent} (h1 : x.ep = y.ep) (h2 : x.pid = y.pid) (h3 : x.ver = y.ver) (h4 : x.seq = y.seq) (h5 : x.kind = y.kind) (h6 : x.txn = y.txn) (h7 : x.text = y.text) : x = y := by
  cases x; cases y; simp_all
def ecs (l : List Ent) : List Value := l.flatMap Ent.cells
theorem ecs_length (l : List Ent) : (ecs l).length = l.length * 7 := by
  induction l with
  | nil => rfl
  | cons e l ih => simp only [ecs, List.flatMap_cons, List.length_append, List.length_cons] at *; rw [ih]; simp [Ent.cells]; omega
theorem ecs_append (l r : List Ent) : ecs (l ++ r) = ecs l ++ ecs r := by simp [ecs]
theorem ecs_one (l : List Ent) : ∀ x ∈ ecs l, x.oneCell' = true := by
  intro x hx
  simp only [ecs, List.mem_flatMap] at hx
  obtain ⟨e, _, hx⟩ := hx
  simp only [Ent.cells, List.mem_cons, List.not_mem_nil, or_false] at hx
  rcases hx with rfl | rfl | rfl | rfl | rfl | rfl | rfl <;> rfl
theorem ecs_get : ∀ (l : List Ent) (i : Nat) (h : i < l.length) (j : Nat), j < 7 → (ecs l)[i * 7 + j]? = (l[i].cells)[j]?
  | e :: l, 0, _, j, hj => by
    have : (ecs (e :: l)) = e.cells ++ ecs l := rfl
    rw [this, List.getElem?_append_left (by simp [Ent.cells]; omega)]
    simp
  | e :: l, i + 1, h, j, hj => by
    have e1 : (ecs (e :: l)) = e.cells ++ ecs l := rfl
    have hl : e.cells.length = 7 := rfl
    rw [e1, List.getElem?_append_right (by rw [hl]; omega), hl, show (i + 1) * 7 + j - 7 = i * 7 + j from by omega]
    exact ecs_get l i (by simpa using h) j hj
/-- v reads as the entries l -/
def Es (w : World) (v : Value) (l : List Ent) : Prop := Sl w 7 v l.length (ecs l)
theorem Es.below {w w' : World} {v : Value} {l : List Ent} (h : Es w v l) (hb : Below w.heap.size w w') : Es w' v l := Sl.below h hb
theorem Es.at_ {w : World} {v : Value} {l : List Ent} (h : Es w v l) : ∃ A c, v = .slice A l.length c ∧ l.length ≤ c ∧ (0 < l.length → ∃ b off, A = some ⟨b, off, none⟩ ∧ b < w.heap.size ∧
    ∀ i (hi : i < l.length), w.cell? ⟨b, off + i * 7, none⟩ = some (.int .i64 l[i].ep) ∧ w.cell? ⟨b, off + i * 7 + 1, none⟩ = some (.int .i64 l[i].pid) ∧ w.cell? ⟨b, off + i * 7 + 2, none⟩ = some (.int .i64 l[i].ver) ∧ w.cell? ⟨b, off + i * 7 + 3, none⟩ = some (.int .i64 l[i].seq) ∧
      w.cell? ⟨b, off + i * 7 + 4, none⟩ = some (.int .i64 l[i].kind) ∧ w.cell? ⟨b, off + i * 7 + 5, none⟩ = some (.bool l[i].txn) ∧ w.cell? ⟨b, off + i * 7 + 6, none⟩ = some (.string l[i].text)) := by
  obtain ⟨_, A, c, hv, hc, h2⟩ := h
  refine ⟨A, c, hv, hc, fun hn => ?_⟩
  obtain ⟨b, off, hA, hb, hcell⟩ := h2 hn
  refine ⟨b, off, hA, hb, fun i hi => ?_⟩
  have key : ∀ j u, j < 7 → (l[i].cells)[j]? = some u → w.cell? ⟨b, off + i * 7 + j, none⟩ = some u := fun j u hj hu => by
    rw [Nat.add_assoc]
    exact hcell (i * 7 + j) u ((ecs_get l i hi j hj).trans hu)
  exact ⟨key 0 _ (by omega) rfl, key 1 _ (by omega) rfl, key 2 _ (by omega) rfl, key 3 _ (by omega) rfl, key 4 _ (by omega) rfl, key 5 _ (by omega) rfl, key 6 _ (by omega) rfl⟩

/-- what a body says -/
def entP : List UInt8 → Option Ent
  | [] => none
  | k :: r0 =>
    if 32 ≤ k.toNat then none else
    match numP r0 with
    | none => none
    | some (a, r1) => match numP r1 with
      | none => none
      | some (b, r2) => match numP r2 with
        | none => none
        | some (c, r3) => match numP r3 with
          | none => none
          | some (d, r4) =>
            let e : Ent := ⟨a, b, c, d, (k.toNat % 16 : Nat), decide (k.toNat / 16 = 1), ⟨r4.toArray⟩⟩
            if entryFault e.ep e.pid e.ver e.seq e.kind e.txn e.text.size = 0 then some e else none

/-- what bytes say as far as they go, and how many these are -/
def decGo : Nat → List UInt8 → List Ent × Nat
  | 0, _ => ([], 0)
  | _ + 1, [] => ([], 0)
  | f + 1, k :: r =>
    if k.toNat = 0 ∨ r.length < k.toNat + 2 then ([], 0) else
    if wsum (r.take k.toNat) k.toNat % 65521 ≠ (r.getD k.toNat 0).toNat * 256 + (r.getD (k.toNat + 1) 0).toNat then ([], 0) else
    match entP (r.take k.toNat) with
    | none => ([], 0)
    | some e => (e :: (decGo f (r.drop (k.toNat + 2))).1, k.toNat + 3 + (decGo f (r.drop (k.toNat + 2))).2)
def dec (l : List UInt8) : List Ent × Nat := decGo l.length l
theorem decGo_fuel : ∀ (f f' : Nat) (l : List UInt8), l.length ≤ f → l.length ≤ f' → decGo f l = decGo f' l
  | 0, 0, _, _, _ => rfl
  | 0, f' + 1, l, h, _ => by
    have : l = [] := List.eq_nil_of_length_eq_zero (by omega)
    subst this; rfl
  | f + 1, 0, l, _, h => by
    have : l = [] := List.eq_nil_of_length_eq_zero (by omega)
    subst this; rfl
  | f + 1, f' + 1, [], _, _ => rfl
  | f + 1, f' + 1, k :: r, h, h' => by
    simp only [decGo]
    have hd : (r.drop (k.toNat + 2)).length ≤ f := by simp only [List.length_drop, List.length_cons] at *; omega
    have hd' : (r.drop (k.toNat + 2)).length ≤ f' := by simp only [List.length_drop, List.length_cons] at *; omega
    rw [decGo_fuel f f' _ hd hd']
theorem dec_nil : dec [] = ([], 0) := rfl
theorem dec_bad {k : UInt8} {r : List UInt8} (h : k.toNat = 0 ∨ r.length < k.toNat + 2) : dec (k :: r) = ([], 0) := by
  simp only [dec, List.length_cons, decGo, if_pos h]
theorem dec_sum {k : UInt8} {r : List UInt8} (h : ¬ (k.toNat = 0 ∨ r.length < k.toNat + 2)) (hs : wsum (r.take k.toNat) k.toNat % 65521 ≠ (r.getD k.toNat 0).toNat * 256 + (r.getD (k.toNat + 1) 0).toNat) : dec (k :: r) = ([], 0) := by
  simp only [dec, List.length_cons, decGo, if_neg h, if_pos hs]
theorem dec_body {k : UInt8} {r : List UInt8} (h : ¬ (k.toNat = 0 ∨ r.length < k.toNat + 2)) (he : entP (r.take k.toNat) = none) : dec (k :: r) = ([], 0) := by
  simp only [dec, List.length_cons, decGo, if_neg h, he]
  split <;> rfl
theorem dec_step {k : UInt8} {r : List UInt8} {e : Ent} (h : ¬ (k.toNat = 0 ∨ r.length < k.toNat + 2)) (hs : wsum (r.take k.toNat) k.toNat % 65521 = (r.getD k.toNat 0).toNat * 256 + (r.getD (k.toNat + 1) 0).toNat) (he : entP (r.take k.toNat) = some e) :
    dec (k :: r) = (e :: (dec (r.drop (k.toNat + 2))).1, k.toNat + 3 + (dec (r.drop (k.toNat + 2))).2) := by
  have hf : decGo r.length (r.drop (k.toNat + 2)) = dec (r.drop (k.toNat + 2)) := decGo_fuel _ _ _ (by simp) (Nat.le_refl _)
  have hs' : ¬ (wsum (r.take k.toNat) k.toNat % 65521 ≠ (r.getD k.toNat 0).toNat * 256 + (r.getD (k.toNat + 1) 0).toNat) := fun hn => hn hs
  simp only [dec, List.length_cons, decGo, if_neg h, if_neg hs', he]
  simp only [dec] at hf
  rw [hf]

end Go.Proofs.Ytpjjfnpdopdnkaa
