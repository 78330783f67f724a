/- Entries as plain data, and slices of entries. -/
import Derived.Test.YtpjjfnpdopdnkaaWire3
import Derived.Test.YtpjjfnpdopdnkaaDec1
import Derived.Test.YtpjjfnpdopdnkaaEntD
namespace Go.Proofs.Ytpjjfnpdopdnkaa
open Go.RowKit

/-- what a body says -/
def entP : List UInt8 → Option Ent
  | [] => none
  | k :: r0 =>
    if 32 ≤ k.toNat then none else
    match numP r0 with
    | none => none
    | some (a, r1) => match numP r1 with
      | none => none
      | some (b, r2) => match numP r2 with
        | none => none
        | some (c, r3) => match numP r3 with
          | none => none
          | some (d, r4) =>
            let e : Ent := ⟨a, b, c, d, (k.toNat % 16 : Nat), decide (k.toNat / 16 = 1), ⟨r4.toArray⟩⟩
            if entryFault e.ep e.pid e.ver e.seq e.kind e.txn e.text.size = 0 then some e else none

/-- what bytes say as far as they go, and how many these are -/
def decGo : Nat → List UInt8 → List Ent × Nat
  | 0, _ => ([], 0)
  | _ + 1, [] => ([], 0)
  | f + 1, k :: r =>
    if k.toNat = 0 ∨ r.length < k.toNat + 2 then ([], 0) else
    if wsum (r.take k.toNat) k.toNat % 65521 ≠ (r.getD k.toNat 0).toNat * 256 + (r.getD (k.toNat + 1) 0).toNat then ([], 0) else
    match entP (r.take k.toNat) with
    | none => ([], 0)
    | some e => (e :: (decGo f (r.drop (k.toNat + 2))).1, k.toNat + 3 + (decGo f (r.drop (k.toNat + 2))).2)
def dec (l : List UInt8) : List Ent × Nat := decGo l.length l
theorem decGo_fuel : ∀ (f f' : Nat) (l : List UInt8), l.length ≤ f → l.length ≤ f' → decGo f l = decGo f' l
  | 0, 0, _, _, _ => rfl
  | 0, f' + 1, l, h, _ => by
    have : l = [] := List.eq_nil_of_length_eq_zero (by omega)
    subst this; rfl
  | f + 1, 0, l, _, h => by
    have : l = [] := List.eq_nil_of_length_eq_zero (by omega)
    subst this; rfl
  | f + 1, f' + 1, [], _, _ => rfl
  | f + 1, f' + 1, k :: r, h, h' => by
    simp only [decGo]
    have hd : (r.drop (k.toNat + 2)).length ≤ f := by simp only [List.length_drop, List.length_cons] at *; omega
    have hd' : (r.drop (k.toNat + 2)).length ≤ f' := by simp only [List.length_drop, List.length_cons] at *; omega
    rw [decGo_fuel f f' _ hd hd']
theorem dec_nil : dec [] = ([], 0) := rfl
theorem dec_bad {k : UInt8} {r : List UInt8} (h : k.toNat = 0 ∨ r.length < k.toNat + 2) : dec (k :: r) = ([], 0) := by
  simp only [dec, List.length_cons, decGo, if_pos h]
theorem dec_sum {k : UInt8} {r : List UInt8} (h : ¬ (k.toNat = 0 ∨ r.length < k.toNat + 2)) (hs : wsum (r.take k.toNat) k.toNat % 65521 ≠ (r.getD k.toNat 0).toNat * 256 + (r.getD (k.toNat + 1) 0).toNat) : dec (k :: r) = ([], 0) := by
  simp only [dec, List.length_cons, decGo, if_neg h, if_pos hs]
theorem dec_body {k : UInt8} {r : List UInt8} (h : ¬ (k.toNat = 0 ∨ r.length < k.toNat + 2)) (he : entP (r.take k.toNat) = none) : dec (k :: r) = ([], 0) := by
  simp only [dec, List.length_cons, decGo, if_neg h, he]
  split <;> rfl
theorem dec_step {k : UInt8} {r : List UInt8} {e : Ent} (h : ¬ (k.toNat = 0 ∨ r.length < k.toNat + 2)) (hs : wsum (r.take k.toNat) k.toNat % 65521 = (r.getD k.toNat 0).toNat * 256 + (r.getD (k.toNat + 1) 0).toNat) (he : entP (r.take k.toNat) = some e) :
    dec (k :: r) = (e :: (dec (r.drop (k.toNat + 2))).1, k.toNat + 3 + (dec (r.drop (k.toNat + 2))).2) := by
  have hf : decGo r.length (r.drop (k.toNat + 2)) = dec (r.drop (k.toNat + 2)) := decGo_fuel _ _ _ (by simp) (Nat.le_refl _)
  have hs' : ¬ (wsum (r.take k.toNat) k.toNat % 65521 ≠ (r.getD k.toNat 0).toNat * 256 + (r.getD (k.toNat + 1) 0).toNat) := fun hn => hn hs
  simp only [dec, List.length_cons, decGo, if_neg h, if_neg hs', he]
  simp only [dec] at hf
  rw [hf]

end Go.Proofs.Ytpjjfnpdopdnkaa
