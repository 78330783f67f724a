/- More on frames: lengths. No program here. -/
import Derived.Test.YtpjjfnpdopdnkaaFr
namespace Go.Proofs.Ytpjjfnpdopdnkaa
open Go.RowKit

theorem flat_long (es : List Ent) : es.length ≤ (flat es).length := by
  induction es with
  | nil => simp
  | cons e es ih => simp only [flat_cons, List.length_append, List.length_cons, Ent.enc_len]; omega
theorem dec_len (l : List UInt8) : (dec l).1.length ≤ l.length := by
  have h1 := dec_le l
  obtain ⟨-, r, h2, h3⟩ := dec_inv _ l (Nat.le_refl _)
  have := flat_long (dec l).1
  omega
theorem flat_take_mono (es : List Ent) {i j : Nat} (h : i ≤ j) : (flat (es.take i)).length ≤ (flat (es.take j)).length := by
  have e : es.take i = (es.take j).take i := by rw [List.take_take]; congr 1; omega
  rw [e]
  exact flat_take_le _ _
theorem frame_at {es : List Ent} (hok : ∀ e ∈ es, e.ok) {k : Nat} (h : k < es.length) :
    ∃ n, (∃ hlt : (flat (es.take k)).length < (flat es).length, ((flat es)[(flat (es.take k)).length]).toNat = n) ∧ n < 256 ∧ (flat (es.take (k + 1))).length = (flat (es.take k)).length + n + 3 := by
  have e1 : flat es = flat (es.take k) ++ (es[k].enc ++ flat (es.drop (k + 1))) := by
    rw [← flat_cons, ← List.drop_eq_getElem_cons h, ← flat_append, List.take_append_drop]
  have hb := Ent.body_len_ (hok es[k] (List.getElem_mem _))
  have e2 : (flat es)[(flat (es.take k)).length]? = some es[k].body.length.toUInt8 := by
    rw [e1, List.getElem?_append_right (Nat.le_refl _), Nat.sub_self, Ent.enc_eq]; rfl
  obtain ⟨hlt, e3⟩ := List.getElem?_eq_some_iff.1 e2
  refine ⟨es[k].body.length, ⟨hlt, ?_⟩, by omega, ?_⟩
  · rw [e3]; simp; omega
  · rw [flat_take_succ es k h, List.length_append, Ent.enc_len]; omega
/-- walking over frames up to s -/
def FrLp (es : List Ent) (s at_ : Nat) : Prop := ∃ k, k ≤ es.length ∧ at_ = (flat (es.take k)).length ∧ ∀ j, j < k → (flat (es.take j)).length < s
theorem frLp_start (es : List Ent) (s : Nat) : FrLp es s 0 := ⟨0, Nat.zero_le _, rfl, fun j hj => by omega⟩
theorem frLp_next {es : List Ent} {s at_ : Nat} (h : FrLp es s at_) (hok : ∀ e ∈ es, e.ok) (hs : s ≤ (flat es).length) (hlt : at_ < s) :
    ∃ n, (∃ hl : at_ < (flat es).length, ((flat es)[at_]).toNat = n) ∧ n < 256 ∧ FrLp es s (at_ + n + 3) := by
  obtain ⟨k, hk, rfl, hj⟩ := h
  have hk' : k < es.length := by
    rcases Nat.lt_or_ge k es.length with h' | h'
    · exact h'
    · rw [List.take_of_length_le h'] at hlt; omega
  obtain ⟨n, h1, h2, h3⟩ := frame_at hok hk'
  refine ⟨n, h1, h2, k + 1, hk', h3.symm, fun j hjk => ?_⟩
  rcases Nat.lt_succ_iff_lt_or_eq.1 hjk with h' | rfl
  · exact hj j h'
  · exact hlt
theorem frLp_end {es : List Ent} {s at_ : Nat} (h : FrLp es s at_) (hok : ∀ e ∈ es, e.ok) (hs : s ≤ (flat es).length) (hge : ¬ at_ < s) : (dec ((flat es).take s)).2 = s ↔ at_ = s := by
  obtain ⟨k, hk, rfl, hj⟩ := h
  constructor
  · intro hd
    obtain ⟨j, hjl, he, -⟩ := dec_prefix hok hs hd
    rcases Nat.lt_or_ge j k with h' | h'
    · have := hj j h'; omega
    · have := flat_take_mono es h'; omega
  · intro he
    rw [← he, flat_take, dec_all fun x hx => hok x (List.mem_of_mem_take hx)]
theorem logFault_dec {l : List UInt8} {s : Int} {es : List Ent} {n : Nat} (hd : dec l = (es, n)) : logFault ⟨l, s⟩ =
    if 40000 < l.length then 1 else if n ≠ l.length ∨ 400 < es.length then 4 else if s < 0 ∨ (l.length : Int) < s then 2 else if (dec (l.take s.toNat)).2 ≠ s.toNat then 4 else 0 := by
  unfold logFault
  simp only [hd]
theorem dec_parts {l : List UInt8} {es : List Ent} {n : Nat} (hd : dec l = (es, n)) : n ≤ l.length ∧ es.length ≤ l.length ∧ (∀ e ∈ es, e.ok) ∧ (n = l.length → l = flat es) := by
  have h1 := dec_le l
  have h2 := dec_len l
  have h3 := dec_ok l
  have h4 := dec_full (l := l)
  rw [hd] at h1 h2 h3 h4
  exact ⟨h1, h2, h3, h4⟩
end Go.Proofs.Ytpjjfnpdopdnkaa
