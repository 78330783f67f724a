/- The order of names; the comparison of group.Assign over names in memory. -/
import Derived.Test.YtjkoceacjbhblaaSrtH
import Derived.Test.YtjkoceacjbhblaaSame1
namespace Go.Proofs.Ytjkoceacjbhblaa
open Go.RowKit

theorem less_asym : ∀ (x y : List UInt8), Op.bytesLess x y = true → Op.bytesLess y x = false
  | _, [], h => by simp [Op.bytesLess] at h
  | [], _ :: _, _ => by simp [Op.bytesLess]
  | a :: x, b :: y, h => by
    simp only [Op.bytesLess, Bool.or_eq_true, Bool.and_eq_true, decide_eq_true_eq, beq_iff_eq] at h
    have ih := less_asym x y
    rcases h with h | ⟨rfl, h⟩
    · have h2 : a.toNat < b.toNat := UInt8.lt_iff_toNat_lt.1 h
      have h3 : ¬ b < a := fun e => by have := UInt8.lt_iff_toNat_lt.1 e; omega
      have h4 : ¬ b = a := fun e => by subst e; omega
      simp [Op.bytesLess, h3, h4]
    · simp [Op.bytesLess, ih h, UInt8.lt_irrefl]
theorem less_total : ∀ (x y : List UInt8), Op.bytesLess x y = false → Op.bytesLess y x = false → x = y
  | [], [], _, _ => rfl
  | _ :: _, [], _, h => by simp [Op.bytesLess] at h
  | [], _ :: _, h, _ => by simp [Op.bytesLess] at h
  | a :: x, b :: y, h, k => by
    simp only [Op.bytesLess, Bool.or_eq_false_iff, Bool.and_eq_false_iff, decide_eq_false_iff_not, beq_eq_false_iff_ne] at h k
    have h1 : a = b := by
      have n1 : ¬ a.toNat < b.toNat := fun e => h.1 (UInt8.lt_iff_toNat_lt.2 e)
      have n2 : ¬ b.toNat < a.toNat := fun e => k.1 (UInt8.lt_iff_toNat_lt.2 e)
      exact UInt8.toNat_inj.1 (by omega)
    subst h1
    congr 1
    exact less_total x y (h.2.resolve_left fun e => e rfl) (k.2.resolve_left fun e => e rfl)
theorem less_trans : ∀ (x y z : List UInt8), Op.bytesLess x y = true → Op.bytesLess y z = true → Op.bytesLess x z = true
  | _, [], _, h, _ => by simp [Op.bytesLess] at h
  | _, _ :: _, [], _, k => by simp [Op.bytesLess] at k
  | [], _ :: _, _ :: _, _, _ => by simp [Op.bytesLess]
  | a :: x, b :: y, c :: z, h, k => by
    simp only [Op.bytesLess, Bool.or_eq_true, Bool.and_eq_true, decide_eq_true_eq, beq_iff_eq] at h k ⊢
    have ih := less_trans x y z
    rcases h with h | ⟨rfl, h⟩
    · rcases k with k | ⟨rfl, k⟩
      · exact Or.inl (UInt8.lt_trans h k)
      · exact Or.inl h
    · rcases k with k | ⟨rfl, k⟩
      · exact Or.inl k
      · exact Or.inr ⟨rfl, ih h k⟩
/-- the k-th of some names -/
def nth (N : List ByteArray) (k : Nat) : ByteArray := N[k]?.getD ByteArray.empty
theorem nth_get {N : List ByteArray} {k : Nat} (h : k < N.length) : nth N k = N[k] := by simp [nth, h]
def lessN (N : List ByteArray) (x y : Nat) : Bool := Op.bytesLess (nth N x).toList (nth N y).toList
/-- what the comparison tells -/
def cmpF (N : List ByteArray) (x y : Nat) : Int := if lessN N x y = true then -1 else if ((nth N x).toList == (nth N y).toList) = true then 0 else 1
theorem lt_cmpF (N : List ByteArray) (x y : Nat) : Lt (cmpF N) x y ↔ lessN N x y = true := by
  unfold Lt cmpF
  split
  · rename_i h; simp [h]
  · split <;> rename_i h _ <;> simp [h]
theorem ordr_cmpF (N : List ByteArray) : Ordr (Lt (cmpF N)) := by
  refine ⟨fun x y h k => ?_, fun x y z h => ?_⟩
  · rw [lt_cmpF] at h k
    have := less_asym _ _ h
    unfold lessN at k
    rw [this] at k
    cases k
  · rw [lt_cmpF] at *
    rw [lt_cmpF]
    cases h1 : lessN N x y with
    | true => exact Or.inl rfl
    | false =>
      right
      cases h2 : lessN N y x with
      | true => exact less_trans _ _ _ h2 h
      | false =>
        have e := less_total _ _ h1 h2
        unfold lessN at *
        rw [← e]
        exact h
/-- which of two comes first: by name, else by place -/
theorem tie_cmpF (N : List ByteArray) (x y : Nat) : Tie (Lt (cmpF N)) x y ↔ lessN N x y = true ∨ (((nth N x).toList == (nth N y).toList) = true ∧ x < y) := by
  unfold Tie
  rw [lt_cmpF, lt_cmpF]
  constructor
  · rintro (h | ⟨h, hx⟩)
    · exact Or.inl h
    · cases h1 : lessN N x y with
      | true => exact Or.inl rfl
      | false => exact Or.inr ⟨beq_iff_eq.2 (less_total _ _ h1 (Bool.eq_false_iff.2 h)), hx⟩
  · rintro (h | ⟨h, hx⟩)
    · exact Or.inl h
    · refine Or.inr ⟨fun k => ?_, hx⟩
      have e := beq_iff_eq.1 h
      unfold lessN at k
      rw [e] at k
      have := less_asym _ _ k
      rw [k] at this
      cases this
/-- the names lie in memory, the pointer's cell holds their slice -/
structure NamesAt (w0 : World) (p b n : Nat) (N : List ByteArray) (A : Option Addr) (c : Nat) : Prop where
  len : N.length = n
  ptr : w0.cell? ⟨p, 0, none⟩ = some (.slice A n c)
  ne : p ≠ b
  at_ : 0 < n → ∃ nb off, A = some ⟨nb, off, none⟩ ∧ nb ≠ b ∧ ∀ k (h : k < N.length), w0.cell? ⟨nb, off + k, none⟩ = some (.string N[k])

set_option maxRecDepth 100000 in
set_option maxHeartbeats 4000000 in
theorem cmp_names (w0 : World) (p b n c : Nat) (N : List ByteArray) (A : Option Addr) (hn : n < 8796093022208) (h : NamesAt w0 p b n N A c) : CmpA p w0 b n (cmpF N) := by
  intro f W hW x y hx hy
  obtain ⟨nb, off, rfl, hne, hcell⟩ := h.at_ (by omega)
  have cp : W.cell? ⟨p, 0, none⟩ = some (.slice (some ⟨nb, off, none⟩) n c) := (World.cell?_of_block (hW.far p h.ne)).trans h.ptr
  have cx : W.cell? ⟨nb, off + x, none⟩ = some (.string (nth N x)) := by
    rw [nth_get (by rw [h.len]; exact hx)]
    exact (World.cell?_of_block (hW.far nb hne)).trans (hcell x (by rw [h.len]; exact hx))
  have cy : W.cell? ⟨nb, off + y, none⟩ = some (.string (nth N y)) := by
    rw [nth_get (by rw [h.len]; exact hy)]
    exact (World.cell?_of_block (hW.far nb hne)).trans (hcell y (by rw [h.len]; exact hy))
  obtain ⟨s, hs⟩ : ∃ s, s = nth N x := ⟨_, rfl⟩
  obtain ⟨t, ht⟩ : ∃ t, t = nth N y := ⟨_, rfl⟩
  rw [← hs] at cx
  rw [← ht] at cy
  have hcf : cmpF N x y = if Op.bytesLess s.toList t.toList = true then -1 else if (s.toList == t.toList) = true then 0 else 1 := by rw [hs, ht]; rfl
  have HCF := Lib.hid hcf
  clear hs ht hcf h hcell hne hW
  have bx : (x : Int) < (n : Int) := by omega
  have by_ : (y : Int) < (n : Int) := by omega
  show Calls Try.prog 96 #[.int .i64 x, .int .i64 y, .pointer (some ⟨p, 0, none⟩)] W _
  cases h1 : Op.bytesLess s.toList t.toList with
  | true =>
    go_enter Try.func96, Try.ntmps96
    go_wp2
    go_quiet (fail)
    go_wp2
    go_ret
    exact ⟨by rw [HCF.out, h1]; rfl, _, rfl⟩
  | false =>
    cases h2 : s.toList == t.toList with
    | true =>
      go_enter Try.func96, Try.ntmps96
      go_wp2
      go_quiet (fail)
      go_wp2
      go_quiet (fail)
      go_wp2
      go_ret
      exact ⟨by rw [HCF.out, h1, h2]; rfl, _, World.drewN_drewN _ _ _⟩
    | false =>
      go_enter Try.func96, Try.ntmps96
      go_wp2
      go_quiet (fail)
      go_wp2
      go_quiet (fail)
      go_wp2
      go_ret
      exact ⟨by rw [HCF.out, h1, h2]; rfl, _, World.drewN_drewN _ _ _⟩
end Go.Proofs.Ytjkoceacjbhblaa
