/- What may be a group: plain statements. -/
import Derived.Test.YtjkoceacjbhblaaCoordS
import Derived.Test.YtjkoceacjbhblaaGroupD
import Derived.Test.YtjkoceacjbhblaaTxnB
namespace Go.Proofs.Ytjkoceacjbhblaa
open Go.RowKit

structure MemOk (clock : Int) (t : MemD) : Prop where
  name : NameOk t.name
  heard : 0 ≤ t.heard ∧ t.heard ≤ clock
  rises : Rises t.parts
def MemsOk (clock : Int) (ms : List MemD) (n : Nat) : Prop := ∀ i (h : i < ms.length), i < n → MemOk clock ms[i] ∧ ∀ k (hk : k < i), ms[k].name ≠ ms[i].name
structure OffsOk (os : List OffD) : Prop where
  at_ : ∀ o ∈ os, 0 ≤ o.at_ ∧ o.at_ ≤ 400
  rises : Rises (os.map OffD.part)
structure GroupOk (g : GroupD) : Prop where
  clock : 0 ≤ g.clock ∧ g.clock ≤ 1073741824
  wait : 1 ≤ g.wait ∧ g.wait ≤ 1000
  gen : 0 ≤ g.gen ∧ g.gen ≤ 1073741824
  many : g.mems.length ≤ 6
  offs : g.offs.length ≤ 4
  all : MemsOk g.clock g.mems g.mems.length
  offsOk : OffsOk g.offs
def NamedAt (ms : List MemD) (s : ByteArray) (j : Nat) : Prop := ∃ h : j < ms.length, ms[j].name = s
theorem MemsOk.step {ck : Int} {ms : List MemD} {k : Nat} (h : MemsOk ck ms k) (hk : k < ms.length) (ht : MemOk ck ms[k]) (hc : ¬ ∃ j, j < k ∧ NamedAt ms ms[k].name j) : MemsOk ck ms (k + 1) := by
  intro i hi hik
  rcases Nat.lt_succ_iff_lt_or_eq.1 hik with h' | rfl
  · exact h i hi h'
  · exact ⟨ht, fun j hj he => hc ⟨j, hj, by omega, he⟩⟩
theorem not_ok_mem {g : GroupD} {k : Nat} (hk : k < g.mems.length) (h : ¬ MemOk g.clock g.mems[k]) : ¬ GroupOk g := fun hg => h (hg.all k hk hk).1
theorem not_ok_named {g : GroupD} {k : Nat} (hk : k < g.mems.length) (h : ∃ j, j < k ∧ NamedAt g.mems g.mems[k].name j) : ¬ GroupOk g := by
  obtain ⟨j, hj, hl, he⟩ := h
  exact fun hg => (hg.all k hk hk).2 j hj he
/-- the first n offsets may be -/
def OffsTo (os : List OffD) (n : Nat) : Prop := (∀ j (h : j < os.length), j < n → 0 ≤ os[j].at_ ∧ os[j].at_ ≤ 400) ∧ RisesTo (os.map OffD.part) n
theorem OffsTo.all {os : List OffD} (h : OffsTo os os.length) : OffsOk os :=
  ⟨fun o ho => by obtain ⟨i, hi, rfl⟩ := List.mem_iff_getElem.1 ho; exact h.1 i hi hi, RisesTo.all (by have := h.2; rw [List.length_map]; exact this)⟩
theorem OffsTo.zero (os : List OffD) : OffsTo os 0 := ⟨fun j _ hj => by omega, fun k _ hk => by omega⟩
theorem OffsTo.step {os : List OffD} {n : Nat} (h : OffsTo os n) (hn : n < os.length) (h0 : 0 ≤ os[n].at_) (h1 : os[n].at_ ≤ 400) (h2 : 0 ≤ os[n].part) (h3 : os[n].part ≤ 3) (hs : ∀ j (hj : j + 1 = n), os[j].part < os[n].part) : OffsTo os (n + 1) := by
  refine ⟨fun j hj hjn => ?_, ?_⟩
  · rcases Nat.lt_succ_iff_lt_or_eq.1 hjn with h' | rfl
    · exact h.1 j hj h'
    · exact ⟨h0, h1⟩
  · refine h.2.step (by simpa using hn) (by simpa using h2) (by simpa using h3) ?_
    intro j hj
    simpa using hs j hj
theorem not_ok_off {g : GroupD} {k : Nat} (hk : k < g.offs.length) (h : g.offs[k].at_ < 0 ∨ 400 < g.offs[k].at_ ∨ g.offs[k].part < 0 ∨ 3 < g.offs[k].part ∨ ∃ j, ∃ hj : j + 1 = k, g.offs[k].part ≤ g.offs[j].part) : ¬ GroupOk g := by
  intro hg
  have h1 := hg.offsOk.at_ g.offs[k] (List.getElem_mem _)
  have h2 := hg.offsOk.rises k (by simpa using hk)
  simp only [List.getElem_map] at h2
  rcases h with h | h | h | h | ⟨j, hj, h⟩
  · omega
  · omega
  · omega
  · omega
  · have := h2.2.2 j hj
    omega
theorem GroupOk.bounds {g : GroupD} (h : GroupOk g) : (g.mems.length * 48 ≤ 140737488355328 ∧ (∀ t ∈ g.mems, t.parts.length * 8 ≤ 140737488355328) ∧ g.offs.length * 16 ≤ 140737488355328) ∧ g.mems.length ≤ 9223372036854775807 ∧ g.offs.length ≤ 9223372036854775807 ∧ ∀ t ∈ g.mems, t.parts.length ≤ 9223372036854775807 := by
  have h1 := h.many
  have h2 := h.offs
  have h3 : ∀ t ∈ g.mems, t.parts.length ≤ 4 := fun t ht => by
    obtain ⟨i, hi, rfl⟩ := List.mem_iff_getElem.1 ht
    exact ((h.all i hi hi).1.rises).small
  refine ⟨⟨by omega, fun t ht => by have := h3 t ht; omega, by omega⟩, by omega, by omega, fun t ht => by have := h3 t ht; omega⟩
end Go.Proofs.Ytjkoceacjbhblaa
