/- Parts of a proof, merged: TxnB, GroupS, IdxMem, Ans, ClashB, CheckB, GrpC, MayB, GrpM, CloneMem, CloneOff, GroupCopy, FindB, KnownA, CoordR. No condition. -/
import Derived.Test.YtjkoceacjbhblaaGs1
import Derived.Outline
import Derived.Shelf.AbstractIn
import Derived.Deep.QuietTactic
import Derived.Deep.CutRange
namespace Go.Proofs.Ytjkoceacjbhblaa
open Go.RowKit

theorem rises_no {l : List Int} {k : Nat} (hk : k < l.length) (h : l[k] < 0 ∨ 3 < l[k] ∨ ∃ j, ∃ hj : j + 1 = k, l[k] ≤ l[j]) : ¬ Rises l := by
  intro hr
  have h1 := hr k hk
  rcases h with h | h | ⟨j, hj, h⟩
  · omega
  · omega
  · have := h1.2.2 j hj
    omega
/-- the first k rise -/
def RisesTo (l : List Int) (n : Nat) : Prop := ∀ k (h : k < l.length), k < n → 0 ≤ l[k] ∧ l[k] ≤ 3 ∧ ∀ j (_ : j + 1 = k), l[j] < l[k]
theorem RisesTo.step {l : List Int} {n : Nat} (h : RisesTo l n) (hn : n < l.length) (h0 : 0 ≤ l[n]) (h3 : l[n] ≤ 3) (hs : ∀ j (_ : j + 1 = n), l[j] < l[n]) : RisesTo l (n + 1) := by
  intro k hk hkn
  rcases Nat.lt_succ_iff_lt_or_eq.1 hkn with h' | rfl
  · exact h k hk h'
  · exact ⟨h0, h3, hs⟩
theorem RisesTo.all {l : List Int} (h : RisesTo l l.length) : Rises l := fun k hk => h k hk hk

end Go.Proofs.Ytjkoceacjbhblaa
namespace Go.Proofs.Ytjkoceacjbhblaa
open Go.RowKit

structure MemOk (clock : Int) (t : MemD) : Prop where
  name : NameOk t.name
  heard : 0 ≤ t.heard ∧ t.heard ≤ clock
  rises : Rises t.parts
def MemsOk (clock : Int) (ms : List MemD) (n : Nat) : Prop := ∀ i (h : i < ms.length), i < n → MemOk clock ms[i] ∧ ∀ k (hk : k < i), ms[k].name ≠ ms[i].name
structure OffsOk (os : List OffD) : Prop where
  at_ : ∀ o ∈ os, 0 ≤ o.at_ ∧ o.at_ ≤ 400
  rises : Rises (os.map OffD.part)
structure GroupOk (g : GroupD) : Prop where
  clock : 0 ≤ g.clock ∧ g.clock ≤ 1073741824
  wait : 1 ≤ g.wait ∧ g.wait ≤ 1000
  gen : 0 ≤ g.gen ∧ g.gen ≤ 1073741824
  many : g.mems.length ≤ 6
  offs : g.offs.length ≤ 4
  all : MemsOk g.clock g.mems g.mems.length
  offsOk : OffsOk g.offs
def NamedAt (ms : List MemD) (s : ByteArray) (j : Nat) : Prop := ∃ h : j < ms.length, ms[j].name = s
theorem MemsOk.step {ck : Int} {ms : List MemD} {k : Nat} (h : MemsOk ck ms k) (hk : k < ms.length) (ht : MemOk ck ms[k]) (hc : ¬ ∃ j, j < k ∧ NamedAt ms ms[k].name j) : MemsOk ck ms (k + 1) := by
  intro i hi hik
  rcases Nat.lt_succ_iff_lt_or_eq.1 hik with h' | rfl
  · exact h i hi h'
  · exact ⟨ht, fun j hj he => hc ⟨j, hj, by omega, he⟩⟩
theorem not_ok_mem {g : GroupD} {k : Nat} (hk : k < g.mems.length) (h : ¬ MemOk g.clock g.mems[k]) : ¬ GroupOk g := fun hg => h (hg.all k hk hk).1
theorem not_ok_named {g : GroupD} {k : Nat} (hk : k < g.mems.length) (h : ∃ j, j < k ∧ NamedAt g.mems g.mems[k].name j) : ¬ GroupOk g := by
  obtain ⟨j, hj, hl, he⟩ := h
  exact fun hg => (hg.all k hk hk).2 j hj he
/-- the first n offsets may be -/
def OffsTo (os : List OffD) (n : Nat) : Prop := (∀ j (h : j < os.length), j < n → 0 ≤ os[j].at_ ∧ os[j].at_ ≤ 400) ∧ RisesTo (os.map OffD.part) n
theorem OffsTo.all {os : List OffD} (h : OffsTo os os.length) : OffsOk os :=
  ⟨fun o ho => by obtain ⟨i, hi, rfl⟩ := List.mem_iff_getElem.1 ho; exact h.1 i hi hi, RisesTo.all (by have := h.2; rw [List.length_map]; exact this)⟩
theorem OffsTo.zero (os : List OffD) : OffsTo os 0 := ⟨fun j _ hj => by omega, fun k _ hk => by omega⟩
theorem OffsTo.step {os : List OffD} {n : Nat} (h : OffsTo os n) (hn : n < os.length) (h0 : 0 ≤ os[n].at_) (h1 : os[n].at_ ≤ 400) (h2 : 0 ≤ os[n].part) (h3 : os[n].part ≤ 3) (hs : ∀ j (hj : j + 1 = n), os[j].part < os[n].part) : OffsTo os (n + 1) := by
  refine ⟨fun j hj hjn => ?_, ?_⟩
  · rcases Nat.lt_succ_iff_lt_or_eq.1 hjn with h' | rfl
    · exact h.1 j hj h'
    · exact ⟨h0, h1⟩
  · refine h.2.step (by simpa using hn) (by simpa using h2) (by simpa using h3) ?_
    intro j hj
    simpa using hs j hj
theorem not_ok_off {g : GroupD} {k : Nat} (hk : k < g.offs.length) (h : g.offs[k].at_ < 0 ∨ 400 < g.offs[k].at_ ∨ g.offs[k].part < 0 ∨ 3 < g.offs[k].part ∨ ∃ j, ∃ hj : j + 1 = k, g.offs[k].part ≤ g.offs[j].part) : ¬ GroupOk g := by
  intro hg
  have h1 := hg.offsOk.at_ g.offs[k] (List.getElem_mem _)
  have h2 := hg.offsOk.rises k (by simpa using hk)
  simp only [List.getElem_map] at h2
  rcases h with h | h | h | h | ⟨j, hj, h⟩
  · omega
  · omega
  · omega
  · omega
  · have := h2.2.2 j hj
    omega
theorem GroupOk.bounds {g : GroupD} (h : GroupOk g) : (g.mems.length * 48 ≤ 140737488355328 ∧ (∀ t ∈ g.mems, t.parts.length * 8 ≤ 140737488355328) ∧ g.offs.length * 16 ≤ 140737488355328) ∧ g.mems.length ≤ 9223372036854775807 ∧ g.offs.length ≤ 9223372036854775807 ∧ ∀ t ∈ g.mems, t.parts.length ≤ 9223372036854775807 := by
  have h1 := h.many
  have h2 := h.offs
  have h3 : ∀ t ∈ g.mems, t.parts.length ≤ 4 := fun t ht => by
    obtain ⟨i, hi, rfl⟩ := List.mem_iff_getElem.1 ht
    exact ((h.all i hi hi).1.rises).small
  refine ⟨⟨by omega, fun t ht => by have := h3 t ht; omega, by omega⟩, by omega, by omega, fun t ht => by have := h3 t ht; omega⟩
end Go.Proofs.Ytjkoceacjbhblaa
namespace Go.Proofs.Ytjkoceacjbhblaa
open Go.RowKit

set_option maxRecDepth 100000 in
set_option maxHeartbeats 1000000 in
theorem IdxMem_any (v : Value) (n : Nat) (xs : List Value) (P : Nat → Prop) (g : Nat) (lb : Array Value) (w : World) (h : Sl w 3 v n xs) (hm : n ≤ 9223372036854775807) (eg : ∀ args w, (callFunc g args).run Try.prog w = .ok (.enter g args) w)
    (hf : ∀ j u0 u1 u2, j < n → xs[j * 3 + 0]? = some u0 → xs[j * 3 + 1]? = some u1 → xs[j * 3 + 2]? = some u2 → ∀ W, Below w.heap.size w W → Calls Try.prog g (#[.agg #[u0, u1, u2]] ++ lb) W (Tells (P j) W)) :
    Calls Try.prog 111 #[v, .func (.func g) #[] lb] w (Finds P n w) := by
  obtain ⟨hl, A, c, rfl, hc, hcl⟩ := h
  have HF := Lib.hid hf
  have HCL := Lib.hid hcl
  have HL := Lib.hid hl
  clear hf hcl hl
  go_enter Try.func111, Try.ntmps111
  go_wp2
  go_loopw [5, 8] (fun _ i wr => ∃ k : Nat, k ≤ n ∧ i = .int .i64 k ∧ Hid (Below w.heap.size w wr) ∧ Hid (∀ j, j < k → ¬ P j)) (fun _ i _ => n - (intOf i).toNat)
  case atStart => exact ⟨0, by omega, rfl, Below.refl _ _, fun j hj => by omega⟩
  case round =>
    obtain ⟨k, hk, rfl, BW, HN⟩ := hrel
    by_cases hlt : k < n
    · obtain ⟨b, off, rfl, hb, hcell⟩ := HCL.out (by omega)
      have hl := HL.out
      have hlt' : (k : Int) < (n : Int) := by omega
      obtain ⟨u0, g0⟩ : ∃ u, xs[k * 3 + 0]? = some u := ⟨_, List.getElem?_eq_getElem (by omega)⟩
      have l0 := (BW.out.cell (p := ⟨b, off + (k * 3 + 0), none⟩) hb).trans (hcell _ _ g0)
      rw [show off + (k * 3 + 0) = off + k * 3 from by omega] at l0
      obtain ⟨u1, g1⟩ : ∃ u, xs[k * 3 + 1]? = some u := ⟨_, List.getElem?_eq_getElem (by omega)⟩
      have l1 := (BW.out.cell (p := ⟨b, off + (k * 3 + 1), none⟩) hb).trans (hcell _ _ g1)
      rw [show off + (k * 3 + 1) = off + k * 3 + 1 from by omega] at l1
      obtain ⟨u2, g2⟩ : ∃ u, xs[k * 3 + 2]? = some u := ⟨_, List.getElem?_eq_getElem (by omega)⟩
      have l2 := (BW.out.cell (p := ⟨b, off + (k * 3 + 2), none⟩) hb).trans (hcell _ _ g2)
      rw [show off + (k * 3 + 2) = off + k * 3 + 2 from by omega] at l2
      have hcall := HF.out k _ _ _ hlt g0 g1 g2 wr BW.out
      clear hcell hl g0 g1 g2
      go_wp2_with (go_at_fn g; refine hcall.mono ?_; rintro e w1 ⟨q, rfl, hq, hb1⟩)
      all_goals first
        | (go_ret
           exact ⟨k, rfl, below_then BW.out hb1, Or.inl ⟨k, hlt, rfl, hq.1 (by assumption), HN.out⟩⟩)
        | skip
      go_roundw
      case rel => exact ⟨k + 1, by omega, by go_num, below_then BW.out hb1, fun j hj => by
        rcases Nat.lt_succ_iff_lt_or_eq.1 hj with h' | rfl
        · exact HN.out j h'
        · exact fun hp => by simp_all⟩
      case measure => simp [intOf]; omega
    · obtain rfl : k = n := by omega
      go_wp2
      go_ret
      exact ⟨-1, rfl, BW.out, Or.inr ⟨rfl, HN.out⟩⟩

set_option maxRecDepth 100000 in
set_option maxHeartbeats 1000000 in
theorem HasMem_any (v : Value) (n : Nat) (xs : List Value) (P : Nat → Prop) (g : Nat) (lb : Array Value) (w : World) (h : Sl w 3 v n xs) (hm : n ≤ 9223372036854775807) (eg : ∀ args w, (callFunc g args).run Try.prog w = .ok (.enter g args) w)
    (hf : ∀ j u0 u1 u2, j < n → xs[j * 3 + 0]? = some u0 → xs[j * 3 + 1]? = some u1 → xs[j * 3 + 2]? = some u2 → ∀ W, Below w.heap.size w W → Calls Try.prog g (#[.agg #[u0, u1, u2]] ++ lb) W (Tells (P j) W)) :
    Calls Try.prog 71 #[v, .func (.func g) #[] lb] w (Tells (∃ j, j < n ∧ P j) w) := by
  obtain ⟨A, c, rfl, -⟩ := id h.form
  have hI := IdxMem_any _ n xs P g lb w h hm eg hf
  have H := Lib.hid hI
  clear hI hf h
  go_enter Try.func71, Try.ntmps71
  go_wp2_with (go_at_call 111; refine H.out.mono ?_; rintro e w1 ⟨r, rfl, hb1, hr⟩)
  go_ret
  refine ⟨_, rfl, ?_, hb1⟩
  rcases hr with ⟨k, h1, rfl, h2, _⟩ | ⟨rfl, h2⟩
  · simp
    exact ⟨k, h1, h2⟩
  · simp
    intro j hj
    exact h2 j hj
end Go.Proofs.Ytjkoceacjbhblaa
namespace Go.Proofs.Ytjkoceacjbhblaa
open Go.RowKit

/-- the call answers an error number: 0 where P holds, else 12; memory only grows -/
def Answers (P : Prop) (w : World) (e : Ending) (w' : World) : Prop := ∃ n : Int, e = .returned (.int .i64 n) ∧ (P ∧ n = 0 ∨ ¬ P ∧ n = 12) ∧ Below w.heap.size w w'
theorem Answers.yes {P : Prop} {w w' : World} {e : Ending} (h : Answers P w e w') (hp : P) : e = .returned (.int .i64 0) ∧ Below w.heap.size w w' := by
  obtain ⟨b, rfl, hb, hw⟩ := h
  rcases hb with ⟨_, rfl⟩ | ⟨hn, _⟩
  · exact ⟨rfl, hw⟩
  · exact absurd hp hn
theorem Answers.no {P : Prop} {w w' : World} {e : Ending} (h : Answers P w e w') (hp : ¬ P) : e = .returned (.int .i64 12) ∧ Below w.heap.size w w' := by
  obtain ⟨b, rfl, hb, hw⟩ := h
  rcases hb with ⟨hn, _⟩ | ⟨_, rfl⟩
  · exact absurd hn hp
  · exact ⟨rfl, hw⟩
theorem Answers.below {P : Prop} {w w' : World} {e : Ending} (h : Answers P w e w') : Below w.heap.size w w' := by
  obtain ⟨_, _, _, h⟩ := h
  exact h
theorem Answers.mk_no {P : Prop} {w w' : World} (hp : ¬ P) (hw : Below w.heap.size w w') : Answers P w (.returned (.int .i64 12)) w' := ⟨12, rfl, Or.inr ⟨hp, rfl⟩, hw⟩
theorem Answers.mk_yes {P : Prop} {w w' : World} (hp : P) (hw : Below w.heap.size w w') : Answers P w (.returned (.int .i64 0)) w' := ⟨0, rfl, Or.inl ⟨hp, rfl⟩, hw⟩

end Go.Proofs.Ytjkoceacjbhblaa
namespace Go.Proofs.Ytjkoceacjbhblaa
open Go.RowKit

theorem toList_inj {a b : ByteArray} (h : a.toList = b.toList) : a = b := by
  rw [ByteArray.toList_eq, ByteArray.toList_eq] at h
  exact ByteArray.ext (Array.toList_inj.1 h)

end Go.Proofs.Ytjkoceacjbhblaa
namespace Go.Proofs.Ytjkoceacjbhblaa
open Go.RowKit

theorem Sl.front {w : World} {size n k c : Nat} {A : Option Addr} {xs : List Value} (h : Sl w size (.slice A n c) n xs) (hk : k ≤ n) : Sl w size (.slice A k c) k (xs.take (k * size)) := by
  obtain ⟨hl, A', c', hv, hc, hcell⟩ := h
  injection hv with e1 e2 e3
  subst e1 e3
  have hm : k * size ≤ n * size := Nat.mul_le_mul_right size hk
  refine ⟨by rw [List.length_take, hl]; omega, A, c, rfl, by omega, fun h0 => ?_⟩
  obtain ⟨b, off, hA, hb, hq⟩ := hcell (by omega)
  refine ⟨b, off, hA, hb, fun j u hu => hq j u ?_⟩
  rw [List.getElem?_take] at hu
  split at hu
  · exact hu
  · cases hu

end Go.Proofs.Ytjkoceacjbhblaa
namespace Go.Proofs.Ytjkoceacjbhblaa
open Go.RowKit

theorem group_head_no (g : GroupD) (h : g.clock < 0 ∨ 1073741824 < g.clock ∨ g.wait < 1 ∨ 1000 < g.wait ∨ g.gen < 0 ∨ 1073741824 < g.gen ∨ 6 < g.mems.length ∨ 4 < g.offs.length) : ¬ GroupOk g := by
  intro hg
  have h1 := hg.clock
  have h2 := hg.wait
  have h3 := hg.gen
  have h4 := hg.many
  have h5 := hg.offs
  omega
set_option maxRecDepth 100000 in
set_option maxHeartbeats 4000000 in
theorem group_check_head (g : GroupD) (A A' : Option Addr) (m m' : Nat) (w : World)
    (hcs : g.clock < 0 ∨ (0 ≤ g.clock ∧ 1073741824 < g.clock) ∨ (0 ≤ g.clock ∧ g.clock ≤ 1073741824 ∧ g.wait < 1) ∨ (0 ≤ g.clock ∧ g.clock ≤ 1073741824 ∧ 1 ≤ g.wait ∧ 1000 < g.wait) ∨ (0 ≤ g.clock ∧ g.clock ≤ 1073741824 ∧ 1 ≤ g.wait ∧ g.wait ≤ 1000 ∧ g.gen < 0) ∨ (0 ≤ g.clock ∧ g.clock ≤ 1073741824 ∧ 1 ≤ g.wait ∧ g.wait ≤ 1000 ∧ 0 ≤ g.gen ∧ 1073741824 < g.gen) ∨
      (0 ≤ g.clock ∧ g.clock ≤ 1073741824 ∧ 1 ≤ g.wait ∧ g.wait ≤ 1000 ∧ 0 ≤ g.gen ∧ g.gen ≤ 1073741824 ∧ 6 < g.mems.length) ∨ (0 ≤ g.clock ∧ g.clock ≤ 1073741824 ∧ 1 ≤ g.wait ∧ g.wait ≤ 1000 ∧ 0 ≤ g.gen ∧ g.gen ≤ 1073741824 ∧ g.mems.length ≤ 6 ∧ 4 < g.offs.length)) :
    Calls Try.prog 31 #[groupV g (.slice A g.mems.length m) (.slice A' g.offs.length m')] w (Answers (GroupOk g) w) := by
  have hno : ¬ GroupOk g := group_head_no g (by omega)
  unfold groupV
  obtain ⟨ck, wt, gn, ms, os⟩ := g
  simp only at *
  have HN := Lib.hid hno
  clear hno
  rcases hcs with h1 | ⟨h1, h2⟩ | ⟨h1, h2, h3⟩ | ⟨h1, h2, h3, h4⟩ | ⟨h1, h2, h3, h4, h5⟩ | ⟨h1, h2, h3, h4, h5, h6⟩ | ⟨h1, h2, h3, h4, h5, h6, h7⟩ | ⟨h1, h2, h3, h4, h5, h6, h7, h8⟩
  all_goals go_enter Try.func31, Try.ntmps31
  all_goals go_wp2
  all_goals go_ret
  all_goals exact Answers.mk_no HN.out ((Below.refl _ _).alloc (Nat.le_refl _) _)

set_option maxRecDepth 100000 in
set_option maxHeartbeats 1000000 in
theorem group_named (x0 : ByteArray) (x1 : Int) (x2 : Value) (nm : ByteArray) (b : Nat) (w : World) (hlt : b < w.heap.size) (h0 : w.cell? ⟨b, 0, none⟩ = some (.string nm)) (_ho : x2.oneCell' = true) :
    Calls Try.prog 72 #[.agg #[.string x0, .int .i64 x1, x2], .pointer (some ⟨b, 0, none⟩)] w (Tells (x0 = nm) w) := by
  have hx : (x0.toList == nm.toList) = true ↔ x0 = nm := ⟨fun h => toList_inj (eq_of_beq h), fun h => by simp [h]⟩
  have HX := Lib.hid hx
  clear hx
  go_enter Try.func72, Try.ntmps72
  go_wp2
  go_ret
  exact ⟨_, rfl, HX.out, (Below.refl _ _).alloc (Nat.le_refl _) _⟩

theorem has_named (ms : List MemD) (A : Option Addr) (k m : Nat) (s : ByteArray) (bt : Nat) (w : World) (hx : Mems w (.slice A ms.length m) ms) (hk : k ≤ ms.length) (hm : ms.length ≤ 6) (hlt : bt < w.heap.size) (h0 : w.cell? ⟨bt, 0, none⟩ = some (.string s)) :
    Calls Try.prog 71 #[.slice A k m, .func (.func 72) #[] #[.pointer (some ⟨bt, 0, none⟩)]] w (Tells (∃ j, j < k ∧ NamedAt ms s j) w) := by
  obtain ⟨rows, hr, hsl, hp⟩ := hx
  refine HasMem_any _ k _ (NamedAt ms s) 72 #[.pointer (some ⟨bt, 0, none⟩)] w (hsl.front hk) (by omega) (enters_of Try.func72 (by kernel_rfl) rfl) ?_
  intro j u0 u1 u2 hj g0 g1 g2 W hW
  have hjr : j < rows.length := by
    have : rows.length = ms.length := by rw [← hr]; simp
    omega
  have key : ∀ i, i < 3 → ((rows.flatMap mcells).take (k * 3))[j * 3 + i]? = (mcells rows[j])[i]? := by
    intro i hi
    rw [List.getElem?_take, if_pos (by omega)]
    exact cells_get mcells 3 (fun _ => rfl) rows j hjr i hi
  rw [key _ (by omega)] at g0 g1 g2
  simp only [mcells, List.getElem?_cons_zero, List.getElem?_cons_succ, Option.some.injEq] at g0 g1 g2
  subst g0 g1 g2
  have hone : rows[j].2.oneCell' = true := Sl.oneCell (hp _ (List.getElem_mem _)).1
  refine (group_named _ _ _ s bt W (Nat.lt_of_lt_of_le hlt hW.size) ((hW.cell (p := ⟨bt, 0, none⟩) hlt).trans h0) hone).mono fun e w' h => h.cong ?_
  subst hr
  unfold NamedAt
  simp [hjr]

set_option maxRecDepth 100000 in
set_option maxHeartbeats 16000000 in
theorem group_check_good (g : GroupD) (A A' : Option Addr) (m m' : Nat) (w : World) (hx : Mems w (.slice A g.mems.length m) g.mems) (ho : Offs w (.slice A' g.offs.length m') g.offs)
    (h1 : 0 ≤ g.clock) (h2 : g.clock ≤ 1073741824) (h3 : 1 ≤ g.wait) (h4 : g.wait ≤ 1000) (h5 : 0 ≤ g.gen) (h6 : g.gen ≤ 1073741824) (h7 : g.mems.length ≤ 6) (h8 : g.offs.length ≤ 4) :
    Calls Try.prog 31 #[groupV g (.slice A g.mems.length m) (.slice A' g.offs.length m')] w (Answers (GroupOk g) w) := by
  have hok : MemsOk g.clock g.mems g.mems.length → OffsTo g.offs g.offs.length → GroupOk g := fun h h' => ⟨⟨h1, h2⟩, ⟨h3, h4⟩, ⟨h5, h6⟩, h7, h8, h, h'.all⟩
  obtain ⟨A1, m1, hv, hm, hcell⟩ := hx.at_
  injection hv with e1 e2 e3
  subst e1 e3
  obtain ⟨A2, m2, hv, hm', hcell'⟩ := ho.at_
  injection hv with e1 e2 e3
  subst e1 e3
  have HOK := Lib.hid hok
  have HX := Lib.hid hx
  have HC := Lib.hid hcell
  have HO := Lib.hid hcell'
  clear hok hx hcell hcell' ho
  unfold groupV
  obtain ⟨ck, wt, gn, ms, os⟩ := g
  simp only at *
  have d1 : decide (ck < 0) = false := by simp; omega
  have d2 : decide (1073741824 < ck) = false := by simp; omega
  have d3 : decide (wt < 1) = false := by simp; omega
  have d4 : decide (1000 < wt) = false := by simp; omega
  have d5 : decide (gn < 0) = false := by simp; omega
  have d6 : decide (1073741824 < gn) = false := by simp; omega
  have d7 : decide ((6 : Int) < (ms.length : Int)) = false := by simp; omega
  have d8 : decide ((4 : Int) < (os.length : Int)) = false := by simp; omega
  go_enter Try.func31, Try.ntmps31
  go_wp2
  clear d1 d2 d3 d4 d5 d6 d7 d8
  have hbl := (Below.refl w.heap.size w).alloc (Nat.le_refl _) (.cells #[.int .i64 ck, .int .i64 wt, .int .i64 gn, .slice A ms.length m, .slice A' os.length m'] 36)
  have bx := Blk.new w 36 #[.int .i64 ck, .int .i64 wt, .int .i64 gn, .slice A ms.length m, .slice A' os.length m']
  generalize w.alloc (.cells #[.int .i64 ck, .int .i64 wt, .int .i64 gn, .slice A ms.length m, .slice A' os.length m'] 36) = W0 at *
  have HBL := Lib.hid hbl
  have HB := Lib.hid bx
  clear hbl bx h1 h2 h3 h4 h5 h6
  go_loopw [52] (fun i wr => ∃ k : Nat, k ≤ ms.length ∧ i = .int .i64 k ∧ Hid (MemsOk ck ms k) ∧ Hid (Below W0.heap.size W0 wr)) (fun i _ => ms.length - (intOf i).toNat)
  case atStart => exact ⟨0, by omega, rfl, fun j _ hj => by omega, Below.refl _ _⟩
  case round =>
    obtain ⟨k, hk, rfl, HK, HW⟩ := hrel
    have hbw := below_then HBL.out HW.out
    have bw := HB.out.below HW.out HB.out.lt
    have g0 := bw.cell 0
    have g3 := bw.cell 3
    have g4 := bw.cell 4
    have glt := bw.lt
    have HBW := Lib.hid hbw
    have BW := Lib.hid bw
    clear bw hbw
    by_cases hlt : k < ms.length
    · obtain ⟨b, off, rfl, hb, hcell⟩ := HC.out (by omega)
      obtain ⟨pv, x0, x1, x2, xi, xl⟩ := hcell k hlt
      have X0 := (HBW.out.cell (p := ⟨b, off + k * 3, none⟩) hb).trans x0
      have X1 := (HBW.out.cell (p := ⟨b, off + k * 3 + 1, none⟩) hb).trans x1
      have X2 := (HBW.out.cell (p := ⟨b, off + k * 3 + 2, none⟩) hb).trans x2
      have i0 : (0 : Int) ≤ (k : Int) := by omega
      have i1 : (k : Int) < (ms.length : Int) := by omega
      obtain ⟨A3, c3, rfl, hc3, xcell⟩ := xi.at_
      have HXC := Lib.hid xcell
      have hble : b < wr.heap.size := by have := HBW.out.size; omega
      clear x0 x1 x2 hcell xi xcell
      go_wp2_with fail
      have bt := Blk.new wr 79 #[.string ms[k].name, .int .i64 ms[k].heard, .slice A3 ms[k].parts.length c3]
      have hal := (Below.refl wr.heap.size wr).alloc (Nat.le_refl _) (.cells #[.string ms[k].name, .int .i64 ms[k].heard, .slice A3 ms[k].parts.length c3] 79)
      have bw2 := BW.out.below hal BW.out.lt
      generalize wr.alloc (.cells #[.string ms[k].name, .int .i64 ms[k].heard, .slice A3 ms[k].parts.length c3] 79) = w2 at *
      refine (group_name_any _ w2).mono ?_
      rintro e w3 hT
      have h3 : Below w2.heap.size w2 w3 := by obtain ⟨_, _, _, h⟩ := hT; exact h
      have hb3 := below_then hal h3
      have bw3 := bw2.below h3 bw2.lt
      have bt3 := bt.below h3 bt.lt
      clear g0 g3 g4 glt X0 X1 X2 BW
      have g0 := bw3.cell 0
      have g3 := bw3.cell 3
      have glt := bw3.lt
      have t1 := bt3.cell 1
      have tlt := bt3.lt
      have B3 := Lib.hid hb3
      have BT3 := Lib.hid bt3
      have BW3 := Lib.hid bw3
      clear hal h3 hb3 bw2 bw3 bt bt3
      by_cases hn : NameOk ms[k].name
      · obtain ⟨rfl, -⟩ := hT.yes hn
        have HNM := Lib.hid hn
        clear hT hn
        by_cases hbad : ms[k].heard < 0 ∨ (0 ≤ ms[k].heard ∧ ck < ms[k].heard)
        · have hno : ¬ GroupOk ⟨ck, wt, gn, ms, os⟩ := not_ok_mem (g := ⟨ck, wt, gn, ms, os⟩) hlt (fun h => by have := h.heard; simp only at this; omega)
          have HN := Lib.hid hno
          clear hno
          rcases hbad with y1 | ⟨y1, y2⟩
          all_goals go_wp2_with fail
          all_goals go_ret
          all_goals exact Answers.mk_no HN.out (below_then HBW.out B3.out)
        · have y1 : 0 ≤ ms[k].heard := by omega
          have y2 : ms[k].heard ≤ ck := by omega
          have j0 : (k : Int) ≤ (m : Int) := by omega
          clear hbad
          go_wp2_with fail
          have hb4 := below_then HBW.out B3.out
          refine (has_named ms _ k m ms[k].name wr.heap.size w3 (HX.out.below hb4) (by omega) h7 tlt (BT3.out.cell 0)).mono ?_
          rintro e w4 hT
          have h4 : Below w3.heap.size w3 w4 := by obtain ⟨_, _, _, h⟩ := hT; exact h
          have h5 := below_then B3.out h4
          have bt4 := BT3.out.below h4 BT3.out.lt
          clear g0 g3 glt t1 tlt
          have t2 := bt4.cell 2
          have tlt := bt4.lt
          have H5 := Lib.hid h5
          have H6 := Lib.hid (below_then HBW.out h5)
          clear hb4 h4 h5 bt4
          by_cases hc : ∃ j, j < k ∧ NamedAt ms ms[k].name j
          · obtain ⟨rfl, -⟩ := hT.yes hc
            have hno : ¬ GroupOk ⟨ck, wt, gn, ms, os⟩ := not_ok_named (g := ⟨ck, wt, gn, ms, os⟩) hlt hc
            have HN := Lib.hid hno
            clear hT hc hno
            go_wp2_with fail
            go_ret
            exact Answers.mk_no HN.out H6.out
          · obtain ⟨rfl, -⟩ := hT.no hc
            have hstep : Rises ms[k].parts → MemsOk ck ms (k + 1) := fun hr => HK.out.step hlt ⟨HNM.out, ⟨y1, y2⟩, hr⟩ hc
            have HS := Lib.hid hstep
            clear hT hc hstep
            go_wp2_with fail
            go_loopw [84] (fun j wq => ∃ q : Nat, q ≤ ms[k].parts.length ∧ j = .int .i64 q ∧ Hid (RisesTo ms[k].parts q) ∧ ∃ n, wq = w4.drewN n) (fun j _ => ms[k].parts.length - (intOf j).toNat)
            case atStart => exact ⟨0, by omega, rfl, fun j _ hj => by omega, 0, rfl⟩
            case round =>
              obtain ⟨q, hq, rfl, HQ, n, rfl⟩ := hrel
              have hbe := below_then H6.out (below_drewN_ w4 n)
              have HBE := Lib.hid hbe
              clear hbe
              by_cases hlq : q < ms[k].parts.length
              · obtain ⟨b3, o3, rfl, hb3, hxc⟩ := HXC.out (by omega)
                have U := (H6.out.cell (p := ⟨b3, o3 + q, none⟩) hb3).trans (hxc q hlq)
                have q0 : (0 : Int) ≤ (q : Int) := by omega
                have q1 : (q : Int) < (ms[k].parts.length : Int) := by omega
                have hno : ms[k].parts[q] < 0 ∨ 3 < ms[k].parts[q] ∨ (∃ j, ∃ hj : j + 1 = q, ms[k].parts[q] ≤ ms[k].parts[j]) → ¬ GroupOk ⟨ck, wt, gn, ms, os⟩ := fun h => not_ok_mem (g := ⟨ck, wt, gn, ms, os⟩) hlt (fun h' => rises_no hlq h h'.rises)
                have HN := Lib.hid hno
                clear hno
                by_cases hp1 : ms[k].parts[q] < 0
                · clear hxc
                  go_wp2
                  go_ret
                  exact Answers.mk_no (HN.out (Or.inl hp1)) HBE.out
                · by_cases hp2 : 3 < ms[k].parts[q]
                  · clear hxc
                    go_wp2
                    go_ret
                    exact Answers.mk_no (HN.out (Or.inr (Or.inl hp2))) HBE.out
                  · have y3 : 0 ≤ ms[k].parts[q] := by omega
                    have y4 : ms[k].parts[q] ≤ 3 := by omega
                    clear hp1 hp2
                    rcases q with _ | q
                    · clear hxc
                      have U0 : w4.cell? ⟨b3, o3, none⟩ = some (.int .i64 ms[k].parts[0]) := U
                      clear U
                      go_wp2
                      go_light
                      exact ⟨⟨1, by omega, rfl, HQ.out.step hlq y3 y4 (fun j hj => by omega), _, rfl⟩, by simp [intOf]; omega⟩
                    · have hq' : q < ms[k].parts.length := by omega
                      have U2 := (H6.out.cell (p := ⟨b3, o3 + q, none⟩) hb3).trans (hxc q hq')
                      have e1 : ((q + 1 : Nat) : Int) = (q : Int) + 1 := by omega
                      clear hxc
                      by_cases hqq : ms[k].parts[q] < ms[k].parts[q + 1]
                      · go_wp2
                        go_light
                        exact ⟨⟨q + 1 + 1, by omega, by go_num, HQ.out.step hlq y3 y4 (fun j hj => by
                          obtain rfl : j = q := by omega
                          exact hqq), _, rfl⟩, by simp [intOf]; omega⟩
                      · go_wp2
                        go_ret
                        exact Answers.mk_no (HN.out (Or.inr (Or.inr ⟨q, rfl, by omega⟩))) HBE.out
              · obtain rfl : q = ms[k].parts.length := by omega
                have hr := HS.out HQ.out.all
                have HR := Lib.hid hr
                clear hr
                go_wp2
                go_light
                exact ⟨⟨k + 1, by omega, by go_num, HR.out, below_then HW.out (below_then H5.out (below_drewN_ _ _))⟩, by simp [intOf]; omega⟩
      · obtain ⟨rfl, -⟩ := hT.no hn
        have hno : ¬ GroupOk ⟨ck, wt, gn, ms, os⟩ := not_ok_mem (g := ⟨ck, wt, gn, ms, os⟩) hlt (fun h => hn h.name)
        have HN := Lib.hid hno
        clear hT hn hno
        go_wp2_with fail
        go_ret
        exact Answers.mk_no HN.out (below_then HBW.out B3.out)
    · obtain rfl : k = ms.length := by omega
      clear hlt
      obtain ⟨w9, hw9⟩ : ∃ w9, w9 = wr := ⟨_, rfl⟩
      subst hw9
      go_wp2_with fail
      go_loopw [114] (fun i wq => ∃ k : Nat, k ≤ os.length ∧ i = .int .i64 k ∧ Hid (OffsTo os k) ∧ Hid (Below w9.heap.size w9 wq)) (fun i _ => os.length - (intOf i).toNat)
      case atStart => exact ⟨0, by omega, rfl, OffsTo.zero os, Below.refl _ _⟩
      case round =>
        obtain ⟨k, hko, rfl, HQ, HV⟩ := hrel
        have hbv := below_then HBW.out HV.out
        have bv := BW.out.below HV.out BW.out.lt
        have v4 := bv.cell 4
        have vlt := bv.lt
        have HBV := Lib.hid hbv
        have BV := Lib.hid bv
        clear bv hbv g0 g3 g4 glt
        by_cases hlt : k < os.length
        · obtain ⟨b, off, rfl, hb, hcell⟩ := HO.out (by omega)
          obtain ⟨x0, x1⟩ := hcell k hlt
          have X0 := (HBV.out.cell (p := ⟨b, off + k * 2, none⟩) hb).trans x0
          have X1 := (HBV.out.cell (p := ⟨b, off + k * 2 + 1, none⟩) hb).trans x1
          have i0 : (0 : Int) ≤ (k : Int) := by omega
          have i1 : (k : Int) < (os.length : Int) := by omega
          have hble : b < wr.heap.size := by have := HBV.out.size; omega
          have hno : os[k].at_ < 0 ∨ 400 < os[k].at_ ∨ os[k].part < 0 ∨ 3 < os[k].part ∨ (∃ j, ∃ hj : j + 1 = k, os[k].part ≤ os[j].part) → ¬ GroupOk ⟨ck, wt, gn, ms, os⟩ := fun h => not_ok_off (g := ⟨ck, wt, gn, ms, os⟩) hlt h
          have HN := Lib.hid hno
          have HCC := Lib.hid hcell
          clear hno x0 x1 hcell
          go_wp2_with fail
          have bo := Blk.new wr 81 #[.int .i64 os[k].part, .int .i64 os[k].at_]
          have hal := (Below.refl wr.heap.size wr).alloc (Nat.le_refl _) (.cells #[.int .i64 os[k].part, .int .i64 os[k].at_] 81)
          have bv2 := BV.out.below hal BV.out.lt
          generalize wr.alloc (.cells #[.int .i64 os[k].part, .int .i64 os[k].at_] 81) = w2 at *
          clear v4 vlt X0 X1
          have b0 := bo.cell 0
          have b1 := bo.cell 1
          have blt := bo.lt
          have v4 := bv2.cell 4
          have vlt := bv2.lt
          have HA := Lib.hid hal
          have HBE := Lib.hid (below_then HBV.out hal)
          clear bo hal bv2
          by_cases hp1 : os[k].part < 0
          · have d1 : decide (os[k].part < 0) = true := decide_eq_true hp1
            go_quiet (fail)
            go_wp2
            go_ret
            exact Answers.mk_no (HN.out (by omega)) (below_then HBE.out (below_drewN_ _ _))
          have d1 : decide (os[k].part < 0) = false := decide_eq_false hp1
          by_cases hp2 : 4 ≤ os[k].part
          · have d2 : decide (4 ≤ os[k].part) = true := decide_eq_true hp2
            go_quiet (fail)
            go_wp2
            go_ret
            exact Answers.mk_no (HN.out (by omega)) (below_then HBE.out (below_drewN_ _ _))
          have d2 : decide (4 ≤ os[k].part) = false := decide_eq_false hp2
          have y1 : 0 ≤ os[k].part := by omega
          have y2 : os[k].part < 4 := by omega
          clear hp1 hp2
          by_cases hp1 : os[k].at_ < 0
          · have d3 : decide (os[k].at_ < 0) = true := decide_eq_true hp1
            go_quiet (fail)
            go_wp2
            go_ret
            exact Answers.mk_no (HN.out (Or.inl hp1)) (below_then HBE.out (below_drewN_ _ _))
          have d3 : decide (os[k].at_ < 0) = false := decide_eq_false hp1
          by_cases hp2 : 400 < os[k].at_
          · have d4 : decide (400 < os[k].at_) = true := decide_eq_true hp2
            go_quiet (fail)
            go_wp2
            go_ret
            exact Answers.mk_no (HN.out (Or.inr (Or.inl hp2))) (below_then HBE.out (below_drewN_ _ _))
          have d4 : decide (400 < os[k].at_) = false := decide_eq_false hp2
          have y3 : 0 ≤ os[k].at_ := by omega
          have y4 : os[k].at_ ≤ 400 := by omega
          clear hp1 hp2
          rcases k with _ | k
          · go_quiet (fail)
            go_wp2
            go_light
            exact ⟨⟨1, by omega, rfl, HQ.out.step hlt y3 y4 y1 (by omega) (fun j hj => by omega), below_then HV.out (below_then HA.out (below_drewN_ _ _))⟩, by simp [intOf]; omega⟩
          · have hk' : k < os.length := by omega
            obtain ⟨u0, -⟩ := HCC.out k hk'
            have U2 := (HBE.out.cell (p := ⟨b, off + k * 2, none⟩) hb).trans u0
            have e1 : ((k + 1 : Nat) : Int) = (k : Int) + 1 := by omega
            have d5 : decide ((0 : Int) < (k : Int) + 1) = true := decide_eq_true (by omega)
            clear u0
            by_cases hqq : os[k].part < os[k + 1].part
            · have d6 : decide (os[k + 1].part ≤ os[k].part) = false := decide_eq_false (by omega)
              go_quiet (fail)
              go_wp2
              go_light
              exact ⟨⟨k + 1 + 1, by omega, by go_num, HQ.out.step hlt y3 y4 y1 (by omega) (fun j hj => by
                obtain rfl : j = k := by omega
                exact hqq), below_then HV.out (below_then HA.out (below_drewN_ _ _))⟩, by simp [intOf]; omega⟩
            · have d6 : decide (os[k + 1].part ≤ os[k].part) = true := decide_eq_true (by omega)
              go_quiet (fail)
              go_wp2
              go_ret
              exact Answers.mk_no (HN.out (Or.inr (Or.inr (Or.inr (Or.inr ⟨k, rfl, by omega⟩))))) (below_then HBE.out (below_drewN_ _ _))
        · obtain rfl : k = os.length := by omega
          have hr := HOK.out HK.out HQ.out
          have HR := Lib.hid hr
          clear hr
          go_wp2
          go_ret
          exact Answers.mk_yes HR.out HBV.out

theorem group_check_any (v : Value) (g : GroupD) (w : World) (h : Gv w v g) : Calls Try.prog 31 #[v] w (Answers (GroupOk g) w) := by
  obtain ⟨mv, ov, rfl, hx, ho, -⟩ := h
  obtain ⟨A, m, rfl, -⟩ := hx.at_
  obtain ⟨A', m', rfl, -⟩ := ho.at_
  by_cases hb : g.clock < 0 ∨ 1073741824 < g.clock ∨ g.wait < 1 ∨ 1000 < g.wait ∨ g.gen < 0 ∨ 1073741824 < g.gen ∨ 6 < g.mems.length ∨ 4 < g.offs.length
  · exact group_check_head g A A' m m' w (by omega)
  · simp only [not_or] at hb
    exact group_check_good g A A' m m' w hx ho (by omega) (by omega) (by omega) (by omega) (by omega) (by omega) (by omega) (by omega)

end Go.Proofs.Ytjkoceacjbhblaa
namespace Go.Proofs.Ytjkoceacjbhblaa
open Go.RowKit

/-- the value that the loop over the parts keeps -/
def LastOf (l : List Int) (q : Nat) (last : Int) : Prop := (q = 0 → last = -1) ∧ ∀ p (h : p < l.length), p + 1 = q → l[p] = last
end Go.Proofs.Ytjkoceacjbhblaa
namespace Go.Proofs.Ytjkoceacjbhblaa
open Go.RowKit

/-- tailraceref.In within a region that has drawn -/
theorem quiet_in {w : World} {a n : Nat} {x lo hi : Int} : Calls Try.prog 64 #[.int .i64 x, .int .i64 lo, .int .i64 hi] (w.drewN (a + n)) fun e w'' => e = .returned (.bool (inB x lo hi)) ∧ ∃ m, w'' = w.drewN (a + m) :=
  (In_any x lo hi _).mono fun _ _ h => ⟨h.1, n, h.2.symm⟩
set_option maxRecDepth 100000 in
set_option maxHeartbeats 4000000 in
theorem rises_any (v : Value) (l : List Int) (w : World) (h : Is w v l) (hl : l.length ≤ 9223372036854775807) : Calls Try.prog 74 #[v] w (Tells (Rises l) w) := by
  obtain ⟨A, c, rfl, hc, hcell⟩ := h.at_
  have HC := Lib.hid hcell
  clear h hcell
  go_enter Try.func74, Try.ntmps74
  go_wp2
  go_loopw [3] (fun i wr => ∃ k : Nat, k ≤ l.length ∧ i = .int .i64 k ∧ Hid (RisesTo l k) ∧ ∃ n, wr = w.drewN n) (fun i _ => l.length - (intOf i).toNat)
  case atStart => exact ⟨0, by omega, rfl, fun j _ hj => by omega, 0, rfl⟩
  case round =>
    obtain ⟨k, hk, rfl, HK, n, rfl⟩ := hrel
    have HBE := Lib.hid (below_drewN_ w n)
    by_cases hlt : k < l.length
    · obtain ⟨b, off, rfl, hb, hcell⟩ := HC.out (by omega)
      have X := hcell k hlt
      have i0 : (0 : Int) ≤ (k : Int) := by omega
      have i1 : (k : Int) < (l.length : Int) := by omega
      have HCC := Lib.hid hcell
      clear hcell
      rcases hin : inB l[k] 0 3 with _ | _
      · have hno : ¬ Rises l := rises_no hlt (by simp only [inB, Bool.and_eq_false_iff, decide_eq_false_iff_not] at hin; omega)
        have HN := Lib.hid hno
        clear hno
        go_wp2_with fail
        go_quiet ((go_at_call 64; exact quiet_in))
        go_wp2
        go_ret
        exact Tells.mk_no HN.out (below_then HBE.out (below_drewN_ _ _))
      · have hbd : 0 ≤ l[k] ∧ l[k] ≤ 3 := by simpa [inB] using hin
        rcases k with _ | k
        · have X0 : w.cell? ⟨b, off, none⟩ = some (.int .i64 l[0]) := X
          have hst := HK.out.step hlt hbd.1 hbd.2 (fun j hj => by omega)
          have HST := Lib.hid hst
          clear hst hbd X
          go_wp2_with fail
          go_quiet ((go_at_call 64; exact quiet_in))
          go_wp2
          go_light
          exact ⟨⟨1, by omega, rfl, HST.out, _, rfl⟩, by simp [intOf]; omega⟩
        · have hk' : k < l.length := by omega
          have X2 := HCC.out k hk'
          have e1 : ((k + 1 : Nat) : Int) = (k : Int) + 1 := by omega
          have HBD := Lib.hid hbd
          clear hbd
          by_cases hq : l[k] < l[k + 1]
          · have hst := HK.out.step hlt HBD.out.1 HBD.out.2 (fun j hj => by
              obtain rfl : j = k := by omega
              exact hq)
            have HST := Lib.hid hst
            clear hst
            go_wp2_with fail
            go_quiet ((go_at_call 64; exact quiet_in))
            go_wp2
            go_light
            exact ⟨⟨k + 1 + 1, by omega, by go_num, HST.out, _, rfl⟩, by simp [intOf]; omega⟩
          · have hq2 : l[k + 1] ≤ l[k] := by omega
            have hno : ¬ Rises l := rises_no hlt (Or.inr (Or.inr ⟨k, rfl, hq2⟩))
            have HN := Lib.hid hno
            clear hno
            go_wp2_with fail
            go_quiet ((go_at_call 64; exact quiet_in))
            go_wp2
            go_ret
            exact Tells.mk_no HN.out (below_then HBE.out (below_drewN_ _ _))
    · obtain rfl : k = l.length := by omega
      have hr := HK.out.all
      have HR := Lib.hid hr
      clear hr
      go_wp2
      go_ret
      exact Tells.mk_yes HR.out HBE.out

set_option maxRecDepth 100000 in
set_option maxHeartbeats 8000000 in
theorem group_may_head (g : GroupD) (A A' : Option Addr) (m m' : Nat) (w : World)
    (hcs : inB g.clock 0 1073741824 = false ∨ (inB g.clock 0 1073741824 = true ∧ inB g.wait 1 1000 = false) ∨ (inB g.clock 0 1073741824 = true ∧ inB g.wait 1 1000 = true ∧ inB g.gen 0 1073741824 = false) ∨ (inB g.clock 0 1073741824 = true ∧ inB g.wait 1 1000 = true ∧ inB g.gen 0 1073741824 = true ∧ 6 < g.mems.length) ∨
      (inB g.clock 0 1073741824 = true ∧ inB g.wait 1 1000 = true ∧ inB g.gen 0 1073741824 = true ∧ g.mems.length ≤ 6 ∧ 4 < g.offs.length)) :
    Calls Try.prog 32 #[groupV g (.slice A g.mems.length m) (.slice A' g.offs.length m')] w (Tells (GroupOk g) w) := by
  have hno : ¬ GroupOk g := by
    intro hc
    have h1 := hc.clock
    have h2 := hc.wait
    have h3 := hc.gen
    have h4 := hc.many
    have h5 := hc.offs
    simp only [inB, Bool.and_eq_false_iff, decide_eq_false_iff_not] at hcs
    omega
  unfold groupV
  obtain ⟨ck, wt, gn, ms, os⟩ := g
  simp only at *
  have HN := Lib.hid hno
  clear hno
  rcases hcs with h1 | ⟨h1, h2⟩ | ⟨h1, h2, h3⟩ | ⟨h1, h2, h3, h4⟩ | ⟨h1, h2, h3, h4, h5⟩
  all_goals go_enter Try.func32, Try.ntmps32
  all_goals go_wp2_with (go_at_call 64; refine (In_any _ _ _ _).mono ?_; rintro e w' ⟨rfl, rfl⟩)
  all_goals go_ret
  all_goals exact Tells.mk_no HN.out ((Below.refl _ _).alloc (Nat.le_refl _) _)

/-- the loop over the offsets -/
def GmLp (w : World) (os : List OffD) (s i : Value) (wr : World) : Prop :=
  ∃ k : Nat, k ≤ os.length ∧ i = .int .i64 k ∧ (∀ j (hj : j < os.length), j < k → 0 ≤ os[j].at_ ∧ os[j].at_ ≤ 400) ∧ wr.ownsRow w.heap.size 3 1 s k (((os.map OffD.part).take k).map (Value.int .i64)) ∧ Below w.heap.size w wr

set_option maxRecDepth 100000 in
set_option maxHeartbeats 16000000 in
theorem group_may_good (g : GroupD) (A A' : Option Addr) (m m' : Nat) (w : World) (hx : Mems w (.slice A g.mems.length m) g.mems) (ho : Offs w (.slice A' g.offs.length m') g.offs)
    (h1 : inB g.clock 0 1073741824 = true) (h2 : inB g.wait 1 1000 = true) (h3 : inB g.gen 0 1073741824 = true) (h7 : g.mems.length ≤ 6) (h8 : g.offs.length ≤ 4) (hnm : ∀ t ∈ g.mems, t.name.size ≤ 9223372036854775807) :
    Calls Try.prog 32 #[groupV g (.slice A g.mems.length m) (.slice A' g.offs.length m')] w (Tells (GroupOk g) w) := by
  have hok : MemsOk g.clock g.mems g.mems.length → (∀ j (hj : j < g.offs.length), j < g.offs.length → 0 ≤ g.offs[j].at_ ∧ g.offs[j].at_ ≤ 400) → Rises (g.offs.map OffD.part) → GroupOk g := fun h h' h'' => ⟨by simpa [inB] using h1, by simpa [inB] using h2, by simpa [inB] using h3, h7, h8, h, ⟨fun o ho => by
    obtain ⟨i, hi, rfl⟩ := List.mem_iff_getElem.1 ho
    exact h' i hi hi, h''⟩⟩
  obtain ⟨A1, m1, hv, hm, hcell⟩ := hx.at_
  injection hv with e1 e2 e3
  subst e1 e3
  obtain ⟨A2, m2, hv, hm', hcell'⟩ := ho.at_
  injection hv with e1 e2 e3
  subst e1 e3
  have HOK := Lib.hid hok
  have HC := Lib.hid hcell
  have HO := Lib.hid hcell'
  have HNS := Lib.hid hnm
  clear hok hx hcell hcell' ho hnm
  unfold groupV
  obtain ⟨ck, wt, gn, ms, os⟩ := g
  simp only at *
  go_enter Try.func32, Try.ntmps32
  go_wp2_with (go_at_call 64; refine (In_any _ _ _ _).mono ?_; rintro e w' ⟨rfl, rfl⟩)
  have hbl := (Below.refl w.heap.size w).alloc (Nat.le_refl _) (.cells #[.int .i64 ck, .int .i64 wt, .int .i64 gn, .slice A ms.length m, .slice A' os.length m'] 36)
  have bx := Blk.new w 36 #[.int .i64 ck, .int .i64 wt, .int .i64 gn, .slice A ms.length m, .slice A' os.length m']
  generalize w.alloc (.cells #[.int .i64 ck, .int .i64 wt, .int .i64 gn, .slice A ms.length m, .slice A' os.length m'] 36) = W0 at *
  have HBL := Lib.hid hbl
  have HB := Lib.hid bx
  clear hbl bx h1 h2 h3
  go_loopw [3] (fun i wr => ∃ k : Nat, k ≤ ms.length ∧ i = .int .i64 k ∧ Hid (MemsOk ck ms k) ∧ Hid (Below W0.heap.size W0 wr)) (fun i _ => ms.length - (intOf i).toNat)
  case atStart => exact ⟨0, by omega, rfl, fun j _ hj => by omega, Below.refl _ _⟩
  case round =>
    obtain ⟨k, hk, rfl, HK, HW⟩ := hrel
    have hbw := below_then HBL.out HW.out
    have bw := HB.out.below HW.out HB.out.lt
    have g0 := bw.cell 0
    have g3 := bw.cell 3
    have g4 := bw.cell 4
    have glt := bw.lt
    have HBW := Lib.hid hbw
    have BW := Lib.hid bw
    clear bw hbw
    by_cases hlt : k < ms.length
    · obtain ⟨b, off, rfl, hb, hcell⟩ := HC.out (by omega)
      obtain ⟨pv, x0, x1, x2, xi, xl⟩ := hcell k hlt
      have X0 := (HBW.out.cell (p := ⟨b, off + k * 3, none⟩) hb).trans x0
      have X1 := (HBW.out.cell (p := ⟨b, off + k * 3 + 1, none⟩) hb).trans x1
      have X2 := (HBW.out.cell (p := ⟨b, off + k * 3 + 2, none⟩) hb).trans x2
      have i0 : (0 : Int) ≤ (k : Int) := by omega
      have i1 : (k : Int) < (ms.length : Int) := by omega
      obtain ⟨A3, c3, rfl, hc3, -⟩ := xi.at_
      have HXI := Lib.hid xi
      have HCC := Lib.hid hcell
      have hble : b < wr.heap.size := by have := HBW.out.size; omega
      clear x0 x1 x2 hcell xi
      go_wp2_with fail
      have bt := Blk.new wr 79 #[.string ms[k].name, .int .i64 ms[k].heard, .slice A3 ms[k].parts.length c3]
      have hal := (Below.refl wr.heap.size wr).alloc (Nat.le_refl _) (.cells #[.string ms[k].name, .int .i64 ms[k].heard, .slice A3 ms[k].parts.length c3] 79)
      have bw2 := BW.out.below hal BW.out.lt
      generalize wr.alloc (.cells #[.string ms[k].name, .int .i64 ms[k].heard, .slice A3 ms[k].parts.length c3] 79) = w2 at *
      refine (nameMay_any ms[k].name w2 (HNS.out _ (List.getElem_mem _))).mono ?_
      rintro e w3 hT
      have h3 : Below w2.heap.size w2 w3 := by obtain ⟨_, _, _, h⟩ := hT; exact h
      have hb3 := below_then hal h3
      have bw3 := bw2.below h3 bw2.lt
      have bt3 := bt.below h3 bt.lt
      clear g0 g3 g4 glt X0 X1 X2 BW
      have g0 := bw3.cell 0
      have g3 := bw3.cell 3
      have glt := bw3.lt
      have t0 := bt3.cell 0
      have t1 := bt3.cell 1
      have t2 := bt3.cell 2
      have tlt := bt3.lt
      have B3 := Lib.hid hb3
      have BT3 := Lib.hid bt3
      have BW3 := Lib.hid bw3
      clear hal h3 hb3 bw2 bw3 bt bt3
      by_cases hn : NameOk ms[k].name
      · obtain ⟨rfl, -⟩ := hT.yes hn
        have HNM := Lib.hid hn
        clear hT hn
        rcases hin : inB ms[k].heard 0 ck with _ | _
        · have hno : ¬ GroupOk ⟨ck, wt, gn, ms, os⟩ := not_ok_mem (g := ⟨ck, wt, gn, ms, os⟩) hlt (fun h => by
            have := h.heard
            simp only [inB, Bool.and_eq_false_iff, decide_eq_false_iff_not] at hin this
            omega)
          have HN := Lib.hid hno
          clear hno
          go_wp2_with (go_at_call 64; refine (In_any _ _ _ _).mono ?_; rintro e w' ⟨rfl, rfl⟩)
          go_ret
          exact Tells.mk_no HN.out (below_then HBW.out B3.out)
        · have hbd : 0 ≤ ms[k].heard ∧ ms[k].heard ≤ ck := by simpa [inB] using hin
          have HBD := Lib.hid hbd
          clear hbd
          go_wp2_with (go_at_call 64; refine (In_any _ _ _ _).mono ?_; rintro e w' ⟨rfl, rfl⟩)
          refine (rises_any _ ms[k].parts w3 (HXI.out.below (below_then HBW.out B3.out)) xl).mono ?_
          rintro e w4 hT
          have h4 : Below w3.heap.size w3 w4 := by obtain ⟨_, _, _, h⟩ := hT; exact h
          have h5 := below_then B3.out h4
          have bt4 := BT3.out.below h4 BT3.out.lt
          have bw4 := BW3.out.below h4 BW3.out.lt
          clear g0 g3 glt t0 t1 t2 tlt hin
          have t0 := bt4.cell 0
          have tlt := bt4.lt
          have g3 := bw4.cell 3
          have glt := bw4.lt
          have H5 := Lib.hid h5
          have H6 := Lib.hid (below_then HBW.out h5)
          clear h4 h5 bt4 bw4
          by_cases hr : Rises ms[k].parts
          · obtain ⟨rfl, -⟩ := hT.yes hr
            have HR := Lib.hid hr
            clear hT hr
            go_wp2_with fail
            go_loopw [5] (fun j wq => ∃ p : Nat, p ≤ k ∧ j = .int .i64 p ∧ Hid (∀ j', j' < p → ¬ NamedAt ms ms[k].name j') ∧ ∃ n, wq = w4.drewN n) (fun j _ => k - (intOf j).toNat)
            case atStart => exact ⟨0, by omega, rfl, fun j' hj => by omega, 0, rfl⟩
            case round =>
              obtain ⟨p, hp, rfl, HP, n, rfl⟩ := hrel
              have hbe := below_then H6.out (below_drewN_ w4 n)
              have HBE := Lib.hid hbe
              clear hbe
              by_cases hlp : p < k
              · have hlp' : p < ms.length := by omega
                obtain ⟨-, u0, -⟩ := HCC.out p hlp'
                have U0 := (H6.out.cell (p := ⟨b, off + p * 3, none⟩) hb).trans u0
                have p0 : (0 : Int) ≤ (p : Int) := by omega
                have p1 : (p : Int) < (ms.length : Int) := by omega
                have p2 : (p : Int) < (k : Int) := by omega
                clear u0
                by_cases hnm : ms[p].name = ms[k].name
                · have m1 : (ms[p].name.toList == ms[k].name.toList) = true := by simp [hnm]
                  have hno : ¬ GroupOk ⟨ck, wt, gn, ms, os⟩ := not_ok_named (g := ⟨ck, wt, gn, ms, os⟩) hlt ⟨p, hlp, hlp', hnm⟩
                  have HN := Lib.hid hno
                  clear hno hnm
                  go_wp2
                  go_quiet (fail)
                  go_wp2
                  go_ret
                  exact Tells.mk_no HN.out (below_then HBE.out (below_drewN_ _ _))
                · have m1 : (ms[p].name.toList == ms[k].name.toList) = false := beq_eq_false_iff_ne.2 fun h => hnm (toList_inj h)
                  have hst : ∀ j', j' < p + 1 → ¬ NamedAt ms ms[k].name j' := fun j' hj' => by
                    rcases Nat.lt_succ_iff_lt_or_eq.1 hj' with h' | rfl
                    · exact HP.out j' h'
                    · exact fun ⟨_, h⟩ => hnm h
                  have HST := Lib.hid hst
                  clear hst hnm
                  go_wp2
                  go_quiet (fail)
                  go_wp2
                  go_light
                  exact ⟨⟨p + 1, by omega, by go_num, HST.out, _, rfl⟩, by simp [intOf]; omega⟩
              · obtain rfl : p = k := by omega
                have hst := HK.out.step hlt ⟨HNM.out, HBD.out, HR.out⟩ (fun ⟨j, hj, h⟩ => HP.out j hj h)
                have HST := Lib.hid hst
                clear hst
                go_wp2
                go_light
                exact ⟨⟨p + 1, by omega, by go_num, HST.out, below_then HW.out (below_then H5.out (below_drewN_ w4 n))⟩, by simp [intOf]; omega⟩
          · obtain ⟨rfl, -⟩ := hT.no hr
            have hno : ¬ GroupOk ⟨ck, wt, gn, ms, os⟩ := not_ok_mem (g := ⟨ck, wt, gn, ms, os⟩) hlt (fun h => hr h.rises)
            have HN := Lib.hid hno
            clear hT hr hno
            go_wp2_with fail
            go_ret
            exact Tells.mk_no HN.out H6.out
      · obtain ⟨rfl, -⟩ := hT.no hn
        have hno : ¬ GroupOk ⟨ck, wt, gn, ms, os⟩ := not_ok_mem (g := ⟨ck, wt, gn, ms, os⟩) hlt (fun h => hn h.name)
        have HN := Lib.hid hno
        clear hT hn hno
        go_wp2_with fail
        go_ret
        exact Tells.mk_no HN.out (below_then HBW.out B3.out)
    · obtain rfl : k = ms.length := by omega
      clear hlt
      obtain ⟨w9, hw9⟩ : ∃ w9, w9 = wr := ⟨_, rfl⟩
      subst hw9
      obtain ⟨i0, hi0, hz0, hz1, hz2⟩ := info_parts CloneInt_info
      have h9 := BW.out.lt
      go_wp2_with fail
      clear g0 g3 g4 glt
      go_loopw [6, 7] (fun s i wq => GmLp w9 os s i wq) (fun _ i _ => os.length - (intOf i).toNat)
      case atStart => exact ⟨0, by omega, rfl, fun j _ hj => by omega, by simpa using World.ownsRow_nil _ _ _ _, Below.refl _ _⟩
      case round =>
        obtain ⟨k, hko, rfl, hat, ho, hb⟩ := hrel
        have HAT := Lib.hid hat
        have hbv := below_then HBW.out hb
        have bv := BW.out.below hb BW.out.lt
        have v4 := bv.cell 4
        have vlt := bv.lt
        have hsz := hb.size
        have HBV := Lib.hid hbv
        have HB9 := Lib.hid hb
        clear bv hbv hb hat
        by_cases hlt : k < os.length
        · obtain ⟨b, off, rfl, hbb, hcell⟩ := HO.out (by omega)
          obtain ⟨x0, x1⟩ := hcell k hlt
          have X0 := (HBV.out.cell (p := ⟨b, off + k * 2, none⟩) hbb).trans x0
          have X1 := (HBV.out.cell (p := ⟨b, off + k * 2 + 1, none⟩) hbb).trans x1
          have i0' : (0 : Int) ≤ (k : Int) := by omega
          have i1' : (k : Int) < (os.length : Int) := by omega
          clear x0 x1 hcell
          rcases hin : inB os[k].at_ 0 400 with _ | _
          · have hno : ¬ GroupOk ⟨ck, wt, gn, ms, os⟩ := not_ok_off (g := ⟨ck, wt, gn, ms, os⟩) hlt (by
              simp only [inB, Bool.and_eq_false_iff, decide_eq_false_iff_not] at hin
              simp only
              omega)
            have HN := Lib.hid hno
            clear hno
            go_wp2_with (go_at_call 64; refine (In_any _ _ _ _).mono ?_; rintro e w' ⟨rfl, rfl⟩)
            go_ret
            exact Tells.mk_no HN.out HBV.out
          · have hst : ∀ j (hj : j < os.length), j < k + 1 → 0 ≤ os[j].at_ ∧ os[j].at_ ≤ 400 := fun j hj hjk => by
              rcases Nat.lt_succ_iff_lt_or_eq.1 hjk with h' | rfl
              · exact HAT.out j hj h'
              · simpa [inB] using hin
            have HST := Lib.hid hst
            clear hst
            go_wp2_with (first | (go_at_call 64; refine (In_any _ _ _ _).mono ?_; rintro e w' ⟨rfl, rfl⟩) | (at_builtin; go_must (refine wpList_append_sl _ rfl (.tmp 95) (.tmp 102) 24 rfl w9.heap.size 3 i0 (.int .i64 0) 1 8 Try.underlying24 hi0 hz0 hz1 hz2 rfl (by decide) _ _ _ (by rfl) (ho.alloc _) _ 1 _ (by rfl) (Sl.lit _ _ _ 1 1 rfl) (by intro x hx; simp at hx; subst hx; rfl) (by simp only [maxLen]; omega) (by omega) (by simp; omega) ?_; intro v4 w4 ho4 hg4 ha4)))
            go_light
            have hmk : k < (os.map OffD.part).length := by simpa using hlt
            exact ⟨⟨k + 1, by omega, by go_num, HST.out, own_eq ho4 rfl (by rw [List.take_succ_eq_append_getElem hmk, List.map_append]; simp), own_below HB9.out (Nat.le_refl _) ho _ hg4⟩, by simp [intOf]; omega⟩
        · obtain rfl : k = os.length := by omega
          obtain ⟨A8, c8, rfl, -⟩ := (Sl.of_own ho).form
          have his : Is wr (.slice A8 os.length c8) (os.map OffD.part) := by
            have := Sl.of_own ho
            rw [List.take_of_length_le (by simp)] at this
            unfold Is L1
            rw [List.length_map]
            exact this
          have HI := Lib.hid his
          have hyes : Rises (os.map OffD.part) → GroupOk ⟨ck, wt, gn, ms, os⟩ := fun hr => HOK.out HK.out HAT.out hr
          have HY := Lib.hid hyes
          clear his hyes ho
          go_wp2_with fail
          refine (rises_any _ (os.map OffD.part) wr HI.out (by simp; omega)).mono ?_
          rintro e w5 ⟨bb, rfl, hbb, hb5⟩
          have HBB := Lib.hid hbb
          have hb6 := below_then HBV.out hb5
          clear hbb hb5
          go_wp2
          go_ret
          exact ⟨bb, rfl, HBB.out.trans ⟨HY.out, fun h => h.offsOk.rises⟩, hb6⟩

theorem group_may_any (v : Value) (g : GroupD) (w : World) (h : Gv w v g) (hnm : ∀ t ∈ g.mems, t.name.size ≤ 9223372036854775807) : Calls Try.prog 32 #[v] w (Tells (GroupOk g) w) := by
  obtain ⟨mv, ov, rfl, hx, ho, -⟩ := h
  obtain ⟨A, m, rfl, -⟩ := hx.at_
  obtain ⟨A', m', rfl, -⟩ := ho.at_
  by_cases h1 : inB g.clock 0 1073741824 = true
  · by_cases h2 : inB g.wait 1 1000 = true
    · by_cases h3 : inB g.gen 0 1073741824 = true
      · by_cases h7 : g.mems.length ≤ 6
        · by_cases h8 : g.offs.length ≤ 4
          · exact group_may_good g A A' m m' w hx ho h1 h2 h3 h7 h8 hnm
          · exact group_may_head g A A' m m' w (Or.inr (Or.inr (Or.inr (Or.inr ⟨h1, h2, h3, h7, by omega⟩))))
        · exact group_may_head g A A' m m' w (Or.inr (Or.inr (Or.inr (Or.inl ⟨h1, h2, h3, by omega⟩))))
      · exact group_may_head g A A' m m' w (Or.inr (Or.inr (Or.inl ⟨h1, h2, by simpa using h3⟩)))
    · exact group_may_head g A A' m m' w (Or.inr (Or.inl ⟨h1, by simpa using h2⟩))
  · exact group_may_head g A A' m m' w (Or.inl (by simpa using h1))

end Go.Proofs.Ytjkoceacjbhblaa
namespace Go.Proofs.Ytjkoceacjbhblaa
open Go.RowKit

theorem CloneMem_info : (Try.prog.info? 79).map (fun i => (i.zero, i.size, i.bytes)) = some (some (.agg #[.string .empty, .int .i64 0, .slice none 0 0]), 3, 48) := by kernel_rfl
set_option maxRecDepth 100000 in
set_option maxHeartbeats 1000000 in
theorem CloneMem_any (v : Value) (n : Nat) (xs : List Value) (w : World) (h : Sl w 3 v n xs) (h1 : ∀ x ∈ xs, x.oneCell' = true) (hm : n ≤ maxLen) (hb : n * 48 ≤ 140737488355328) :
    Calls Try.prog 68 #[v] w fun e w' => ∃ v', e = .returned v' ∧ w'.ownsRow w.heap.size 79 3 v' n xs ∧ Below w.heap.size w w' := by
  obtain ⟨i0, hi0, hz0, hz1, hz2⟩ := info_parts CloneMem_info
  obtain ⟨hl, A, c, rfl, hc, hcl⟩ := h
  rcases A with _ | a
  · have hn : n = 0 := by
      rcases Nat.eq_zero_or_pos n with h0 | h0
      · exact h0
      · obtain ⟨_, _, e, _⟩ := hcl h0
        cases e
    subst hn
    have hx : xs = [] := List.eq_nil_of_length_eq_zero (by simpa using hl)
    have HX := Lib.hid hx
    clear hx
    have hnil := fun W => Lib.run_eql_slice_nil (P := Try.prog) W 33 79 none 0 c 0 0 Try.underlying33
    go_enter Try.func68, Try.ntmps68
    go_wp2
    go_ret
    exact ⟨_, rfl, by rw [HX.out]; exact World.ownsRow_nil _ _ _ _, Below.refl _ _⟩
  · have hsl : Sl w 3 (.slice (some a) n c) n xs := ⟨hl, some a, c, rfl, hc, hcl⟩
    have hnil := fun W => Lib.run_eql_slice_nil (P := Try.prog) W 33 79 (some a) n c 0 0 Try.underlying33
    go_enter Try.func68, Try.ntmps68
    go_wp2_with (at_builtin; go_must (refine wpList_append_sl _ rfl (.tmp 5) (.tmp 6) 33 rfl w.heap.size 79 i0 (.agg #[.string .empty, .int .i64 0, .slice none 0 0]) 3 48 Try.underlying33 hi0 hz0 hz1 hz2 rfl (by decide) _ _ _ (by rfl) (own_lit (base := w.heap.size) w 79 _ 3 0 (Nat.le_refl _) (by simp [maxLen]) rfl) _ n xs (by rfl) (hsl.alloc _) h1 (by omega) (by omega) (by simp) ?_; intro v1 w1 ho1 hg1 ha1))
    go_ret
    exact ⟨v1, rfl, own_eq ho1 (by omega) (by simp), ((Below.refl _ _).alloc (Nat.le_refl _) _).grown hg1 (by simp) (by intro k hk; simp [Value.ownBlock] at hk; omega)⟩

end Go.Proofs.Ytjkoceacjbhblaa
namespace Go.Proofs.Ytjkoceacjbhblaa
open Go.RowKit

theorem CloneOff_info : (Try.prog.info? 81).map (fun i => (i.zero, i.size, i.bytes)) = some (some (.agg #[.int .i64 0, .int .i64 0]), 2, 16) := by kernel_rfl
set_option maxRecDepth 100000 in
set_option maxHeartbeats 1000000 in
theorem CloneOff_any (v : Value) (n : Nat) (xs : List Value) (w : World) (h : Sl w 2 v n xs) (h1 : ∀ x ∈ xs, x.oneCell' = true) (hm : n ≤ maxLen) (hb : n * 16 ≤ 140737488355328) :
    Calls Try.prog 69 #[v] w fun e w' => ∃ v', e = .returned v' ∧ w'.ownsRow w.heap.size 81 2 v' n xs ∧ Below w.heap.size w w' := by
  obtain ⟨i0, hi0, hz0, hz1, hz2⟩ := info_parts CloneOff_info
  obtain ⟨hl, A, c, rfl, hc, hcl⟩ := h
  rcases A with _ | a
  · have hn : n = 0 := by
      rcases Nat.eq_zero_or_pos n with h0 | h0
      · exact h0
      · obtain ⟨_, _, e, _⟩ := hcl h0
        cases e
    subst hn
    have hx : xs = [] := List.eq_nil_of_length_eq_zero (by simpa using hl)
    have HX := Lib.hid hx
    clear hx
    have hnil := fun W => Lib.run_eql_slice_nil (P := Try.prog) W 34 81 none 0 c 0 0 Try.underlying34
    go_enter Try.func69, Try.ntmps69
    go_wp2
    go_ret
    exact ⟨_, rfl, by rw [HX.out]; exact World.ownsRow_nil _ _ _ _, Below.refl _ _⟩
  · have hsl : Sl w 2 (.slice (some a) n c) n xs := ⟨hl, some a, c, rfl, hc, hcl⟩
    have hnil := fun W => Lib.run_eql_slice_nil (P := Try.prog) W 34 81 (some a) n c 0 0 Try.underlying34
    go_enter Try.func69, Try.ntmps69
    go_wp2_with (at_builtin; go_must (refine wpList_append_sl _ rfl (.tmp 5) (.tmp 6) 34 rfl w.heap.size 81 i0 (.agg #[.int .i64 0, .int .i64 0]) 2 16 Try.underlying34 hi0 hz0 hz1 hz2 rfl (by decide) _ _ _ (by rfl) (own_lit (base := w.heap.size) w 81 _ 2 0 (Nat.le_refl _) (by simp [maxLen]) rfl) _ n xs (by rfl) (hsl.alloc _) h1 (by omega) (by omega) (by simp) ?_; intro v1 w1 ho1 hg1 ha1))
    go_ret
    exact ⟨v1, rfl, own_eq ho1 (by omega) (by simp), ((Below.refl _ _).alloc (Nat.le_refl _) _).grown hg1 (by simp) (by intro k hk; simp [Value.ownBlock] at hk; omega)⟩

end Go.Proofs.Ytjkoceacjbhblaa
namespace Go.Proofs.Ytjkoceacjbhblaa
open Go.RowKit
attribute [local go_sem ↓] Go.wp_at_zero Go.wp_at_succ

theorem mcells_one (l : List (MemD × Value)) (h : ∀ t ∈ l, t.2.oneCell' = true) : ∀ x ∈ l.flatMap mcells, x.oneCell' = true := by
  intro x hx
  simp only [List.mem_flatMap] at hx
  obtain ⟨e, he, hx⟩ := hx
  simp only [mcells, List.mem_cons, List.not_mem_nil, or_false] at hx
  rcases hx with rfl | rfl | rfl <;> first | rfl | exact h e he
theorem ocells_one (l : List OffD) : ∀ x ∈ l.flatMap ocells, x.oneCell' = true := by
  intro x hx
  simp only [List.mem_flatMap] at hx
  obtain ⟨e, he, hx⟩ := hx
  simp only [ocells, List.mem_cons, List.not_mem_nil, or_false] at hx
  rcases hx with rfl | rfl <;> rfl
/-- the rows with new parts at place k -/
def setPartsM (rows : List (MemD × Value)) (k : Nat) (v : Value) : List (MemD × Value) := rows.modify k fun t => (t.1, v)
theorem setPartsM_fst : ∀ (rows : List (MemD × Value)) (k : Nat) (v : Value), (setPartsM rows k v).map Prod.fst = rows.map Prod.fst
  | [], k, v => by simp [setPartsM]
  | t :: rows, 0, v => by simp [setPartsM]
  | t :: rows, k + 1, v => by
    have := setPartsM_fst rows k v
    simp only [setPartsM] at *
    simp [this]
theorem setPartsM_cells : ∀ (rows : List (MemD × Value)) (k : Nat) (v : Value), k < rows.length → (setPartsM rows k v).flatMap mcells = (rows.flatMap mcells).set (k * 3 + 2) v
  | [], k, v, h => by simp at h
  | t :: rows, 0, v, h => by simp [setPartsM, mcells]
  | t :: rows, k + 1, v, h => by
    have ih := setPartsM_cells rows k v (by simpa using h)
    simp only [setPartsM] at ih
    have hl : (mcells t).length = 3 := rfl
    simp only [setPartsM, List.modify_succ_cons, List.flatMap_cons, ih]
    rw [List.set_append_right _ _ (by rw [hl]; omega), hl, show (k + 1) * 3 + 2 - 3 = k * 3 + 2 from by omega]
theorem setPartsM_take (rows : List (MemD × Value)) (k : Nat) (v : Value) (h : k < rows.length) : (setPartsM rows k v).take (k + 1) = rows.take k ++ [(rows[k].1, v)] := by
  have hl : k < (setPartsM rows k v).length := by simp [setPartsM]; exact h
  rw [List.take_succ_eq_append_getElem hl]
  congr 1
  · simp only [setPartsM, List.take_modify]
    exact List.modify_eq_self (by simp; omega)
  · simp [setPartsM]
theorem setPartsM_drop (rows : List (MemD × Value)) (k : Nat) (v : Value) : (setPartsM rows k v).drop (k + 1) = rows.drop (k + 1) := by
  simp [setPartsM, List.drop_modify_of_lt]

/-- v is a row of members of the call's own (the call began in w0); the first k have parts of their own, no two in one block; the others have the parts that they had -/
structure OwnM (w0 w : World) (base : Nat) (v : Value) (ds : List MemD) (rows : List (MemD × Value)) (k : Nat) : Prop where
  fst : rows.map Prod.fst = ds
  own : w.ownsRow base 79 3 v ds.length (rows.flatMap mcells)
  bel : Below w0.heap.size w0 w
  old : ∀ t ∈ rows.drop k, Is w0 t.2 t.1.parts
  parts : ∀ t ∈ rows.take k, w.ownsRow base 3 1 t.2 t.1.parts.length (t.1.parts.map (Value.int .i64))
  apart : (rows.take k).Pairwise fun a b => a.2.ownBlock = none ∨ a.2.ownBlock ≠ b.2.ownBlock

theorem OwnM.step {w0 w w5 : World} {base g c k : Nat} {ds : List MemD} {rows : List (MemD × Value)} {v5 : Value} (h : OwnM w0 w base (.slice (some ⟨g, 0, none⟩) ds.length c) ds rows k) (hk : k < rows.length) (hb0 : w0.heap.size ≤ base) (hb : base ≤ w.heap.size)
    (hbel : Below w.heap.size w w5) (ho : w5.ownsRow w.heap.size 3 1 v5 rows[k].1.parts.length (rows[k].1.parts.map (Value.int .i64))) :
    OwnM w0 (w5.setCell ⟨g, k * 3 + 2, none⟩ v5) base (.slice (some ⟨g, 0, none⟩) ds.length c) ds (setPartsM rows k v5) (k + 1) := by
  have hgl := h.own.lt g rfl
  have hown5 := own_keep h.own hbel (fun b hb => (h.own.lt b hb).2)
  have hg5 : ∃ cs fr, w5.heap[g]? = some (.cells cs 79 fr) := by
    rcases hown5.2 with ⟨e, _⟩ | ⟨g', cap, cur, e, _, hh, _⟩
    · cases e
    · injection e with e1
      injection e1 with e1
      injection e1 with e1
      subst e1
      exact ⟨_, _, hh⟩
  obtain ⟨cs, fr, hg5⟩ := hg5
  refine ⟨(setPartsM_fst rows k v5).trans h.fst, ?_, ?_, ?_, ?_, ?_⟩
  · rw [setPartsM_cells rows k v5 hk]
    exact (World.ownsRow.stored hown5 _ _).1
  · exact (h.bel.trans (hbel.mono h.bel.size)).setCell (by show w0.heap.size ≤ g; omega) _
  · intro t ht
    rw [setPartsM_drop] at ht
    refine h.old t ?_
    have : rows.drop (k + 1) = (rows.drop k).drop 1 := by simp [List.drop_drop]
    rw [this] at ht
    exact List.mem_of_mem_drop ht
  · intro t ht
    rw [setPartsM_take rows k v5 hk] at ht
    rcases List.mem_append.1 ht with ht | ht
    · exact own_far (own_keep (h.parts t ht) hbel (fun b hb => ((h.parts t ht).lt b hb).2)) hg5 (by decide) _ _
    · simp only [List.mem_singleton] at ht
      subst ht
      exact own_far (own_base ho hb) hg5 (by decide) _ _
  · rw [setPartsM_take rows k v5 hk]
    refine List.pairwise_append.2 ⟨h.apart, by simp, fun a ha b hb' => ?_⟩
    simp only [List.mem_singleton] at hb'
    subst hb'
    rcases hab : a.2.ownBlock with _ | x
    · exact Or.inl rfl
    · refine Or.inr fun e => ?_
      have h1 := (h.parts a ha).lt x hab
      have h2 := ho.lt x e.symm
      omega
theorem OwnM.more {w0 w : World} {base base' k : Nat} {v : Value} {ds : List MemD} {rows : List (MemD × Value)} (h : OwnM w0 w base v ds rows k) (hb : base' ≤ base) : OwnM w0 w base' v ds rows k :=
  ⟨h.fst, own_base h.own hb, h.bel, h.old, fun t ht => own_base (h.parts t ht) hb, h.apart⟩

theorem OwnM.under {w0 w : World} {base k : Nat} {v : Value} {ds : List MemD} {rows : List (MemD × Value)} (h : OwnM w0 w base v ds rows k) {a : Addr} (ha : a.block < base ∧ w0.heap.size ≤ a.block) (u : Value) : OwnM w0 (w.setCell a u) base v ds rows k :=
  ⟨h.fst, ownsRow_setCell_below h.own ha.1 u, h.bel.setCell ha.2 u, h.old, fun t ht => ownsRow_setCell_below (h.parts t ht) ha.1 u, h.apart⟩

theorem OwnM.at_ {w0 w : World} {base : Nat} {v : Value} {ds : List MemD} {rows : List (MemD × Value)} {k : Nat} (h : OwnM w0 w base v ds rows k) (hn : 0 < ds.length) : ∃ g c, v = .slice (some ⟨g, 0, none⟩) ds.length c ∧ base ≤ g ∧ g < w.heap.size ∧ ds.length ≤ c ∧ ∀ i (hi : i < rows.length) (j : Nat), j < 3 → w.cell? ⟨g, i * 3 + j, none⟩ = (mcells rows[i])[j]? ∧ w.frozen? ⟨g, i * 3 + j, none⟩ = false := by
  obtain ⟨g, c, hv, hb, hlt⟩ := h.own.form hn
  subst hv
  have hle : ds.length ≤ c := by
    obtain ⟨_, A, c', he, hc, _⟩ := Sl.of_own h.own
    injection he with _ _ e; omega
  refine ⟨g, c, rfl, hb, hlt, hle, fun i hi j hj => ⟨?_, World.ownsRow.frozenAt h.own _⟩⟩
  have hl : rows.length = ds.length := by rw [← h.fst]; simp
  rw [World.ownsRow.cellAt h.own _ (by omega)]
  exact cells_get mcells 3 (fun _ => rfl) rows i hi j hj

theorem OwnM.offs {w0 w w5 : World} {base base' g c k j n : Nat} {ds : List MemD} {rows : List (MemD × Value)} {u : Value} {xs : List Value} (h : OwnM w0 w base (.slice (some ⟨g, 0, none⟩) ds.length c) ds rows k) (hbel : Below w.heap.size w w5) (hof : w5.ownsRow base' 81 2 u n xs) (v5 : Value) : (w5.setCell ⟨g, j, none⟩ v5).ownsRow base' 81 2 u n xs := by
  have hown5 := own_keep h.own hbel (fun b hb => (h.own.lt b hb).2)
  rcases hown5.2 with ⟨e, _⟩ | ⟨g', cap, cur, e, _, hh, _⟩
  · cases e
  · injection e with e1
    injection e1 with e1
    injection e1 with e1
    subst e1
    exact own_far hof hh (by decide) _ _

/-- the loop of group.Copy -/
def CopyLpM (w : World) (bc zc : Array Value) (mv ov : Value) (ms : List MemD) (os : List OffD) (i : Value) (wr : World) : Prop :=
  ∃ (k : Nat) (rows : List (MemD × Value)), k ≤ ms.length ∧ i = .int .i64 k ∧ OwnM w wr (w.heap.size + 2) mv ms rows k ∧ wr.ownsRow (w.heap.size + 2) 81 2 ov os.length (os.flatMap ocells) ∧ Blk wr w.heap.size 36 bc ∧ Blk wr (w.heap.size + 1) 36 zc ∧ Below w.heap.size w wr
/-- what group.Copy leaves -/
def CopyPostM (w : World) (c : GroupD) (e : Ending) (w' : World) : Prop := ∃ mv ov rows, e = .returned (groupV c mv ov) ∧ OwnM w w' w.heap.size mv c.mems rows c.mems.length ∧ w'.ownsRow w.heap.size 81 2 ov c.offs.length (c.offs.flatMap ocells) ∧ Below w.heap.size w w'

set_option maxRecDepth 100000 in
set_option maxHeartbeats 8000000 in
theorem groupCopy_any (v : Value) (c : GroupD) (w : World) (h : Gv w v c) (hb : c.mems.length * 48 ≤ 140737488355328) (hp : ∀ t ∈ c.mems, t.parts.length * 8 ≤ 140737488355328) (ho : c.offs.length * 16 ≤ 140737488355328) :
    Calls Try.prog 30 #[v] w (CopyPostM w c) := by
  obtain ⟨xm, xo, rfl, ⟨rows, hfst, hsl, hparts⟩, hof, hlm, hlo⟩ := h
  unfold groupV
  obtain ⟨ck, wt, gn, ms, os⟩ := c
  simp only at *
  obtain ⟨A, c, rfl, hc⟩ := hsl.form
  obtain ⟨B, d, rfl, hd⟩ := Sl.form hof
  have H1 := Lib.hid hsl
  have H2 := Lib.hid hparts
  have H3 := Lib.hid hfst
  have H4 := Lib.hid hp
  have H5 := Lib.hid hof
  clear hsl hparts hfst hp hof
  have hone : ∀ x ∈ rows.flatMap mcells, x.oneCell' = true := mcells_one rows (fun t ht => Sl.oneCell (H2.out t ht).1)
  have HONE := Lib.hid hone
  clear hone
  have hm1 : ms.length ≤ maxLen := by simp only [maxLen]; omega
  have hm2 : os.length ≤ maxLen := by simp only [maxLen]; omega
  have HM1 := Lib.hid hm1
  have HM2 := Lib.hid hm2
  have HB := Lib.hid hb
  have HO := Lib.hid ho
  clear hm1 hm2 hb ho
  go_enter Try.func30, Try.ntmps30
  have hbd : Below w.heap.size w ((w.alloc (.cells #[.int .i64 ck, .int .i64 wt, .int .i64 gn, .slice A ms.length c, .slice B os.length d] 36)).alloc (.cells #[.int .i64 0, .int .i64 0, .int .i64 0, .slice none 0 0, .slice none 0 0] 36)).drew := (((Below.refl _ _).alloc (Nat.le_refl _) _).alloc (by simp) _).drew
  have bx := ((Blk.new w 36 #[.int .i64 ck, .int .i64 wt, .int .i64 gn, .slice A ms.length c, .slice B os.length d]).alloc (.cells #[.int .i64 0, .int .i64 0, .int .i64 0, .slice none 0 0, .slice none 0 0] 36))
  have bxd := bx.below (B := w.heap.size + 2) ((Below.refl _ _).drew) (by omega)
  go_wp2
  go_region_with (first
    | (go_at_call 68; refine (CloneMem_any (.slice A ms.length c) ms.length (rows.flatMap mcells) _ (H1.out.below hbd) HONE.out HM1.out HB.out).mono ?_; rintro e w5 ⟨v5, rfl, ho5, hb5⟩; obtain ⟨A5, c5, rfl, hc5⟩ := (Sl.of_own ho5).form; have k4 := (hb5.cell (p := ⟨w.heap.size, 4, none⟩) (by simp; omega)).trans (bxd.cell 4); have bx5 := bxd.below hb5 (by simp; omega); have hlt5 : w.heap.size < w5.heap.size := bx5.lt)
    | (go_at_call 69; refine (CloneOff_any (.slice B os.length d) os.length (os.flatMap ocells) _ (Sl.below H5.out (below_then hbd hb5)) (ocells_one os) HM2.out HO.out).mono ?_; rintro e w6 ⟨v6, rfl, ho6, hb6⟩; obtain ⟨A6, c6, rfl, hc6⟩ := (Sl.of_own ho6).form; have bx6 := bx5.below hb6 hlt5; have r3 := bx6.cell 3; have r4 := bx6.cell 4; have s3 := bx6.frozen 3; have s4 := bx6.frozen 4; have hlt6 : w.heap.size < w6.heap.size := bx6.lt))
  all_goals (
    have rx := (Blk.new (w.alloc (.cells #[.int .i64 ck, .int .i64 wt, .int .i64 gn, .slice A ms.length c, .slice B os.length d] 36)) 36 #[.int .i64 0, .int .i64 0, .int .i64 0, .slice none 0 0, .slice none 0 0]).below (B := w.heap.size + 2) ((Below.refl _ _).drew) (by simp)
    have sz5 := hb5.size
    have bl6 := below_then hbd (below_then hb5 hb6)
    simp only [World.size_alloc, World.size_drew] at rx ho5 hb5 sz5
    have rx6 := (rx.below hb5 (by omega)).below hb6 (by omega)
    have own5 := own_keep ho5 hb6 (fun b hb => (ho5.lt b hb).2)
    have own6 := own_base (base' := w.heap.size + 2) ho6 (by omega)
    have bx8 := (bx6.set_ 3 (.slice A5 ms.length c5)).set_ 4 (.slice A6 os.length c6)
    have rx8 := (rx6.far (p := ⟨w.heap.size, 3, none⟩) (by simp) (.slice A5 ms.length c5)).far (p := ⟨w.heap.size, 4, none⟩) (by simp) (.slice A6 os.length c6)
    have bl8 := (bl6.setCell (p := ⟨w.heap.size, 3, none⟩) (Nat.le_refl _) (.slice A5 ms.length c5)).setCell (p := ⟨w.heap.size, 4, none⟩) (Nat.le_refl _) (.slice A6 os.length c6)
    have own58 := ownsRow_setCell_below (ownsRow_setCell_below own5 (a := ⟨w.heap.size, 3, none⟩) (by simp; omega) (.slice A5 ms.length c5)) (a := ⟨w.heap.size, 4, none⟩) (by simp; omega) (.slice A6 os.length c6)
    have own68 := ownsRow_setCell_below (ownsRow_setCell_below own6 (a := ⟨w.heap.size, 3, none⟩) (by simp) (.slice A5 ms.length c5)) (a := ⟨w.heap.size, 4, none⟩) (by simp) (.slice A6 os.length c6)
    generalize (w6.setCell ⟨w.heap.size, 3, none⟩ (.slice A5 ms.length c5)).setCell ⟨w.heap.size, 4, none⟩ (.slice A6 os.length c6) = W2 at *
    simp only [List.setIfInBounds_toArray, List.set_cons_succ, List.set_cons_zero] at bx8
    have hown : OwnM w W2 (w.heap.size + 2) (.slice A5 ms.length c5) ms rows 0 := ⟨H3.out, own58, bl8, fun t ht => (H2.out t (by simpa using ht)).1, by simp, by simp⟩
    clear hbd bx bxd hb5 ho5 k4 bx5 hlt5 hb6 ho6 bx6 r3 r4 s3 s4 hlt6 rx sz5 rx6 bl6 own5 own6 own58
    have q3 := bx8.cell 3
    have PO := Lib.hid hown
    have PB := Lib.hid bx8
    have PR := Lib.hid rx8
    have PL := Lib.hid bl8
    have PF := Lib.hid own68
    clear hown bx8 rx8 bl8 own68
    go_wp2
    go_loopw [15] (fun i wr => CopyLpM w #[.int .i64 ck, .int .i64 wt, .int .i64 gn, .slice A5 ms.length c5, .slice A6 os.length c6] #[.int .i64 0, .int .i64 0, .int .i64 0, .slice none 0 0, .slice none 0 0] (.slice A5 ms.length c5) (.slice A6 os.length c6) ms os i wr) (fun i _ => ms.length - (intOf i).toNat)
    case atStart => exact ⟨0, rows, by omega, rfl, PO.out, PF.out, PB.out, PR.out, PL.out⟩
    case round =>
      obtain ⟨k, rows', hk, rfl, ho, hof, hbx, hrx, hbl⟩ := hrel
      clear q3
      have q3 := hbx.cell 3
      by_cases hlt : k < ms.length
      · have hl : rows'.length = ms.length := by rw [← ho.fst]; simp
        obtain ⟨g, c2, hv, hg1, hg2, hc2, hcell⟩ := ho.at_ (by omega)
        injection hv with hA hlen' hcc
        subst hA hcc
        have hr := (ho.old rows'[k] (List.mem_drop_iff_getElem.2 ⟨0, by omega, by simp⟩)).below ho.bel
        have h4 := (hcell k (by omega) 2 (by omega)).1
        have f4 := (hcell k (by omega) 2 (by omega)).2
        have h4' : wr.cell? ⟨g, k * 3 + 2, none⟩ = some rows'[k].2 := h4
        have HRD := Lib.hid hr
        have HOW := Lib.hid ho
        have HFF := Lib.hid hof
        have hpl : (rows'[k].1.parts.length : Nat) * 8 ≤ 140737488355328 := by
          have he : ms[k] = rows'[k].1 := by simp [← HOW.out.fst]
          rw [← he]; exact H4.out _ (List.getElem_mem _)
        generalize hpv : rows'[k].2 = pv at h4' HRD
        have HPV := Lib.hid hpv
        clear hpv
        obtain ⟨A3, c3, rfl, hc3⟩ := Sl.form HRD.out
        have hk0 : (0 : Int) ≤ (k : Int) := by omega
        have hk1 : (k : Int) < (ms.length : Int) := by omega
        clear h4 hcell hr ho hof
        go_wp2
        have hrd := HRD.out
        have hbd : Below wr.heap.size wr wr.drew := (Below.refl _ _).drew
        have hlw : w.heap.size < wr.heap.size := hbx.lt
        have q3' : wr.cell? ⟨w.heap.size, 3, none⟩ = some (.slice (some ⟨g, 0, none⟩) ms.length c5) := q3
        have hpm : rows'[k].1.parts.length ≤ maxLen := by simp only [maxLen]; omega
        go_region_with ((go_at_call 67; refine (CloneInt_any (.slice A3 rows'[k].1.parts.length c3) rows'[k].1.parts.length (rows'[k].1.parts.map (Value.int .i64)) _ (Sl.below hrd hbd) (ints_one _) hpm hpl).mono ?_; rintro e w5 ⟨v5, rfl, ho5, hb5⟩; obtain ⟨A5, c5, rfl, hc5⟩ := (Sl.of_own ho5).form; have hbel := below_then hbd hb5; have k1 := (hbel.cell (p := ⟨w.heap.size, 3, none⟩) hlw).trans q3'; have k2 := (hbel.cell (p := ⟨g, k * 3 + 2, none⟩) hg2).trans h4'; have k3 := (hbel.frozen (p := ⟨g, k * 3 + 2, none⟩) hg2).trans f4))
        all_goals go_wp2
        all_goals go_light
        all_goals refine ⟨?_, by simp [intOf]; omega⟩
        all_goals have hof5 := own_keep HFF.out hbel (fun b hb => (HFF.out.lt b hb).2)
        all_goals exact ⟨k + 1, setPartsM rows' k _, by omega, by go_num, HOW.out.step (by omega) (by omega) (by omega) hbel ho5, HOW.out.offs hbel hof5 _, ((hbx.below hbel hbx.lt).far (by show w.heap.size ≠ g; omega) _), ((hrx.below hbel hrx.lt).far (by show w.heap.size + 1 ≠ g; omega) _), (HOW.out.bel.trans (hbel.mono HOW.out.bel.size)).setCell (by show w.heap.size ≤ g; omega) _⟩
      · obtain rfl : k = ms.length := by omega
        have q0 := hbx.cell 0
        have q1 := hbx.cell 1
        have q2 := hbx.cell 2
        have q4 := hbx.cell 4
        have z0 := hrx.cell 0
        have z1 := hrx.cell 1
        have z2 := hrx.cell 2
        have z3 := hrx.cell 3
        have z4 := hrx.cell 4
        have f0 := hrx.frozen 0
        have f1 := hrx.frozen 1
        have f2 := hrx.frozen 2
        have f3 := hrx.frozen 3
        have f4 := hrx.frozen 4
        have HOW := Lib.hid ho
        have HFF := Lib.hid hof
        clear ho hof
        go_wp2
        have HB5 := (((((hrx.set_ 0 (.int .i64 ck)).set_ 1 (.int .i64 wt)).set_ 2 (.int .i64 gn)).set_ 3 (.slice A5 ms.length c5)).set_ 4 (.slice A6 os.length c6))
        have HO5 := ((((HOW.out.under (a := ⟨w.heap.size + 1, 0, none⟩) (by simp) (.int .i64 ck)).under (a := ⟨w.heap.size + 1, 1, none⟩) (by simp) (.int .i64 wt)).under (a := ⟨w.heap.size + 1, 2, none⟩) (by simp) (.int .i64 gn)).under (a := ⟨w.heap.size + 1, 3, none⟩) (by simp) (.slice A5 ms.length c5)).under (a := ⟨w.heap.size + 1, 4, none⟩) (by simp) (.slice A6 os.length c6)
        have HF5 := ownsRow_setCell_below (ownsRow_setCell_below (ownsRow_setCell_below (ownsRow_setCell_below (ownsRow_setCell_below HFF.out (a := ⟨w.heap.size + 1, 0, none⟩) (by simp) (.int .i64 ck)) (a := ⟨w.heap.size + 1, 1, none⟩) (by simp) (.int .i64 wt)) (a := ⟨w.heap.size + 1, 2, none⟩) (by simp) (.int .i64 gn)) (a := ⟨w.heap.size + 1, 3, none⟩) (by simp) (.slice A5 ms.length c5)) (a := ⟨w.heap.size + 1, 4, none⟩) (by simp) (.slice A6 os.length c6)
        have HL5 : Below w.heap.size w (((((wr.setCell ⟨w.heap.size + 1, 0, none⟩ (.int .i64 ck)).setCell ⟨w.heap.size + 1, 1, none⟩ (.int .i64 wt)).setCell ⟨w.heap.size + 1, 2, none⟩ (.int .i64 gn)).setCell ⟨w.heap.size + 1, 3, none⟩ (.slice A5 ms.length c5)).setCell ⟨w.heap.size + 1, 4, none⟩ (.slice A6 os.length c6)) := ((((hbl.setCell (Nat.le_succ _) _).setCell (Nat.le_succ _) _).setCell (Nat.le_succ _) _).setCell (Nat.le_succ _) _).setCell (Nat.le_succ _) _
        generalize ((((wr.setCell ⟨w.heap.size + 1, 0, none⟩ (.int .i64 ck)).setCell ⟨w.heap.size + 1, 1, none⟩ (.int .i64 wt)).setCell ⟨w.heap.size + 1, 2, none⟩ (.int .i64 gn)).setCell ⟨w.heap.size + 1, 3, none⟩ (.slice A5 ms.length c5)).setCell ⟨w.heap.size + 1, 4, none⟩ (.slice A6 os.length c6) = W5 at *
        simp only [List.setIfInBounds_toArray, List.set_cons_succ, List.set_cons_zero] at HB5
        have y0 := HB5.cell 0
        have y1 := HB5.cell 1
        have y2 := HB5.cell 2
        have y3 := HB5.cell 3
        have y4 := HB5.cell 4
        exact bodyPost_ret (v := .agg #[.int .i64 ck, .int .i64 wt, .int .i64 gn, .slice A5 ms.length c5, .slice A6 os.length c6]) (by simp [results, Try.results30, go_sem, y0, y1, y2, y3, y4]) rfl ⟨.slice A5 ms.length c5, .slice A6 os.length c6, rows', rfl, HO5.more (by omega), own_base HF5 (by omega), HL5⟩)

theorem CopyPostM.gv {w w' : World} {c : GroupD} {e : Ending} (h : CopyPostM w c e w') (hc : c.mems.length ≤ 9223372036854775807) (hd : c.offs.length ≤ 9223372036854775807) (hp : ∀ t ∈ c.mems, t.parts.length ≤ 9223372036854775807) : ∃ A n B m, e = .returned (groupV c (.slice A c.mems.length n) (.slice B c.offs.length m)) ∧ Gv w' (groupV c (.slice A c.mems.length n) (.slice B c.offs.length m)) c ∧ Below w.heap.size w w' := by
  obtain ⟨mv, ov, rows, rfl, ho, hf, hb⟩ := h
  have hl : rows.length = c.mems.length := by rw [← ho.fst]; simp
  have hg : Gv w' (groupV c mv ov) c := by
    refine ⟨mv, ov, rfl, ⟨rows, ho.fst, Sl.of_own ho.own, fun t ht => ?_⟩, Sl.of_own hf, hc, hd⟩
    have ht' : t ∈ rows.take c.mems.length := by rw [← hl, List.take_length]; exact ht
    refine ⟨?_, hp _ (by rw [← ho.fst]; exact List.mem_map_of_mem ht)⟩
    have := Sl.of_own (ho.parts t ht')
    exact this
  obtain ⟨A, n, rfl, -⟩ := (Sl.of_own ho.own).form
  obtain ⟨B, m, rfl, -⟩ := (Sl.of_own hf).form
  exact ⟨A, n, B, m, rfl, hg, hb⟩
end Go.Proofs.Ytjkoceacjbhblaa
namespace Go.Proofs.Ytjkoceacjbhblaa
open Go.RowKit

theorem Own.keep {w0 w w' : World} {base k : Nat} {v : Value} {ds : List TxnD} {rows : List (TxnD × Value)} (h : Own w0 w base v ds rows k) (hb : Below w.heap.size w w') : Own w0 w' base v ds rows k :=
  ⟨h.fst, own_keep h.own hb (fun b hb => (h.own.lt b hb).2), h.bel.trans (hb.mono h.bel.size), h.old, fun t ht => own_keep (h.parts t ht) hb (fun b hb => ((h.parts t ht).lt b hb).2), h.apart⟩
theorem Own.rebase {w0 w1 w : World} {base base' n : Nat} {v : Value} {ds : List TxnD} {rows : List (TxnD × Value)} (h : Own w1 w base v ds rows n) (hn : n = ds.length) (hb : base' ≤ base) (hw : Below w0.heap.size w0 w) : Own w0 w base' v ds rows n := by
  have hl : rows.length = ds.length := by rw [← h.fst]; simp
  refine ⟨h.fst, own_base h.own hb, hw, fun t ht => ?_, fun t ht => own_base (h.parts t ht) hb, h.apart⟩
  rw [List.drop_of_length_le (by omega)] at ht
  simp at ht

/-- the bounds that a coordinator which may be keeps -/
theorem CoordOk.bounds {c : CoordD} (h : CoordOk c) : c.txns.length * 80 ≤ 140737488355328 ∧ (∀ t ∈ c.txns, t.parts.length * 8 ≤ 140737488355328) ∧ c.txns.length ≤ 9223372036854775807 ∧ ∀ t ∈ c.txns, t.parts.length ≤ 9223372036854775807 := by
  have h1 := h.many
  have h2 : ∀ t ∈ c.txns, t.parts.length ≤ 4 := by
    intro t ht
    obtain ⟨i, hi, rfl⟩ := List.mem_iff_getElem.1 ht
    exact (h.all i hi hi).1.rises.small
  exact ⟨by omega, fun t ht => by have := h2 t ht; omega, by omega, fun t ht => by have := h2 t ht; omega⟩

/-- a refusal: no coordinator, an error number -/
def zeroV : Value := .agg #[.int .i64 0, .int .i64 0, .int .i64 0, .slice none 0 0]
def Refuses (n : Int) (w : World) (e : Ending) (w' : World) : Prop := e = .returned (.tuple #[.agg #[.int .i64 0, .int .i64 0, .int .i64 0, .slice none 0 0], .int .i64 0, .int .i64 n]) ∧ Below w.heap.size w w'
def Found (c : CoordD) (i : Int) (w : World) (e : Ending) (w' : World) : Prop := ∃ tv rows, e = .returned (.tuple #[coordV c tv, .int .i64 i, .int .i64 0]) ∧ Own w w' w.heap.size tv c.txns rows c.txns.length ∧ Below w.heap.size w w'

end Go.Proofs.Ytjkoceacjbhblaa
namespace Go.Proofs.Ytjkoceacjbhblaa
open Go.RowKit

/-- the fault of a call that names a producer: n is not 0 -/
def NameFault (c : CoordD) (s : ByteArray) (n : Int) : Prop := (¬ CoordOk c ∧ n = 12) ∨ (CoordOk c ∧ ¬ NameOk s ∧ n = 4)
/-- the fault of a call that names a producer and a version -/
def KnownFault (c : CoordD) (s : ByteArray) (ver n : Int) : Prop := NameFault c s n ∨ (CoordOk c ∧ NameOk s ∧ ((idxOf c.txns s = none ∧ n = 5) ∨ (∃ i, ∃ h : i < c.txns.length, idxOf c.txns s = some i ∧ c.txns[i].ver ≠ ver ∧ n = 10)))
def Known (c : CoordD) (s : ByteArray) (ver : Int) (i : Nat) : Prop := CoordOk c ∧ NameOk s ∧ idxOf c.txns s = some i ∧ ∃ h : i < c.txns.length, c.txns[i].ver = ver
theorem KnownFault.ne {c : CoordD} {s : ByteArray} {ver n : Int} (h : KnownFault c s ver n) : n ≠ 0 := by
  rcases h with (⟨_, rfl⟩ | ⟨_, _, rfl⟩) | ⟨_, _, ⟨_, rfl⟩ | ⟨_, _, _, _, rfl⟩⟩ <;> decide

theorem own_rows {rows : List (TxnD × Value)} {ts : List TxnD} (h : rows.map Prod.fst = ts) : rows.length = ts.length := by
  rw [← h]
  simp
theorem fst_get {rows : List (TxnD × Value)} {ts : List TxnD} (h : rows.map Prod.fst = ts) {i : Nat} (hi : i < rows.length) (hi' : i < ts.length) : rows[i].1 = ts[i] := by
  subst h
  simp
end Go.Proofs.Ytjkoceacjbhblaa
namespace Go.Proofs.Ytjkoceacjbhblaa
open Go.RowKit

/-- a coordinator in memory of its own, and beside it the plain values xs -/
def CRes (c : CoordD) (xs : List Value) (w : World) (e : Ending) (w' : World) : Prop :=
  ∃ tv rows, e = .returned (.tuple (coordV c tv :: xs).toArray) ∧ Own w w' w.heap.size tv c.txns rows c.txns.length ∧ Below w.heap.size w w'
theorem own_nil {w0 w : World} {base : Nat} (hb : Below w0.heap.size w0 w) : Own w0 w base (.slice none 0 0) [] [] 0 :=
  ⟨rfl, World.ownsRow_nil _ _ _ _, hb, by simp, by simp, by simp⟩
theorem CRes.zero {xs : List Value} {w w' : World} (hb : Below w.heap.size w w') : CRes zeroC xs w (.returned (.tuple (.agg #[.int .i64 0, .int .i64 0, .int .i64 0, .slice none 0 0] :: xs).toArray)) w' :=
  ⟨.slice none 0 0, [], rfl, own_nil hb, hb⟩
/-- small coordinators: what a copy asks -/
def CoordD.Fits (c : CoordD) : Prop := c.txns.length * 80 ≤ 140737488355328 ∧ (∀ t ∈ c.txns, t.parts.length * 8 ≤ 140737488355328) ∧ c.txns.length ≤ 9223372036854775807 ∧ ∀ t ∈ c.txns, t.parts.length ≤ 9223372036854775807
theorem zero_fits : zeroC.Fits := by simp [CoordD.Fits, zeroC]

theorem Own.alloc {w0 w : World} {base n : Nat} {v : Value} {ds : List TxnD} {rows : List (TxnD × Value)} (h : Own w0 w base v ds rows n) (o : Obj) : Own w0 (w.alloc o) base v ds rows n :=
  h.keep ((Below.refl _ _).alloc (Nat.le_refl _) o)
/-- f at the first k -/
def upTo {α : Type} (f : α → α) (l : List α) (k : Nat) : List α := (l.take k).map f ++ l.drop k
theorem CopyPost.open_ {c : CoordD} {w w' : World} {e : Ending} (h : CopyPost w c e w') (hc : c.txns.length ≤ 9223372036854775807) (hp : ∀ t ∈ c.txns, t.parts.length ≤ 9223372036854775807) : ∃ A m, e = .returned (.agg #[.int .i64 c.clock, .int .i64 c.next, .int .i64 c.wait, .slice A c.txns.length m]) ∧ Cv w' (.agg #[.int .i64 c.clock, .int .i64 c.next, .int .i64 c.wait, .slice A c.txns.length m]) c ∧ Below w.heap.size w w' := by
  obtain ⟨tv, rows, rfl, ho, hb⟩ := h
  obtain ⟨A, m, rfl, -⟩ := (Sl.of_own ho.own).form
  exact ⟨A, m, rfl, ho.cv rfl hc hp, hb⟩

def tickT (ck wt : Int) (t : TxnD) : TxnD := if t.state = 2 ∧ wt ≤ ck - t.since ∧ t.ver < 1073741824 then ⟨t.name, t.pid, t.ver + 1, 4, t.parts, t.since, t.done⟩ else t
def tickC (c : CoordD) (n : Int) : CoordD := ⟨c.clock + n, c.next, c.wait, c.txns.map (tickT (c.clock + n) c.wait)⟩
def TickOk (c : CoordD) (n : Int) : Prop := 0 ≤ n ∧ n ≤ 1000 ∧ c.clock + n ≤ 1073741824
def TickTo (c : CoordD) (n : Int) (c' : CoordD) (code : Int) : Prop :=
  (¬ CoordOk c ∧ c' = zeroC ∧ code = 12) ∨ (CoordOk c ∧ ¬ TickOk c n ∧ c' = zeroC ∧ code = 2) ∨ (CoordOk c ∧ TickOk c n ∧ c' = tickC c n ∧ code = 0)
theorem tickT_parts (ck wt : Int) (t : TxnD) : (tickT ck wt t).parts = t.parts := by unfold tickT; split <;> rfl
theorem CoordOk.fits {c : CoordD} (h : CoordOk c) : c.Fits := h.bounds
theorem tick_fits {c : CoordD} {n : Int} (h : CoordOk c) : (tickC c n).Fits := by
  obtain ⟨h1, h2, h3, h4⟩ := h.fits
  refine ⟨by simpa [tickC] using h1, ?_, by simpa [tickC] using h3, ?_⟩
  · intro t ht
    obtain ⟨t', ht', rfl⟩ := List.mem_map.1 ht
    rw [tickT_parts]; exact h2 t' ht'
  · intro t ht
    obtain ⟨t', ht', rfl⟩ := List.mem_map.1 ht
    rw [tickT_parts]; exact h4 t' ht'
theorem TickTo.fits {c : CoordD} {n : Int} {c' : CoordD} {code : Int} (h : TickTo c n c' code) : c'.Fits := by
  rcases h with ⟨-, rfl, -⟩ | ⟨-, -, rfl, -⟩ | ⟨h, -, rfl, -⟩
  · exact zero_fits
  · exact zero_fits
  · exact tick_fits h

end Go.Proofs.Ytjkoceacjbhblaa
