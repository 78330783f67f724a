/- Parts of a proof, merged: CoordJ, GStoA, InsO. No condition. -/
import Derived.Test.YtjkoceacjbhblaaGs3
import Derived.Test.YtjkoceacjbhblaaGs1
import Derived.Test.YtjkoceacjbhblaaGs2
namespace Go.Proofs.Ytjkoceacjbhblaa
open Go.RowKit

theorem Rises.lt {l : List Int} (h : Rises l) : ∀ i j (hi : i < j) (hj : j < l.length), l[i] < l[j] := by
  intro i j hi hj
  induction j with
  | zero => omega
  | succ j ih =>
    have h1 := (h (j + 1) hj).2.2 j rfl
    rcases Nat.lt_succ_iff_lt_or_eq.1 hi with h2 | h2
    · have := ih h2 (by omega); omega
    · subst h2; exact h1
/-- where x is, or would be: so many are under it -/
def under (l : List Int) (x : Int) : Nat := l.countP (· < x)
theorem under_at : ∀ {l : List Int} (_ : ∀ i j (_ : i < j) (hj : j < l.length), l[i] < l[j]) (x : Int) (k : Nat), (k ≤ l.length) → (∀ j (hj : j < l.length), j < k → l[j] < x) → (∀ j (hj : j < l.length), k ≤ j → x ≤ l[j]) → under l x = k
  | [], _, x, k, hk, _, _ => by simp at hk; subst hk; rfl
  | y :: l, h, x, k, hk, h1, h2 => by
    rcases k with _ | k
    · have : (y :: l).countP (· < x) = 0 := by
        rw [List.countP_eq_zero]
        intro z hz
        obtain ⟨j, hj, rfl⟩ := List.mem_iff_getElem.1 hz
        have := h2 j hj (Nat.zero_le _)
        simp; omega
      exact this
    · have hy : y < x := h1 0 (by simp) (by omega)
      have ih := under_at (l := l) (fun i j hij hj => by have := h (i + 1) (j + 1) (by omega) (by simpa using hj); simpa using this) x k (by simpa using hk)
        (fun j hj hjk => by have := h1 (j + 1) (by simpa using hj) (by omega); simpa using this) (fun j hj hjk => by have := h2 (j + 1) (by simpa using hj) (by omega); simpa using this)
      unfold under at *
      rw [List.countP_cons_of_pos (by simpa using hy), ih]
theorem Rises.drop {l : List Int} (h : Rises l) (k : Nat) : Rises (delAt l k) := by
  intro i hi
  unfold delAt at hi
  have key : ∀ j (hj : j < (delAt l k).length), ∃ m, ∃ hm : m < l.length, (delAt l k)[j] = l[m] ∧ ((j < k ∧ m = j) ∨ (k ≤ j ∧ m = j + 1)) := by
    intro j hj
    unfold delAt at hj ⊢
    simp only [List.length_append, List.length_take, List.length_drop] at hj
    by_cases hjk : j < (l.take k).length
    · have hj2 := hjk
      simp only [List.length_take] at hj2
      refine ⟨j, by omega, ?_, Or.inl ⟨by omega, rfl⟩⟩
      rw [List.getElem_append_left hjk, List.getElem_take]
    · have hj2 := hjk
      simp only [List.length_take] at hj2
      refine ⟨j + 1, by omega, ?_, Or.inr ⟨by omega, rfl⟩⟩
      rw [List.getElem_append_right (by omega), List.getElem_drop]
      congr 1
      simp only [List.length_take]
      omega
  obtain ⟨m, hm, e, hc⟩ := key i hi
  rw [e]
  refine ⟨(h m hm).1, (h m hm).2.1, fun j hj => ?_⟩
  obtain ⟨m2, hm2, e2, hc2⟩ := key j (by have := hi; unfold delAt; omega)
  rw [e2]
  exact h.lt m2 m (by omega) hm

theorem upd_fits2 {c : CoordD} (h : CoordOk c) (i : Nat) (f : TxnD → TxnD) (hi : i < c.txns.length) (hf : (f c.txns[i]).parts.length ≤ 4) : (c.upd i f).Fits := by
  have hm := h.many
  have key : ∀ t ∈ c.txns.modify i f, t.parts.length ≤ 4 := by
    intro t ht
    obtain ⟨j, hj, rfl⟩ := List.mem_iff_getElem.1 ht
    have hj' : j < c.txns.length := by simpa using hj
    rw [List.getElem_modify]
    split
    · rename_i e
      subst e
      exact hf
    · exact (h.all j hj' hj').1.rises.small
  have hl : (c.txns.modify i f).length ≤ 8 := by simpa using hm
  refine ⟨?_, fun t ht => ?_, ?_, fun t ht => ?_⟩
  · show (c.txns.modify i f).length * 80 ≤ _; omega
  · have := key t ht; omega
  · show (c.txns.modify i f).length ≤ _; omega
  · have := key t ht; omega

def cutT (k : Nat) (t : TxnD) : TxnD := ⟨t.name, t.pid, t.ver, t.state, delAt t.parts k, t.since, t.done⟩
def lastT (t : TxnD) : TxnD := ⟨t.name, t.pid, t.ver, 1, [], t.since, t.state⟩
def DoneAt (c : CoordD) (i : Nat) (part : Int) (c' : CoordD) (code : Int) : Prop :=
  ∃ h : i < c.txns.length, (c.txns[i].state ≠ 3 ∧ c.txns[i].state ≠ 4 ∧ c' = zeroC ∧ code = 12) ∨
    ((c.txns[i].state = 3 ∨ c.txns[i].state = 4) ∧ ((part ∉ c.txns[i].parts ∧ c' = zeroC ∧ code = 5) ∨
      (∃ k, ∃ hk : k < c.txns[i].parts.length, c.txns[i].parts[k] = part ∧ code = 0 ∧ ((c.txns[i].parts.length = 1 ∧ c' = c.upd i lastT) ∨ (1 < c.txns[i].parts.length ∧ c' = c.upd i (cutT k))))))
def DoneTo (c : CoordD) (s : ByteArray) (part : Int) (c' : CoordD) (code : Int) : Prop :=
  (NameFault c s code ∧ c' = zeroC) ∨ (CoordOk c ∧ NameOk s ∧ ((idxOf c.txns s = none ∧ c' = zeroC ∧ code = 5) ∨ ∃ i, idxOf c.txns s = some i ∧ DoneAt c i part c' code))
theorem DoneTo.fits {c : CoordD} {s : ByteArray} {part : Int} {c' : CoordD} {code : Int} (h : DoneTo c s part c' code) : c'.Fits := by
  rcases h with ⟨-, rfl⟩ | ⟨hk, -, ⟨-, rfl, -⟩ | ⟨i, -, hl, h⟩⟩
  · exact zero_fits
  · exact zero_fits
  · rcases h with ⟨-, -, rfl, -⟩ | ⟨-, ⟨-, rfl, -⟩ | ⟨k, hkl, -, -, ⟨-, rfl⟩ | ⟨-, rfl⟩⟩⟩
    · exact zero_fits
    · exact zero_fits
    · exact upd_fits hk i _ fun t => Or.inl (by simp [lastT])
    · have := ((hk.all i hl hl).1.rises.drop k).small
      refine upd_fits2 hk i _ hl ?_
      exact this

def withPart (l : List Int) (x : Int) : List Int := if l.contains x then l else insAt l (under l x) x
def addT (x : Int) (t : TxnD) : TxnD := ⟨t.name, t.pid, t.ver, t.state, withPart t.parts x, t.since, t.done⟩
def openT (x ck : Int) (t : TxnD) : TxnD := ⟨t.name, t.pid, t.ver, 2, withPart t.parts x, ck, t.done⟩
theorem under_split : ∀ {l : List Int} (_ : ∀ i j (_ : i < j) (hj : j < l.length), l[i] < l[j]) (x : Int), ∃ k, k ≤ l.length ∧ (∀ j (hj : j < l.length), j < k → l[j] < x) ∧ (∀ j (hj : j < l.length), k ≤ j → x ≤ l[j])
  | [], _, _ => ⟨0, by simp, fun j hj => by simp at hj, fun j hj => by simp at hj⟩
  | y :: l, h, x => by
    by_cases hy : y < x
    · obtain ⟨k, h1, h2, h3⟩ := under_split (l := l) (fun i j hij hj => by have := h (i + 1) (j + 1) (by omega) (by simpa using hj); simpa using this) x
      refine ⟨k + 1, by simpa using h1, fun j hj hjk => ?_, fun j hj hjk => ?_⟩
      · rcases j with _ | j
        · exact hy
        · exact h2 j (by simpa using hj) (by omega)
      · rcases j with _ | j
        · omega
        · exact h3 j (by simpa using hj) (by omega)
    · refine ⟨0, Nat.zero_le _, fun j hj hjk => by omega, fun j hj _ => ?_⟩
      rcases j with _ | j
      · simp; omega
      · have := h 0 (j + 1) (by omega) hj
        simp at this ⊢
        omega
theorem pair_lt {l : List Int} (h : Rises l) : l.Pairwise (· < ·) := List.pairwise_iff_getElem.2 fun i j _ hj hij => h.lt i j hij hj
theorem ext_lt : ∀ {l m : List Int}, l.Pairwise (· < ·) → m.Pairwise (· < ·) → (∀ x, x ∈ l ↔ x ∈ m) → l = m
  | [], [], _, _, _ => rfl
  | [], y :: m, _, _, h => by have := (h y).2 (by simp); simp at this
  | x :: l, [], _, _, h => by have := (h x).1 (by simp); simp at this
  | x :: l, y :: m, hl, hm, h => by
    rw [List.pairwise_cons] at hl hm
    have hxy : x = y := by
      rcases List.mem_cons.1 ((h x).1 (by simp)) with e | e
      · exact e
      · have h1 := hm.1 x e
        rcases List.mem_cons.1 ((h y).2 (by simp)) with e2 | e2
        · exact e2.symm
        · have := hl.1 y e2; omega
    subst hxy
    congr 1
    refine ext_lt hl.2 hm.2 fun z => ?_
    have hz := h z
    simp only [List.mem_cons] at hz
    constructor
    · intro e
      have h1 := hl.1 z e
      rcases hz.1 (Or.inr e) with e2 | e2
      · omega
      · exact e2
    · intro e
      have h1 := hm.1 z e
      rcases hz.2 (Or.inr e) with e2 | e2
      · omega
      · exact e2
theorem mem_insAt (l : List Int) (k : Nat) (x y : Int) : y ∈ insAt l k x ↔ y = x ∨ y ∈ l := by
  unfold insAt
  have : y ∈ l ↔ y ∈ l.take k ∨ y ∈ l.drop k := by rw [← List.mem_append, List.take_append_drop]
  rw [List.mem_append, List.mem_cons, this]
  constructor
  · rintro (h | h | h)
    · exact Or.inr (Or.inl h)
    · exact Or.inl h
    · exact Or.inr (Or.inr h)
  · rintro (h | h | h)
    · exact Or.inr (Or.inl h)
    · exact Or.inl h
    · exact Or.inr (Or.inr h)
theorem mem_withPart (l : List Int) (x y : Int) : y ∈ withPart l x ↔ y = x ∨ y ∈ l := by
  unfold withPart
  split
  · rename_i h
    have hx : x ∈ l := by simpa using h
    exact ⟨Or.inr, fun e => e.elim (fun e => e ▸ hx) id⟩
  · exact mem_insAt _ _ _ _
theorem withPart_lt {l : List Int} (h : Rises l) (x : Int) : (withPart l x).Pairwise (· < ·) := by
  unfold withPart
  split
  · exact pair_lt h
  · rename_i hc
    have hx : x ∉ l := by simpa using hc
    obtain ⟨k, h1, h2, h3⟩ := under_split (l := l) (fun i j hij hj => h.lt i j hij hj) x
    rw [under_at (fun i j hij hj => h.lt i j hij hj) x k h1 h2 h3]
    unfold insAt
    have hp := pair_lt h
    rw [← List.take_append_drop k l, List.pairwise_append] at hp
    have hdr : ∀ z ∈ l.drop k, x < z := by
      intro z hz
      obtain ⟨j, hj, rfl⟩ := List.mem_iff_getElem.1 hz
      have hj2 : k + j < l.length := by simp at hj; omega
      rw [List.getElem_drop]
      have := h3 (k + j) hj2 (by omega)
      have hne : x ≠ l[k + j] := fun e => hx (e ▸ List.getElem_mem _)
      omega
    have htk : ∀ z ∈ l.take k, z < x := by
      intro z hz
      obtain ⟨j, hj, rfl⟩ := List.mem_iff_getElem.1 hz
      have hj2 : j < k ∧ j < l.length := by simp at hj; omega
      rw [List.getElem_take]
      exact h2 j hj2.2 hj2.1
    rw [List.pairwise_append]
    refine ⟨hp.1, List.pairwise_cons.2 ⟨hdr, hp.2.1⟩, fun a ha b hb => ?_⟩
    rcases List.mem_cons.1 hb with rfl | hb
    · exact htk a ha
    · exact hp.2.2 a ha b hb
theorem Rises.bound {l : List Int} (h : Rises l) : ∀ x ∈ l, 0 ≤ x ∧ x ≤ 3 := by
  intro x hx
  obtain ⟨j, hj, rfl⟩ := List.mem_iff_getElem.1 hx
  exact ⟨(h j hj).1, (h j hj).2.1⟩
def hasP (l : List Int) (x p : Int) : Bool := p == x || l.contains p
def four : List Int := [0, 1, 2, 3]
theorem four_with {l : List Int} (h : Rises l) {x : Int} (h0 : 0 ≤ x) (h3 : x ≤ 3) : four.filter (hasP l x) = withPart l x := by
  refine ext_lt (List.Pairwise.filter _ (by decide)) (withPart_lt h x) fun y => ?_
  rw [List.mem_filter, mem_withPart]
  simp only [hasP, Bool.or_eq_true, beq_iff_eq, List.contains_iff_mem]
  constructor
  · exact fun e => e.2
  · intro e
    refine ⟨?_, e⟩
    have hb : 0 ≤ y ∧ y ≤ 3 := by
      rcases e with rfl | e
      · exact ⟨h0, h3⟩
      · exact h.bound y e
    have : y = 0 ∨ y = 1 ∨ y = 2 ∨ y = 3 := by omega
    rcases this with rfl | rfl | rfl | rfl <;> simp [four]
theorem withPart_small {l : List Int} (h : Rises l) {x : Int} (h0 : 0 ≤ x) (h3 : x ≤ 3) : (withPart l x).length ≤ 4 := by
  rw [← four_with h h0 h3]
  exact List.length_filter_le _ _
def AddAt (c : CoordD) (i : Nat) (part : Int) (c' : CoordD) (code : Int) : Prop :=
  ((part < 0 ∨ 3 < part) ∧ c' = zeroC ∧ code = 2) ∨ (0 ≤ part ∧ part ≤ 3 ∧ ∃ h : i < c.txns.length, ((c.txns[i].state = 3 ∨ c.txns[i].state = 4) ∧ c' = zeroC ∧ code = 12) ∨ (c.txns[i].state = 1 ∧ c' = c.upd i (openT part c.clock) ∧ code = 0) ∨ (c.txns[i].state = 2 ∧ c' = c.upd i (addT part) ∧ code = 0))
def AddTo (c : CoordD) (s : ByteArray) (ver part : Int) (c' : CoordD) (code : Int) : Prop :=
  (KnownFault c s ver code ∧ c' = zeroC) ∨ ∃ i, Known c s ver i ∧ AddAt c i part c' code
theorem AddTo.fits {c : CoordD} {s : ByteArray} {ver part : Int} {c' : CoordD} {code : Int} (h : AddTo c s ver part c' code) : c'.Fits := by
  rcases h with ⟨-, rfl⟩ | ⟨i, ⟨hk, -⟩, h⟩
  · exact zero_fits
  · rcases h with ⟨-, rfl, -⟩ | ⟨h0, h3, hl, ⟨-, rfl, -⟩ | ⟨-, rfl, -⟩ | ⟨-, rfl, -⟩⟩
    · exact zero_fits
    · exact zero_fits
    · exact upd_fits2 hk i _ hl (withPart_small (hk.all i hl hl).1.rises h0 h3)
    · exact upd_fits2 hk i _ hl (withPart_small (hk.all i hl hl).1.rises h0 h3)

end Go.Proofs.Ytjkoceacjbhblaa
namespace Go.Proofs.Ytjkoceacjbhblaa
open Go.RowKit

/-- the offsets os with part at a: k lie under it -/
structure PlaceO (os : List OffD) (p : Int) (k : Nat) : Prop where
  le : k ≤ os.length
  lo : ∀ j (h : j < os.length), j < k → os[j].part < p
  hi : ∀ j (h : j < os.length), k ≤ j → p ≤ os[j].part
def RiseO (os : List OffD) : Prop := os.Pairwise fun a b => a.part < b.part
theorem riseO_of {os : List OffD} (h : Rises (os.map OffD.part)) : RiseO os := by
  have := pair_lt h
  exact List.pairwise_map.1 this
theorem placeO_ex : ∀ {os : List OffD} (_ : RiseO os) (p : Int), ∃ k, PlaceO os p k
  | [], _, _ => ⟨0, Nat.le_refl _, fun j h => by simp at h, fun j h => by simp at h⟩
  | y :: os, h, p => by
    have h' := List.pairwise_cons.1 h
    by_cases hy : y.part < p
    · obtain ⟨k, h1, h2, h3⟩ := placeO_ex h'.2 p
      refine ⟨k + 1, by simpa using h1, fun j hj hjk => ?_, fun j hj hjk => ?_⟩
      · rcases j with _ | j
        · exact hy
        · exact h2 j (by simpa using hj) (by omega)
      · rcases j with _ | j
        · omega
        · exact h3 j (by simpa using hj) (by omega)
    · refine ⟨0, Nat.zero_le _, fun j hj hjk => by omega, fun j hj _ => ?_⟩
      rcases j with _ | j
      · simp; omega
      · have hj2 : j < os.length := by simpa using hj
        have := h'.1 os[j] (List.getElem_mem hj2)
        simp
        omega
def setO (os : List OffD) (p a : Int) (k : Nat) : List OffD := os.take k ++ ⟨p, a⟩ :: os.drop (k + 1)
def newO (os : List OffD) (p a : Int) (k : Nat) : List OffD := os.take k ++ ⟨p, a⟩ :: os.drop k
/-- what is stored: part p at a -/
def StoO (os : List OffD) (p a : Int) (os' : List OffD) : Prop := ∃ k, PlaceO os p k ∧ ((∃ h : k < os.length, os[k].part = p ∧ os' = setO os p a k) ∨ ((∀ h : k < os.length, os[k].part ≠ p) ∧ os' = newO os p a k))
theorem stoO_ex {os : List OffD} (h : RiseO os) (p a : Int) : ∃ os', StoO os p a os' := by
  obtain ⟨k, hk⟩ := placeO_ex h p
  by_cases e : ∃ h : k < os.length, os[k].part = p
  · obtain ⟨h1, h2⟩ := e
    exact ⟨_, k, hk, Or.inl ⟨h1, h2, rfl⟩⟩
  · exact ⟨_, k, hk, Or.inr ⟨fun h1 h2 => e ⟨h1, h2⟩, rfl⟩⟩
theorem ext_key : ∀ {l m : List OffD}, RiseO l → RiseO m → (∀ x, x ∈ l ↔ x ∈ m) → l = m
  | [], [], _, _, _ => rfl
  | [], y :: m, _, _, h => by have := (h y).2 (by simp); simp at this
  | x :: l, [], _, _, h => by have := (h x).1 (by simp); simp at this
  | x :: l, y :: m, hl, hm, h => by
    have hl := List.pairwise_cons.1 hl
    have hm := List.pairwise_cons.1 hm
    have hxy : x = y := by
      rcases List.mem_cons.1 ((h x).1 (by simp)) with e | e
      · exact e
      · have h1 := hm.1 x e
        rcases List.mem_cons.1 ((h y).2 (by simp)) with e2 | e2
        · exact e2.symm
        · have := hl.1 y e2; omega
    subst hxy
    congr 1
    refine ext_key hl.2 hm.2 fun z => ?_
    have hz := h z
    simp only [List.mem_cons] at hz
    constructor
    · intro e
      have h1 := hl.1 z e
      rcases hz.1 (Or.inr e) with e2 | e2
      · subst e2; omega
      · exact e2
    · intro e
      have h1 := hm.1 z e
      rcases hz.2 (Or.inr e) with e2 | e2
      · subst e2; omega
      · exact e2
theorem memO_split {os : List OffD} (k : Nat) (y : OffD) : y ∈ os ↔ y ∈ os.take k ∨ y ∈ os.drop k := by rw [← List.mem_append, List.take_append_drop]
theorem PlaceO.take_lt {os : List OffD} {p : Int} {k : Nat} (h : PlaceO os p k) : ∀ y ∈ os.take k, y.part < p := by
  intro y hy
  obtain ⟨j, hj, rfl⟩ := List.mem_iff_getElem.1 hy
  have hj2 : j < k ∧ j < os.length := by simp at hj; omega
  rw [List.getElem_take]
  exact h.lo j hj2.2 hj2.1
/-- the rest behind part p: each lies over it -/
theorem StoO.shape {os os' : List OffD} {p a : Int} (hr : RiseO os) (h : StoO os p a os') : ∃ l r, os' = l ++ ⟨p, a⟩ :: r ∧ (∀ y ∈ l, y.part < p) ∧ (∀ y ∈ r, p < y.part) ∧ RiseO l ∧ RiseO r ∧ (∀ y, (y ∈ os ∧ y.part ≠ p) ↔ y ∈ l ∨ y ∈ r) ∧ l.length + r.length ≤ os.length := by
  obtain ⟨k, hk, ⟨h1, h2, rfl⟩ | ⟨h1, rfl⟩⟩ := h
  · have hd : os.drop k = os[k] :: os.drop (k + 1) := List.drop_eq_getElem_cons h1
    have hpd : RiseO (os.drop k) := List.Pairwise.drop hr
    rw [hd] at hpd
    have hpd := List.pairwise_cons.1 hpd
    refine ⟨_, _, rfl, hk.take_lt, fun y hy => by have := hpd.1 y hy; omega, List.Pairwise.take hr, hpd.2, fun y => ?_, by simp; omega⟩
    rw [memO_split k y, hd, List.mem_cons]
    constructor
    · rintro ⟨e | e | e, hne⟩
      · exact Or.inl e
      · subst e; exact absurd h2 hne
      · exact Or.inr e
    · rintro (e | e)
      · exact ⟨Or.inl e, by have := hk.take_lt y e; omega⟩
      · exact ⟨Or.inr (Or.inr e), by have := hpd.1 y e; omega⟩
  · have hlt : ∀ y ∈ os.drop k, p < y.part := by
      intro y hy
      obtain ⟨j, hj, rfl⟩ := List.mem_iff_getElem.1 hy
      have hj2 : k + j < os.length := by simp at hj; omega
      rw [List.getElem_drop]
      have h3 := hk.hi _ hj2 (by omega)
      rcases Nat.eq_zero_or_pos j with e | e
      · subst e
        have := h1 (by omega)
        simp at *
        omega
      · have h4 := hk.hi k (by omega) (Nat.le_refl _)
        have h5 := List.pairwise_iff_getElem.1 hr k (k + j) (by omega) hj2 (by omega)
        omega
    refine ⟨_, _, rfl, hk.take_lt, hlt, List.Pairwise.take hr, List.Pairwise.drop hr, fun y => ?_, by simp; omega⟩
    rw [memO_split k y]
    constructor
    · exact fun e => e.1
    · rintro (e | e)
      · exact ⟨Or.inl e, by have := hk.take_lt y e; omega⟩
      · exact ⟨Or.inr e, by have := hlt y e; omega⟩
theorem StoO.mem {os os' : List OffD} {p a : Int} (hr : RiseO os) (h : StoO os p a os') (y : OffD) : y ∈ os' ↔ y = ⟨p, a⟩ ∨ (y ∈ os ∧ y.part ≠ p) := by
  obtain ⟨l, r, rfl, -, -, -, -, hm, -⟩ := h.shape hr
  rw [hm y, List.mem_append, List.mem_cons]
  constructor
  · rintro (e | e | e)
    · exact Or.inr (Or.inl e)
    · exact Or.inl e
    · exact Or.inr (Or.inr e)
  · rintro (e | e | e)
    · exact Or.inr (Or.inl e)
    · exact Or.inl e
    · exact Or.inr (Or.inr e)
theorem StoO.rise {os os' : List OffD} {p a : Int} (hr : RiseO os) (h : StoO os p a os') : RiseO os' := by
  obtain ⟨l, r, rfl, h1, h2, h3, h4, -, -⟩ := h.shape hr
  refine List.pairwise_append.2 ⟨h3, List.pairwise_cons.2 ⟨h2, h4⟩, fun x hx y hy => ?_⟩
  rcases List.mem_cons.1 hy with rfl | hy
  · exact h1 x hx
  · have := h1 x hx; have := h2 y hy; omega
theorem StoO.len {os os' : List OffD} {p a : Int} (hr : RiseO os) (h : StoO os p a os') : os'.length ≤ os.length + 1 := by
  obtain ⟨l, r, rfl, -, -, -, -, -, hl⟩ := h.shape hr
  simp
  omega
/-- the document's way: part by part -/
def pieceO (os : List OffD) (p a q : Int) : List OffD := if q = p then [⟨q, a⟩] else os.filter fun o => o.part == q
theorem four_piece {os os' : List OffD} {p a : Int} (hr : RiseO os) (hb : ∀ o ∈ os, 0 ≤ o.part ∧ o.part ≤ 3) (h0 : 0 ≤ p) (h3 : p ≤ 3) (h : StoO os p a os') : four.flatMap (pieceO os p a) = os' := by
  have hpart : ∀ q, ∀ x ∈ pieceO os p a q, x.part = q := by
    intro q x hx
    unfold pieceO at hx
    split at hx
    · simp at hx; rw [hx]
    · simpa using (List.mem_filter.1 hx).2
  refine ext_key ?_ (h.rise hr) fun y => ?_
  · refine List.pairwise_flatMap.2 ⟨fun q _ => ?_, ?_⟩
    · unfold pieceO
      split
      · simp
      · exact List.Pairwise.filter _ hr
    · refine List.Pairwise.imp (R := (· < ·)) ?_ (by decide)
      intro q1 q2 hq x hx y hy
      rw [hpart q1 x hx, hpart q2 y hy]
      exact hq
  · rw [h.mem hr y, List.mem_flatMap]
    have hin : ∀ q : Int, 0 ≤ q → q ≤ 3 → q ∈ four := by
      intro q q0 q3
      have : q = 0 ∨ q = 1 ∨ q = 2 ∨ q = 3 := by omega
      rcases this with rfl | rfl | rfl | rfl <;> simp [four]
    constructor
    · rintro ⟨q, hq, hy⟩
      unfold pieceO at hy
      split at hy
      · rename_i e
        subst e
        exact Or.inl (by simpa using hy)
      · rename_i e
        obtain ⟨h1, h2⟩ := List.mem_filter.1 hy
        have h2 : y.part = q := by simpa using h2
        exact Or.inr ⟨h1, by rw [h2]; exact e⟩
    · rintro (rfl | ⟨h1, h2⟩)
      · exact ⟨p, hin p h0 h3, by unfold pieceO; rw [if_pos rfl]; simp⟩
      · exact ⟨y.part, hin _ (hb y h1).1 (hb y h1).2, by unfold pieceO; rw [if_neg h2]; exact List.mem_filter.2 ⟨h1, by simp⟩⟩
def GroupD.offsTo (g : GroupD) (os : List OffD) : GroupD := ⟨g.clock, g.wait, g.gen, g.mems, os⟩
def StoreAt (g : GroupD) (i : Nat) (part at_ : Int) (g' : GroupD) (r : Int) : Prop :=
  ((at_ < 0 ∨ 400 < at_) ∧ g' = zeroG ∧ r = 2) ∨ (0 ≤ at_ ∧ at_ ≤ 400 ∧ ∃ h : i < g.mems.length, (part ∉ g.mems[i].parts ∧ g' = zeroG ∧ r = 12) ∨ (part ∈ g.mems[i].parts ∧ ∃ os', StoO g.offs part at_ os' ∧ g' = g.offsTo os' ∧ r = 0))
def StoreTo (g : GroupD) (s : ByteArray) (gen part at_ : Int) (g' : GroupD) (r : Int) : Prop :=
  (HereFault g s gen r ∧ g' = zeroG) ∨ ∃ i, Here g s gen i ∧ StoreAt g i part at_ g' r
theorem store_to (g : GroupD) (s : ByteArray) (gen part at_ : Int) : ∃ g' r, StoreTo g s gen part at_ g' r := by
  rcases here_or g s gen with ⟨n, h⟩ | ⟨i, h⟩
  · exact ⟨zeroG, n, Or.inl ⟨h, rfl⟩⟩
  · obtain ⟨h1, h2, h3, hl, h4⟩ := id h
    have key : ∃ g' r, StoreAt g i part at_ g' r := by
      by_cases e0 : at_ < 0 ∨ 400 < at_
      · exact ⟨_, _, Or.inl ⟨e0, rfl, rfl⟩⟩
      · by_cases e1 : part ∈ g.mems[i].parts
        · obtain ⟨os', ho⟩ := stoO_ex (riseO_of h1.offsOk.rises) part at_
          exact ⟨_, _, Or.inr ⟨by omega, by omega, hl, Or.inr ⟨e1, os', ho, rfl, rfl⟩⟩⟩
        · exact ⟨_, _, Or.inr ⟨by omega, by omega, hl, Or.inl ⟨e1, rfl, rfl⟩⟩⟩
    obtain ⟨g', r, hk⟩ := key
    exact ⟨g', r, Or.inr ⟨i, h, hk⟩⟩

theorem StoreTo.fits {g : GroupD} {s : ByteArray} {gen part at_ : Int} {g' : GroupD} {r : Int} (h : StoreTo g s gen part at_ g' r) : g'.Fits := by
  rcases h with ⟨-, rfl⟩ | ⟨i, ⟨hk, -⟩, h⟩
  · exact zeroG_fits
  · rcases h with ⟨-, rfl, -⟩ | ⟨-, -, hl, ⟨-, rfl, -⟩ | ⟨-, os', ho, rfl, -⟩⟩
    · exact zeroG_fits
    · exact zeroG_fits
    · have hf := hk.fits
      have h1 := ho.len (riseO_of hk.offsOk.rises)
      have h2 := hk.offs
      refine ⟨⟨hf.1.1, ?_⟩, hf.2⟩
      show os'.length ≤ _
      omega

end Go.Proofs.Ytjkoceacjbhblaa
namespace Go.Proofs.Ytjkoceacjbhblaa
open Go.RowKit Go.Shelf

theorem run_copy_k {P : Program} (w : World) (dT sT ty elem : TypeId) (b o dLen dCap : Nat) (a : Addr) (sLen sCap k m : Nat) (cs : List Value)
    (hu : P.underlying dT = some (.slice elem)) (hs : (P.info? elem).map (·.size) = some k) (hm : m = Nat.min sLen dLen) (hn : cs.length = m * k)
    (hsrc : ∀ j v, cs[j]? = some v → w.cell? (a.add j) = some v) (hc : ∀ j, j < cs.length → (w.cell? ⟨b, o + j, none⟩).isSome = true) (hf : ∀ j, j < cs.length → w.frozen? ⟨b, o + j, none⟩ = false) (h1 : ∀ v ∈ cs, v.oneCell' = true) :
    (Builtin.copy_ #[dT, sT] ty #[.slice (some ⟨b, o, none⟩) dLen dCap, .slice (some a) sLen sCap]).run P w = .ok (goInt m) (w.setCells b o cs) := by
  have hl := run_loadCells_list (P := P) w a cs hsrc
  have hst := run_storeCells_cells (P := P) b o cs 0 w (by simpa using hc) (by simpa using hf) h1
  rw [hn] at hl
  cases hq : P.info? elem with
  | none => simp [hq] at hs
  | some i =>
    have hi : i.size = k := by simpa [hq] using hs
    simp [Builtin.copy_, run_underlying hu, Builtin.lenOf, Builtin.firstCells, sizeOf, typeInfo, hq, hi, ← hm, hl, hst]

/-- cells of a row of elements of k cells set, and the number of its elements set anew -/
theorem own_cutk {w : World} {base g n m c o k : Nat} {t : TypeId} {xs vs ys : List Value} (h : w.ownsRow base t k (.slice (some ⟨g, 0, none⟩) n c) n xs) (hm : m ≤ c) (ho : o ≤ n * k) (hvs : o + vs.length ≤ c * k) (hml : m * k ≤ n * k ∨ m * k ≤ o + vs.length) (hy : (xs.take o ++ vs ++ xs.drop (o + vs.length)).take (m * k) = ys) :
    (w.setCells g o vs).ownsRow base t k (.slice (some ⟨g, 0, none⟩) m c) m ys := by
  obtain ⟨hl, h2⟩ := h
  rcases h2 with ⟨e, _⟩ | ⟨g', c', cur, e, hb, hg, hnc, hcm, hcs, htake⟩
  · cases e
  · injection e with e1 _ e3
    injection e1 with e1
    injection e1 with e1
    subst e1 e3
    obtain ⟨cur', h1, h2⟩ := setCells_row g vs o w cur t hg (by omega)
    have hcl : cur.toList.length = c * k := by simp; omega
    have hnk : n * k ≤ c * k := Nat.mul_le_mul_right k hnc
    have hmk : m * k ≤ c * k := Nat.mul_le_mul_right k hm
    have hs : cur'.size = c * k := by
      rw [← Array.length_toList, h2]
      simp only [List.length_append, List.length_take, List.length_drop, hcl]
      omega
    have key : (cur.toList.take o ++ vs ++ cur.toList.drop (o + vs.length)).take (m * k) = ys := by
      rw [← hy]
      have e1 : cur.toList.take o = xs.take o := by rw [← htake, List.take_take]; congr 1; omega
      rw [e1]
      have hP : (xs.take o ++ vs).length = o + vs.length := by simp only [List.length_append, List.length_take]; omega
      generalize xs.take o ++ vs = P at hP
      rcases hml with hmn | hmo
      · apply List.ext_getElem?
        intro j
        rw [List.getElem?_take, List.getElem?_take]
        split
        · rename_i hj
          by_cases c1 : j < o + vs.length
          · rw [List.getElem?_append_left (by omega), List.getElem?_append_left (by omega)]
          · rw [List.getElem?_append_right (by omega), List.getElem?_append_right (by omega)]
            have hq : (cur.toList.drop (o + vs.length))[j - P.length]? = ((cur.toList.take (n * k)).drop (o + vs.length))[j - P.length]? := by
              rw [List.getElem?_drop, List.getElem?_drop, List.getElem?_take, if_pos]
              omega
            rw [hq, htake]
        · rfl
      · rw [List.take_append_of_le_length (by omega), List.take_append_of_le_length (by omega)]
    refine ⟨?_, Or.inr ⟨g, c, cur', rfl, hb, h1, hm, hcm, hs, by rw [h2]; exact key⟩⟩
    rw [← key]
    simp only [List.length_append, List.length_take, List.length_drop, hcl]
    omega
theorem own_freshk {w : World} {base i G k : Nat} {t : TypeId} {row : Array Value} {xs : List Value} (hb : base ≤ w.heap.size) (hG : G ≤ maxLen) (hr : row.size = G * k) (hi : i ≤ G) (hx : row.toList.take (i * k) = xs) : (w.alloc (.cells row t)).ownsRow base t k (.slice (some ⟨w.heap.size, 0, none⟩) i G) i xs := by
  have hik : i * k ≤ G * k := Nat.mul_le_mul_right k hi
  refine ⟨by rw [← hx]; simp; omega, Or.inr ⟨w.heap.size, G, row, rfl, hb, heap_alloc_new w _, hi, hG, by omega, hx⟩⟩
theorem slOne {w : World} {vb vc : Nat} {t : TypeId} {x y : Value} (h : w.heap[vb]? = some (.cells #[x, y] t (0, 0))) (hvc : 1 ≤ vc) : Sl w 2 (.slice (some ⟨vb, 0, none⟩) 1 vc) 1 [x, y] := by
  refine ⟨rfl, some ⟨vb, 0, none⟩, vc, rfl, hvc, fun _ => ⟨vb, 0, rfl, (Array.getElem?_eq_some_iff.1 h).1, fun j u hj => ?_⟩⟩
  simp only [World.cell?, h]
  rcases j with _ | _ | j
  · simpa using hj
  · simpa using hj
  · simp at hj
def insC (cs : List Value) (j : Nat) (vs : List Value) : List Value := cs.take j ++ vs ++ cs.drop j
theorem insC_one {cs : List Value} {n i : Nat} (hl : cs.length = n * 2) (hi : i < n) : (cs.take ((i + 1) * 2) ++ cs.drop (i * 2) ++ cs.drop ((i + 1) * 2 + (cs.drop (i * 2)).length)).take ((n + 1) * 2) = cs.take ((i + 1) * 2) ++ cs.drop (i * 2) := by
  have e : cs.drop ((i + 1) * 2 + (cs.drop (i * 2)).length) = [] := List.drop_eq_nil_of_le (by simp; omega)
  rw [e, List.append_nil, List.take_of_length_le (by simp; omega)]
theorem insC_two {cs vs : List Value} {n i : Nat} (hl : cs.length = n * 2) (hv : vs.length = 2) (hi : i < n) : ((cs.take ((i + 1) * 2) ++ cs.drop (i * 2)).take (i * 2) ++ vs ++ (cs.take ((i + 1) * 2) ++ cs.drop (i * 2)).drop (i * 2 + vs.length)).take ((n + 1) * 2) = insC cs (i * 2) vs := by
  have e1 : (cs.take ((i + 1) * 2) ++ cs.drop (i * 2)).take (i * 2) = cs.take (i * 2) := by rw [List.take_append_of_le_length (by simp; omega), List.take_take, Nat.min_eq_left (by omega)]
  have e2 : (cs.take ((i + 1) * 2) ++ cs.drop (i * 2)).drop (i * 2 + vs.length) = cs.drop (i * 2) := List.drop_left' (by simp; omega)
  rw [e1, e2, List.take_of_length_le (by simp; omega)]
  rfl
theorem insC_three {cs vs : List Value} {n i : Nat} (hl : cs.length = n * 2) (hv : vs.length = 2) (hi : i < n) : ((cs.take (i * 2) ++ vs).take ((i + 1) * 2) ++ cs.drop (i * 2) ++ (cs.take (i * 2) ++ vs).drop ((i + 1) * 2 + (cs.drop (i * 2)).length)).take ((n + 1) * 2) = insC cs (i * 2) vs := by
  have e1 : (cs.take (i * 2) ++ vs).take ((i + 1) * 2) = cs.take (i * 2) ++ vs := List.take_of_length_le (by simp; omega)
  have e2 : (cs.take (i * 2) ++ vs).drop ((i + 1) * 2 + (cs.drop (i * 2)).length) = [] := List.drop_eq_nil_of_le (by simp; omega)
  rw [e1, e2, List.append_nil, List.take_of_length_le (by simp; omega)]
  rfl
set_option maxHeartbeats 4000000 in
set_option maxRecDepth 100000 in
/-- at the end -/
theorem insO_end (v : Value) (n : Nat) (cs : List Value) (x y : Int) (vb vc : Nat) (w : World) {base : Nat} (h : w.ownsRow base 81 2 v n cs) (hn : n < 1000) (hvb : w.heap[vb]? = some (.cells #[.int .i64 x, .int .i64 y] 81 (0, 0))) (hvc : 1 ≤ vc) (hbase : base ≤ w.heap.size) :
    Calls Try.prog 97 #[v, .int .i64 n, .slice (some ⟨vb, 0, none⟩) 1 vc] w fun e w' => ∃ v', e = .returned v' ∧ w'.ownsRow base 81 2 v' (n + 1) (cs ++ [.int .i64 x, .int .i64 y]) ∧ OwnStep w w' v v' := by
  obtain ⟨i0, hi0, hz0, hz1, hz2⟩ := info_parts CloneOff_info
  have hsrc : Sl w 2 (.slice (some ⟨vb, 0, none⟩) 1 vc) 1 [.int .i64 x, .int .i64 y] := slOne hvb hvc
  obtain ⟨A, c, rfl, hc⟩ := (Sl.of_own h).form
  have hA : (A = none ∧ n = 0 ∧ c = 0) ∨ ∃ g, A = some ⟨g, 0, none⟩ := by
    rcases h.2 with ⟨e, e0⟩ | ⟨g, c', cur, e, -⟩
    · injection e with e1 e2 e3; exact Or.inl ⟨e1, e0, e3⟩
    · injection e with e1; exact Or.inr ⟨g, e1⟩
  have hlt := h.lt
  have hc63 : c ≤ 9223372036854775807 := by
    rcases h.2 with ⟨e, e0⟩ | ⟨g, c', cur, e, -, -, -, hcm, -⟩
    · injection e with e1 e2 e3; omega
    · injection e with e1 e2 e3; subst e3; exact hcm
  have H := Lib.hid h
  have HS := Lib.hid hsrc
  clear h hsrc
  have n0 : (0 : Int) ≤ (n : Int) := by omega
  rcases hA with ⟨rfl, rfl, rfl⟩ | ⟨g, rfl⟩
  all_goals
    go_enter Try.func97, Try.ntmps97
    go_wp2_with (at_builtin; go_must (refine wpList_append_sl _ rfl (.tmp 23) (.tmp 24) 34 rfl base 81 i0 (.agg #[.int .i64 0, .int .i64 0]) 2 16 Try.underlying34 hi0 hz0 hz1 hz2 rfl (by decide) _ _ _ (by rfl) H.out _ 1 _ (by rfl) HS.out (by intro u hu; simp at hu; rcases hu with rfl | rfl <;> rfl) (by simp only [maxLen]; omega) (by omega) hbase ?_; intro v1 w1 ho1 hg1 ha1))
    all_goals go_ret
    all_goals exact ⟨v1, rfl, ho1, OwnStep.of_append' hg1 ha1⟩

set_option maxHeartbeats 4000000 in
set_option maxRecDepth 100000 in
/-- there is room: in place -/
theorem insO_shift (b n c i : Nat) (cs : List Value) (x y : Int) (vb vc : Nat) (w : World) {base : Nat} (h : w.ownsRow base 81 2 (.slice (some ⟨b, 0, none⟩) n c) n cs) (hi : i < n) (hroom : n + 1 ≤ c) (hn : n < 1000) (hvb : w.heap[vb]? = some (.cells #[.int .i64 x, .int .i64 y] 81 (0, 0))) (hne : vb ≠ b) (h1c : ∀ u ∈ cs, u.oneCell' = true) :
    Calls Try.prog 97 #[.slice (some ⟨b, 0, none⟩) n c, .int .i64 i, .slice (some ⟨vb, 0, none⟩) 1 vc] w fun e w' => e = .returned (.slice (some ⟨b, 0, none⟩) (n + 1) c) ∧ w' = (w.drew.setCells b ((i + 1) * 2) (cs.drop (i * 2))).setCells b (i * 2) [.int .i64 x, .int .i64 y] := by
  obtain ⟨i0, hi0, hz0, hzs, hzb⟩ := info_parts CloneOff_info
  have hsz : (Try.prog.info? 81).map (·.size) = some 2 := by rw [hi0]; simp [hzs]
  obtain ⟨hcl, cur, hg, hcur, hc63⟩ : cs.length = n * 2 ∧ ∃ cur, w.heap[b]? = some (.cells cur 81 (0, 0)) ∧ cur.size = c * 2 ∧ c ≤ 9223372036854775807 := by
    rcases h with ⟨h1, ⟨e, _⟩ | ⟨g, c', cur, e, -, hg, -, hcm, hcs, -⟩⟩
    · cases e
    · injection e with e1 _ e3
      injection e1 with e1
      injection e1 with e1
      subst e1 e3
      exact ⟨h1, cur, hg, hcs, hcm⟩
  have hcells : ∀ j u, cs[j]? = some u → w.cell? ⟨b, j, none⟩ = some u := by
    intro j u hj
    have hjn : j < n * 2 := by have := (List.getElem?_eq_some_iff.1 hj).1; omega
    rw [World.ownsRow.cellAt h j hjn]
    exact hj
  have hsome : ∀ j, j < c * 2 → (w.cell? ⟨b, j, none⟩).isSome = true := by
    intro j hj
    rw [cell_of_row w b j cur 81 (0, 0) hg, Array.getElem?_eq_getElem (by omega)]
    rfl
  have hfz : ∀ j, w.frozen? ⟨b, j, none⟩ = false := fun j => World.ownsRow.frozenAt h j
  have hvs : ∀ j u, [Value.int .i64 x, Value.int .i64 y][j]? = some u → w.cell? ⟨vb, 0 + j, none⟩ = some u := by
    intro j u hj
    simp only [World.cell?, hvb]
    rcases j with _ | _ | j
    · simpa using hj
    · simpa using hj
    · simp at hj
  have hov : ∀ a lb cb, (callFunc 120 #[.slice (some ⟨vb, 0, none⟩) 1 vc, .slice (some ⟨b, a, none⟩) lb cb]).run Try.prog w = .ok (.value (.bool false)) w := fun a lb cb => by
    rw [run_callFunc_extern Try.func120 (by kernel_rfl) (by kernel_rfl) (by kernel_rfl) (e := Extern.SlicesOverlaps.overlaps #[34, 34] #[4]) (by kernel_rfl),
      Lib.run_overlaps_apart w 34 4 81 Try.underlying34 2 Try.sizeOf81 ⟨vb, 0, none⟩ ⟨b, a, none⟩ 1 vc lb cb hne 81 81 2 cur.size (shape_blk hvb) (shape_blk hg) (by omega) (frozen_of_row w vb 0 _ _ hvb) (frozen_of_row w vb 2 _ _ hvb)]
    rfl
  have mixed : Try.prog.follows .mixedOrders = true := by kernel_rfl
  have hdl : (cs.drop (i * 2)).length = (n - i) * 2 := by rw [List.length_drop, hcl]; omega
  have hw1 : IntKind.i64.wrap ((i : Int) + 1) = (i : Int) + 1 := by rw [IntKind.wrap_i64]; omega
  have hz2 : ¬ ((i : Int) = (n : Int)) := by omega
  have hb1 : (0 : Int) ≤ (i : Int) + 1 := by omega
  have hin : i ≤ n := by omega
  have htn : ((i : Int) + 1).toNat = i + 1 := by omega
  have hb2 : ¬ (c = i + 1) := by omega
  have hb3 : (i : Int) ≤ (n : Int) + 1 := by omega
  have hb4 : ¬ (c = i) := by omega
  have hcp1 : ∀ a1 a2 l1 l2, a1 = (i + 1) * 2 → a2 = i * 2 → l1 = n - i → l2 = n + 1 - i → ∀ ty dc sc, (Builtin.copy_ #[34, 34] ty #[.slice (some ⟨b, a1, none⟩) l1 dc, .slice (some ⟨b, a2, none⟩) l2 sc]).run Try.prog w.drew = .ok (goInt ((n - i : Nat) : Int)) (w.drew.setCells b ((i + 1) * 2) (cs.drop (i * 2))) := fun a1 a2 l1 l2 e1 e2 e3 e4 ty dc sc => by
    subst e1 e2 e3 e4
    exact run_copy_k w.drew _ _ ty 81 b ((i + 1) * 2) (n - i) dc ⟨b, i * 2, none⟩ (n + 1 - i) sc 2 (n - i) (cs.drop (i * 2)) Try.underlying34 hsz (by simp only [Nat.min_def]; split <;> omega) hdl
      (fun j v hj => by rw [Addr.add_lit]; exact hcells (i * 2 + j) v (by rwa [List.getElem?_drop] at hj))
      (fun j hj => hsome _ (by omega)) (fun j hj => hfz _) (fun v hv => h1c v (List.mem_of_mem_drop hv))
  obtain ⟨W1, hW1⟩ : ∃ W1, W1 = w.drew.setCells b ((i + 1) * 2) (cs.drop (i * 2)) := ⟨_, rfl⟩
  have hsp1 : ∀ k, k < c * 2 → (W1.cell? ⟨b, k, none⟩).isSome = true := fun k hk => by
    rw [hW1]
    exact isSome_setCells b (cs.drop (i * 2)) ((i + 1) * 2) w.drew (fun j hj => hsome _ (by omega)) k (hsome k hk)
  have hcp2 : ∀ (W : World), (∀ x, W.cell? x = W1.cell? x) → (∀ x, W.frozen? x = W1.frozen? x) → ∀ a1 l1, a1 = i * 2 → 1 ≤ l1 → ∀ ty dc, (Builtin.copy_ #[34, 34] ty #[.slice (some ⟨b, a1, none⟩) l1 dc, .slice (some ⟨vb, 0, none⟩) 1 vc]).run Try.prog W = .ok (goInt 1) (W.setCells b (i * 2) [.int .i64 x, .int .i64 y]) := fun W hWc hWf a1 l1 e1 e2 ty dc => by
    subst e1
    exact run_copy_k W _ _ ty 81 b (i * 2) l1 dc ⟨vb, 0, none⟩ 1 vc 2 1 [.int .i64 x, .int .i64 y] Try.underlying34 hsz (by simp only [Nat.min_def]; split <;> omega) rfl
      (fun j v hj => by
        rw [Addr.add_lit, hWc, hW1, World.cell?_setCells_out b _ _ _ _ (fun h _ => absurd h hne)]
        exact hvs j v hj)
      (fun j hj => by rw [hWc]; exact hsp1 _ (by simp at hj; omega)) (fun j hj => by rw [hWf, hW1, World.frozen?_setCells]; exact hfz _) (by intro u hu; simp at hu; rcases hu with rfl | rfl <;> rfl)
  subst hW1
  have HC1 := Lib.hid hcp1
  have HC2 := Lib.hid hcp2
  clear hcp1 hcp2 hcells hsome hsp1 hvs
  go_enter Try.func97, Try.ntmps97
  go_wp2_with (simp only [hov])
  go_region_law_o (refine step_copy_runI rfl _ _ 34 34 rfl _ _ (by simp [Act.eval, Act.put]) (by simp [Act.eval, Act.put]) (HC1.out ((i + 1) * 2) (i * 2) (n + 1 - (i + 1)) (n + 1 - i) rfl rfl (by omega) rfl _ (c - (i + 1)) (c - i)) ?_)
  have hc2 := HC2.out (w.drew.setCells b ((i + 1) * 2) (cs.drop (i * 2))) (fun _ => rfl) (fun _ => rfl) (i * 2) (n + 1 - i) rfl (by omega)
  go_wp2_with fail
  go_ret
  exact ⟨rfl, rfl⟩

set_option maxHeartbeats 4000000 in
set_option maxRecDepth 100000 in
/-- there is no room: a new row -/
theorem insO_grow (b n c i : Nat) (cs : List Value) (x y : Int) (vb vc : Nat) (w : World) {base : Nat} (h : w.ownsRow base 81 2 (.slice (some ⟨b, 0, none⟩) n c) n cs) (hi : i < n) (hroom : c < n + 1) (hn : n < 1000) (hvb : w.heap[vb]? = some (.cells #[.int .i64 x, .int .i64 y] 81 (0, 0))) (h1c : ∀ u ∈ cs, u.oneCell' = true) :
    Calls Try.prog 97 #[.slice (some ⟨b, 0, none⟩) n c, .int .i64 i, .slice (some ⟨vb, 0, none⟩) 1 vc] w fun e w' => e = .returned (.slice (some ⟨w.heap.size, 0, none⟩) (n + 1) (grownCap w (n + 1) c 81)) ∧
      w' = (((w.alloc (.cells ((cs.take (i * 2)).toArray ++ Builtin.zeroCells (Value.agg #[.int .i64 0, .int .i64 0]).cells (n + 1 - i) ++ Builtin.zeroCells (Value.agg #[.int .i64 0, .int .i64 0]).cells (grownCap w (n + 1) c 81 - (n + 1))) 81)).drew.setCells w.heap.size (i * 2) [.int .i64 x, .int .i64 y]).drew).setCells w.heap.size ((i + 1) * 2) (cs.drop (i * 2)) := by
  obtain ⟨i0, hi0, hz0, hzs, hzb⟩ := info_parts CloneOff_info
  have hsz : (Try.prog.info? 81).map (·.size) = some 2 := by rw [hi0]; simp [hzs]
  obtain ⟨hcl, cur, hg, hcur, hnc⟩ : cs.length = n * 2 ∧ ∃ cur, w.heap[b]? = some (.cells cur 81 (0, 0)) ∧ cur.size = c * 2 ∧ n ≤ c := by
    rcases h with ⟨h1, ⟨e, _⟩ | ⟨g, c', cur, e, -, hg, hnc, hcm, hcs, -⟩⟩
    · cases e
    · injection e with e1 _ e3
      injection e1 with e1
      injection e1 with e1
      subst e1 e3
      exact ⟨h1, cur, hg, hcs, hnc⟩
  have hcells : ∀ j u, cs[j]? = some u → w.cell? ⟨b, j, none⟩ = some u := by
    intro j u hj
    have hjn : j < n * 2 := by have := (List.getElem?_eq_some_iff.1 hj).1; omega
    rw [World.ownsRow.cellAt h j hjn]
    exact hj
  have hvs : ∀ j u, [Value.int .i64 x, Value.int .i64 y][j]? = some u → w.cell? ⟨vb, j, none⟩ = some u := by
    intro j u hj
    simp only [World.cell?, hvb]
    rcases j with _ | _ | j
    · simpa using hj
    · simpa using hj
    · simp at hj
  have mixed : Try.prog.follows .mixedOrders = true := by kernel_rfl
  have hbw : b < w.heap.size := (Array.getElem?_eq_some_iff.1 hg).1
  have hvw : vb < w.heap.size := (Array.getElem?_eq_some_iff.1 hvb).1
  have hz2 : ¬ ((i : Int) = (n : Int)) := by omega
  have hz3 : (c : Int) < (n : Int) + 1 := by omega
  have hkk : (n : Int) + 1 - (i : Int) = ((n + 1 - i : Nat) : Int) := by omega
  have hik : i + (n + 1 - i) = n + 1 := by omega
  have hold : (Builtin.firstCells i0.size i (.slice (some ⟨b, 0, none⟩) i c)).run Try.prog w.drew = .ok (cs.take (i * 2)).toArray w.drew := by
    rw [hzs]
    exact run_firstCells_some w.drew 2 i ⟨b, 0, none⟩ i c (cs.take (i * 2)) (by rw [List.length_take]; omega) (fun j v hj => by
      rw [Addr.add_lit, Nat.zero_add]
      rw [List.getElem?_take] at hj
      split at hj
      · exact hcells j v hj
      · cases hj)
  have hrz : ∀ ty, (Builtin.append_ #[34, 3] ty #[.slice (some ⟨b, 0, none⟩) i c, .int .i64 ((n : Int) + 1 - (i : Int))]).run Try.prog w =
      .ok (.slice (some ⟨w.heap.size, 0, none⟩) (n + 1) (grownCap w (n + 1) c 81)) (w.drew.alloc (.cells ((cs.take (i * 2)).toArray ++ Builtin.zeroCells (Value.agg #[.int .i64 0, .int .i64 0]).cells (n + 1 - i) ++ Builtin.zeroCells (Value.agg #[.int .i64 0, .int .i64 0]).cells (grownCap w (n + 1) c 81 - (n + 1))) 81)) := fun ty => by
    have h := Lib.run_append_grow_zeros w 34 3 ty 81 i0 _ .i64 .i64 Try.underlying34 Try.underlying3 hi0 hz0 (some ⟨b, 0, none⟩) i c (cs.take (i * 2)) hold (n + 1 - i) (by omega) (by omega) (by omega) (by omega) (by rw [hzb]; omega) (by rw [hzb, hik]; exact growslice_fits hroom (by omega))
    rw [hik] at h
    rw [hkk]
    exact h
  obtain ⟨G, hG⟩ : ∃ G, G = grownCap w (n + 1) c 81 := ⟨_, rfl⟩
  obtain ⟨ROW, hROW⟩ : ∃ ROW : Array Value, ROW = (cs.take (i * 2)).toArray ++ Builtin.zeroCells (Value.agg #[.int .i64 0, .int .i64 0]).cells (n + 1 - i) ++ Builtin.zeroCells (Value.agg #[.int .i64 0, .int .i64 0]).cells (G - (n + 1)) := ⟨_, rfl⟩
  rw [← hG] at hrz ⊢
  rw [← hROW] at hrz ⊢
  have hRl : (n + 1) * 2 ≤ ROW.size := by
    rw [hROW]
    simp [size_zeroCells, Value.cells]
    omega
  obtain ⟨W1, hW1⟩ : ∃ W1, W1 = w.drew.alloc (.cells ROW 81) := ⟨_, rfl⟩
  rw [← hW1] at hrz
  have hN : ∀ j, j < (n + 1) * 2 → (W1.cell? ⟨w.heap.size, j, none⟩).isSome = true := fun j hj => by
    rw [hW1, World.cell?_alloc_at (w := w.drew) ROW _ w.heap.size j rfl, Array.getElem?_eq_getElem (by omega)]; rfl
  have hNf : ∀ j, W1.frozen? ⟨w.heap.size, j, none⟩ = false := fun j => by rw [hW1]; exact World.frozen?_alloc_at (w := w.drew) ROW _ w.heap.size j rfl
  have hOb : ∀ j v, w.cell? ⟨b, j, none⟩ = some v → W1.cell? ⟨b, j, none⟩ = some v := fun j v h => by rw [hW1, World.cell?_alloc_past (w := w.drew) _ b j hbw]; exact h
  have hOv : ∀ j v, w.cell? ⟨vb, j, none⟩ = some v → W1.cell? ⟨vb, j, none⟩ = some v := fun j v h => by rw [hW1, World.cell?_alloc_past (w := w.drew) _ vb j hvw]; exact h
  have hGn : n + 1 ≤ G := by rw [hG]; exact grownCap_ge w _ _ _
  have hG63 : G ≤ 9223372036854775807 := by
    have := grownCap_le_maxLen w (n + 1) c 81 (by unfold maxLen; omega)
    rw [← hG] at this
    unfold maxLen at this
    omega
  have hbN : b ≠ w.heap.size := by omega
  have hdl : (cs.drop (i * 2)).length = (n - i) * 2 := by rw [List.length_drop, hcl]; omega
  have hcpA : ∀ (W : World), (∀ x, W.cell? x = W1.cell? x) → (∀ x, W.frozen? x = W1.frozen? x) → ∀ ty dc, (Builtin.copy_ #[34, 34] ty #[.slice (some ⟨w.heap.size, i * 2, none⟩) (n + 1 - i) dc, .slice (some ⟨vb, 0, none⟩) 1 vc]).run Try.prog W = .ok (goInt 1) (W.setCells w.heap.size (i * 2) [.int .i64 x, .int .i64 y]) := fun W hWc hWf ty dc =>
    run_copy_k W _ _ ty 81 w.heap.size (i * 2) (n + 1 - i) dc ⟨vb, 0, none⟩ 1 vc 2 1 [.int .i64 x, .int .i64 y] Try.underlying34 hsz (by simp only [Nat.min_def]; split <;> omega) rfl
      (fun j v hj => by rw [Addr.add_lit, hWc, Nat.zero_add]; exact hOv _ v (hvs j v hj))
      (fun j hj => by rw [hWc]; exact hN _ (by simp at hj; omega)) (fun j hj => by rw [hWf]; exact hNf _) (by intro u hu; simp at hu; rcases hu with rfl | rfl <;> rfl)
  have hcpB : ∀ (W : World), (∀ z, W.cell? z = (W1.setCells w.heap.size (i * 2) [.int .i64 x, .int .i64 y]).cell? z) → (∀ z, W.frozen? z = (W1.setCells w.heap.size (i * 2) [.int .i64 x, .int .i64 y]).frozen? z) → ∀ ty dc sc, (Builtin.copy_ #[34, 34] ty #[.slice (some ⟨w.heap.size, (i + 1) * 2, none⟩) (n + 1 - (i + 1)) dc, .slice (some ⟨b, i * 2, none⟩) (n - i) sc]).run Try.prog W = .ok (goInt ((n - i : Nat) : Int)) (W.setCells w.heap.size ((i + 1) * 2) (cs.drop (i * 2))) := fun W hWc hWf ty dc sc =>
    run_copy_k W _ _ ty 81 w.heap.size ((i + 1) * 2) (n + 1 - (i + 1)) dc ⟨b, i * 2, none⟩ (n - i) sc 2 (n - i) (cs.drop (i * 2)) Try.underlying34 hsz (by simp only [Nat.min_def]; split <;> omega) hdl
      (fun j v hj => by
        rw [Addr.add_lit, hWc, World.cell?_setCells_out _ _ _ _ _ (fun h _ => absurd h hbN)]
        exact hOb _ v (hcells (i * 2 + j) v (by rwa [List.getElem?_drop] at hj)))
      (fun j hj => by rw [hWc]; exact isSome_setCells _ _ _ _ (fun t ht => hN _ (by simp at ht; omega)) _ (hN _ (by omega)))
      (fun j hj => by rw [hWf, World.frozen?_setCells]; exact hNf _) (fun v hv => h1c v (List.mem_of_mem_drop hv))
  subst hW1
  have hA := hcpA ((w.alloc (.cells ROW 81)).drew) (fun x => rfl) (fun x => rfl)
  have hB := hcpB (((w.alloc (.cells ROW 81)).drew.setCells w.heap.size (i * 2) [.int .i64 x, .int .i64 y]).drew) (fun x => rfl) (fun x => rfl)
  have HA := Lib.hid hA
  have HB := Lib.hid hB
  have HRZ := Lib.hid hrz
  have hw1 : IntKind.i64.wrap ((i : Int) + 1) = (i : Int) + 1 := by rw [IntKind.wrap_i64]; omega
  have hb1 : (0 : Int) ≤ (i : Int) + 1 := by omega
  have hin : i ≤ n := by omega
  have htn : ((i : Int) + 1).toNat = i + 1 := by omega
  have hb3 : (i : Int) ≤ (n : Int) := by omega
  have hGi : ¬ (G = i) := by omega
  have hGim : ¬ (G = i + 1) := by omega
  have hci : ¬ (c = i) := by omega
  have i0_ : (0 : Int) ≤ (i : Int) := by omega
  clear hkk hik hold hROW hG hRl hcpA hcpB hA hB hOb hOv hN hNf hcells hvs hrz
  go_enter Try.func97, Try.ntmps97
  have hA := HA.out
  go_wp2_with (at_builtin; refine Lib.wpList_append_run _ rfl _ _ _ _ rfl _ _ rfl rfl _ _ (HRZ.out _) ?_)
  clear hA
  go_region_law_o (refine step_copy_runI rfl _ _ 34 34 rfl (.slice (some ⟨w.heap.size, (i + 1) * 2, none⟩) (n + 1 - (i + 1)) (G - (i + 1))) (.slice (some ⟨b, i * 2, none⟩) (n - i) (c - i)) (by simp [Act.eval, Act.put]) (by simp [Act.eval, Act.put]) (HB.out 3 (G - (i + 1)) (c - i)) ?_)
  go_wp2
  go_ret
  exact ⟨rfl, rfl⟩

theorem insO_any {base n : Nat} {w : World} {v : Value} {cs : List Value} (h : w.ownsRow base 81 2 v n cs) {i : Nat} (hi : i ≤ n) (hn : n < 1000) (x y : Int) {vb vc : Nat} (hvb : w.heap[vb]? = some (.cells #[.int .i64 x, .int .i64 y] 81 (0, 0))) (hvc : 1 ≤ vc) (hne : v.ownBlock ≠ some vb) (hbase : base ≤ w.heap.size) (h1c : ∀ u ∈ cs, u.oneCell' = true) :
    Calls Try.prog 97 #[v, .int .i64 i, .slice (some ⟨vb, 0, none⟩) 1 vc] w fun e w' => ∃ v', e = .returned v' ∧ w'.ownsRow base 81 2 v' (n + 1) (insC cs (i * 2) [.int .i64 x, .int .i64 y]) ∧ OwnStep w w' v v' := by
  have hcl := h.1
  by_cases hin : i = n
  · subst hin
    refine (insO_end v i cs x y vb vc w h hn hvb hvc hbase).mono ?_
    rintro e w' ⟨v', rfl, h1, h2⟩
    refine ⟨v', rfl, own_eq h1 rfl ?_, h2⟩
    unfold insC
    rw [List.take_of_length_le (by omega), List.drop_eq_nil_of_le (by omega), List.append_nil]
  · have hlt : i < n := by omega
    obtain ⟨b, c, rfl⟩ : ∃ b c, v = .slice (some ⟨b, 0, none⟩) n c := by
      rcases h.2 with ⟨-, e0⟩ | ⟨g, c', cur, e, -⟩
      · omega
      · exact ⟨g, c', e⟩
    have hml : n + 1 ≤ maxLen := by simp only [maxLen]; omega
    by_cases hroom : n + 1 ≤ c
    · refine (insO_shift b n c i cs x y vb vc w h hlt hroom hn hvb (fun e => hne (by rw [e]; rfl)) h1c).mono ?_
      rintro e w' ⟨rfl, rfl⟩
      have hdl : (cs.drop (i * 2)).length = (n - i) * 2 := by rw [List.length_drop, hcl]; omega
      have k1 := own_cutk (w := w.drew) (vs := cs.drop (i * 2)) (m := n + 1) (o := (i + 1) * 2) h hroom (by omega) (by omega) (Or.inr (by omega)) (insC_one hcl hlt)
      exact ⟨_, rfl, own_cutk (vs := [.int .i64 x, .int .i64 y]) (m := n + 1) (o := i * 2) k1 hroom (by omega) (by simp; omega) (Or.inl (Nat.le_refl _)) (insC_two hcl rfl hlt), grown_trans (grown_drewN w 1 _) (grown_trans (grown_setCells b _ _ _) (grown_setCells b _ _ _)), .inl rfl⟩
    · refine (insO_grow b n c i cs x y vb vc w h hlt (by omega) hn hvb h1c).mono ?_
      rintro e w' ⟨rfl, rfl⟩
      have hdl : (cs.drop (i * 2)).length = (n - i) * 2 := by rw [List.length_drop, hcl]; omega
      have g1 := grownCap_ge w (n + 1) c 81
      have g2 := grownCap_le_maxLen w (n + 1) c 81 hml
      refine ⟨_, rfl, ?_, grown_high (grown_trans (grown_high (grown_trans (World.grownBy_alloc w _ _) (grown_drewN _ 1 _)) (grown_setCells w.heap.size _ (i * 2) _) (Nat.le_refl _)) (grown_drewN _ 1 _)) (grown_setCells w.heap.size _ ((i + 1) * 2) _) (Nat.le_refl _), .inr ⟨w.heap.size, rfl, Nat.le_refl _⟩⟩
      have htl : (cs.take (i * 2)).length = i * 2 := by rw [List.length_take]; omega
      have k0 := own_freshk (w := w) (base := base) (t := 81) (k := 2) (i := i) (G := grownCap w (n + 1) c 81) (row := (cs.take (i * 2)).toArray ++ Builtin.zeroCells (Value.agg #[.int .i64 0, .int .i64 0]).cells (n + 1 - i) ++ Builtin.zeroCells (Value.agg #[.int .i64 0, .int .i64 0]).cells (grownCap w (n + 1) c 81 - (n + 1))) (xs := cs.take (i * 2)) hbase g2 (by
        simp only [Array.size_append, size_zeroCells, Value.cells, List.size_toArray, htl]
        simp
        omega) (by omega) (by
        simp only [Array.toList_append]
        rw [List.append_assoc, List.take_append_of_le_length (by omega), List.take_of_length_le (by omega)])
      have k1 := own_cutk (vs := [.int .i64 x, .int .i64 y]) (m := i + 1) (o := i * 2) (ys := cs.take (i * 2) ++ [.int .i64 x, .int .i64 y]) (own_drewN k0 1) (by omega) (Nat.le_refl _) (by simp; omega) (Or.inr (by simp; omega)) (by
        rw [List.take_take, Nat.min_self]
        have e : (cs.take (i * 2)).drop (i * 2 + [Value.int .i64 x, Value.int .i64 y].length) = [] := List.drop_eq_nil_of_le (by simp; omega)
        rw [e, List.append_nil, List.take_of_length_le (by simp; omega)])
      exact own_cutk (vs := cs.drop (i * 2)) (m := n + 1) (o := (i + 1) * 2) (own_drewN k1 1) (by omega) (by omega) (by omega) (Or.inr (by omega)) (insC_three hcl rfl hlt)

end Go.Proofs.Ytjkoceacjbhblaa
