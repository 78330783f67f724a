/- Sorting stably: plain laws of exchanges, merges and rotations. No program here. -/
import Derived.Test.YtjkoceacjbhblaaBase
namespace Go.Proofs.Ytjkoceacjbhblaa

def swp (f : Nat → Nat) (i j : Nat) : Nat → Nat := fun k => if k = i then f j else if k = j then f i else f k
/-- g is f but for exchanges of places from a to b -/
def Sub (a b : Nat) (f g : Nat → Nat) : Prop := (∀ k, k < a ∨ b ≤ k → g k = f k) ∧ ∀ k, a ≤ k → k < b → ∃ j, a ≤ j ∧ j < b ∧ g k = f j
theorem Sub.refl (a b : Nat) (f : Nat → Nat) : Sub a b f f := ⟨fun _ _ => rfl, fun k h1 h2 => ⟨k, h1, h2, rfl⟩⟩
theorem Sub.trans {a b : Nat} {f g h : Nat → Nat} (x : Sub a b f g) (y : Sub a b g h) : Sub a b f h := by
  refine ⟨fun k hk => (y.1 k hk).trans (x.1 k hk), fun k h1 h2 => ?_⟩
  obtain ⟨j, j1, j2, e⟩ := y.2 k h1 h2
  obtain ⟨i, i1, i2, e2⟩ := x.2 j j1 j2
  exact ⟨i, i1, i2, e.trans e2⟩
theorem Sub.wide {a b a' b' : Nat} {f g : Nat → Nat} (x : Sub a b f g) (ha : a' ≤ a) (hb : b ≤ b') : Sub a' b' f g := by
  refine ⟨fun k hk => x.1 k (by omega), fun k h1 h2 => ?_⟩
  by_cases h : a ≤ k ∧ k < b
  · obtain ⟨j, j1, j2, e⟩ := x.2 k h.1 h.2
    exact ⟨j, by omega, by omega, e⟩
  · exact ⟨k, h1, h2, x.1 k (by omega)⟩
theorem Sub.swp {a b : Nat} {f g : Nat → Nat} (x : Sub a b f g) {i j : Nat} (i1 : a ≤ i) (i2 : i < b) (j1 : a ≤ j) (j2 : j < b) : Sub a b f (swp g i j) := by
  refine x.trans ⟨fun k hk => ?_, fun k h1 h2 => ?_⟩
  · have e1 : k ≠ i := by omega
    have e2 : k ≠ j := by omega
    simp [Go.Proofs.Ytjkoceacjbhblaa.swp, e1, e2]
  · unfold Go.Proofs.Ytjkoceacjbhblaa.swp
    split
    · exact ⟨j, j1, j2, rfl⟩
    · split
      · exact ⟨i, i1, i2, rfl⟩
      · exact ⟨k, h1, h2, rfl⟩
/-- what holds of all values of a stretch holds of them behind exchanges -/
theorem Sub.all {a b : Nat} {f g : Nat → Nat} (x : Sub a b f g) {P : Nat → Prop} (h : ∀ k, a ≤ k → k < b → P (f k)) : ∀ k, a ≤ k → k < b → P (g k) := by
  intro k h1 h2
  obtain ⟨j, j1, j2, e⟩ := x.2 k h1 h2
  rw [e]
  exact h j j1 j2

/-- a strict weak order -/
structure Ordr (L : Nat → Nat → Prop) : Prop where
  asym : ∀ x y, L x y → ¬ L y x
  neg : ∀ x y z, L x z → L x y ∨ L y z
/-- .. and what a stable sort makes of it -/
def Tie (L : Nat → Nat → Prop) (x y : Nat) : Prop := L x y ∨ (¬ L y x ∧ x < y)
theorem Ordr.irr {L : Nat → Nat → Prop} (h : Ordr L) (x : Nat) : ¬ L x x := fun e => h.asym x x e e
theorem Tie.trans {L : Nat → Nat → Prop} (o : Ordr L) {x y z : Nat} (h : Tie L x y) (k : Tie L y z) : Tie L x z := by
  rcases h with h | ⟨h, hx⟩
  · rcases k with k | ⟨k, _⟩
    · rcases o.neg x z y h with e | e
      · exact Or.inl e
      · exact absurd e (o.asym _ _ k)
    · rcases o.neg x z y h with e | e
      · exact Or.inl e
      · exact absurd e k
  · rcases k with k | ⟨k, hy⟩
    · rcases o.neg y x z k with e | e
      · exact absurd e h
      · exact Or.inl e
    · refine Or.inr ⟨fun e => ?_, by omega⟩
      rcases o.neg z y x e with e | e
      · exact k e
      · exact h e
theorem Tie.lo {L : Nat → Nat → Prop} {x y : Nat} (hx : x < y) (h : ¬ L y x) : Tie L x y := Or.inr ⟨h, hx⟩
theorem Tie.hi {L : Nat → Nat → Prop} {x y : Nat} (h : L y x) : Tie L y x := Or.inl h
theorem Tie.of_hi {L : Nat → Nat → Prop} {x y : Nat} (hx : x < y) (h : Tie L y x) : L y x := by
  rcases h with h | h
  · exact h
  · omega
theorem Tie.of_lo {L : Nat → Nat → Prop} (o : Ordr L) {x y : Nat} (h : Tie L x y) : ¬ L y x := by
  rcases h with h | h
  · exact o.asym _ _ h
  · exact h.1
def Srt (L : Nat → Nat → Prop) (f : Nat → Nat) (a b : Nat) : Prop := ∀ i j, a ≤ i → i < j → j < b → Tie L (f i) (f j)
theorem Srt.part {L : Nat → Nat → Prop} {f : Nat → Nat} {a b a' b' : Nat} (h : Srt L f a b) (ha : a ≤ a') (hb : b' ≤ b) : Srt L f a' b' := fun i j h1 h2 h3 => h i j (by omega) h2 (by omega)
theorem Srt.same {L : Nat → Nat → Prop} {f g : Nat → Nat} {a b : Nat} (h : Srt L f a b) (e : ∀ k, a ≤ k → k < b → g k = f k) : Srt L g a b := fun i j h1 h2 h3 => by
  rw [e i h1 (by omega), e j (by omega) h3]
  exact h i j h1 h2 h3
theorem Srt.one {L : Nat → Nat → Prop} {f : Nat → Nat} {a b : Nat} (h : b ≤ a + 1) : Srt L f a b := fun i j _ _ _ => by omega
/-- two sorted stretches, the first under the second -/
theorem Srt.join {L : Nat → Nat → Prop} {f : Nat → Nat} {a m b : Nat} (h1 : Srt L f a m) (h2 : Srt L f m b) (h : ∀ i j, a ≤ i → i < m → m ≤ j → j < b → Tie L (f i) (f j)) : Srt L f a b := by
  intro i j hi hij hj
  by_cases hm : j < m
  · exact h1 i j hi hij hm
  · by_cases hm2 : m ≤ i
    · exact h2 i j hm2 hij hj
    · exact h i j hi (by omega) (by omega) hj

/-! one element carried up or down -/
def upTo (f : Nat → Nat) (a i : Nat) : Nat → Nat := fun k => if a ≤ k ∧ k < i then f (k + 1) else if k = i then f a else f k
def downTo (f : Nat → Nat) (i m : Nat) : Nat → Nat := fun k => if k = i then f m else if i < k ∧ k ≤ m then f (k - 1) else f k
theorem upTo_self (f : Nat → Nat) (a : Nat) : upTo f a a = f := by
  funext k
  unfold upTo
  rw [if_neg (by omega)]
  split
  · rename_i h; rw [h]
  · rfl
theorem upTo_step {f : Nat → Nat} {a k : Nat} (h : a ≤ k) : swp (upTo f a k) k (k + 1) = upTo f a (k + 1) := by
  funext x
  unfold swp upTo
  repeat' split
  all_goals first | rfl | omega | (congr 1; omega)
theorem downTo_self (f : Nat → Nat) (m : Nat) : downTo f m m = f := by
  funext k
  unfold downTo
  split
  · rename_i h; rw [h]
  · rw [if_neg (by omega)]
theorem downTo_step {f : Nat → Nat} {k m : Nat} (h : k + 1 ≤ m) : swp (downTo f (k + 1) m) (k + 1) k = downTo f k m := by
  funext x
  unfold swp downTo
  repeat' split
  all_goals first | rfl | omega | (congr 1; omega)
theorem Sub.upTo {f : Nat → Nat} {a b i : Nat} (hi : i < b) (ha : a ≤ i) : Sub a b f (upTo f a i) := by
  refine ⟨fun k hk => ?_, fun k h1 h2 => ?_⟩
  · unfold Go.Proofs.Ytjkoceacjbhblaa.upTo
    rw [if_neg (by omega), if_neg (by omega)]
  · unfold Go.Proofs.Ytjkoceacjbhblaa.upTo
    repeat' split
    · exact ⟨k + 1, by omega, by omega, rfl⟩
    · exact ⟨a, by omega, by omega, rfl⟩
    · exact ⟨k, h1, h2, rfl⟩
theorem Sub.downTo {f : Nat → Nat} {a b i m : Nat} (ha : a ≤ i) (him : i ≤ m) (hm : m < b) : Sub a b f (downTo f i m) := by
  refine ⟨fun k hk => ?_, fun k h1 h2 => ?_⟩
  · unfold Go.Proofs.Ytjkoceacjbhblaa.downTo
    rw [if_neg (by omega), if_neg (by omega)]
  · unfold Go.Proofs.Ytjkoceacjbhblaa.downTo
    repeat' split
    · exact ⟨m, by omega, by omega, rfl⟩
    · exact ⟨k - 1, by omega, by omega, rfl⟩
    · exact ⟨k, h1, h2, rfl⟩
/-- the first element put behind those that are under it -/
theorem Srt.upTo {L : Nat → Nat → Prop} {f : Nat → Nat} {a b i : Nat} (h : Srt L f (a + 1) b) (ha : a ≤ i) (hi : i < b) (h1 : ∀ k, a < k → k ≤ i → Tie L (f k) (f a)) (h2 : ∀ k, i < k → k < b → Tie L (f a) (f k)) : Srt L (upTo f a i) a b := by
  intro x y hx hxy hy
  unfold Go.Proofs.Ytjkoceacjbhblaa.upTo
  by_cases c1 : x < i
  · rw [if_pos (show a ≤ x ∧ x < i from ⟨hx, c1⟩)]
    by_cases c2 : y < i
    · rw [if_pos (show a ≤ y ∧ y < i from ⟨by omega, c2⟩)]
      exact h _ _ (by omega) (by omega) (by omega)
    · rw [if_neg (by omega)]
      by_cases c3 : y = i
      · rw [if_pos c3]
        exact h1 _ (by omega) (by omega)
      · rw [if_neg c3]
        exact h _ _ (by omega) (by omega) (by omega)
  · rw [if_neg (show ¬ (a ≤ x ∧ x < i) by omega), if_neg (show ¬ (a ≤ y ∧ y < i) by omega), if_neg (show ¬ y = i by omega)]
    by_cases c3 : x = i
    · rw [if_pos c3]
      exact h2 _ (by omega) (by omega)
    · rw [if_neg c3]
      exact h _ _ (by omega) (by omega) (by omega)
/-- the last element put ahead of those that are over it -/
theorem Srt.downTo {L : Nat → Nat → Prop} {f : Nat → Nat} {a i m : Nat} (h : Srt L f a m) (ha : a ≤ i) (him : i ≤ m) (h1 : ∀ k, a ≤ k → k < i → Tie L (f k) (f m)) (h2 : ∀ k, i ≤ k → k < m → Tie L (f m) (f k)) : Srt L (downTo f i m) a (m + 1) := by
  intro x y hx hxy hy
  unfold Go.Proofs.Ytjkoceacjbhblaa.downTo
  by_cases c1 : x < i
  · rw [if_neg (show ¬ x = i by omega), if_neg (show ¬ (i < x ∧ x ≤ m) by omega)]
    by_cases c2 : y = i
    · rw [if_pos c2]
      exact h1 _ hx c1
    · rw [if_neg c2]
      by_cases c3 : i < y
      · rw [if_pos (show i < y ∧ y ≤ m from ⟨c3, by omega⟩)]
        exact h _ _ (by omega) (by omega) (by omega)
      · rw [if_neg (by omega)]
        exact h _ _ (by omega) (by omega) (by omega)
  · rw [if_neg (show ¬ y = i by omega), if_pos (show i < y ∧ y ≤ m from ⟨by omega, by omega⟩)]
    by_cases c2 : x = i
    · rw [if_pos c2]
      exact h2 _ (by omega) (by omega)
    · rw [if_neg c2, if_pos (show i < x ∧ x ≤ m from ⟨by omega, by omega⟩)]
      exact h _ _ (by omega) (by omega) (by omega)

/-! rotations -/
def swr (f : Nat → Nat) (a b n : Nat) : Nat → Nat := fun k => if a ≤ k ∧ k < a + n then f (b + (k - a)) else if b ≤ k ∧ k < b + n then f (a + (k - b)) else f k
theorem swr_zero (f : Nat → Nat) (a b : Nat) : swr f a b 0 = f := by
  funext k
  unfold swr
  rw [if_neg (by omega), if_neg (by omega)]
theorem swr_step {f : Nat → Nat} {a b n : Nat} (h : a + n < b) : swp (swr f a b n) (a + n) (b + n) = swr f a b (n + 1) := by
  funext k
  unfold swp swr
  repeat' split
  all_goals first | rfl | omega | (congr 1; omega)
theorem Sub.swr {f : Nat → Nat} {a b n lo hi : Nat} (h : a + n ≤ b) (ha : lo ≤ a) (hb : b + n ≤ hi) : Sub lo hi f (swr f a b n) := by
  refine ⟨fun k hk => ?_, fun k h1 h2 => ?_⟩
  · unfold Go.Proofs.Ytjkoceacjbhblaa.swr
    rw [if_neg (by omega), if_neg (by omega)]
  · unfold Go.Proofs.Ytjkoceacjbhblaa.swr
    repeat' split
    · exact ⟨b + (k - a), by omega, by omega, rfl⟩
    · exact ⟨a + (k - b), by omega, by omega, rfl⟩
    · exact ⟨k, h1, h2, rfl⟩
def rot (f : Nat → Nat) (a m b : Nat) : Nat → Nat := fun k => if a ≤ k ∧ k < a + (b - m) then f (k + (m - a)) else if a + (b - m) ≤ k ∧ k < b then f (k - (b - m)) else f k
theorem rot_end {f : Nat → Nat} {m i : Nat} (h : i ≤ m) : swr f (m - i) m i = rot f (m - i) m (m + i) := by
  funext k
  unfold rot swr
  repeat' split
  all_goals first | rfl | omega | (congr 1; omega)
theorem rot_left {f : Nat → Nat} {m i j : Nat} (h : i ≤ m) (hj : j < i) : rot (swr f (m - i) m j) (m - (i - j)) m (m + j) = rot f (m - i) m (m + j) := by
  funext k
  unfold rot swr
  by_cases c1 : k < m - i
  · rw [if_neg (by omega), if_neg (by omega), if_neg (by omega), if_neg (by omega), if_neg (by omega), if_neg (by omega)]
  · by_cases c2 : m + j ≤ k
    · rw [if_neg (by omega), if_neg (by omega), if_neg (by omega), if_neg (by omega), if_neg (by omega), if_neg (by omega)]
    · by_cases c3 : k < m - i + j
      · rw [if_neg (by omega), if_neg (by omega), if_pos (by omega), if_pos (by omega)]
        congr 1; omega
      · by_cases c4 : k < m - (i - j) + j
        · rw [if_pos (by omega), if_neg (by omega), if_pos (by omega), if_neg (by omega), if_pos (by omega)]
          congr 1; omega
        · rw [if_neg (by omega), if_pos (by omega), if_neg (by omega), if_neg (by omega), if_neg (by omega), if_pos (by omega)]
theorem rot_right {f : Nat → Nat} {m i j : Nat} (h : i ≤ m) (hj : i < j) : rot (swr f (m - i) (m + j - i) i) (m - i) m (m + (j - i)) = rot f (m - i) m (m + j) := by
  funext k
  unfold rot swr
  by_cases c1 : k < m - i
  · rw [if_neg (by omega), if_neg (by omega), if_neg (by omega), if_neg (by omega), if_neg (by omega), if_neg (by omega)]
  · by_cases c2 : m + j ≤ k
    · rw [if_neg (by omega), if_neg (by omega), if_neg (by omega), if_neg (by omega), if_neg (by omega), if_neg (by omega)]
    · by_cases c3 : k < m - i + (j - i)
      · rw [if_pos (by omega), if_neg (by omega), if_neg (by omega), if_pos (by omega)]
      · by_cases c4 : k < m + (j - i)
        · rw [if_neg (by omega), if_pos (by omega), if_pos (by omega), if_pos (by omega)]
          congr 1; omega
        · rw [if_neg (by omega), if_neg (by omega), if_neg (by omega), if_pos (by omega), if_neg (by omega), if_pos (by omega)]
          congr 1; omega
theorem Sub.rot {f : Nat → Nat} {a m b lo hi : Nat} (h1 : a ≤ m) (h2 : m ≤ b) (ha : lo ≤ a) (hb : b ≤ hi) : Sub lo hi f (rot f a m b) := by
  refine ⟨fun k hk => ?_, fun k h1 h2 => ?_⟩
  · unfold Go.Proofs.Ytjkoceacjbhblaa.rot
    rw [if_neg (by omega), if_neg (by omega)]
  · unfold Go.Proofs.Ytjkoceacjbhblaa.rot
    repeat' split
    · exact ⟨k + (m - a), by omega, by omega, rfl⟩
    · exact ⟨k - (b - m), by omega, by omega, rfl⟩
    · exact ⟨k, h1, h2, rfl⟩
theorem rot_nil {f : Nat → Nat} {a m b : Nat} (h1 : a ≤ m) (h2 : m ≤ b) (h : a = m ∨ m = b) : rot f a m b = f := by
  funext k
  unfold rot
  repeat' split
  all_goals first | rfl | omega | (congr 1; omega)

/-! a merge: what it begins with, what it comes to -/
structure MPre (L : Nat → Nat → Prop) (f : Nat → Nat) (a m b : Nat) : Prop where
  left : Srt L f a m
  right : Srt L f m b
  under : ∀ i j, a ≤ i → i < m → m ≤ j → j < b → f i < f j
/-- the place at which the two stretches are cut: so many of the first, and those of the second that come ahead -/
structure MCut (L : Nat → Nat → Prop) (f : Nat → Nat) (m s e lo hi p : Nat) : Prop where
  down : ∀ c, lo ≤ c → c < s → ¬ L (f (p - c)) (f c)
  up : ∀ c, s ≤ c → c < hi → L (f (p - c)) (f c)
/-- a rotated pair of sorted stretches: each element of the first half is under each of the second -/
theorem MPre.halves {L : Nat → Nat → Prop} {f : Nat → Nat} {a m b mid s e : Nat} (h : MPre L f a m b) (ha : a ≤ s) (hs : s ≤ m) (hm : m ≤ e) (he : e ≤ b) (hmid : mid + m = s + e)
    (h1 : ∀ i j, a ≤ i → i < s → e ≤ j → j < b → Tie L (f i) (f j)) (h2 : ∀ i j, m ≤ i → i < e → s ≤ j → j < m → Tie L (f i) (f j)) :
    (∀ i j, a ≤ i → i < mid → mid ≤ j → j < b → Tie L (rot f s m e i) (rot f s m e j)) ∧ MPre L (rot f s m e) a s mid ∧ MPre L (rot f s m e) mid e b := by
  have em : s + (e - m) = mid := by omega
  have r1 : ∀ i, a ≤ i → i < s → rot f s m e i = f i := fun i _ hi => by unfold rot; rw [if_neg (by omega), if_neg (by omega)]
  have r2 : ∀ i, s ≤ i → i < mid → rot f s m e i = f (i + (m - s)) := fun i h1 h2 => by unfold rot; rw [if_pos (by omega)]
  have r3 : ∀ i, mid ≤ i → i < e → rot f s m e i = f (i - (e - m)) := fun i h1 h2 => by unfold rot; rw [if_neg (by omega), if_pos (by omega)]
  have r4 : ∀ i, e ≤ i → rot f s m e i = f i := fun i h1 => by unfold rot; rw [if_neg (by omega), if_neg (by omega)]
  refine ⟨fun i j hi1 hi2 hj1 hj2 => ?_, ⟨?_, ?_, ?_⟩, ⟨?_, ?_, ?_⟩⟩
  · by_cases c1 : i < s
    · rw [r1 i hi1 c1]
      by_cases c2 : j < e
      · rw [r3 j hj1 c2]
        exact h.left _ _ hi1 (by omega) (by omega)
      · rw [r4 j (by omega)]
        exact h1 _ _ hi1 c1 (by omega) hj2
    · rw [r2 i (by omega) hi2]
      by_cases c2 : j < e
      · rw [r3 j hj1 c2]
        exact h2 _ _ (by omega) (by omega) (by omega) (by omega)
      · rw [r4 j (by omega)]
        exact h.right _ _ (by omega) (by omega) hj2
  · exact (h.left.part (Nat.le_refl _) hs).same r1
  · intro i j hi hij hj
    rw [r2 i hi (by omega), r2 j (by omega) hj]
    exact h.right _ _ (by omega) (by omega) (by omega)
  · intro i j hi1 hi2 hj1 hj2
    rw [r1 i hi1 hi2, r2 j hj1 hj2]
    exact h.under _ _ hi1 (by omega) (by omega) (by omega)
  · intro i j hi hij hj
    rw [r3 i hi (by omega), r3 j (by omega) hj]
    exact h.left _ _ (by omega) (by omega) (by omega)
  · exact (h.right.part hm (Nat.le_refl _)).same fun k h1 _ => r4 k h1
  · intro i j hi1 hi2 hj1 hj2
    rw [r3 i hi1 hi2, r4 j hj1]
    exact h.under _ _ (by omega) (by omega) (by omega) hj2
/-- the parts merged: the whole is -/
theorem Srt.halves {L : Nat → Nat → Prop} {f g : Nat → Nat} {a mid b : Nat} (h : ∀ i j, a ≤ i → i < mid → mid ≤ j → j < b → Tie L (f i) (f j)) (x : Sub a mid f g) {g' : Nat → Nat} (y : Sub mid b g g') (h1 : Srt L g a mid) (h2 : Srt L g' mid b) : Srt L g' a b := by
  refine Srt.join (h1.same fun k _ hk => y.1 k (by omega)) h2 fun i j hi1 hi2 hj1 hj2 => ?_
  rw [y.1 i (by omega)]
  obtain ⟨p, p1, p2, e⟩ := x.2 i hi1 hi2
  obtain ⟨q, q1, q2, e2⟩ := y.2 j hj1 hj2
  rw [e, e2, x.1 q (by omega)]
  exact h p q p1 p2 q1 q2

/-! where a merge cuts -/
theorem cut_ok {L : Nat → Nat → Prop} (o : Ordr L) {f : Nat → Nat} {a m b mid lo hi s : Nat} (h : MPre L f a m b) (ham : a < m) (hmb : m < b) (hm1 : 2 * mid ≤ a + b) (hm2 : a + b ≤ 2 * mid + 1)
    (hl : (mid < m ∧ lo + b = mid + m ∧ hi = mid) ∨ (m ≤ mid ∧ lo = a ∧ hi = m)) (s1 : lo ≤ s) (s2 : s ≤ hi) (hd : s = lo ∨ ¬ L (f (mid + m - 1 - (s - 1))) (f (s - 1))) (hu : s = hi ∨ L (f (mid + m - 1 - s)) (f s)) :
    a ≤ s ∧ s ≤ m ∧ m ≤ mid + m - s ∧ mid + m - s ≤ b ∧ (∀ i j, a ≤ i → i < s → mid + m - s ≤ j → j < b → Tie L (f i) (f j)) ∧ (∀ i j, m ≤ i → i < mid + m - s → s ≤ j → j < m → Tie L (f i) (f j)) := by
  refine ⟨by omega, by omega, by omega, by omega, fun i j i1 i2 j1 j2 => ?_, fun i j i1 i2 j1 j2 => ?_⟩
  · have hs : ¬ s = lo := by omega
    have hd := hd.resolve_left hs
    rw [show mid + m - 1 - (s - 1) = mid + m - s by omega] at hd
    have t1 : Tie L (f (s - 1)) (f (mid + m - s)) := Tie.lo (h.under _ _ (by omega) (by omega) (by omega) (by omega)) hd
    have t2 : Tie L (f i) (f (mid + m - s)) := by
      by_cases e : i = s - 1
      · rw [e]; exact t1
      · exact (h.left i (s - 1) i1 (by omega) (by omega)).trans o t1
    by_cases e : j = mid + m - s
    · rw [e]; exact t2
    · exact t2.trans o (h.right _ j (by omega) (by omega) j2)
  · have hs : ¬ s = hi := by omega
    have hu := hu.resolve_left hs
    rw [show mid + m - 1 - s = mid + m - s - 1 by omega] at hu
    have t1 : Tie L (f (mid + m - s - 1)) (f s) := Tie.hi hu
    have t2 : Tie L (f i) (f s) := by
      by_cases e : i = mid + m - s - 1
      · rw [e]; exact t1
      · exact (h.right i (mid + m - s - 1) i1 (by omega) (by omega)).trans o t1
    by_cases e : j = s
    · rw [e]; exact t2
    · exact t2.trans o (h.left s j (by omega) (by omega) j2)
theorem one_left {L : Nat → Nat → Prop} (o : Ordr L) {f : Nat → Nat} {a b i : Nat} (h : MPre L f a (a + 1) b) (i1 : a + 1 ≤ i) (i2 : i ≤ b) (hd : i = a + 1 ∨ L (f (i - 1)) (f a)) (hu : i = b ∨ ¬ L (f i) (f a)) : Srt L (upTo f a (i - 1)) a b := by
  refine Srt.upTo h.right (by omega) (by omega) (fun k h1 h2 => ?_) (fun k h1 h2 => ?_)
  · have t1 := Tie.hi (hd.resolve_left (by omega))
    by_cases e : k = i - 1
    · rw [e]; exact t1
    · exact (h.right k (i - 1) (by omega) (by omega) (by omega)).trans o t1
  · have t1 := Tie.lo (h.under a i (Nat.le_refl _) (by omega) (by omega) (by omega)) (hu.resolve_left (by omega))
    by_cases e : k = i
    · rw [e]; exact t1
    · exact t1.trans o (h.right i k (by omega) (by omega) h2)
theorem one_right {L : Nat → Nat → Prop} (o : Ordr L) {f : Nat → Nat} {a m i : Nat} (h : Srt L f a m) (hu : ∀ k, a ≤ k → k < m → f k < f m) (i1 : a ≤ i) (i2 : i ≤ m) (hd : i = a ∨ ¬ L (f m) (f (i - 1))) (hv : i = m ∨ L (f m) (f i)) : Srt L (downTo f i m) a (m + 1) := by
  refine Srt.downTo h i1 i2 (fun k h1 h2 => ?_) (fun k h1 h2 => ?_)
  · have t1 := Tie.lo (hu (i - 1) (by omega) (by omega)) (hd.resolve_left (by omega))
    by_cases e : k = i - 1
    · rw [e]; exact t1
    · exact (h k (i - 1) h1 (by omega) (by omega)).trans o t1
  · have t1 := Tie.hi (hv.resolve_left (by omega))
    by_cases e : k = i
    · rw [e]; exact t1
    · exact t1.trans o (h i k i1 (by omega) h2)

/-! blocks -/
structure Good (L : Nat → Nat → Prop) (B n : Nat) (f : Nat → Nat) : Prop where
  srt : ∀ i j, i < j → j < n → i / B = j / B → Tie L (f i) (f j)
  at_ : ∀ k, k < n → f k / B = k / B ∧ f k < n
/-- up to c the blocks are merged by twos -/
structure Half (L : Nat → Nat → Prop) (B n c : Nat) (f : Nat → Nat) : Prop where
  lo : ∀ i j, i < j → j < c → i / (B * 2) = j / (B * 2) → Tie L (f i) (f j)
  hi : ∀ i j, c ≤ i → i < j → j < n → i / B = j / B → Tie L (f i) (f j)
  at2 : ∀ k, k < n → f k / (B * 2) = k / (B * 2) ∧ f k < n
  at1 : ∀ k, c ≤ k → k < n → f k / B = k / B
  mul : ∃ u, c = u * (B * 2)
theorem Good.half {L : Nat → Nat → Prop} {B n : Nat} {f : Nat → Nat} (h : Good L B n f) : Half L B n 0 f :=
  ⟨fun _ _ _ h => by omega, fun i j _ => h.srt i j, fun k hk => ⟨by rw [← Nat.div_div_eq_div_mul, ← Nat.div_div_eq_div_mul, (h.at_ k hk).1], (h.at_ k hk).2⟩, fun k _ hk => (h.at_ k hk).1, 0, by simp⟩
theorem div_block {B u i : Nat} (hB : 0 < B) (h1 : u * B ≤ i) (h2 : i < u * B + B) : i / B = u := by
  rw [Nat.div_eq_iff hB]
  omega
theorem block_div {B u i : Nat} (hB : 0 < B) (h : i / B = u) : u * B ≤ i ∧ i < u * B + B := by
  rw [Nat.div_eq_iff hB] at h
  omega
theorem Half.pre {L : Nat → Nat → Prop} {B n c b : Nat} {f : Nat → Nat} (h : Half L B n c f) (hB : 0 < B) (h0 : c + B ≤ b) (h1 : b ≤ n) (h2 : b ≤ c + B * 2) : MPre L f c (c + B) b := by
  obtain ⟨u, hu⟩ := h.mul
  have e2 : u * (B * 2) = (u * 2) * B := by rw [Nat.mul_assoc, Nat.mul_comm 2 B]
  have e3 : (u * 2 + 1) * B = (u * 2) * B + B := Nat.succ_mul _ _
  refine ⟨fun i j i1 ij j2 => ?_, fun i j i1 ij j2 => ?_, fun i j i1 i2 j1 j2 => ?_⟩
  · exact h.hi i j i1 ij (by omega) ((div_block (u := u * 2) hB (by omega) (by omega)).trans (div_block (u := u * 2) hB (by omega) (by omega)).symm)
  · exact h.hi i j (by omega) ij (by omega) ((div_block (u := u * 2 + 1) hB (by omega) (by omega)).trans (div_block (u := u * 2 + 1) hB (by omega) (by omega)).symm)
  · have x1 := h.at1 i i1 (by omega)
    have x2 := h.at1 j (by omega) (by omega)
    rw [div_block (i := i) (u := u * 2) hB (by omega) (by omega)] at x1
    rw [div_block (i := j) (u := u * 2 + 1) hB (by omega) (by omega)] at x2
    have y1 := block_div hB x1
    have y2 := block_div hB x2
    omega
/-- the values of a stretch lie in it -/
theorem Half.inside {L : Nat → Nat → Prop} {B n c b : Nat} {f g : Nat → Nat} (h : Half L B n c f) (hB : 0 < B) (h1 : b ≤ n) (h2 : b ≤ c + B * 2) (x : Sub c b f g) :
    ∀ k, k < n → g k / (B * 2) = k / (B * 2) ∧ g k < n := by
  obtain ⟨u, hu⟩ := h.mul
  intro k hk
  by_cases hc : c ≤ k ∧ k < b
  · obtain ⟨j, j1, j2, e⟩ := x.2 k hc.1 hc.2
    have := h.at2 j (by omega)
    rw [e, this.1]
    refine ⟨?_, this.2⟩
    rw [div_block (u := u) (by omega) (by omega) (by omega), div_block (u := u) (by omega) (by omega) (by omega)]
  · rw [x.1 k (by omega)]
    exact h.at2 k hk
theorem Half.joins {L : Nat → Nat → Prop} {B n c b : Nat} {f g : Nat → Nat} (h : Half L B n c f) (hB : 0 < B) (h2 : b ≤ c + B * 2) (x : Sub c b f g) (s : Srt L g c b) : ∀ i j, i < j → j < b → i / (B * 2) = j / (B * 2) → Tie L (g i) (g j) := by
  obtain ⟨u, hu⟩ := h.mul
  intro i j hij hj he
  by_cases hc : c ≤ j
  · rw [div_block (i := j) (u := u) (by omega) (by omega) (by omega)] at he
    have := block_div (B := B * 2) (by omega) he
    exact s i j (by omega) hij hj
  · rw [x.1 i (by omega), x.1 j (by omega)]
    exact h.lo i j hij (by omega) he
theorem Half.step {L : Nat → Nat → Prop} {B n c : Nat} {f g : Nat → Nat} (h : Half L B n c f) (hB : 0 < B) (h1 : c + B * 2 ≤ n) (x : Sub c (c + B * 2) f g) (s : Srt L g c (c + B * 2)) : Half L B n (c + B * 2) g := by
  refine ⟨h.joins hB (Nat.le_refl _) x s, fun i j i1 ij j2 he => ?_, h.inside hB h1 (Nat.le_refl _) x, fun k k1 k2 => ?_, ?_⟩
  · rw [x.1 i (by omega), x.1 j (by omega)]
    exact h.hi i j (by omega) ij j2 he
  · rw [x.1 k (by omega)]
    exact h.at1 k (by omega) k2
  · obtain ⟨u, hu⟩ := h.mul
    exact ⟨u + 1, by rw [Nat.succ_mul]; omega⟩
theorem Half.last {L : Nat → Nat → Prop} {B n c : Nat} {f g : Nat → Nat} (h : Half L B n c f) (hB : 0 < B) (h1 : n ≤ c + B * 2) (x : Sub c n f g) (s : Srt L g c n) : Good L (B * 2) n g :=
  ⟨h.joins hB h1 x s, h.inside hB (Nat.le_refl _) h1 x⟩
theorem Half.rest {L : Nat → Nat → Prop} {B n c : Nat} {f : Nat → Nat} (h : Half L B n c f) (hB : 0 < B) (h1 : n ≤ c + B) : Good L (B * 2) n f := by
  refine h.last hB (by omega) (Sub.refl _ _ _) fun i j i1 ij j2 => h.hi i j i1 ij j2 ?_
  obtain ⟨u, hu⟩ := h.mul
  have e2 : u * (B * 2) = (u * 2) * B := by rw [Nat.mul_assoc, Nat.mul_comm 2 B]
  exact (div_block (u := u * 2) hB (by omega) (by omega)).trans (div_block (u := u * 2) hB (by omega) (by omega)).symm
theorem Good.whole {L : Nat → Nat → Prop} {B n : Nat} {f : Nat → Nat} (h : Good L B n f) (hB : n ≤ B) : Srt L f 0 n ∧ ∀ k, k < n → f k < n :=
  ⟨fun i j _ ij hj => h.srt i j ij hj (by rw [Nat.div_eq_of_lt (by omega), Nat.div_eq_of_lt (by omega)]), fun k hk => (h.at_ k hk).2⟩
/-- up to c blocks of twenty are sorted, behind it all is as it was -/
structure Ins (L : Nat → Nat → Prop) (n c : Nat) (f : Nat → Nat) : Prop where
  srt : ∀ i j, i < j → j < c → i / 20 = j / 20 → Tie L (f i) (f j)
  at_ : ∀ k, k < c → f k / 20 = k / 20 ∧ f k < n
  id_ : ∀ k, c ≤ k → f k = k
  mul : c % 20 = 0
theorem Ins.start (L : Nat → Nat → Prop) (n : Nat) : Ins L n 0 id := ⟨fun _ _ _ h => by omega, fun k h => by omega, fun k _ => rfl, rfl⟩
theorem Ins.step {L : Nat → Nat → Prop} {n c : Nat} {f g : Nat → Nat} (h : Ins L n c f) (h1 : c + 20 ≤ n) (x : Sub c (c + 20) f g) (s : Srt L g c (c + 20)) : Ins L n (c + 20) g := by
  have hm := h.mul
  refine ⟨fun i j ij hj he => ?_, fun k hk => ?_, fun k hk => ?_, by omega⟩
  · by_cases hc : c ≤ j
    · exact s i j (by omega) ij hj
    · rw [x.1 i (by omega), x.1 j (by omega)]
      exact h.srt i j ij (by omega) he
  · by_cases hc : c ≤ k
    · obtain ⟨j, j1, j2, e⟩ := x.2 k hc hk
      rw [e, h.id_ j j1]
      omega
    · rw [x.1 k (by omega)]
      exact h.at_ k (by omega)
  · rw [x.1 k (by omega)]
    exact h.id_ k (by omega)
theorem Ins.last {L : Nat → Nat → Prop} {n c : Nat} {f g : Nat → Nat} (h : Ins L n c f) (h0 : c ≤ n) (h1 : n < c + 20) (x : Sub c n f g) (s : Srt L g c n) : Good L 20 n g := by
  have hm := h.mul
  refine ⟨fun i j ij hj he => ?_, fun k hk => ?_⟩
  · by_cases hc : c ≤ j
    · exact s i j (by omega) ij hj
    · rw [x.1 i (by omega), x.1 j (by omega)]
      exact h.srt i j ij (by omega) he
  · by_cases hc : c ≤ k
    · obtain ⟨j, j1, j2, e⟩ := x.2 k hc hk
      rw [e, h.id_ j j1]
      omega
    · rw [x.1 k (by omega)]
      exact h.at_ k (by omega)

/-! how many come ahead of one -/
open Classical in
noncomputable def ahead (L : Nat → Nat → Prop) (n x : Nat) : Nat := (List.range n).countP fun k => decide (Tie L k x)
theorem countP_more {α : Type} (p q : α → Bool) : ∀ (l : List α), (∀ x ∈ l, p x = true → q x = true) → (∃ x ∈ l, q x = true ∧ p x = false) → l.countP p < l.countP q
  | [], _, ⟨x, hx, _⟩ => by simp at hx
  | a :: l, h, ⟨x, hx, h1, h2⟩ => by
    have hle : l.countP p ≤ l.countP q := List.countP_mono_left fun y hy => h y (List.mem_cons_of_mem _ hy)
    rcases List.mem_cons.1 hx with rfl | hx
    · rw [List.countP_cons_of_pos h1, List.countP_cons_of_neg (by simp [h2])]
      omega
    · have ih := countP_more p q l (fun y hy => h y (List.mem_cons_of_mem _ hy)) ⟨x, hx, h1, h2⟩
      rw [List.countP_cons, List.countP_cons]
      have := h a (by simp)
      split <;> split <;> simp_all <;> omega
theorem ahead_lt {L : Nat → Nat → Prop} (o : Ordr L) {n x y : Nat} (hx : x < n) (h : Tie L x y) : ahead L n x < ahead L n y := by
  refine countP_more _ _ _ (fun z _ hz => by simpa using (show Tie L z x by simpa using hz).trans o h) ⟨x, by simpa using hx, by simpa using h, ?_⟩
  simp only [decide_eq_false_iff_not]
  rintro (e | e)
  · exact o.irr x e
  · omega
theorem ahead_le {L : Nat → Nat → Prop} (o : Ordr L) {n x : Nat} (hx : x < n) : ahead L n x < n := by
  have : ahead L n x < (List.range n).countP fun _ => true := by
    unfold ahead
    refine countP_more _ _ _ (fun _ _ _ => rfl) ⟨x, by simpa using hx, rfl, ?_⟩
    simp only [decide_eq_false_iff_not]
    rintro (e | e)
    · exact o.irr x e
    · omega
  simpa using this
theorem rising_id {n : Nat} {s : Nat → Nat} (h : ∀ i j, i < j → j < n → s i < s j) (hb : ∀ i, i < n → s i < n) : ∀ k, k < n → s k = k := by
  have lo : ∀ k, k < n → k ≤ s k := by
    intro k
    induction k with
    | zero => intro _; omega
    | succ k ih => intro hk; have := ih (by omega); have := h k (k + 1) (by omega) hk; omega
  have hi : ∀ d k, k + d + 1 = n → s k ≤ k := by
    intro d
    induction d with
    | zero => intro k hk; have := hb k (by omega); omega
    | succ d ih => intro k hk; have := ih (k + 1) (by omega); have := h k (k + 1) (by omega) (by omega); omega
  intro k hk
  have := lo k hk
  have := hi (n - 1 - k) k (by omega)
  omega
theorem ahead_sorted {L : Nat → Nat → Prop} (o : Ordr L) {n : Nat} {f : Nat → Nat} (h : Srt L f 0 n) (hb : ∀ k, k < n → f k < n) : ∀ k, k < n → ahead L n (f k) = k :=
  rising_id (s := fun k => ahead L n (f k)) (fun i j ij hj => ahead_lt o (hb i (by omega)) (h i j (Nat.zero_le _) ij hj)) fun i hi => ahead_le o (hb i hi)

end Go.Proofs.Ytjkoceacjbhblaa
