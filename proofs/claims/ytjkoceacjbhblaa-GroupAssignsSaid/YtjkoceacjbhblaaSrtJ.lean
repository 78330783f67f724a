/- Rows of rows of whole numbers; which parts a member is given. -/
import Derived.Test.YtjkoceacjbhblaaSrtI
import Derived.Test.YtjkoceacjbhblaaCoordCopy
namespace Go.Proofs.Ytjkoceacjbhblaa
open Go.RowKit

def rowV (vs : Nat → Value) (n : Nat) : Array Value := ((List.range n).map vs).toArray
theorem rowV_get {vs : Nat → Value} {n i : Nat} (h : i < n) : (rowV vs n)[i]? = some (vs i) := by simp [rowV, h]
theorem rowV_set (vs : Nat → Value) (n i : Nat) (v : Value) : (rowV vs n).setIfInBounds i v = rowV (fun k => if k = i then v else vs k) n := by
  apply Array.ext
  · simp [rowV]
  · intro k h1 h2
    have hk : k < (rowV vs n).size := by simpa using h1
    rw [Array.getElem_setIfInBounds hk]
    by_cases e : i = k
    · subst e; simp [rowV]
    · simp [rowV, e, Ne.symm e]
/-- block bo holds n rows of the call's own -/
structure Lst (w0 w : World) (base bo n : Nat) (vs : Nat → Value) (ls : Nat → List Int) : Prop where
  bel : Below base w0 w
  ge : base ≤ bo
  blk : Blk w bo 24 (rowV vs n)
  own : ∀ i, i < n → w.ownsRow base 3 1 (vs i) (ls i).length ((ls i).map (Value.int .i64))
  apart : ∀ i j, i < n → j < n → i ≠ j → (vs i).ownBlock = none ∨ (vs i).ownBlock ≠ (vs j).ownBlock
section
variable {w0 w w1 : World} {base bo n i : Nat} {vs : Nat → Value} {ls : Nat → List Int}
theorem Lst.lt (h : Lst w0 w base bo n vs ls) : bo < w.heap.size := h.blk.lt
theorem Lst.keep (h : Lst w0 w base bo n vs ls) (hb : Below w.heap.size w w1) : Lst w0 w1 base bo n vs ls :=
  ⟨h.bel.trans (hb.mono (by have := h.lt; have := h.ge; omega)), h.ge, h.blk.below hb h.lt, fun i hi => own_keep (h.own i hi) hb fun b hb2 => ((h.own i hi).lt b hb2).2, h.apart⟩
theorem Lst.cell (h : Lst w0 w base bo n vs ls) (hi : i < n) : w.cell? ⟨bo, i, none⟩ = some (vs i) := (h.blk.cell i).trans (rowV_get hi)
theorem Lst.off (h : Lst w0 w base bo n vs ls) (hi : i < n) : some bo ≠ (vs i).ownBlock := by
  rcases (h.own i hi).2 with ⟨e, _⟩ | ⟨g, c, cur, e, _, hg, _⟩
  · rw [e]; simp [Value.ownBlock]
  · rw [e]
    intro k
    injection k with k
    subst k
    have hb := h.blk
    unfold Blk at hb
    rw [hg] at hb
    injection hb with hb
    injection hb with _ hb _
    revert hb
    decide
theorem Lst.push (h : Lst w0 w base bo n vs ls) (hi : i < n) {o : Obj} {v1 : Value} {x : Int} (hg : (w.alloc o).grownBy w1 (vs i).ownBlock) (ho : w1.ownsRow base 3 1 v1 ((ls i).length + 1) ((ls i).map (Value.int .i64) ++ [.int .i64 x]))
    (ha : v1.ownBlock = (vs i).ownBlock ∨ v1.ownBlock = some (w.alloc o).heap.size) :
    Blk w1 bo 24 (rowV vs n) ∧ Lst w0 (w1.setCell ⟨bo, i, none⟩ v1) base bo n (fun k => if k = i then v1 else vs k) (fun k => if k = i then ls i ++ [x] else ls k) := by
  have hbl := (h.blk.alloc o).grown hg (h.off hi)
  have hsz : base ≤ w.heap.size := by have := h.lt; have := h.ge; omega
  have hlt : ∀ j, j < n → ∀ k, (vs j).ownBlock = some k → base ≤ k ∧ k < w.heap.size := fun j hj => (h.own j hj).lt
  refine ⟨hbl, ((h.bel.alloc hsz o).grown hg (by simp; omega) fun k hk => (hlt i hi k hk).1).setCell h.ge v1, h.ge, ?_, fun j hj => ?_, fun j k hj hk hjk => ?_⟩
  · have := hbl.set_ i v1
    rw [rowV_set] at this
    exact this
  · by_cases e : j = i
    · subst e
      simp only [if_true]
      have := own_far ho hbl (by decide) j v1
      simpa using this
    · simp only [if_neg e]
      exact own_far (((h.own j hj).alloc o).kept hg (h.apart j i hj hi e)) hbl (by decide) i v1
  · have fresh : ∀ j, j < n → v1.ownBlock = some (w.alloc o).heap.size → v1.ownBlock ≠ (vs j).ownBlock := fun j hj e1 e2 => by
      have := (hlt j hj _ (e2.symm.trans e1)).2
      simp at this
      omega
    by_cases e1 : j = i
    · have e2 : ¬ k = i := fun e => hjk (e1.trans e.symm)
      simp only [if_pos e1, if_neg e2]
      rcases ha with ha | ha
      · rw [ha, ← e1]
        exact h.apart j k hj hk hjk
      · exact Or.inr (fresh k hk ha)
    · by_cases e2 : k = i
      · simp only [if_neg e1, if_pos e2]
        rcases ha with ha | ha
        · rw [ha, ← e2]
          exact h.apart j k hj hk hjk
        · exact Or.inr fun e => fresh j hj ha e.symm
      · simp only [if_neg e1, if_neg e2]
        exact h.apart j k hj hk hjk
theorem Lst.made (w0 w : World) (base n : Nat) (hb : Below base w0 w) (hs : base ≤ w.heap.size) : Lst w0 (w.alloc (.cells (rowV (fun _ => .slice none 0 0) n) 24)) base w.heap.size n (fun _ => .slice none 0 0) (fun _ => []) :=
  ⟨hb.alloc hs _, hs, Blk.new _ _ _, fun _ _ => World.ownsRow_nil _ _ _ _, fun _ _ _ _ _ => Or.inl rfl⟩
theorem Lst.cong {ms : Nat → List Int} (h : Lst w0 w base bo n vs ls) (e : ∀ i, i < n → ls i = ms i) : Lst w0 w base bo n vs ms :=
  ⟨h.bel, h.ge, h.blk, fun i hi => by rw [← e i hi]; exact h.own i hi, h.apart⟩
theorem Lst.is (h : Lst w0 w base bo n vs ls) (hi : i < n) : Is w (vs i) (ls i) := by
  have := Sl.of_own (h.own i hi)
  exact this
end
theorem made_nil (n : Nat) : madeCells #[Value.slice none 0 0] n = rowV (fun _ => .slice none 0 0) n := by
  apply Array.ext
  · simp [madeCells, rowV]
  · intro k h1 h2
    simp [madeCells, rowV, Nat.mod_one]
theorem made_zero (n : Nat) : madeCells #[Value.int .i64 0] n = rowOf (fun _ => 0) n := by
  apply Array.ext
  · simp [madeCells, rowOf]
  · intro k h1 h2
    simp [madeCells, rowOf, Nat.mod_one]

/-! which parts one is given -/
def casts (l : List Nat) : List Int := l.map fun q : Nat => (q : Int)
noncomputable def pts (L : Nat → Nat → Prop) (n P i : Nat) : List Int := casts ((List.range P).filter fun q => decide (q % n = ahead L n i))
def prg (f : Nat → Nat) (n k i : Nat) : List Int := casts ((List.range k).filter fun q => decide (f (q % n) = i))
theorem prg_zero (f : Nat → Nat) (n i : Nat) : prg f n 0 i = [] := rfl
theorem prg_succ (f : Nat → Nat) (n k i : Nat) : prg f n (k + 1) i = if i = f (k % n) then prg f n k (f (k % n)) ++ [(k : Int)] else prg f n k i := by
  unfold prg casts
  rw [List.range_succ, List.filter_append, List.map_append]
  by_cases h : i = f (k % n)
  · subst h
    simp
  · rw [if_neg h]
    simp [Ne.symm h]
theorem ahead_inj {L : Nat → Nat → Prop} (o : Ordr L) {n x y : Nat} (hx : x < n) (hy : y < n) (h : ahead L n x = ahead L n y) : x = y := by
  have key : ∀ x y, x < n → y < n → x < y → ahead L n x ≠ ahead L n y := fun x y hx hy hxy h => by
    by_cases c : L y x
    · have := ahead_lt o hy (Tie.hi c); omega
    · have := ahead_lt o hx (Tie.lo hxy c); omega
  rcases Nat.lt_trichotomy x y with c | c | c
  · exact absurd h (key x y hx hy c)
  · exact c
  · exact absurd h.symm (key y x hy hx c)
theorem prg_pts {L : Nat → Nat → Prop} (o : Ordr L) {n : Nat} {f : Nat → Nat} (h : Srt L f 0 n) (hb : ∀ k, k < n → f k < n) (P i : Nat) (hi : i < n) : prg f n P i = pts L n P i := by
  unfold prg pts
  congr 1
  refine List.filter_congr fun q _ => ?_
  have hq : q % n < n := Nat.mod_lt _ (by omega)
  have e1 := ahead_sorted o h hb (q % n) hq
  have : f (q % n) = i ↔ q % n = ahead L n i := by
    constructor
    · intro e; rw [← e, e1]
    · intro e
      exact ahead_inj o (hb _ hq) hi (e1.trans e)
  simp [this]
/-- round and round -/
theorem pts_step {n a p P : Nat} (hn : 0 < n) (ha : p % n = a) (hp : p < P) :
    ((List.range (min (p + n) P)).filter fun q => decide (q % n = a)) = ((List.range (min p P)).filter fun q => decide (q % n = a)) ++ [p] := by
  have e0 : min p P = p := by omega
  obtain ⟨d, hd, hdn⟩ : ∃ d, min (p + n) P = p + (d + 1) ∧ d + 1 ≤ n := ⟨min (p + n) P - p - 1, by omega, by omega⟩
  rw [e0, hd, List.range_add, List.filter_append]
  congr 1
  rw [List.range_succ_eq_map, List.map_cons, List.filter_cons_of_pos (by simpa using ha)]
  simp only [Nat.add_zero, List.cons.injEq, true_and]
  rw [List.filter_eq_nil_iff]
  intro q hq
  simp only [List.map_map, List.mem_map, List.mem_range, Function.comp] at hq
  obtain ⟨x, hx, rfl⟩ := hq
  simp only [decide_eq_true_eq]
  intro e
  have h1 := Nat.div_add_mod p n
  have h2 := Nat.div_add_mod (p + (x + 1)) n
  rw [ha] at h1
  rw [e] at h2
  have h3 : p / n ≤ (p + (x + 1)) / n := Nat.div_le_div_right (by omega)
  rcases Nat.eq_or_lt_of_le h3 with h4 | h4
  · rw [← h4] at h2; omega
  · have h5 : n * (p / n + 1) ≤ n * ((p + (x + 1)) / n) := Nat.mul_le_mul_left n h4
    rw [Nat.mul_add] at h5
    omega
theorem pts_none {n a P : Nat} (ha : a < n) : ((List.range (min a P)).filter fun q => decide (q % n = a)) = [] := by
  rw [List.filter_eq_nil_iff]
  intro q hq
  rw [List.mem_range] at hq
  have : q % n = q := Nat.mod_eq_of_lt (by omega)
  simp only [decide_eq_true_eq]
  omega
end Go.Proofs.Ytjkoceacjbhblaa
