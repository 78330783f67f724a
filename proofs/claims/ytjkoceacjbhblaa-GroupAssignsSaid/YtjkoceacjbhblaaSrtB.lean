/- A row of whole numbers in memory, exchanged in place. -/
import Derived.Test.YtjkoceacjbhblaaSrtA
import Derived.Test.YtjkoceacjbhblaaMem
namespace Go.Proofs.Ytjkoceacjbhblaa
open Go.RowKit

def rowOf (f : Nat → Nat) (n : Nat) : Array Value := ((List.range n).map fun k => Value.int .i64 (f k)).toArray
theorem rowOf_size (f : Nat → Nat) (n : Nat) : (rowOf f n).size = n := by simp [rowOf]
theorem rowOf_get {f : Nat → Nat} {n i : Nat} (h : i < n) : (rowOf f n)[i]? = some (.int .i64 (f i)) := by simp [rowOf, h]
theorem rowOf_set (f : Nat → Nat) (n i x : Nat) : (rowOf f n).setIfInBounds i (.int .i64 x) = rowOf (fun k => if k = i then x else f k) n := by
  apply Array.ext
  · simp [rowOf]
  · intro k h1 h2
    have hk : k < (rowOf f n).size := by simpa using h1
    rw [Array.getElem_setIfInBounds hk]
    by_cases e : i = k
    · subst e; simp [rowOf]
    · simp [rowOf, e, Ne.symm e]
theorem rowOf_swap (f : Nat → Nat) (n i j : Nat) : ((rowOf f n).setIfInBounds i (.int .i64 (f j))).setIfInBounds j (.int .i64 (f i)) = rowOf (swp f i j) n := by
  rw [rowOf_set, rowOf_set]
  congr 1
  funext k
  unfold swp
  repeat' split
  all_goals simp_all
/-- the world w0, but for block b: it holds the numbers f 0 .. f (n - 1) -/
structure Ord (w0 : World) (b n : Nat) (f : Nat → Nat) (W : World) : Prop where
  os : W.os = w0.os
  tape : W.tape = w0.tape
  output : W.output = w0.output
  size : W.heap.size = w0.heap.size
  far : ∀ k, k ≠ b → W.heap[k]? = w0.heap[k]?
  row : W.heap[b]? = some (.cells (rowOf f n) 3 (0, 0))
section
variable {w0 W : World} {b n : Nat} {f : Nat → Nat}
theorem Ord.drewN (h : Ord w0 b n f W) (m : Nat) : Ord w0 b n f (W.drewN m) := ⟨h.os, h.tape, h.output, h.size, h.far, h.row⟩
theorem Ord.drew (h : Ord w0 b n f W) : Ord w0 b n f W.drew := ⟨h.os, h.tape, h.output, h.size, h.far, h.row⟩
theorem Ord.cell (h : Ord w0 b n f W) {i : Nat} (hi : i < n) : W.cell? ⟨b, i, none⟩ = some (.int .i64 (f i)) := by rw [cell_of_row W b i _ _ _ h.row, rowOf_get hi]
theorem Ord.frozen (h : Ord w0 b n f W) (i : Nat) : W.frozen? ⟨b, i, none⟩ = false := by simp [World.frozen?, h.row]
theorem Ord.lt (h : Ord w0 b n f W) : b < W.heap.size := Blk.lt h.row
theorem Ord.set_ (h : Ord w0 b n f W) (i x : Nat) : Ord w0 b n (fun k => if k = i then x else f k) (W.setCell ⟨b, i, none⟩ (.int .i64 x)) := by
  have hb := (Below.refl b W).setCell (p := ⟨b, i, none⟩) (Nat.le_refl _) (.int .i64 x)
  refine ⟨hb.os.trans h.os, hb.tape.trans h.tape, hb.output.trans h.output, by rw [← h.size]; simp, fun k hk => (Below.heap_setCell W _ _ k hk).trans (h.far k hk), ?_⟩
  have := Blk.set_ h.row i (.int .i64 x)
  rw [rowOf_set] at this
  exact this
theorem Ord.swap (h : Ord w0 b n f W) (i j : Nat) : Ord w0 b n (swp f i j) ((W.setCell ⟨b, i, none⟩ (.int .i64 (f j))).setCell ⟨b, j, none⟩ (.int .i64 (f i))) := by
  have h2 := (h.set_ i (f j)).set_ j (f i)
  refine ⟨h2.os, h2.tape, h2.output, h2.size, h2.far, ?_⟩
  rw [h2.row]
  congr 2
  rw [← rowOf_swap, rowOf_set, rowOf_set]
/-- behind the exchange's first store the second place still holds something -/
theorem Ord.c2 (h : Ord w0 b n f W) {i j : Nat} (hj : j < n) (x : Nat) : ∃ u, (W.setCell ⟨b, i, none⟩ (.int .i64 x)).cell? ⟨b, j, none⟩ = some u := ⟨_, (h.set_ i x).cell hj⟩
theorem Ord.start {w : World} {b n : Nat} {f : Nat → Nat} (h : w.heap[b]? = some (.cells (rowOf f n) 3 (0, 0))) : Ord w b n f w := ⟨rfl, rfl, rfl, rfl, fun _ _ => rfl, h⟩
/-- from a world of the row's to another -/
theorem Ord.trans {W' : World} {g : Nat → Nat} (h : Ord w0 b n f W) (k : Ord W b n g W') : Ord w0 b n g W' := ⟨k.os.trans h.os, k.tape.trans h.tape, k.output.trans h.output, k.size.trans h.size, fun x hx => (k.far x hx).trans (h.far x hx), k.row⟩
end
/-- what is asked of the comparison: over whatever the row holds, of places of names it tells cf -/
def CmpN (P : Program) (g : Nat) (cb : Array Value) (w0 : World) (b n : Nat) (cf : Nat → Nat → Int) : Prop :=
  ∀ (f : Nat → Nat) (W : World), Ord w0 b n f W → ∀ x y : Nat, x < n → y < n →
    Calls P g (#[.int .i64 x, .int .i64 y] ++ cb) W fun e w' => e = .returned (.int .i64 (cf x y)) ∧ ∃ q, w' = W.drewN q
def Lt (cf : Nat → Nat → Int) (x y : Nat) : Prop := cf x y < 0
end Go.Proofs.Ytjkoceacjbhblaa
