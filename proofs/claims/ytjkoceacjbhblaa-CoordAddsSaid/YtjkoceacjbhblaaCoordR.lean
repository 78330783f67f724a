/- What coord's calls leave: a coordinator of their own and some plain values. -/
import Derived.Test.YtjkoceacjbhblaaKnownA
namespace Go.Proofs.Ytjkoceacjbhblaa
open Go.RowKit

/-- a coordinator in memory of its own, and beside it the plain values xs -/
def CRes (c : CoordD) (xs : List Value) (w : World) (e : Ending) (w' : World) : Prop :=
  ∃ tv rows, e = .returned (.tuple (coordV c tv :: xs).toArray) ∧ Own w w' w.heap.size tv c.txns rows c.txns.length ∧ Below w.heap.size w w'
theorem own_nil {w0 w : World} {base : Nat} (hb : Below w0.heap.size w0 w) : Own w0 w base (.slice none 0 0) [] [] 0 :=
  ⟨rfl, World.ownsRow_nil _ _ _ _, hb, by simp, by simp, by simp⟩
theorem CRes.zero {xs : List Value} {w w' : World} (hb : Below w.heap.size w w') : CRes zeroC xs w (.returned (.tuple (.agg #[.int .i64 0, .int .i64 0, .int .i64 0, .slice none 0 0] :: xs).toArray)) w' :=
  ⟨.slice none 0 0, [], rfl, own_nil hb, hb⟩
theorem Refuses.res {n : Int} {w w' : World} {e : Ending} (h : Refuses n w e w') : CRes zeroC [.int .i64 0, .int .i64 n] w e w' := by
  obtain ⟨rfl, hb⟩ := h
  exact .zero hb

/-- small coordinators: what a copy asks -/
def CoordD.Fits (c : CoordD) : Prop := c.txns.length * 80 ≤ 140737488355328 ∧ (∀ t ∈ c.txns, t.parts.length * 8 ≤ 140737488355328) ∧ c.txns.length ≤ 9223372036854775807 ∧ ∀ t ∈ c.txns, t.parts.length ≤ 9223372036854775807
theorem zero_fits : zeroC.Fits := by simp [CoordD.Fits, zeroC]

theorem Own.alloc {w0 w : World} {base n : Nat} {v : Value} {ds : List TxnD} {rows : List (TxnD × Value)} (h : Own w0 w base v ds rows n) (o : Obj) : Own w0 (w.alloc o) base v ds rows n :=
  h.keep ((Below.refl _ _).alloc (Nat.le_refl _) o)
theorem own_len {w0 w : World} {base n n' : Nat} {v : Value} {ds : List TxnD} {rows : List (TxnD × Value)} (h : Own w0 w base v ds rows n) (e : n' = n) : Own w0 w base v ds rows n' := by subst e; exact h
theorem Own.putd {w0 w : World} {base n : Nat} {g c : Nat} {ds : List TxnD} {rows : List (TxnD × Value)} (h : Own w0 w base (.slice (some ⟨g, 0, none⟩) n c) ds rows n) (hn : n = ds.length) (hg : w0.heap.size ≤ g) (i j : Nat) (u : Value) (f : TxnD → TxnD)
    (hi : i < ds.length) (hj : j < 7) (hc : ∀ v, tcells (f ds[i], v) = (tcells (ds[i], v)).set j u) (hp : (f ds[i]).parts = ds[i].parts) :
    ∃ rows', Own w0 (w.setCell ⟨g, i * 7 + j, none⟩ u) base (.slice (some ⟨g, 0, none⟩) n c) (ds.modify i f) rows' n := by
  have hl := own_rows h.fst
  have hi' : i < rows.length := by omega
  have he := fst_get h.fst hi' hi
  refine ⟨_, h.put hn hg i j u f hi' hj ?_ (by rw [he]; exact hp)⟩
  have := hc rows[i].2
  rw [← he] at this
  exact this
theorem modify_two {α : Type} (l : List α) (k : Nat) (f1 f2 f : α → α) (h : ∀ hk : k < l.length, f2 (f1 l[k]) = f l[k]) : (l.modify k f1).modify k f2 = l.modify k f := by
  apply List.ext_getElem (by simp)
  intro j h1 h2
  simp only [List.length_modify] at h1
  rw [List.getElem_modify, List.getElem_modify, List.getElem_modify]
  split
  · rename_i e
    subst e
    exact h h1
  · rfl
theorem Own.ne_blk {w0 w : World} {base n k : Nat} {g c g' : Nat} {t : TypeId} {cs : Array Value} {ds : List TxnD} {rows : List (TxnD × Value)} (h : Own w0 w base (.slice (some ⟨g, 0, none⟩) n c) ds rows k) (hb : Blk w g' t cs) (ht : t ≠ 76) : g ≠ g' := by
  rintro rfl
  rcases h.own.2 with ⟨e, _⟩ | ⟨g', cap, cur, e, _, hh, _⟩
  · cases e
  · injection e with e1
    injection e1 with e1
    injection e1 with e1
    subst e1
    unfold Blk at hb
    rw [hb] at hh
    injection hh with hh
    injection hh with _ h3
    exact ht h3
/-- f at the first k -/
def upTo {α : Type} (f : α → α) (l : List α) (k : Nat) : List α := (l.take k).map f ++ l.drop k
theorem upTo_zero {α : Type} (f : α → α) (l : List α) : upTo f l 0 = l := by simp [upTo]
theorem upTo_all {α : Type} (f : α → α) (l : List α) : upTo f l l.length = l.map f := by simp [upTo]
theorem upTo_length {α : Type} (f : α → α) (l : List α) (k : Nat) : (upTo f l k).length = l.length := by simp [upTo]; omega
theorem upTo_get {α : Type} (f : α → α) (l : List α) (k : Nat) (h : k < l.length) (h' : k < (upTo f l k).length) : (upTo f l k)[k] = l[k] := by
  simp only [upTo]
  rw [List.getElem_append_right (by simp; omega)]
  simp [Nat.min_eq_left (Nat.le_of_lt h)]
theorem upTo_succ {α : Type} (f : α → α) (l : List α) (k : Nat) (h : k < l.length) : upTo f l (k + 1) = (upTo f l k).modify k f := by
  apply List.ext_getElem?
  intro j
  simp only [upTo, List.getElem?_modify, List.getElem?_append, List.length_map, List.length_take, List.getElem?_map, List.getElem?_take, List.getElem?_drop]
  rw [Nat.min_eq_left (by omega : k + 1 ≤ l.length), Nat.min_eq_left (by omega : k ≤ l.length)]
  by_cases h1 : j < k
  · simp [h1, show j < k + 1 from by omega, show ¬ k = j from by omega]
  · by_cases h2 : j = k
    · subst h2
      simp [List.getElem?_eq_getElem h]
    · rw [if_neg (by omega), if_neg (by omega), show k + 1 + (j - (k + 1)) = k + (j - k) from by omega]
      simp [show ¬ k = j from fun e => h2 e.symm]
theorem upTo_same {α : Type} (f : α → α) (l : List α) (k : Nat) (h : k < l.length) (he : f l[k] = l[k]) : upTo f l (k + 1) = upTo f l k := by
  rw [upTo_succ f l k h]
  apply List.ext_getElem (by simp)
  intro j h1 h2
  rw [List.getElem_modify]
  split
  · rename_i e
    subst e
    rw [upTo_get f l k h (by simpa using h2), he]
  · rfl

/-- a call's result, opened -/
theorem CRes.open1 {c : CoordD} {x : Value} {w w' : World} {e : Ending} (h : CRes c [x] w e w') (hf : c.Fits) : ∃ A m, e = .returned (.tuple #[.agg #[.int .i64 c.clock, .int .i64 c.next, .int .i64 c.wait, .slice A c.txns.length m], x]) ∧ Cv w' (.agg #[.int .i64 c.clock, .int .i64 c.next, .int .i64 c.wait, .slice A c.txns.length m]) c ∧ Below w.heap.size w w' := by
  obtain ⟨tv, rows, rfl, ho, hb⟩ := h
  obtain ⟨A, m, rfl, -⟩ := (Sl.of_own ho.own).form
  exact ⟨A, m, rfl, ho.cv rfl hf.2.2.1 hf.2.2.2, hb⟩
theorem CRes.open3 {c : CoordD} {x y z : Value} {w w' : World} {e : Ending} (h : CRes c [x, y, z] w e w') (hf : c.Fits) : ∃ A m, e = .returned (.tuple #[.agg #[.int .i64 c.clock, .int .i64 c.next, .int .i64 c.wait, .slice A c.txns.length m], x, y, z]) ∧ Cv w' (.agg #[.int .i64 c.clock, .int .i64 c.next, .int .i64 c.wait, .slice A c.txns.length m]) c ∧ Below w.heap.size w w' := by
  obtain ⟨tv, rows, rfl, ho, hb⟩ := h
  obtain ⟨A, m, rfl, -⟩ := (Sl.of_own ho.own).form
  exact ⟨A, m, rfl, ho.cv rfl hf.2.2.1 hf.2.2.2, hb⟩
theorem CopyPost.open_ {c : CoordD} {w w' : World} {e : Ending} (h : CopyPost w c e w') (hc : c.txns.length ≤ 9223372036854775807) (hp : ∀ t ∈ c.txns, t.parts.length ≤ 9223372036854775807) : ∃ A m, e = .returned (.agg #[.int .i64 c.clock, .int .i64 c.next, .int .i64 c.wait, .slice A c.txns.length m]) ∧ Cv w' (.agg #[.int .i64 c.clock, .int .i64 c.next, .int .i64 c.wait, .slice A c.txns.length m]) c ∧ Below w.heap.size w w' := by
  obtain ⟨tv, rows, rfl, ho, hb⟩ := h
  obtain ⟨A, m, rfl, -⟩ := (Sl.of_own ho.own).form
  exact ⟨A, m, rfl, ho.cv rfl hc hp, hb⟩

/-! Tick -/
def tickT (ck wt : Int) (t : TxnD) : TxnD := if t.state = 2 ∧ wt ≤ ck - t.since ∧ t.ver < 1073741824 then ⟨t.name, t.pid, t.ver + 1, 4, t.parts, t.since, t.done⟩ else t
def tickC (c : CoordD) (n : Int) : CoordD := ⟨c.clock + n, c.next, c.wait, c.txns.map (tickT (c.clock + n) c.wait)⟩
def TickOk (c : CoordD) (n : Int) : Prop := 0 ≤ n ∧ n ≤ 1000 ∧ c.clock + n ≤ 1073741824
def TickTo (c : CoordD) (n : Int) (c' : CoordD) (code : Int) : Prop :=
  (¬ CoordOk c ∧ c' = zeroC ∧ code = 12) ∨ (CoordOk c ∧ ¬ TickOk c n ∧ c' = zeroC ∧ code = 2) ∨ (CoordOk c ∧ TickOk c n ∧ c' = tickC c n ∧ code = 0)
theorem tick_to (c : CoordD) (n : Int) : ∃ c' code, TickTo c n c' code := by
  by_cases h1 : CoordOk c
  · by_cases h2 : TickOk c n
    · exact ⟨_, _, Or.inr (Or.inr ⟨h1, h2, rfl, rfl⟩)⟩
    · exact ⟨_, _, Or.inr (Or.inl ⟨h1, h2, rfl, rfl⟩)⟩
  · exact ⟨_, _, Or.inl ⟨h1, rfl, rfl⟩⟩
theorem tickT_parts (ck wt : Int) (t : TxnD) : (tickT ck wt t).parts = t.parts := by unfold tickT; split <;> rfl
theorem CoordOk.fits {c : CoordD} (h : CoordOk c) : c.Fits := h.bounds
theorem tick_fits {c : CoordD} {n : Int} (h : CoordOk c) : (tickC c n).Fits := by
  obtain ⟨h1, h2, h3, h4⟩ := h.fits
  refine ⟨by simpa [tickC] using h1, ?_, by simpa [tickC] using h3, ?_⟩
  · intro t ht
    obtain ⟨t', ht', rfl⟩ := List.mem_map.1 ht
    rw [tickT_parts]; exact h2 t' ht'
  · intro t ht
    obtain ⟨t', ht', rfl⟩ := List.mem_map.1 ht
    rw [tickT_parts]; exact h4 t' ht'
theorem TickTo.fits {c : CoordD} {n : Int} {c' : CoordD} {code : Int} (h : TickTo c n c' code) : c'.Fits := by
  rcases h with ⟨-, rfl, -⟩ | ⟨-, -, rfl, -⟩ | ⟨h, -, rfl, -⟩
  · exact zero_fits
  · exact zero_fits
  · exact tick_fits h

end Go.Proofs.Ytjkoceacjbhblaa
