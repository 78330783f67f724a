/- Parts of a proof, merged: CloneInt, CoordCopy, SrtJ, SrtK, SrtL, IdxByte, InB, NameB, CoordS, CoordP. No condition. -/
import Derived.Test.YtjkoceacjbhblaaGt1
import Derived.Test.YtjkoceacjbhblaaGt3
import Derived.Deep.RegionHeld3
import Derived.Deep.DrawnRows
import Derived.Deep.OwnRows
import Derived.Shelf.AbstractIn
import Derived.Laws.IdiomStrings
namespace Go.Proofs.Ytjkoceacjbhblaa
open Go.RowKit

theorem CloneInt_info : (Try.prog.info? 3).map (fun i => (i.zero, i.size, i.bytes)) = some (some (.int .i64 0), 1, 8) := by kernel_rfl
set_option maxRecDepth 100000 in
set_option maxHeartbeats 1000000 in
theorem CloneInt_any (v : Value) (n : Nat) (xs : List Value) (w : World) (h : Sl w 1 v n xs) (h1 : ∀ x ∈ xs, x.oneCell' = true) (hm : n ≤ maxLen) (hb : n * 8 ≤ 140737488355328) :
    Calls Try.prog 67 #[v] w fun e w' => ∃ v', e = .returned v' ∧ w'.ownsRow w.heap.size 3 1 v' n xs ∧ Below w.heap.size w w' := by
  obtain ⟨i0, hi0, hz0, hz1, hz2⟩ := info_parts CloneInt_info
  obtain ⟨hl, A, c, rfl, hc, hcl⟩ := h
  rcases A with _ | a
  · have hn : n = 0 := by
      rcases Nat.eq_zero_or_pos n with h0 | h0
      · exact h0
      · obtain ⟨_, _, e, _⟩ := hcl h0
        cases e
    subst hn
    have hx : xs = [] := List.eq_nil_of_length_eq_zero (by simpa using hl)
    have HX := Lib.hid hx
    clear hx
    have hnil := fun W => Lib.run_eql_slice_nil (P := Try.prog) W 24 3 none 0 c 0 0 Try.underlying24
    go_enter Try.func67, Try.ntmps67
    go_wp2
    go_ret
    exact ⟨_, rfl, by rw [HX.out]; exact World.ownsRow_nil _ _ _ _, Below.refl _ _⟩
  · have hsl : Sl w 1 (.slice (some a) n c) n xs := ⟨hl, some a, c, rfl, hc, hcl⟩
    have hnil := fun W => Lib.run_eql_slice_nil (P := Try.prog) W 24 3 (some a) n c 0 0 Try.underlying24
    go_enter Try.func67, Try.ntmps67
    go_wp2_with (at_builtin; go_must (refine wpList_append_sl _ rfl (.tmp 5) (.tmp 6) 24 rfl w.heap.size 3 i0 (.int .i64 0) 1 8 Try.underlying24 hi0 hz0 hz1 hz2 rfl (by decide) _ _ _ (by rfl) (own_lit (base := w.heap.size) w 3 _ 1 0 (Nat.le_refl _) (by simp [maxLen]) rfl) _ n xs (by rfl) (hsl.alloc _) h1 (by omega) (by omega) (by simp) ?_; intro v1 w1 ho1 hg1 ha1))
    go_ret
    exact ⟨v1, rfl, own_eq ho1 (by omega) (by simp), ((Below.refl _ _).alloc (Nat.le_refl _) _).grown hg1 (by simp) (by intro k hk; simp [Value.ownBlock] at hk; omega)⟩

end Go.Proofs.Ytjkoceacjbhblaa
namespace Go.Proofs.Ytjkoceacjbhblaa
open Go.RowKit
attribute [local go_sem ↓] Go.wp_at_zero Go.wp_at_succ

theorem Sl.oneCell {w : World} {size n : Nat} {v : Value} {xs : List Value} (h : Sl w size v n xs) : v.oneCell' = true := by
  obtain ⟨_, A, c, rfl, _⟩ := h
  rfl
/-- the rows with new parts at place k -/
def setParts (rows : List (TxnD × Value)) (k : Nat) (v : Value) : List (TxnD × Value) := rows.modify k fun t => (t.1, v)
theorem setParts_fst : ∀ (rows : List (TxnD × Value)) (k : Nat) (v : Value), (setParts rows k v).map Prod.fst = rows.map Prod.fst
  | [], k, v => by simp [setParts]
  | t :: rows, 0, v => by simp [setParts]
  | t :: rows, k + 1, v => by
    have := setParts_fst rows k v
    simp only [setParts] at *
    simp [this]
theorem setParts_cells : ∀ (rows : List (TxnD × Value)) (k : Nat) (v : Value), k < rows.length → (setParts rows k v).flatMap tcells = (rows.flatMap tcells).set (k * 7 + 4) v
  | [], k, v, h => by simp at h
  | t :: rows, 0, v, h => by simp [setParts, tcells]
  | t :: rows, k + 1, v, h => by
    have ih := setParts_cells rows k v (by simpa using h)
    simp only [setParts] at ih
    have hl : (tcells t).length = 7 := rfl
    simp only [setParts, List.modify_succ_cons, List.flatMap_cons, ih]
    rw [List.set_append_right _ _ (by rw [hl]; omega), hl, show (k + 1) * 7 + 4 - 7 = k * 7 + 4 from by omega]
theorem setParts_take (rows : List (TxnD × Value)) (k : Nat) (v : Value) (h : k < rows.length) : (setParts rows k v).take (k + 1) = rows.take k ++ [(rows[k].1, v)] := by
  have hl : k < (setParts rows k v).length := by simp [setParts]; exact h
  rw [List.take_succ_eq_append_getElem hl]
  congr 1
  · simp only [setParts, List.take_modify]
    exact List.modify_eq_self (by simp; omega)
  · simp [setParts]
theorem setParts_drop (rows : List (TxnD × Value)) (k : Nat) (v : Value) : (setParts rows k v).drop (k + 1) = rows.drop (k + 1) := by
  simp [setParts, List.drop_modify_of_lt]

/-- a row of its own stays while a block of another element type is written -/
theorem own_far {w : World} {base : Nat} {e t : TypeId} {size n : Nat} {v : Value} {xs : List Value} (h : w.ownsRow base e size v n xs) {g : Nat} {cs : Array Value} {fr : Nat × Nat} (hg : w.heap[g]? = some (.cells cs t fr)) (ht : t ≠ e) (j : Nat) (u : Value) : (w.setCell ⟨g, j, none⟩ u).ownsRow base e size v n xs := by
  obtain ⟨h1, h2⟩ := h
  refine ⟨h1, ?_⟩
  rcases h2 with h2 | ⟨g', cap, cur, hv, hb, hh, r⟩
  · exact Or.inl h2
  · refine Or.inr ⟨g', cap, cur, hv, hb, ?_, r⟩
    have hne : g' ≠ g := by
      intro e'
      subst e'
      rw [hg] at hh
      injection hh with hh
      injection hh with _ he
      exact ht he
    rw [Below.heap_setCell _ _ _ _ hne]
    exact hh

/-- v is a row of transactions of the call's own (the call began in w0); the first k have parts of their own, no two in one block; the others have the parts that they had -/
structure Own (w0 w : World) (base : Nat) (v : Value) (ds : List TxnD) (rows : List (TxnD × Value)) (k : Nat) : Prop where
  fst : rows.map Prod.fst = ds
  own : w.ownsRow base 76 7 v ds.length (rows.flatMap tcells)
  bel : Below w0.heap.size w0 w
  old : ∀ t ∈ rows.drop k, Is w0 t.2 t.1.parts
  parts : ∀ t ∈ rows.take k, w.ownsRow base 3 1 t.2 t.1.parts.length (t.1.parts.map (Value.int .i64))
  apart : (rows.take k).Pairwise fun a b => a.2.ownBlock = none ∨ a.2.ownBlock ≠ b.2.ownBlock

theorem Own.step {w0 w w5 : World} {base g c k : Nat} {ds : List TxnD} {rows : List (TxnD × Value)} {v5 : Value} (h : Own w0 w base (.slice (some ⟨g, 0, none⟩) ds.length c) ds rows k) (hk : k < rows.length) (hb0 : w0.heap.size ≤ base) (hb : base ≤ w.heap.size)
    (hbel : Below w.heap.size w w5) (ho : w5.ownsRow w.heap.size 3 1 v5 rows[k].1.parts.length (rows[k].1.parts.map (Value.int .i64))) :
    Own w0 (w5.setCell ⟨g, k * 7 + 4, none⟩ v5) base (.slice (some ⟨g, 0, none⟩) ds.length c) ds (setParts rows k v5) (k + 1) := by
  have hgl := h.own.lt g rfl
  have hown5 := own_keep h.own hbel (fun b hb => (h.own.lt b hb).2)
  have hg5 : ∃ cs fr, w5.heap[g]? = some (.cells cs 76 fr) := by
    rcases hown5.2 with ⟨e, _⟩ | ⟨g', cap, cur, e, _, hh, _⟩
    · cases e
    · injection e with e1
      injection e1 with e1
      injection e1 with e1
      subst e1
      exact ⟨_, _, hh⟩
  obtain ⟨cs, fr, hg5⟩ := hg5
  refine ⟨(setParts_fst rows k v5).trans h.fst, ?_, ?_, ?_, ?_, ?_⟩
  · rw [setParts_cells rows k v5 hk]
    exact (World.ownsRow.stored hown5 _ _).1
  · exact (h.bel.trans (hbel.mono h.bel.size)).setCell (by show w0.heap.size ≤ g; omega) _
  · intro t ht
    rw [setParts_drop] at ht
    refine h.old t ?_
    have : rows.drop (k + 1) = (rows.drop k).drop 1 := by simp [List.drop_drop]
    rw [this] at ht
    exact List.mem_of_mem_drop ht
  · intro t ht
    rw [setParts_take rows k v5 hk] at ht
    rcases List.mem_append.1 ht with ht | ht
    · exact own_far (own_keep (h.parts t ht) hbel (fun b hb => ((h.parts t ht).lt b hb).2)) hg5 (by decide) _ _
    · simp only [List.mem_singleton] at ht
      subst ht
      exact own_far (own_base ho hb) hg5 (by decide) _ _
  · rw [setParts_take rows k v5 hk]
    refine List.pairwise_append.2 ⟨h.apart, by simp, fun a ha b hb' => ?_⟩
    simp only [List.mem_singleton] at hb'
    subst hb'
    rcases hab : a.2.ownBlock with _ | x
    · exact Or.inl rfl
    · refine Or.inr fun e => ?_
      have h1 := (h.parts a ha).lt x hab
      have h2 := ho.lt x e.symm
      omega
theorem Own.more {w0 w : World} {base base' k : Nat} {v : Value} {ds : List TxnD} {rows : List (TxnD × Value)} (h : Own w0 w base v ds rows k) (hb : base' ≤ base) : Own w0 w base' v ds rows k :=
  ⟨h.fst, own_base h.own hb, h.bel, h.old, fun t ht => own_base (h.parts t ht) hb, h.apart⟩

theorem Own.under {w0 w : World} {base k : Nat} {v : Value} {ds : List TxnD} {rows : List (TxnD × Value)} (h : Own w0 w base v ds rows k) {a : Addr} (ha : a.block < base ∧ w0.heap.size ≤ a.block) (u : Value) : Own w0 (w.setCell a u) base v ds rows k :=
  ⟨h.fst, ownsRow_setCell_below h.own ha.1 u, h.bel.setCell ha.2 u, h.old, fun t ht => ownsRow_setCell_below (h.parts t ht) ha.1 u, h.apart⟩

theorem ints_one (l : List Int) : ∀ x ∈ l.map (Value.int .i64), x.oneCell' = true := by
  intro x hx
  obtain ⟨b, _, rfl⟩ := List.mem_map.1 hx
  rfl
/-- the loop of coord.Copy -/
def CopyLp (w : World) (bc zc : Array Value) (tv : Value) (ds : List TxnD) (i : Value) (wr : World) : Prop :=
  ∃ (k : Nat) (rows : List (TxnD × Value)), k ≤ ds.length ∧ i = .int .i64 k ∧ Own w wr (w.heap.size + 2) tv ds rows k ∧ Blk wr w.heap.size 28 bc ∧ Blk wr (w.heap.size + 1) 28 zc ∧ Below w.heap.size w wr
theorem Own.at_ {w0 w : World} {base : Nat} {v : Value} {ds : List TxnD} {rows : List (TxnD × Value)} {k : Nat} (h : Own w0 w base v ds rows k) (hn : 0 < ds.length) : ∃ g c, v = .slice (some ⟨g, 0, none⟩) ds.length c ∧ base ≤ g ∧ g < w.heap.size ∧ ds.length ≤ c ∧ ∀ i (hi : i < rows.length) (j : Nat), j < 7 → w.cell? ⟨g, i * 7 + j, none⟩ = (tcells rows[i])[j]? ∧ w.frozen? ⟨g, i * 7 + j, none⟩ = false := by
  obtain ⟨g, c, hv, hb, hlt⟩ := h.own.form hn
  subst hv
  have hle : ds.length ≤ c := by
    obtain ⟨_, A, c', he, hc, _⟩ := Sl.of_own h.own
    injection he with _ _ e; omega
  refine ⟨g, c, rfl, hb, hlt, hle, fun i hi j hj => ⟨?_, World.ownsRow.frozenAt h.own _⟩⟩
  have hl : rows.length = ds.length := by rw [← h.fst]; simp
  rw [World.ownsRow.cellAt h.own _ (by omega)]
  exact tcells_get rows i hi j hj

/-- what coord.Copy leaves -/
def CopyPost (w : World) (c : CoordD) (e : Ending) (w' : World) : Prop := ∃ tv rows, e = .returned (coordV c tv) ∧ Own w w' w.heap.size tv c.txns rows c.txns.length ∧ Below w.heap.size w w'

theorem CopyPost.cv {w w' : World} {c : CoordD} {e : Ending} (h : CopyPost w c e w') (hc : c.txns.length ≤ 9223372036854775807) (hp : ∀ t ∈ c.txns, t.parts.length ≤ 9223372036854775807) : ∃ tv, e = .returned (coordV c tv) ∧ Cv w' (coordV c tv) c ∧ Below w.heap.size w w' := by
  obtain ⟨tv, rows, rfl, ho, hb⟩ := h
  have hl : rows.length = c.txns.length := by rw [← ho.fst]; simp
  refine ⟨_, rfl, ⟨tv, rfl, ⟨rows, ho.fst, Sl.of_own ho.own, fun t ht => ?_⟩, hc⟩, hb⟩
  have ht' : t ∈ rows.take c.txns.length := by rw [← hl, List.take_length]; exact ht
  refine ⟨?_, hp _ (by rw [← ho.fst]; exact List.mem_map_of_mem ht)⟩
  have := Sl.of_own (ho.parts t ht')
  exact this
end Go.Proofs.Ytjkoceacjbhblaa
namespace Go.Proofs.Ytjkoceacjbhblaa
open Go.RowKit

def rowV (vs : Nat → Value) (n : Nat) : Array Value := ((List.range n).map vs).toArray
theorem rowV_get {vs : Nat → Value} {n i : Nat} (h : i < n) : (rowV vs n)[i]? = some (vs i) := by simp [rowV, h]
theorem rowV_set (vs : Nat → Value) (n i : Nat) (v : Value) : (rowV vs n).setIfInBounds i v = rowV (fun k => if k = i then v else vs k) n := by
  apply Array.ext
  · simp [rowV]
  · intro k h1 h2
    have hk : k < (rowV vs n).size := by simpa using h1
    rw [Array.getElem_setIfInBounds hk]
    by_cases e : i = k
    · subst e; simp [rowV]
    · simp [rowV, e, Ne.symm e]
/-- block bo holds n rows of the call's own -/
structure Lst (w0 w : World) (base bo n : Nat) (vs : Nat → Value) (ls : Nat → List Int) : Prop where
  bel : Below base w0 w
  ge : base ≤ bo
  blk : Blk w bo 24 (rowV vs n)
  own : ∀ i, i < n → w.ownsRow base 3 1 (vs i) (ls i).length ((ls i).map (Value.int .i64))
  apart : ∀ i j, i < n → j < n → i ≠ j → (vs i).ownBlock = none ∨ (vs i).ownBlock ≠ (vs j).ownBlock
section
variable {w0 w w1 : World} {base bo n i : Nat} {vs : Nat → Value} {ls : Nat → List Int}
theorem Lst.lt (h : Lst w0 w base bo n vs ls) : bo < w.heap.size := h.blk.lt
theorem Lst.keep (h : Lst w0 w base bo n vs ls) (hb : Below w.heap.size w w1) : Lst w0 w1 base bo n vs ls :=
  ⟨h.bel.trans (hb.mono (by have := h.lt; have := h.ge; omega)), h.ge, h.blk.below hb h.lt, fun i hi => own_keep (h.own i hi) hb fun b hb2 => ((h.own i hi).lt b hb2).2, h.apart⟩
theorem Lst.cell (h : Lst w0 w base bo n vs ls) (hi : i < n) : w.cell? ⟨bo, i, none⟩ = some (vs i) := (h.blk.cell i).trans (rowV_get hi)
theorem Lst.off (h : Lst w0 w base bo n vs ls) (hi : i < n) : some bo ≠ (vs i).ownBlock := by
  rcases (h.own i hi).2 with ⟨e, _⟩ | ⟨g, c, cur, e, _, hg, _⟩
  · rw [e]; simp [Value.ownBlock]
  · rw [e]
    intro k
    injection k with k
    subst k
    have hb := h.blk
    unfold Blk at hb
    rw [hg] at hb
    injection hb with hb
    injection hb with _ hb _
    revert hb
    decide
theorem Lst.push (h : Lst w0 w base bo n vs ls) (hi : i < n) {o : Obj} {v1 : Value} {x : Int} (hg : (w.alloc o).grownBy w1 (vs i).ownBlock) (ho : w1.ownsRow base 3 1 v1 ((ls i).length + 1) ((ls i).map (Value.int .i64) ++ [.int .i64 x]))
    (ha : v1.ownBlock = (vs i).ownBlock ∨ v1.ownBlock = some (w.alloc o).heap.size) :
    Blk w1 bo 24 (rowV vs n) ∧ Lst w0 (w1.setCell ⟨bo, i, none⟩ v1) base bo n (fun k => if k = i then v1 else vs k) (fun k => if k = i then ls i ++ [x] else ls k) := by
  have hbl := (h.blk.alloc o).grown hg (h.off hi)
  have hsz : base ≤ w.heap.size := by have := h.lt; have := h.ge; omega
  have hlt : ∀ j, j < n → ∀ k, (vs j).ownBlock = some k → base ≤ k ∧ k < w.heap.size := fun j hj => (h.own j hj).lt
  refine ⟨hbl, ((h.bel.alloc hsz o).grown hg (by simp; omega) fun k hk => (hlt i hi k hk).1).setCell h.ge v1, h.ge, ?_, fun j hj => ?_, fun j k hj hk hjk => ?_⟩
  · have := hbl.set_ i v1
    rw [rowV_set] at this
    exact this
  · by_cases e : j = i
    · subst e
      simp only [if_true]
      have := own_far ho hbl (by decide) j v1
      simpa using this
    · simp only [if_neg e]
      exact own_far (((h.own j hj).alloc o).kept hg (h.apart j i hj hi e)) hbl (by decide) i v1
  · have fresh : ∀ j, j < n → v1.ownBlock = some (w.alloc o).heap.size → v1.ownBlock ≠ (vs j).ownBlock := fun j hj e1 e2 => by
      have := (hlt j hj _ (e2.symm.trans e1)).2
      simp at this
      omega
    by_cases e1 : j = i
    · have e2 : ¬ k = i := fun e => hjk (e1.trans e.symm)
      simp only [if_pos e1, if_neg e2]
      rcases ha with ha | ha
      · rw [ha, ← e1]
        exact h.apart j k hj hk hjk
      · exact Or.inr (fresh k hk ha)
    · by_cases e2 : k = i
      · simp only [if_neg e1, if_pos e2]
        rcases ha with ha | ha
        · rw [ha, ← e2]
          exact h.apart j k hj hk hjk
        · exact Or.inr fun e => fresh j hj ha e.symm
      · simp only [if_neg e1, if_neg e2]
        exact h.apart j k hj hk hjk
theorem Lst.made (w0 w : World) (base n : Nat) (hb : Below base w0 w) (hs : base ≤ w.heap.size) : Lst w0 (w.alloc (.cells (rowV (fun _ => .slice none 0 0) n) 24)) base w.heap.size n (fun _ => .slice none 0 0) (fun _ => []) :=
  ⟨hb.alloc hs _, hs, Blk.new _ _ _, fun _ _ => World.ownsRow_nil _ _ _ _, fun _ _ _ _ _ => Or.inl rfl⟩
theorem Lst.cong {ms : Nat → List Int} (h : Lst w0 w base bo n vs ls) (e : ∀ i, i < n → ls i = ms i) : Lst w0 w base bo n vs ms :=
  ⟨h.bel, h.ge, h.blk, fun i hi => by rw [← e i hi]; exact h.own i hi, h.apart⟩
theorem Lst.is (h : Lst w0 w base bo n vs ls) (hi : i < n) : Is w (vs i) (ls i) := by
  have := Sl.of_own (h.own i hi)
  exact this
end
theorem made_nil (n : Nat) : madeCells #[Value.slice none 0 0] n = rowV (fun _ => .slice none 0 0) n := by
  apply Array.ext
  · simp [madeCells, rowV]
  · intro k h1 h2
    simp [madeCells, rowV, Nat.mod_one]
theorem made_zero (n : Nat) : madeCells #[Value.int .i64 0] n = rowOf (fun _ => 0) n := by
  apply Array.ext
  · simp [madeCells, rowOf]
  · intro k h1 h2
    simp [madeCells, rowOf, Nat.mod_one]

def casts (l : List Nat) : List Int := l.map fun q : Nat => (q : Int)
noncomputable def pts (L : Nat → Nat → Prop) (n P i : Nat) : List Int := casts ((List.range P).filter fun q => decide (q % n = ahead L n i))
def prg (f : Nat → Nat) (n k i : Nat) : List Int := casts ((List.range k).filter fun q => decide (f (q % n) = i))
theorem prg_succ (f : Nat → Nat) (n k i : Nat) : prg f n (k + 1) i = if i = f (k % n) then prg f n k (f (k % n)) ++ [(k : Int)] else prg f n k i := by
  unfold prg casts
  rw [List.range_succ, List.filter_append, List.map_append]
  by_cases h : i = f (k % n)
  · subst h
    simp
  · rw [if_neg h]
    simp [Ne.symm h]
theorem ahead_inj {L : Nat → Nat → Prop} (o : Ordr L) {n x y : Nat} (hx : x < n) (hy : y < n) (h : ahead L n x = ahead L n y) : x = y := by
  have key : ∀ x y, x < n → y < n → x < y → ahead L n x ≠ ahead L n y := fun x y hx hy hxy h => by
    by_cases c : L y x
    · have := ahead_lt o hy (Tie.hi c); omega
    · have := ahead_lt o hx (Tie.lo hxy c); omega
  rcases Nat.lt_trichotomy x y with c | c | c
  · exact absurd h (key x y hx hy c)
  · exact c
  · exact absurd h.symm (key y x hy hx c)
theorem prg_pts {L : Nat → Nat → Prop} (o : Ordr L) {n : Nat} {f : Nat → Nat} (h : Srt L f 0 n) (hb : ∀ k, k < n → f k < n) (P i : Nat) (hi : i < n) : prg f n P i = pts L n P i := by
  unfold prg pts
  congr 1
  refine List.filter_congr fun q _ => ?_
  have hq : q % n < n := Nat.mod_lt _ (by omega)
  have e1 := ahead_sorted o h hb (q % n) hq
  have : f (q % n) = i ↔ q % n = ahead L n i := by
    constructor
    · intro e; rw [← e, e1]
    · intro e
      exact ahead_inj o (hb _ hq) hi (e1.trans e)
  simp [this]
/-- round and round -/
theorem pts_step {n a p P : Nat} (hn : 0 < n) (ha : p % n = a) (hp : p < P) :
    ((List.range (min (p + n) P)).filter fun q => decide (q % n = a)) = ((List.range (min p P)).filter fun q => decide (q % n = a)) ++ [p] := by
  have e0 : min p P = p := by omega
  obtain ⟨d, hd, hdn⟩ : ∃ d, min (p + n) P = p + (d + 1) ∧ d + 1 ≤ n := ⟨min (p + n) P - p - 1, by omega, by omega⟩
  rw [e0, hd, List.range_add, List.filter_append]
  congr 1
  rw [List.range_succ_eq_map, List.map_cons, List.filter_cons_of_pos (by simpa using ha)]
  simp only [Nat.add_zero, List.cons.injEq, true_and]
  rw [List.filter_eq_nil_iff]
  intro q hq
  simp only [List.map_map, List.mem_map, List.mem_range, Function.comp] at hq
  obtain ⟨x, hx, rfl⟩ := hq
  simp only [decide_eq_true_eq]
  intro e
  have h1 := Nat.div_add_mod p n
  have h2 := Nat.div_add_mod (p + (x + 1)) n
  rw [ha] at h1
  rw [e] at h2
  have h3 : p / n ≤ (p + (x + 1)) / n := Nat.div_le_div_right (by omega)
  rcases Nat.eq_or_lt_of_le h3 with h4 | h4
  · rw [← h4] at h2; omega
  · have h5 : n * (p / n + 1) ≤ n * ((p + (x + 1)) / n) := Nat.mul_le_mul_left n h4
    rw [Nat.mul_add] at h5
    omega
theorem pts_none {n a P : Nat} (ha : a < n) : ((List.range (min a P)).filter fun q => decide (q % n = a)) = [] := by
  rw [List.filter_eq_nil_iff]
  intro q hq
  rw [List.mem_range] at hq
  have : q % n = q := Nat.mod_eq_of_lt (by omega)
  simp only [decide_eq_true_eq]
  omega
end Go.Proofs.Ytjkoceacjbhblaa
namespace Go.Proofs.Ytjkoceacjbhblaa
open Go.RowKit

def AsgPost (N : List ByteArray) (n P : Nat) (w : World) (e : Ending) (w' : World) : Prop := ∃ bo vs, e = .returned (.slice (some ⟨bo, 0, none⟩) n n) ∧ Lst w w' w.heap.size bo n vs (fun i => pts (Lt (cmpF N)) n P i)
theorem Ord.cong {w0 W : World} {b n : Nat} {f g : Nat → Nat} (h : Ord w0 b n f W) (e : ∀ k, k < n → f k = g k) : Ord w0 b n g W := by
  refine ⟨h.os, h.tape, h.output, h.size, h.far, ?_⟩
  rw [h.row]
  congr 2
  unfold rowOf
  congr 1
  exact List.map_congr_left fun k hk => by rw [e k (List.mem_range.1 hk)]
theorem Ord.fill {w0 W : World} {b n k : Nat} (h : Ord w0 b n (fun j => if j < k then j else 0) W) : Ord w0 b n (fun j => if j < k + 1 then j else 0) (W.setCell ⟨b, k, none⟩ (.int .i64 k)) := by
  refine (h.set_ k k).cong fun j _ => ?_
  repeat' split
  all_goals omega
theorem Ord.below {w0 W : World} {b n B : Nat} {f : Nat → Nat} (h : Ord w0 b n f W) (hB : B ≤ b) : Below B w0 W :=
  ⟨h.os, h.tape, h.output, by rw [h.size]; exact Nat.le_refl _, fun k hk => h.far k (by omega)⟩
theorem slices_info : (Try.prog.info? 24).map (fun i => (i.zero, i.size, i.bytes)) = some (some (.slice none 0 0), 1, 24) := by kernel_rfl

theorem Lst.rebase {w w1 w' : World} {base base' bo n : Nat} {vs : Nat → Value} {ls : Nat → List Int} (h : Lst w1 w' base bo n vs ls) (hb : Below base' w w1) (hs : base' ≤ base) : Lst w w' base' bo n vs ls :=
  ⟨hb.trans (h.bel.mono hs), Nat.le_trans hs h.ge, h.blk, fun i hi => own_base (h.own i hi) hs, h.apart⟩

set_option maxRecDepth 100000 in
set_option maxHeartbeats 8000000 in
theorem assign_any (N : List ByteArray) (n : Nat) (A : Option Addr) (c : Nat) (pt : Int) (w : World) (hv : Ss w (.slice A n c) N) (hl : N.length = n) (hn : n < 8796093022208) (hp : -1000 ≤ pt ∧ pt ≤ 1000) :
    Calls Try.prog 51 #[.slice A n c, .int .i64 pt] w (AsgPost N n pt.toNat w) := by
  have hcell : 0 < n → ∃ b off, A = some ⟨b, off, none⟩ ∧ b < w.heap.size ∧ ∀ i (hi : i < N.length), w.cell? ⟨b, off + i, none⟩ = some (.string N[i]) := by
    obtain ⟨A', c', hA, -, hcell⟩ := hv.at_
    injection hA with e1 _ _
    subst e1
    rw [← hl]
    exact hcell
  obtain ⟨i0, hi0, hz0, hz1, hz2⟩ := info_parts CloneInt_info
  have hmk : ∀ W, (Instr.makeSlice 24 (.int .i64 n) (.int .i64 n)).run Try.prog W = .ok (.slice (some ⟨W.heap.size, 0, none⟩) n n) (W.alloc (.cells (madeCells #[.int .i64 0] n) 3)) := fun W => run_make_row' 24 3 (.int .i64 0) 8 Try.underlying24 (by kernel_rfl) rfl .i64 .i64 n (by omega) (by omega) W
  have hmk2 : ∀ W, (Instr.makeSlice 64 (.int .i64 n) (.int .i64 n)).run Try.prog W = .ok (.slice (some ⟨W.heap.size, 0, none⟩) n n) (W.alloc (.cells (madeCells #[.slice none 0 0] n) 24)) := fun W => run_make_row' 64 24 (.slice none 0 0) 24 Try.underlying64 slices_info rfl .i64 .i64 n (by omega) (by omega) W
  have HCELL := Lib.hid hcell
  have HLN := Lib.hid hl
  clear hv hcell hl
  rw [made_zero] at hmk
  rw [made_nil] at hmk2
  go_enter Try.func51, Try.ntmps51
  go_wp2_with fail
  have hn0 : ((w.alloc (.cells #[.slice A n c] 63)).alloc (.cells (rowOf (fun _ => 0) n) 3)).heap[w.heap.size + 1]? = some (.cells (rowOf (fun _ => 0) n) 3 (0, 0)) := Blk.new_ _ _ _ (by simp)
  have hb0 : Below w.heap.size w ((w.alloc (.cells #[.slice A n c] 63)).alloc (.cells (rowOf (fun _ => 0) n) 3)) := ((Below.refl _ _).alloc (Nat.le_refl _) _).alloc (by simp) _
  have hp0 : Blk ((w.alloc (.cells #[.slice A n c] 63)).alloc (.cells (rowOf (fun _ => 0) n) 3)) w.heap.size 63 #[.slice A n c] := (Blk.new _ _ _).alloc _
  have hz0' : ((w.alloc (.cells #[.slice A n c] 63)).alloc (.cells (rowOf (fun _ => 0) n) 3)).heap.size = w.heap.size + 2 := by simp
  generalize (w.alloc (.cells #[.slice A n c] 63)).alloc (.cells (rowOf (fun _ => 0) n) 3) = W0 at *
  have hnm : NamesAt W0 w.heap.size (w.heap.size + 1) n N A c := by
    refine ⟨HLN.out, hp0.cell 0, by omega, fun h0 => ?_⟩
    obtain ⟨nb, off, e1, e2, e3⟩ := HCELL.out h0
    exact ⟨nb, off, e1, by omega, fun k hk => (hb0.cell (p := ⟨nb, off + k, none⟩) e2).trans (e3 k hk)⟩
  have HNM := Lib.hid hnm
  have HN0 := Lib.hid hn0
  have HB0 := Lib.hid hb0
  have HZ0 := Lib.hid hz0'
  clear hn0 hb0 hp0 hz0' hnm HCELL
  go_loopw [15] (fun i wr => ∃ k : Nat, k ≤ n ∧ i = .int .i64 k ∧ Hid (Ord W0 (w.heap.size + 1) n (fun j => if j < k then j else 0) wr)) (fun i _ => n - (intOf i).toNat)
  case atStart => exact ⟨0, by omega, rfl, Ord.start HN0.out⟩
  case round =>
    obtain ⟨k, hk, rfl, HW⟩ := hrel
    by_cases hlt : k < n
    · have hz : (k : Int) < (n : Int) := by omega
      have ck := HW.out.cell hlt
      have fk := HW.out.frozen k
      have S := HW.out.fill
      have HS := Lib.hid S
      clear S HW
      go_wp2_with fail
      go_light
      exact ⟨⟨k + 1, by omega, by go_num, HS.out⟩, by simp [intOf]; omega⟩
    · obtain rfl : k = n := by omega
      have hz : ¬ (k : Int) < (k : Int) := by omega
      have HOS := Lib.hid (HW.out.cong (g := id) fun j hj => by rw [if_pos hj]; rfl)
      clear HW HN0
      have cp : wr.cell? ⟨w.heap.size, 0, none⟩ = some (.slice A k c) := by
        rw [World.cell?_of_block (HOS.out.far w.heap.size (by omega))]
        exact HNM.out.ptr
      go_wp2_with fail
      go_at_call 95
      refine (sortStable_any k (w.heap.size + 1) k w.heap.size (cmpF N) W0 wr (cmp_names W0 w.heap.size (w.heap.size + 1) k c N A (by omega) HNM.out) (ordr_cmpF N) HOS.out (by omega)).mono ?_
      rintro e1 W1 ⟨rfl, g, G, X, Y⟩
      have HG := Lib.hid G
      have HX := Lib.hid X
      have HY := Lib.hid Y
      have hb1 : Below w.heap.size w W1 := HB0.out.trans (G.below (by omega))
      have HB1 := Lib.hid hb1
      have hz1' : W1.heap.size = w.heap.size + 2 := by rw [G.size, HZ0.out]
      have cp : W1.cell? ⟨w.heap.size, 0, none⟩ = some (.slice A k c) := by
        rw [World.cell?_of_block (G.far w.heap.size (by omega))]
        exact HNM.out.ptr
      clear G X Y hb1 HOS HB0 HZ0
      have HZ1 := Lib.hid hz1'
      clear hz1'
      obtain ⟨P, hP⟩ : ∃ P : Nat, pt.toNat = P := ⟨_, rfl⟩
      have hP2 : P ≤ 1000 := by omega
      have hPn : pt < 0 → P = 0 := by omega
      have hPp : ¬ pt < 0 → pt = (P : Int) := by omega
      rw [hP]
      have HPN := Lib.hid hPn
      have HPP := Lib.hid hPp
      clear hP hp hPn hPp
      have hlt1 : w.heap.size < W1.heap.size := by have := HZ1.out; omega
      have hb2 : Below w.heap.size w (W1.alloc (.cells (rowV (fun _ => .slice none 0 0) k) 24)) := HB1.out.alloc (by omega) _
      have hl2 := Lst.made W1 W1 W1.heap.size k (Below.refl _ _) (Nat.le_refl _)
      have HL2 := Lib.hid hl2
      clear hl2 hb2
      by_cases h0 : 0 < k
      · have z0 : ((k : Int) == 0) = false := by simp; omega
        by_cases hneg : pt < 0
        · go_wp2
          clear z0 hmk hmk2 cp
          go_loopw [35] (fun i wr2 => i = .int .i64 0 ∧ Hid (Lst W1 wr2 W1.heap.size W1.heap.size k (fun _ => .slice none 0 0) (fun i => prg g k 0 i))) (fun _ _ => 0)
          case atStart => exact ⟨rfl, HL2.out⟩
          case round =>
            clear HL2
            obtain ⟨rfl, HL⟩ := hrel
            go_wp2
            go_ret
            refine ⟨W1.heap.size, fun _ => .slice none 0 0, rfl, (HL.out.rebase HB1.out (by omega)).cong fun i hi => ?_⟩
            rw [show pt.toNat = 0 by omega]
            exact prg_pts (ordr_cmpF N) HX.out HY.out 0 i hi
        · have hq := HPP.out hneg
          subst hq
          go_wp2
          clear z0 hmk hmk2 cp
          go_loopw [35] (fun i wr2 => ∃ (j : Nat) (vs : Nat → Value), j ≤ P ∧ i = .int .i64 j ∧ Hid (Lst W1 wr2 W1.heap.size W1.heap.size k vs (fun i => prg g k j i))) (fun i _ => P - (intOf i).toNat)
          case atStart => exact ⟨0, fun _ => .slice none 0 0, by omega, rfl, HL2.out⟩
          case round =>
            clear HL2
            obtain ⟨j, vs, hj, rfl, HL⟩ := hrel
            by_cases hjP : j < P
            · have hz : (j : Int) < (P : Int) := by omega
              have hq : j % k < k := Nat.mod_lt _ h0
              obtain ⟨q, hjq⟩ : ∃ q, q = j % k := ⟨_, rfl⟩
              have hqz : (j : Int).tmod (k : Int) = (q : Int) := by rw [hjq]; rfl
              rw [← hjq] at hq
              have hqn : (q : Int) < (k : Int) := by omega
              obtain ⟨x, hx⟩ : ∃ x, x = g q := ⟨_, rfl⟩
              have hxk : x < k := by rw [hx]; exact HY.out q hq
              have hxz : (x : Int) < (k : Int) := by omega
              have cq : wr.cell? ⟨w.heap.size + 1, q, none⟩ = some (.int .i64 x) := by
                rw [HL.out.bel.cell (p := ⟨w.heap.size + 1, q, none⟩) (by have := HZ1.out; show w.heap.size + 1 < _; omega), hx]
                exact HG.out.cell hq
              have cx := HL.out.cell hxk
              have own := HL.out.own x hxk
              obtain ⟨A5, c5, hv5, -⟩ := (Sl.of_own own).form
              rw [hv5] at cx own
              have hlen : (prg g k j x).length ≤ j := by
                unfold prg casts
                rw [List.length_map]
                exact Nat.le_trans (List.length_filter_le _ _) (by simp)
              have lb := HL.out.lt
              have HO := Lib.hid own
              have HV5 := Lib.hid hv5
              have HJQ := Lib.hid hjq
              have HXG := Lib.hid hx
              clear own hv5 hjq hx
              go_wp2_with (at_builtin; go_must (refine wpList_append_sl _ rfl (.tmp 50) (.tmp 52) 24 rfl W1.heap.size 3 i0 (.int .i64 0) 1 8 Try.underlying24 hi0 hz0 hz1 hz2 rfl (by decide) _ _ _ (by rfl) (HO.out.alloc _) _ 1 _ (by rfl) (Sl.lit _ _ _ 1 1 rfl) (by intro x hx; simp at hx; subst hx; rfl) (by simp only [maxLen]; omega) (by omega) (by simp; omega) ?_; intro v4 w4 ho4 hg4 ha4; obtain ⟨A4, c4, rfl, -⟩ := (Sl.of_own ho4).form; obtain ⟨hbl, hl⟩ := HL.out.push hxk (by rw [HV5.out]; exact hg4) ho4 (by rw [HV5.out]; exact ha4); have cb := (hbl.cell x).trans (rowV_get hxk); have fb := hbl.frozen x; have HL4 := Lib.hid hl; clear ho4 hg4 ha4 hbl hl))
              go_light
              refine ⟨⟨j + 1, _, by omega, by go_num, HL4.out.cong fun i hi => ?_⟩, by simp [intOf]; omega⟩
              rw [prg_succ, ← HJQ.out, ← HXG.out]
            · obtain rfl : j = P := by omega
              have hz : ¬ (j : Int) < (j : Int) := by omega
              go_wp2
              go_ret
              refine ⟨W1.heap.size, vs, rfl, (HL.out.rebase HB1.out (by omega)).cong fun i hi => ?_⟩
              exact prg_pts (ordr_cmpF N) HX.out HY.out j i hi
      · have z0 : ((k : Int) == 0) = true := by simp; omega
        have H0 := Lib.hid h0
        clear h0
        go_wp2
        go_ret
        exact ⟨W1.heap.size, fun _ => .slice none 0 0, rfl, (HL2.out.rebase HB1.out (by omega)).cong fun i hi => absurd hi (by have := H0.out; omega)⟩
end Go.Proofs.Ytjkoceacjbhblaa
namespace Go.Proofs.Ytjkoceacjbhblaa
open Go.RowKit

noncomputable def aheadTo (L : Nat → Nat → Prop) (k x : Nat) : Nat := by
  classical
  exact (List.range k).countP fun j => decide (Tie L j x)
theorem aheadTo_yes {L : Nat → Nat → Prop} {k x : Nat} (h : Tie L k x) : aheadTo L (k + 1) x = aheadTo L k x + 1 := by
  unfold aheadTo
  rw [List.range_succ, List.countP_append, List.countP_cons_of_pos (by simpa using h)]
  rfl
theorem aheadTo_no {L : Nat → Nat → Prop} {k x : Nat} (h : ¬ Tie L k x) : aheadTo L (k + 1) x = aheadTo L k x := by
  unfold aheadTo
  rw [List.range_succ, List.countP_append, List.countP_cons_of_neg (by simpa using h)]
  rfl
noncomputable def lsAt (L : Nat → Nat → Prop) (n P i : Nat) (m : List Int) (k : Nat) : List Int := if k < i then pts L n P k else if k = i then m else []
theorem lsAt_at {L : Nat → Nat → Prop} {n P i : Nat} {m : List Int} : lsAt L n P i m i = m := by simp [lsAt]
theorem lsAt_push {L : Nat → Nat → Prop} {n P i : Nat} {m : List Int} {x : Int} (k : Nat) : (if k = i then lsAt L n P i m i ++ [x] else lsAt L n P i m k) = lsAt L n P i (m ++ [x]) k := by
  rw [lsAt_at]
  unfold lsAt
  repeat' split
  all_goals first | rfl | omega
theorem lsAt_next {L : Nat → Nat → Prop} {n P i : Nat} (k : Nat) : lsAt L n P i (pts L n P i) k = lsAt L n P (i + 1) [] k := by
  unfold lsAt
  repeat' split
  all_goals first | rfl | omega | (rename_i h1 h2 _; subst h2; rfl) | skip
  all_goals (rename_i h; omega)
def upTo' (n a P p : Nat) : List Int := casts ((List.range (min p P)).filter fun q => decide (q % n = a))

set_option maxRecDepth 100000 in
set_option maxHeartbeats 8000000 in
theorem assignedOf_any (N : List ByteArray) (n : Nat) (A : Option Addr) (c : Nat) (pt : Int) (w : World) (hv : Ss w (.slice A n c) N) (hl : N.length = n) (hn : n < 8796093022208) (hp : -1000 ≤ pt ∧ pt ≤ 1000) :
    Calls Try.prog 52 #[.slice A n c, .int .i64 pt] w (AsgPost N n pt.toNat w) := by
  have hcell : 0 < n → ∃ b off, A = some ⟨b, off, none⟩ ∧ b < w.heap.size ∧ ∀ i (hi : i < N.length), w.cell? ⟨b, off + i, none⟩ = some (.string N[i]) := by
    obtain ⟨A', c', hA, -, hcell⟩ := hv.at_
    injection hA with e1 _ _
    subst e1
    rw [← hl]
    exact hcell
  obtain ⟨i0, hi0, hz0, hz1, hz2⟩ := info_parts CloneInt_info
  have hmk2 : ∀ W, (Instr.makeSlice 64 (.int .i64 n) (.int .i64 n)).run Try.prog W = .ok (.slice (some ⟨W.heap.size, 0, none⟩) n n) (W.alloc (.cells (madeCells #[.slice none 0 0] n) 24)) := fun W => run_make_row' 64 24 (.slice none 0 0) 24 Try.underlying64 slices_info rfl .i64 .i64 n (by omega) (by omega) W
  rw [made_nil] at hmk2
  have HCELL := Lib.hid hcell
  have HLN := Lib.hid hl
  obtain ⟨P, hP⟩ : ∃ P : Nat, pt.toNat = P := ⟨_, rfl⟩
  have hP2 : P ≤ 1000 := by omega
  have hlt : ∀ p : Nat, (p : Int) < pt ↔ p < P := fun p => by omega
  have HPT := Lib.hid hlt
  have hl2 : Lst w (w.alloc (.cells (rowV (fun _ => .slice none 0 0) n) 24)) w.heap.size w.heap.size n (fun _ => .slice none 0 0) (lsAt (Lt (cmpF N)) n P 0 []) := (Lst.made w w w.heap.size n (Below.refl _ _) (Nat.le_refl _)).cong fun i _ => by
    unfold lsAt
    rw [if_neg (by omega)]
    split <;> rfl
  have HL2 := Lib.hid hl2
  clear hv hcell hl hlt hl2 hp
  rw [hP]
  clear hP
  go_enter Try.func52, Try.ntmps52
  go_wp2
  clear hmk2
  go_loopw [6] (fun x wr => ∃ (i : Nat) (vs : Nat → Value), i ≤ n ∧ x = .int .i64 i ∧ Hid (Lst w wr w.heap.size w.heap.size n vs (lsAt (Lt (cmpF N)) n P i []))) (fun x _ => n - (intOf x).toNat)
  case atStart => exact ⟨0, _, by omega, rfl, HL2.out⟩
  case round =>
    clear HL2
    obtain ⟨i, vs, hi, rfl, HL⟩ := hrel
    by_cases hlt : i < n
    · have hz : (i : Int) < (n : Int) := by omega
      obtain ⟨nb, off, rfl, hnb, hcell⟩ := HCELL.out (by omega)
      have HN := Lib.hid hcell
      clear hcell
      go_wp2
      go_loopw [7, 8] (fun x y wr2 => ∃ a k : Nat, k ≤ n ∧ a ≤ k ∧ x = .int .i64 a ∧ y = .int .i64 k ∧ Hid (aheadTo (Lt (cmpF N)) k i = a) ∧ Hid (Lst w wr2 w.heap.size w.heap.size n vs (lsAt (Lt (cmpF N)) n P i []))) (fun _ y _ => n - (intOf y).toNat)
      case atStart => exact ⟨0, 0, by omega, by omega, rfl, rfl, rfl, HL.out⟩
      case round =>
        clear HL
        obtain ⟨a, k, hk, hak, rfl, rfl, HA, HL⟩ := hrel
        by_cases hlk : k < n
        · have hzk : (k : Int) < (n : Int) := by omega
          have ck : wr.cell? ⟨nb, off + k, none⟩ = some (.string (nth N k)) := by
            rw [nth_get (by rw [HLN.out]; exact hlk), HL.out.bel.cell (p := ⟨nb, off + k, none⟩) hnb]
            exact HN.out k _
          have ci : wr.cell? ⟨nb, off + i, none⟩ = some (.string (nth N i)) := by
            rw [nth_get (by rw [HLN.out]; exact hlt), HL.out.bel.cell (p := ⟨nb, off + i, none⟩) hnb]
            exact HN.out i _
          obtain ⟨s, hs⟩ : ∃ s, s = nth N k := ⟨_, rfl⟩
          obtain ⟨t, ht⟩ : ∃ t, t = nth N i := ⟨_, rfl⟩
          have tie := tie_cmpF N k i
          unfold lessN at tie
          rw [← hs] at ck
          rw [← ht] at ci
          rw [← hs, ← ht] at tie
          have HT := Lib.hid tie
          have hkeep : ∀ m, Lst w (wr.drewN m) w.heap.size w.heap.size n vs (lsAt (Lt (cmpF N)) n P i []) := fun m => HL.out.keep (below_drewN_ _ _)
          have HK := Lib.hid hkeep
          clear tie hs ht hkeep HL
          cases h1 : Op.bytesLess s.toList t.toList with
          | true =>
            have Y := aheadTo_yes (HT.out.2 (Or.inl h1))
            rw [HA.out] at Y
            have HY := Lib.hid Y
            clear Y HA HT
            go_wp2_with fail
            go_quiet (fail)
            go_wp2
            go_light
            exact ⟨⟨a + 1, k + 1, by omega, by omega, by go_num, by go_num, HY.out, HK.out _⟩, by simp [intOf]; omega⟩
          | false =>
            cases h2 : s.toList == t.toList with
            | true =>
              by_cases h3 : k < i
              · have h4 : decide ((k : Int) < (i : Int)) = true := decide_eq_true (by omega)
                have Y := aheadTo_yes (HT.out.2 (Or.inr ⟨h2, h3⟩))
                rw [HA.out] at Y
                have HY := Lib.hid Y
                clear Y HA HT
                go_wp2_with fail
                go_quiet (fail)
                go_wp2
                go_light
                exact ⟨⟨a + 1, k + 1, by omega, by omega, by go_num, by go_num, HY.out, HK.out _⟩, by simp [intOf]; omega⟩
              · have h4 : decide ((k : Int) < (i : Int)) = false := decide_eq_false (by omega)
                have Y := aheadTo_no (L := Lt (cmpF N)) (k := k) (x := i) (fun e => by
                  rcases HT.out.1 e with e | ⟨_, e⟩
                  · rw [h1] at e; cases e
                  · exact h3 e)
                rw [HA.out] at Y
                have HY := Lib.hid Y
                clear Y HA HT
                go_wp2_with fail
                go_quiet (fail)
                go_wp2
                go_light
                exact ⟨⟨a, k + 1, by omega, by omega, by first | rfl | go_num, by go_num, HY.out, HK.out _⟩, by simp [intOf]; omega⟩
            | false =>
              have Y := aheadTo_no (L := Lt (cmpF N)) (k := k) (x := i) (fun e => by
                rcases HT.out.1 e with e | ⟨e, _⟩
                · rw [h1] at e; cases e
                · rw [h2] at e; cases e)
              rw [HA.out] at Y
              have HY := Lib.hid Y
              clear Y HA HT
              go_wp2_with fail
              go_quiet (fail)
              go_wp2
              go_light
              exact ⟨⟨a, k + 1, by omega, by omega, by first | rfl | go_num, by go_num, HY.out, HK.out _⟩, by simp [intOf]; omega⟩
        · obtain rfl : k = n := by omega
          have hzk : ¬ (k : Int) < (k : Int) := by omega
          have ha : ahead (Lt (cmpF N)) k i = a := HA.out
          have han : a < k := by rw [← ha]; exact ahead_le (ordr_cmpF N) hlt
          have HAH := Lib.hid ha
          clear ha HA hak
          go_wp2
          go_loopw [9] (fun x wr3 => ∃ (p : Nat) (vs : Nat → Value), p ≤ P + k ∧ x = .int .i64 p ∧ Hid (p % k = a) ∧ Hid (Lst w wr3 w.heap.size w.heap.size k vs (lsAt (Lt (cmpF N)) k P i (upTo' k a P p)))) (fun x _ => P - (intOf x).toNat)
          case atStart =>
            refine ⟨a, vs, by omega, rfl, Nat.mod_eq_of_lt han, HL.out.cong fun j _ => ?_⟩
            unfold upTo'
            rw [pts_none han]
            rfl
          case round =>
            clear HL
            obtain ⟨p, vs, hpk, rfl, HM, HL⟩ := hrel
            by_cases hpP : p < P
            · have hzp : (p : Int) < pt := (HPT.out p).2 hpP
              have cx := HL.out.cell hlt
              have own := HL.out.own i hlt
              rw [lsAt_at] at own
              obtain ⟨A5, c5, hv5, -⟩ := (Sl.of_own own).form
              rw [hv5] at cx own
              have hlen : (upTo' k a P p).length ≤ P := by
                unfold upTo' casts
                rw [List.length_map]
                exact Nat.le_trans (List.length_filter_le _ _) (by simp; omega)
              have lb := HL.out.lt
              have HO := Lib.hid own
              have HV5 := Lib.hid hv5
              clear own hv5
              go_wp2_with (at_builtin; go_must (refine wpList_append_sl _ rfl (.tmp 65) (.tmp 67) 24 rfl w.heap.size 3 i0 (.int .i64 0) 1 8 Try.underlying24 hi0 hz0 hz1 hz2 rfl (by decide) _ _ _ (by rfl) (HO.out.alloc _) _ 1 _ (by rfl) (Sl.lit _ _ _ 1 1 rfl) (by intro x hx; simp at hx; subst hx; rfl) (by simp only [maxLen]; omega) (by omega) (by simp; omega) ?_; intro v4 w4 ho4 hg4 ha4; obtain ⟨A4, c4, rfl, -⟩ := (Sl.of_own ho4).form; obtain ⟨hbl, hl⟩ := HL.out.push hlt (by rw [HV5.out]; exact hg4) (by rw [lsAt_at]; exact ho4) (by rw [HV5.out]; exact ha4); have cb := (hbl.cell i).trans (rowV_get hlt); have fb := hbl.frozen i; have HL4 := Lib.hid hl; clear ho4 hg4 ha4 hbl hl))
              go_light
              refine ⟨⟨p + k, _, by omega, by go_num, (by show _ = _; rw [Nat.add_mod_right]; exact HM.out), HL4.out.cong fun j _ => ?_⟩, by simp [intOf]; omega⟩
              rw [lsAt_push]
              unfold upTo' casts
              rw [pts_step (by omega) HM.out hpP, List.map_append]
              rfl
            · have hzp : ¬ (p : Int) < pt := fun e => hpP ((HPT.out p).1 e)
              go_wp2
              go_light
              refine ⟨⟨i + 1, vs, by omega, by go_num, HL.out.cong fun j _ => ?_⟩, by simp [intOf]; omega⟩
              rw [← lsAt_next]
              unfold upTo' pts
              rw [HAH.out, show min p P = P by omega]
    · obtain rfl : i = n := by omega
      go_wp2
      go_ret
      refine ⟨w.heap.size, vs, rfl, HL.out.cong fun j hj => ?_⟩
      unfold lsAt
      rw [if_pos hj]
end Go.Proofs.Ytjkoceacjbhblaa
namespace Go.Proofs.Ytjkoceacjbhblaa
open Go.RowKit

set_option maxRecDepth 100000 in
set_option maxHeartbeats 1000000 in
theorem IdxByte_any (v : Value) (n : Nat) (xs : List Value) (P : Nat → Prop) (g : Nat) (lb : Array Value) (w : World) (h : Sl w 1 v n xs) (hm : n ≤ 9223372036854775807) (eg : ∀ args w, (callFunc g args).run Try.prog w = .ok (.enter g args) w)
    (hf : ∀ j u0, j < n → xs[j]? = some u0 → ∀ W, Below w.heap.size w W → Calls Try.prog g (#[u0] ++ lb) W (Tells (P j) W)) :
    Calls Try.prog 124 #[v, .func (.func g) #[] lb] w (Finds P n w) := by
  obtain ⟨hl, A, c, rfl, hc, hcl⟩ := h
  have HF := Lib.hid hf
  have HCL := Lib.hid hcl
  have HL := Lib.hid hl
  clear hf hcl hl
  go_enter Try.func124, Try.ntmps124
  go_wp2
  go_loopw [5, 8] (fun _ i wr => ∃ k : Nat, k ≤ n ∧ i = .int .i64 k ∧ Hid (Below w.heap.size w wr) ∧ Hid (∀ j, j < k → ¬ P j)) (fun _ i _ => n - (intOf i).toNat)
  case atStart => exact ⟨0, by omega, rfl, Below.refl _ _, fun j hj => by omega⟩
  case round =>
    obtain ⟨k, hk, rfl, BW, HN⟩ := hrel
    by_cases hlt : k < n
    · obtain ⟨b, off, rfl, hb, hcell⟩ := HCL.out (by omega)
      have hl := HL.out
      have hlt' : (k : Int) < (n : Int) := by omega
      obtain ⟨u0, g0⟩ : ∃ u, xs[k]? = some u := ⟨_, List.getElem?_eq_getElem (by omega)⟩
      have l0 := (BW.out.cell (p := ⟨b, off + (k), none⟩) hb).trans (hcell _ _ g0)
      have hcall := HF.out k _ hlt g0 wr BW.out
      clear hcell hl g0
      go_wp2_with (go_at_fn g; refine hcall.mono ?_; rintro e w1 ⟨q, rfl, hq, hb1⟩)
      all_goals first
        | (go_ret
           exact ⟨k, rfl, below_then BW.out hb1, Or.inl ⟨k, hlt, rfl, hq.1 (by assumption), HN.out⟩⟩)
        | skip
      go_roundw
      case rel => exact ⟨k + 1, by omega, by go_num, below_then BW.out hb1, fun j hj => by
        rcases Nat.lt_succ_iff_lt_or_eq.1 hj with h' | rfl
        · exact HN.out j h'
        · exact fun hp => by simp_all⟩
      case measure => simp [intOf]; omega
    · obtain rfl : k = n := by omega
      go_wp2
      go_ret
      exact ⟨-1, rfl, BW.out, Or.inr ⟨rfl, HN.out⟩⟩

set_option maxRecDepth 100000 in
set_option maxHeartbeats 1000000 in
theorem HasByte_any (v : Value) (n : Nat) (xs : List Value) (P : Nat → Prop) (g : Nat) (lb : Array Value) (w : World) (h : Sl w 1 v n xs) (hm : n ≤ 9223372036854775807) (eg : ∀ args w, (callFunc g args).run Try.prog w = .ok (.enter g args) w)
    (hf : ∀ j u0, j < n → xs[j]? = some u0 → ∀ W, Below w.heap.size w W → Calls Try.prog g (#[u0] ++ lb) W (Tells (P j) W)) :
    Calls Try.prog 109 #[v, .func (.func g) #[] lb] w (Tells (∃ j, j < n ∧ P j) w) := by
  obtain ⟨A, c, rfl, -⟩ := id h.form
  have hI := IdxByte_any _ n xs P g lb w h hm eg hf
  have H := Lib.hid hI
  clear hI hf h
  go_enter Try.func109, Try.ntmps109
  go_wp2_with (go_at_call 124; refine H.out.mono ?_; rintro e w1 ⟨r, rfl, hb1, hr⟩)
  go_ret
  refine ⟨_, rfl, ?_, hb1⟩
  rcases hr with ⟨k, h1, rfl, h2, _⟩ | ⟨rfl, h2⟩
  · simp
    exact ⟨k, h1, h2⟩
  · simp
    intro j hj
    exact h2 j hj
end Go.Proofs.Ytjkoceacjbhblaa
namespace Go.Proofs.Ytjkoceacjbhblaa
open Go.RowKit

def inB (n lo hi : Int) : Bool := decide (lo ≤ n) && decide (n ≤ hi)
set_option maxHeartbeats 400000 in
theorem In_any (n lo hi : Int) (w : World) :
    Calls Try.prog 64 #[.int .i64 n, .int .i64 lo, .int .i64 hi] w fun e w' => e = .returned (.bool (inB n lo hi)) ∧ w = w' := by
  go_enter Try.func64, Try.ntmps64
  go_wp2
  all_goals go_ret
  all_goals refine ⟨ret_bool ?_, rfl⟩
  all_goals grind [inB]

end Go.Proofs.Ytjkoceacjbhblaa
namespace Go.Proofs.Ytjkoceacjbhblaa
open Go.RowKit

def Letter (b : UInt8) : Prop := 97 ≤ b.toNat ∧ b.toNat ≤ 122
def NameOk (s : ByteArray) : Prop := 1 ≤ s.size ∧ s.size ≤ 8 ∧ ∀ i (h : i < s.size), Letter s[i]
/-- []byte(s) in memory -/
theorem sl_bytes (w : World) (s : ByteArray) (e : TypeId) (cap : Nat) (hc : s.size ≤ cap) (fr : Nat × Nat) : Sl (w.alloc (.cells (bytesRow s cap) e fr)) 1 (.slice (some ⟨w.heap.size, 0, none⟩) s.size cap) s.size (bvs s.data.toList) := by
  refine ⟨by rw [bvs_length, Nat.mul_one]; exact Array.length_toList, some ⟨w.heap.size, 0, none⟩, cap, rfl, hc, fun _ => ⟨w.heap.size, 0, rfl, by simp, fun j u hu => ?_⟩⟩
  have : (w.alloc (.cells (bytesRow s cap) e fr)).heap[w.heap.size]? = some (.cells (bytesRow s cap) e fr) := heap_alloc_new w _
  simp only [World.cell?, this]
  have hj : j < s.data.size := by
    have := (List.getElem?_eq_some_iff.1 hu).1
    rw [bvs_length, Array.length_toList] at this
    exact this
  rw [bvs_get (by rw [Array.length_toList]; exact hj)] at hu
  simp only [Option.isSome_none, Bool.false_eq_true, if_false, Nat.zero_add]
  rw [← hu]
  unfold bytesRow
  rw [Array.getElem?_append_left (by rw [Array.size_map]; exact hj), Array.getElem?_map, Array.getElem?_eq_getElem hj]
  rfl
theorem below_frozen {B : Nat} {w : World} (o : Obj) (hB : B ≤ w.heap.size) : Below B w (w.drew.alloc o) := ((Below.refl B w).drew).alloc hB o

set_option maxRecDepth 100000 in
set_option maxHeartbeats 1000000 in
theorem group_letter (b : UInt8) (w : World) :
    Calls Try.prog 110 #[.int .u8 b.toNat] w (Tells (¬ Letter b) w) := by
  have h1 : (b.toNat : Int) < 256 := by have := b.toNat_lt; omega
  go_enter Try.func110, Try.ntmps110
  go_wp2
  all_goals go_ret
  all_goals refine ⟨_, rfl, ?_, Below.refl _ _⟩
  all_goals unfold Letter
  all_goals simp
  all_goals omega

set_option maxRecDepth 100000 in
set_option maxHeartbeats 1000000 in
theorem group_name_any (s : ByteArray) (w : World) :
    Calls Try.prog 70 #[.string s] w (Tells (NameOk s) w) := by
  by_cases h0 : s.size = 0
  · have e0 : s.toList = [] := (bytes_nil s).2 h0
    have e1 : s = ByteArray.mk #[] := by
      obtain ⟨⟨l⟩⟩ := s
      simp [ByteArray.size] at h0
      subst h0
      rfl
    subst e1
    go_enter Try.func70, Try.ntmps70
    go_wp2
    go_ret
    exact Tells.mk_no (fun h => by have := h.1; omega) (Below.refl _ _)
  · have e0 : s.toList.isEmpty = false := by
      have : s.toList ≠ [] := fun e => h0 ((bytes_nil s).1 e)
      simpa using this
    by_cases h8 : s.size ≤ 8
    · have hcv := fun W => run_bytes_of_string (P := Try.prog) W 9 121 5 s Try.underlying9 Try.underlying121 Try.underlying5
      have hcap : s.size ≤ grownCap w s.size 0 5 := grownCap_ge _ _ _ _
      have hsl := sl_bytes w.drew s 5 (grownCap w s.size 0 5) hcap ((bytesRow s (grownCap w s.size 0 5)).size, (bytesRow s (grownCap w s.size 0 5)).size + 1)
      have hbl := below_frozen (B := w.heap.size) (w := w) (.cells (bytesRow s (grownCap w s.size 0 5)) 5 ((bytesRow s (grownCap w s.size 0 5)).size, (bytesRow s (grownCap w s.size 0 5)).size + 1)) (Nat.le_refl _)
      have H0 := Lib.hid h0
      have HS := Lib.hid hsl
      have HB := Lib.hid hbl
      clear hsl hbl h0 hcap
      go_enter Try.func70, Try.ntmps70
      go_wp2_with fail
      refine (HasByte_any _ s.size (bvs s.data.toList) (fun i => ∃ h : i < s.size, ¬ Letter s[i]) 110 #[] _ HS.out (by omega) (enters_of Try.func110 (by kernel_rfl) rfl) ?_).mono ?_
      · intro j u hj hu W _
        have hj' : j < s.data.toList.length := by rw [Array.length_toList]; exact hj
        rw [bvs_get hj'] at hu
        injection hu with hu
        subst hu
        refine (group_letter s[j] W).mono fun e w' h => h.cong ⟨fun q => ⟨hj, q⟩, fun ⟨_, q⟩ => q⟩
      · rintro e w1 ⟨q, rfl, hq, hb1⟩
        go_wp2
        go_ret
        refine ⟨_, rfl, ?_, below_then HB.out hb1⟩
        have h0 := H0.out
        constructor
        · intro h
          refine ⟨by omega, h8, fun i hi => ?_⟩
          rcases q with _ | _
          · exact Classical.not_not.1 fun hn => by simpa using hq.2 ⟨i, hi, hi, hn⟩
          · simp at h
        · intro h
          rcases q with _ | _
          · rfl
          · obtain ⟨j, _, hj, hn⟩ := hq.1 rfl
            exact absurd (h.2.2 j hj) hn
    · go_enter Try.func70, Try.ntmps70
      go_wp2
      go_ret
      exact Tells.mk_no (fun h => h8 h.2.1) (Below.refl _ _)

set_option maxRecDepth 100000 in
set_option maxHeartbeats 1000000 in
theorem nameMay_any (s : ByteArray) (w : World) (hs : s.size ≤ 9223372036854775807) :
    Calls Try.prog 73 #[.string s] w (Tells (NameOk s) w) := by
  go_enter Try.func73, Try.ntmps73
  go_wp2
  go_loop [3] (fun i => ∃ k : Nat, k ≤ s.size ∧ i = .int .i64 k ∧ Hid (∀ j (h : j < s.size), j < k → Letter s[j])) (fun i => s.size - (intOf i).toNat)
  case atStart => exact ⟨0, by omega, rfl, fun j _ hj => by omega⟩
  case round =>
    obtain ⟨k, hk, rfl, HK⟩ := hrel
    by_cases hlt : k < s.size
    · go_wp2
      all_goals first
        | (go_ret
           refine Tells.mk_no (fun h => ?_) (Below.refl _ _)
           have hl := h.2.2 k hlt
           unfold Letter at hl
           omega)
        | skip
      go_round
      case rel => exact ⟨k + 1, by omega, by go_num, fun j h hj => by
        rcases Nat.lt_succ_iff_lt_or_eq.1 hj with h' | rfl
        · exact HK.out j h h'
        · unfold Letter; omega⟩
      case measure => simp [intOf]; omega
    · obtain rfl : k = s.size := by omega
      go_wp2_with (go_at_call 64; refine (In_any _ _ _ _).mono ?_; rintro e w' ⟨rfl, rfl⟩)
      go_ret
      refine ⟨_, rfl, ?_, Below.refl _ _⟩
      constructor
      · intro h
        simp [inB] at h
        exact ⟨by omega, by omega, fun i hi => HK.out i hi hi⟩
      · intro h
        have h1 := h.1
        have h2 := h.2.1
        simp [inB]
        omega
end Go.Proofs.Ytjkoceacjbhblaa
namespace Go.Proofs.Ytjkoceacjbhblaa
open Go.RowKit

def Rises (l : List Int) : Prop := ∀ k (h : k < l.length), 0 ≤ l[k] ∧ l[k] ≤ 3 ∧ ∀ j (hj : j + 1 = k), l[j] < l[k]
structure TxnOk (clock next : Int) (t : TxnD) : Prop where
  name : NameOk t.name
  pid : 1 ≤ t.pid ∧ t.pid < next
  ver : 0 ≤ t.ver ∧ t.ver ≤ 1073741824
  state : 1 ≤ t.state ∧ t.state ≤ 4
  since : 0 ≤ t.since ∧ t.since ≤ clock
  done : t.done = 0 ∨ t.done = 3 ∨ t.done = 4
  rises : Rises t.parts
  empty : t.state = 1 ↔ t.parts.length = 0
def Clash (s t : TxnD) : Prop := s.name = t.name ∨ s.pid = t.pid
def TxnsOk (clock next : Int) (ts : List TxnD) (n : Nat) : Prop := ∀ i (h : i < ts.length), i < n → TxnOk clock next ts[i] ∧ ∀ k (hk : k < i), ¬ Clash ts[k] ts[i]
structure CoordOk (c : CoordD) : Prop where
  clock : 0 ≤ c.clock ∧ c.clock ≤ 1073741824
  next : 1 ≤ c.next ∧ c.next ≤ 1073741824
  wait : 1 ≤ c.wait ∧ c.wait ≤ 1000
  many : c.txns.length ≤ 8
  all : TxnsOk c.clock c.next c.txns c.txns.length

/-- a list of parts in the document's way: the next one lies from last + 1 to 3 -/
theorem rises_len {l : List Int} (h : Rises l) : ∀ k (hk : k < l.length), (k : Int) ≤ l[k]
  | 0, hk => by have := (h 0 hk).1; simpa using this
  | k + 1, hk => by
    have h1 := rises_len h k (by omega)
    have h2 := (h (k + 1) hk).2.2 k rfl
    omega
theorem Rises.small {l : List Int} (h : Rises l) : l.length ≤ 4 := by
  rcases Nat.lt_or_ge 4 l.length with h4 | h4
  · have h1 := rises_len h 4 h4
    have h2 := (h 4 h4).2.1
    omega
  · exact h4

end Go.Proofs.Ytjkoceacjbhblaa
namespace Go.Proofs.Ytjkoceacjbhblaa
open Go.RowKit

def ClashAt (ts : List TxnD) (t : TxnD) (j : Nat) : Prop := ∃ h : j < ts.length, Clash ts[j] t
theorem TxnsOk.step {clock next : Int} {ts : List TxnD} {k : Nat} (h : TxnsOk clock next ts k) (hk : k < ts.length) (ht : TxnOk clock next ts[k]) (hc : ¬ ∃ j, j < k ∧ ClashAt ts ts[k] j) : TxnsOk clock next ts (k + 1) := by
  intro i hi hik
  rcases Nat.lt_succ_iff_lt_or_eq.1 hik with h' | rfl
  · exact h i hi h'
  · exact ⟨ht, fun j hj hcl => hc ⟨j, hj, by omega, hcl⟩⟩
def zeroC : CoordD := ⟨0, 0, 0, []⟩
def idxOf (ts : List TxnD) (s : ByteArray) : Option Nat := ts.findIdx? fun t => decide (t.name = s)
def CoordD.upd (c : CoordD) (i : Nat) (f : TxnD → TxnD) : CoordD := ⟨c.clock, c.next, c.wait, c.txns.modify i f⟩
/-- the index that the calls give: -1: there is none -/
def ixOf (ts : List TxnD) (s : ByteArray) : Int := match idxOf ts s with | none => -1 | some k => k
/-- one cell of a row written, but for its parts -/
def setRow (rows : List (TxnD × Value)) (i : Nat) (f : TxnD → TxnD) : List (TxnD × Value) := rows.modify i fun t => (f t.1, t.2)
theorem setRow_fst (rows : List (TxnD × Value)) (i : Nat) (f : TxnD → TxnD) : (setRow rows i f).map Prod.fst = (rows.map Prod.fst).modify i f := by
  induction rows generalizing i with
  | nil => cases i <;> simp [setRow]
  | cons t rows ih =>
    rcases i with _ | i
    · simp [setRow]
    · have := ih i
      simp only [setRow] at *
      simp [this]
theorem setRow_snd (rows : List (TxnD × Value)) (i : Nat) (f : TxnD → TxnD) : (setRow rows i f).map Prod.snd = rows.map Prod.snd := by
  induction rows generalizing i with
  | nil => cases i <;> simp [setRow]
  | cons t rows ih =>
    rcases i with _ | i
    · simp [setRow]
    · have := ih i
      simp only [setRow] at *
      simp [this]
theorem setRow_cells : ∀ (rows : List (TxnD × Value)) (i : Nat) (f : TxnD → TxnD) (j : Nat) (u : Value) (hi : i < rows.length) (_ : j < 7) (_ : tcells (f rows[i].1, rows[i].2) = (tcells rows[i]).set j u), (setRow rows i f).flatMap tcells = (rows.flatMap tcells).set (i * 7 + j) u
  | [], i, f, j, u, hi, _, _ => by simp at hi
  | t :: rows, 0, f, j, u, _, hj, h => by
    have hl : (tcells t).length = 7 := rfl
    simp only [List.getElem_cons_zero] at h
    simp only [setRow, List.modify_zero_cons, List.flatMap_cons, Nat.zero_mul, Nat.zero_add]
    rw [List.set_append_left _ _ (by omega), h]
  | t :: rows, i + 1, f, j, u, hi, hj, h => by
    have hl : (tcells t).length = 7 := rfl
    have ih := setRow_cells rows i f j u (by simpa using hi) hj (by simpa using h)
    simp only [setRow] at ih
    simp only [setRow, List.modify_succ_cons, List.flatMap_cons, ih]
    rw [List.set_append_right _ _ (by rw [hl]; omega), hl, show (i + 1) * 7 + j - 7 = i * 7 + j from by omega]

theorem Own.put {w0 w : World} {base n : Nat} {g c : Nat} {ds : List TxnD} {rows : List (TxnD × Value)} (h : Own w0 w base (.slice (some ⟨g, 0, none⟩) n c) ds rows n) (hn : n = ds.length) (hg : w0.heap.size ≤ g) (i j : Nat) (u : Value) (f : TxnD → TxnD)
    (hi : i < rows.length) (hj : j < 7) (hc : tcells (f rows[i].1, rows[i].2) = (tcells rows[i]).set j u) (hp : (f rows[i].1).parts = rows[i].1.parts) :
    Own w0 (w.setCell ⟨g, i * 7 + j, none⟩ u) base (.slice (some ⟨g, 0, none⟩) n c) (ds.modify i f) (setRow rows i f) n := by
  subst hn
  have hl : rows.length = ds.length := by rw [← h.fst]; simp
  have hg5 : ∃ cs fr, w.heap[g]? = some (.cells cs 76 fr) := by
    rcases h.own.2 with ⟨e, _⟩ | ⟨g', cap, cur, e, _, hh, _⟩
    · cases e
    · injection e with e1
      injection e1 with e1
      injection e1 with e1
      subst e1
      exact ⟨_, _, hh⟩
  obtain ⟨cs, fr, hg5⟩ := hg5
  have hlen : (ds.modify i f).length = ds.length := by simp
  have key : ∀ t ∈ setRow rows i f, ∃ t' ∈ rows, t.2 = t'.2 ∧ t.1.parts = t'.1.parts := by
    intro t ht
    obtain ⟨m, hm, rfl⟩ := List.mem_iff_getElem.1 ht
    have hm' : m < rows.length := by simpa [setRow] using hm
    refine ⟨rows[m], List.getElem_mem _, ?_⟩
    simp only [setRow, List.getElem_modify]
    split
    · rename_i e
      subst e
      exact ⟨rfl, hp⟩
    · exact ⟨rfl, rfl⟩
  have e1 : rows.take ds.length = rows := by rw [← hl, List.take_length]
  have e2 : (setRow rows i f).take ds.length = setRow rows i f := by rw [← hl, ← show (setRow rows i f).length = rows.length from by simp [setRow], List.take_length]
  refine ⟨(setRow_fst rows i f).trans (by rw [h.fst]), ?_, h.bel.setCell hg _, ?_, ?_, ?_⟩
  · rw [setRow_cells rows i f j u hi hj hc, hlen]
    exact (World.ownsRow.stored h.own _ _).1
  · intro t ht
    rw [← hl, ← show (setRow rows i f).length = rows.length from by simp [setRow], List.drop_length] at ht
    simp at ht
  · intro t ht
    rw [e2] at ht
    obtain ⟨t', ht', h1, h2⟩ := key t ht
    rw [h1, h2]
    exact own_far (h.parts t' (by rw [e1]; exact ht')) hg5 (by decide) _ _
  · rw [e2]
    have ha := h.apart
    rw [e1] at ha
    have : ((setRow rows i f).map Prod.snd).Pairwise fun a b => a.ownBlock = none ∨ a.ownBlock ≠ b.ownBlock := by
      rw [setRow_snd]
      exact List.pairwise_map.2 ha
    exact List.pairwise_map.1 this

/-- an owned coordinator reads as it should -/
theorem Own.cv {w0 w : World} {base n : Nat} {tv : Value} {c : CoordD} {rows : List (TxnD × Value)} (h : Own w0 w base tv c.txns rows n) (hn : n = c.txns.length) (hc : c.txns.length ≤ 9223372036854775807) (hp : ∀ t ∈ c.txns, t.parts.length ≤ 9223372036854775807) : Cv w (coordV c tv) c := by
  subst hn
  have hl : rows.length = c.txns.length := by rw [← h.fst]; simp
  refine ⟨tv, rfl, ⟨rows, h.fst, Sl.of_own h.own, fun t ht => ?_⟩, hc⟩
  have ht' : t ∈ rows.take c.txns.length := by rw [← hl, List.take_length]; exact ht
  refine ⟨?_, hp _ (by rw [← h.fst]; exact List.mem_map_of_mem ht)⟩
  have := Sl.of_own (h.parts t ht')
  exact this

end Go.Proofs.Ytjkoceacjbhblaa
