/- coord.Copy: a coordinator in memory of its own. -/
import Derived.Test.YtjkoceacjbhblaaCoordD
import Derived.Test.YtjkoceacjbhblaaTells
import Derived.Test.YtjkoceacjbhblaaCloneTxn
import Derived.Test.YtjkoceacjbhblaaCloneInt
import Derived.Deep.RegionHeld3
import Derived.Deep.DrawnRows
namespace Go.Proofs.Ytjkoceacjbhblaa
open Go.RowKit
attribute [local go_sem ↓] Go.wp_at_zero Go.wp_at_succ

theorem tcells_one (l : List (TxnD × Value)) (h : ∀ t ∈ l, t.2.oneCell' = true) : ∀ x ∈ l.flatMap tcells, x.oneCell' = true := by
  intro x hx
  simp only [List.mem_flatMap] at hx
  obtain ⟨e, he, hx⟩ := hx
  simp only [tcells, List.mem_cons, List.not_mem_nil, or_false] at hx
  rcases hx with rfl | rfl | rfl | rfl | rfl | rfl | rfl <;> first | rfl | exact h e he
theorem Sl.oneCell {w : World} {size n : Nat} {v : Value} {xs : List Value} (h : Sl w size v n xs) : v.oneCell' = true := by
  obtain ⟨_, A, c, rfl, _⟩ := h
  rfl
/-- the rows with new parts at place k -/
def setParts (rows : List (TxnD × Value)) (k : Nat) (v : Value) : List (TxnD × Value) := rows.modify k fun t => (t.1, v)
theorem setParts_fst : ∀ (rows : List (TxnD × Value)) (k : Nat) (v : Value), (setParts rows k v).map Prod.fst = rows.map Prod.fst
  | [], k, v => by simp [setParts]
  | t :: rows, 0, v => by simp [setParts]
  | t :: rows, k + 1, v => by
    have := setParts_fst rows k v
    simp only [setParts] at *
    simp [this]
theorem setParts_cells : ∀ (rows : List (TxnD × Value)) (k : Nat) (v : Value), k < rows.length → (setParts rows k v).flatMap tcells = (rows.flatMap tcells).set (k * 7 + 4) v
  | [], k, v, h => by simp at h
  | t :: rows, 0, v, h => by simp [setParts, tcells]
  | t :: rows, k + 1, v, h => by
    have ih := setParts_cells rows k v (by simpa using h)
    simp only [setParts] at ih
    have hl : (tcells t).length = 7 := rfl
    simp only [setParts, List.modify_succ_cons, List.flatMap_cons, ih]
    rw [List.set_append_right _ _ (by rw [hl]; omega), hl, show (k + 1) * 7 + 4 - 7 = k * 7 + 4 from by omega]
theorem setParts_take (rows : List (TxnD × Value)) (k : Nat) (v : Value) (h : k < rows.length) : (setParts rows k v).take (k + 1) = rows.take k ++ [(rows[k].1, v)] := by
  have hl : k < (setParts rows k v).length := by simp [setParts]; exact h
  rw [List.take_succ_eq_append_getElem hl]
  congr 1
  · simp only [setParts, List.take_modify]
    exact List.modify_eq_self (by simp; omega)
  · simp [setParts]
theorem setParts_drop (rows : List (TxnD × Value)) (k : Nat) (v : Value) : (setParts rows k v).drop (k + 1) = rows.drop (k + 1) := by
  simp [setParts, List.drop_modify_of_lt]

/-- a row of its own stays while a block of another element type is written -/
theorem own_far {w : World} {base : Nat} {e t : TypeId} {size n : Nat} {v : Value} {xs : List Value} (h : w.ownsRow base e size v n xs) {g : Nat} {cs : Array Value} {fr : Nat × Nat} (hg : w.heap[g]? = some (.cells cs t fr)) (ht : t ≠ e) (j : Nat) (u : Value) : (w.setCell ⟨g, j, none⟩ u).ownsRow base e size v n xs := by
  obtain ⟨h1, h2⟩ := h
  refine ⟨h1, ?_⟩
  rcases h2 with h2 | ⟨g', cap, cur, hv, hb, hh, r⟩
  · exact Or.inl h2
  · refine Or.inr ⟨g', cap, cur, hv, hb, ?_, r⟩
    have hne : g' ≠ g := by
      intro e'
      subst e'
      rw [hg] at hh
      injection hh with hh
      injection hh with _ he
      exact ht he
    rw [Below.heap_setCell _ _ _ _ hne]
    exact hh

/-- v is a row of transactions of the call's own (the call began in w0); the first k have parts of their own, no two in one block; the others have the parts that they had -/
structure Own (w0 w : World) (base : Nat) (v : Value) (ds : List TxnD) (rows : List (TxnD × Value)) (k : Nat) : Prop where
  fst : rows.map Prod.fst = ds
  own : w.ownsRow base 76 7 v ds.length (rows.flatMap tcells)
  bel : Below w0.heap.size w0 w
  old : ∀ t ∈ rows.drop k, Is w0 t.2 t.1.parts
  parts : ∀ t ∈ rows.take k, w.ownsRow base 3 1 t.2 t.1.parts.length (t.1.parts.map (Value.int .i64))
  apart : (rows.take k).Pairwise fun a b => a.2.ownBlock = none ∨ a.2.ownBlock ≠ b.2.ownBlock

theorem Own.step {w0 w w5 : World} {base g c k : Nat} {ds : List TxnD} {rows : List (TxnD × Value)} {v5 : Value} (h : Own w0 w base (.slice (some ⟨g, 0, none⟩) ds.length c) ds rows k) (hk : k < rows.length) (hb0 : w0.heap.size ≤ base) (hb : base ≤ w.heap.size)
    (hbel : Below w.heap.size w w5) (ho : w5.ownsRow w.heap.size 3 1 v5 rows[k].1.parts.length (rows[k].1.parts.map (Value.int .i64))) :
    Own w0 (w5.setCell ⟨g, k * 7 + 4, none⟩ v5) base (.slice (some ⟨g, 0, none⟩) ds.length c) ds (setParts rows k v5) (k + 1) := by
  have hgl := h.own.lt g rfl
  have hown5 := own_keep h.own hbel (fun b hb => (h.own.lt b hb).2)
  have hg5 : ∃ cs fr, w5.heap[g]? = some (.cells cs 76 fr) := by
    rcases hown5.2 with ⟨e, _⟩ | ⟨g', cap, cur, e, _, hh, _⟩
    · cases e
    · injection e with e1
      injection e1 with e1
      injection e1 with e1
      subst e1
      exact ⟨_, _, hh⟩
  obtain ⟨cs, fr, hg5⟩ := hg5
  refine ⟨(setParts_fst rows k v5).trans h.fst, ?_, ?_, ?_, ?_, ?_⟩
  · rw [setParts_cells rows k v5 hk]
    exact (World.ownsRow.stored hown5 _ _).1
  · exact (h.bel.trans (hbel.mono h.bel.size)).setCell (by show w0.heap.size ≤ g; omega) _
  · intro t ht
    rw [setParts_drop] at ht
    refine h.old t ?_
    have : rows.drop (k + 1) = (rows.drop k).drop 1 := by simp [List.drop_drop]
    rw [this] at ht
    exact List.mem_of_mem_drop ht
  · intro t ht
    rw [setParts_take rows k v5 hk] at ht
    rcases List.mem_append.1 ht with ht | ht
    · exact own_far (own_keep (h.parts t ht) hbel (fun b hb => ((h.parts t ht).lt b hb).2)) hg5 (by decide) _ _
    · simp only [List.mem_singleton] at ht
      subst ht
      exact own_far (own_base ho hb) hg5 (by decide) _ _
  · rw [setParts_take rows k v5 hk]
    refine List.pairwise_append.2 ⟨h.apart, by simp, fun a ha b hb' => ?_⟩
    simp only [List.mem_singleton] at hb'
    subst hb'
    rcases hab : a.2.ownBlock with _ | x
    · exact Or.inl rfl
    · refine Or.inr fun e => ?_
      have h1 := (h.parts a ha).lt x hab
      have h2 := ho.lt x e.symm
      omega
theorem Own.more {w0 w : World} {base base' k : Nat} {v : Value} {ds : List TxnD} {rows : List (TxnD × Value)} (h : Own w0 w base v ds rows k) (hb : base' ≤ base) : Own w0 w base' v ds rows k :=
  ⟨h.fst, own_base h.own hb, h.bel, h.old, fun t ht => own_base (h.parts t ht) hb, h.apart⟩

theorem Own.under {w0 w : World} {base k : Nat} {v : Value} {ds : List TxnD} {rows : List (TxnD × Value)} (h : Own w0 w base v ds rows k) {a : Addr} (ha : a.block < base ∧ w0.heap.size ≤ a.block) (u : Value) : Own w0 (w.setCell a u) base v ds rows k :=
  ⟨h.fst, ownsRow_setCell_below h.own ha.1 u, h.bel.setCell ha.2 u, h.old, fun t ht => ownsRow_setCell_below (h.parts t ht) ha.1 u, h.apart⟩

theorem ints_one (l : List Int) : ∀ x ∈ l.map (Value.int .i64), x.oneCell' = true := by
  intro x hx
  obtain ⟨b, _, rfl⟩ := List.mem_map.1 hx
  rfl
/-- the loop of coord.Copy -/
def CopyLp (w : World) (bc zc : Array Value) (tv : Value) (ds : List TxnD) (i : Value) (wr : World) : Prop :=
  ∃ (k : Nat) (rows : List (TxnD × Value)), k ≤ ds.length ∧ i = .int .i64 k ∧ Own w wr (w.heap.size + 2) tv ds rows k ∧ Blk wr w.heap.size 28 bc ∧ Blk wr (w.heap.size + 1) 28 zc ∧ Below w.heap.size w wr
theorem Own.at_ {w0 w : World} {base : Nat} {v : Value} {ds : List TxnD} {rows : List (TxnD × Value)} {k : Nat} (h : Own w0 w base v ds rows k) (hn : 0 < ds.length) : ∃ g c, v = .slice (some ⟨g, 0, none⟩) ds.length c ∧ base ≤ g ∧ g < w.heap.size ∧ ds.length ≤ c ∧ ∀ i (hi : i < rows.length) (j : Nat), j < 7 → w.cell? ⟨g, i * 7 + j, none⟩ = (tcells rows[i])[j]? ∧ w.frozen? ⟨g, i * 7 + j, none⟩ = false := by
  obtain ⟨g, c, hv, hb, hlt⟩ := h.own.form hn
  subst hv
  have hle : ds.length ≤ c := by
    obtain ⟨_, A, c', he, hc, _⟩ := Sl.of_own h.own
    injection he with _ _ e; omega
  refine ⟨g, c, rfl, hb, hlt, hle, fun i hi j hj => ⟨?_, World.ownsRow.frozenAt h.own _⟩⟩
  have hl : rows.length = ds.length := by rw [← h.fst]; simp
  rw [World.ownsRow.cellAt h.own _ (by omega)]
  exact tcells_get rows i hi j hj

/-- what coord.Copy leaves -/
def CopyPost (w : World) (c : CoordD) (e : Ending) (w' : World) : Prop := ∃ tv rows, e = .returned (coordV c tv) ∧ Own w w' w.heap.size tv c.txns rows c.txns.length ∧ Below w.heap.size w w'

set_option maxRecDepth 100000 in
set_option maxHeartbeats 4000000 in
theorem coordCopy_any (v : Value) (c : CoordD) (w : World) (h : Cv w v c) (hb : c.txns.length * 80 ≤ 140737488355328) (hp : ∀ t ∈ c.txns, t.parts.length * 8 ≤ 140737488355328) :
    Calls Try.prog 29 #[v] w (CopyPost w c) := by
  obtain ⟨xt, rfl, ⟨rows, hfst, hsl, hparts⟩, hlen⟩ := h
  unfold coordV
  obtain ⟨ck, nx, wt, ts⟩ := c
  simp only at *
  obtain ⟨A, c, rfl, hc⟩ := hsl.form
  have H1 := Lib.hid hsl
  have H2 := Lib.hid hparts
  have H3 := Lib.hid hfst
  have H4 := Lib.hid hp
  clear hsl hparts hfst hp
  go_enter Try.func29, Try.ntmps29
  go_wp2_with fail
  have hone : ∀ x ∈ rows.flatMap tcells, x.oneCell' = true := tcells_one rows (fun t ht => Sl.oneCell (H2.out t ht).1)
  refine (CloneTxn_any _ ts.length (rows.flatMap tcells) _ (Sl.alloc (Sl.alloc H1.out _) _) hone (by simp only [maxLen]; omega) hb).mono ?_
  rintro e w1 ⟨tv, rfl, ho1, hb1⟩
  simp only [World.size_alloc] at ho1 hb1
  have bx := ((Blk.new w 28 #[.int .i64 ck, .int .i64 nx, .int .i64 wt, .slice A ts.length c]).alloc (.cells #[.int .i64 0, .int .i64 0, .int .i64 0, .slice none 0 0] 28)).below hb1 (by omega)
  have rx := (Blk.new (w.alloc (.cells #[.int .i64 ck, .int .i64 nx, .int .i64 wt, .slice A ts.length c] 28)) 28 #[.int .i64 0, .int .i64 0, .int .i64 0, .slice none 0 0]).below hb1 (by simp)
  simp only [World.size_alloc] at rx
  obtain ⟨A1, c1, rfl, hc1⟩ := (Sl.of_own ho1).form
  have q3 := bx.cell 3
  have f3 := bx.frozen 3
  go_wp2_with fail
  have bx2 := bx.set_ 3 (.slice A1 ts.length c1)
  have rx2 := rx.far (p := ⟨w.heap.size, 3, none⟩) (by simp) (.slice A1 ts.length c1)
  have hbl : Below w.heap.size w (w1.setCell ⟨w.heap.size, 3, none⟩ (.slice A1 ts.length c1)) := (((((Below.refl _ _).alloc (Nat.le_refl _) _).alloc (by simp) _).trans (hb1.mono (by omega))).setCell (Nat.le_refl _) _)
  have ho2 := ownsRow_setCell_below ho1 (a := ⟨w.heap.size, 3, none⟩) (by simp; omega) (.slice A1 ts.length c1)
  generalize w1.setCell ⟨w.heap.size, 3, none⟩ (.slice A1 ts.length c1) = W2 at *
  simp only [List.setIfInBounds_toArray, List.set_cons_succ, List.set_cons_zero] at bx2
  have hown : Own w W2 (w.heap.size + 2) (.slice A1 ts.length c1) ts rows 0 := ⟨H3.out, ho2, hbl, fun t ht => (H2.out t (by simpa using ht)).1, by simp, by simp⟩
  have HO := Lib.hid hown
  have HB := Lib.hid bx2
  have HR := Lib.hid rx2
  have HL := Lib.hid hbl
  clear bx rx q3 f3 bx2 rx2 hbl ho2 ho1 hown hb1
  go_loopw [11] (fun i wr => CopyLp w #[.int .i64 ck, .int .i64 nx, .int .i64 wt, .slice A1 ts.length c1] #[.int .i64 0, .int .i64 0, .int .i64 0, .slice none 0 0] (.slice A1 ts.length c1) ts i wr) (fun i _ => ts.length - (intOf i).toNat)
  case atStart => exact ⟨0, rows, by omega, rfl, HO.out, HB.out, HR.out, HL.out⟩
  case round =>
    obtain ⟨k, rows', hk, rfl, ho, hbx, hrx, hbl⟩ := hrel
    have q3 := hbx.cell 3
    by_cases hlt : k < ts.length
    · have hl : rows'.length = ts.length := by rw [← ho.fst]; simp
      obtain ⟨g, c2, hv, hg1, hg2, hc2, hcell⟩ := ho.at_ (by omega)
      injection hv with hA hlen' hcc
      subst hA hcc
      have hr := (ho.old rows'[k] (List.mem_drop_iff_getElem.2 ⟨0, by omega, by simp⟩)).below ho.bel
      have h4 := (hcell k (by omega) 4 (by omega)).1
      have f4 := (hcell k (by omega) 4 (by omega)).2
      have h4' : wr.cell? ⟨g, k * 7 + 4, none⟩ = some rows'[k].2 := h4
      have HRD := Lib.hid hr
      have HO := Lib.hid ho
      have HL := Lib.hid hl
      have hpl : (rows'[k].1.parts.length : Nat) * 8 ≤ 140737488355328 := by
        have he : ts[k] = rows'[k].1 := by simp [← HO.out.fst]
        rw [← he]; exact H4.out _ (List.getElem_mem _)
      generalize hpv : rows'[k].2 = pv at h4' HRD
      have HPV := Lib.hid hpv
      clear hpv
      obtain ⟨A3, c3, rfl, hc3⟩ := Sl.form HRD.out
      have hk0 : (0 : Int) ≤ (k : Int) := by omega
      have hk1 : (k : Int) < (ts.length : Int) := by omega
      clear h4 hcell hr ho
      go_wp2
      have hrd := HRD.out
      have hbd : Below wr.heap.size wr wr.drew := (Below.refl _ _).drew
      have hlw : w.heap.size < wr.heap.size := hbx.lt
      have q3' : wr.cell? ⟨w.heap.size, 3, none⟩ = some (.slice (some ⟨g, 0, none⟩) ts.length c1) := q3
      have hpm : rows'[k].1.parts.length ≤ maxLen := by simp only [maxLen]; omega
      go_region_with ((go_at_call 67; refine (CloneInt_any (.slice A3 rows'[k].1.parts.length c3) rows'[k].1.parts.length (rows'[k].1.parts.map (Value.int .i64)) _ (Sl.below hrd hbd) (ints_one _) hpm hpl).mono ?_; rintro e w5 ⟨v5, rfl, ho5, hb5⟩; obtain ⟨A5, c5, rfl, hc5⟩ := (Sl.of_own ho5).form; have hbel := below_then hbd hb5; have k1 := (hbel.cell (p := ⟨w.heap.size, 3, none⟩) hlw).trans q3'; have k2 := (hbel.cell (p := ⟨g, k * 7 + 4, none⟩) hg2).trans h4'; have k3 := (hbel.frozen (p := ⟨g, k * 7 + 4, none⟩) hg2).trans f4))
      all_goals go_wp2
      all_goals go_light
      all_goals refine ⟨?_, by simp [intOf]; omega⟩
      all_goals exact ⟨k + 1, setParts rows' k _, by omega, by go_num, HO.out.step (by omega) (by omega) (by omega) hbel ho5, ((hbx.below hbel hbx.lt).far (by show w.heap.size ≠ g; omega) _), ((hrx.below hbel hrx.lt).far (by show w.heap.size + 1 ≠ g; omega) _), (HO.out.bel.trans (hbel.mono HO.out.bel.size)).setCell (by show w.heap.size ≤ g; omega) _⟩
    · obtain rfl : k = ts.length := by omega
      have q0 := hbx.cell 0
      have q1 := hbx.cell 1
      have q2 := hbx.cell 2
      have z0 := hrx.cell 0
      have z1 := hrx.cell 1
      have z2 := hrx.cell 2
      have z3 := hrx.cell 3
      have f0 := hrx.frozen 0
      have f1 := hrx.frozen 1
      have f2 := hrx.frozen 2
      have f3 := hrx.frozen 3
      have HO := Lib.hid ho
      clear ho
      go_wp2
      have HB5 := ((((hrx.set_ 0 (.int .i64 ck)).set_ 1 (.int .i64 nx)).set_ 2 (.int .i64 wt)).set_ 3 (.slice A1 ts.length c1))
      have HO5 := (((HO.out.under (a := ⟨w.heap.size + 1, 0, none⟩) (by simp) (.int .i64 ck)).under (a := ⟨w.heap.size + 1, 1, none⟩) (by simp) (.int .i64 nx)).under (a := ⟨w.heap.size + 1, 2, none⟩) (by simp) (.int .i64 wt)).under (a := ⟨w.heap.size + 1, 3, none⟩) (by simp) (.slice A1 ts.length c1)
      have HL5 : Below w.heap.size w ((((wr.setCell ⟨w.heap.size + 1, 0, none⟩ (.int .i64 ck)).setCell ⟨w.heap.size + 1, 1, none⟩ (.int .i64 nx)).setCell ⟨w.heap.size + 1, 2, none⟩ (.int .i64 wt)).setCell ⟨w.heap.size + 1, 3, none⟩ (.slice A1 ts.length c1)) := (((hbl.setCell (Nat.le_succ _) _).setCell (Nat.le_succ _) _).setCell (Nat.le_succ _) _).setCell (Nat.le_succ _) _
      generalize (((wr.setCell ⟨w.heap.size + 1, 0, none⟩ (.int .i64 ck)).setCell ⟨w.heap.size + 1, 1, none⟩ (.int .i64 nx)).setCell ⟨w.heap.size + 1, 2, none⟩ (.int .i64 wt)).setCell ⟨w.heap.size + 1, 3, none⟩ (.slice A1 ts.length c1) = W5 at *
      simp only [List.setIfInBounds_toArray, List.set_cons_succ, List.set_cons_zero] at HB5
      have y0 := HB5.cell 0
      have y1 := HB5.cell 1
      have y2 := HB5.cell 2
      have y3 := HB5.cell 3
      exact bodyPost_ret (v := .agg #[.int .i64 ck, .int .i64 nx, .int .i64 wt, .slice A1 ts.length c1]) (by simp [results, Try.results29, go_sem, y0, y1, y2, y3]) rfl ⟨.slice A1 ts.length c1, rows', rfl, HO5.more (by omega), HL5⟩
theorem CopyPost.cv {w w' : World} {c : CoordD} {e : Ending} (h : CopyPost w c e w') (hc : c.txns.length ≤ 9223372036854775807) (hp : ∀ t ∈ c.txns, t.parts.length ≤ 9223372036854775807) : ∃ tv, e = .returned (coordV c tv) ∧ Cv w' (coordV c tv) c ∧ Below w.heap.size w w' := by
  obtain ⟨tv, rows, rfl, ho, hb⟩ := h
  have hl : rows.length = c.txns.length := by rw [← ho.fst]; simp
  refine ⟨_, rfl, ⟨tv, rfl, ⟨rows, ho.fst, Sl.of_own ho.own, fun t ht => ?_⟩, hc⟩, hb⟩
  have ht' : t ∈ rows.take c.txns.length := by rw [← hl, List.take_length]; exact ht
  refine ⟨?_, hp _ (by rw [← ho.fst]; exact List.mem_map_of_mem ht)⟩
  have := Sl.of_own (ho.parts t ht')
  exact this
end Go.Proofs.Ytjkoceacjbhblaa
