/- Parts of a proof, merged: CloneMem, CloneOff, GroupCopy, FindB, KnownA, CoordR. No condition. -/
import Derived.Test.YtjkoceacjbhblaaGl1
import Derived.Test.YtjkoceacjbhblaaGl4
import Derived.Test.YtjkoceacjbhblaaGl5
namespace Go.Proofs.Ytjkoceacjbhblaa
open Go.RowKit

theorem CloneMem_info : (Try.prog.info? 79).map (fun i => (i.zero, i.size, i.bytes)) = some (some (.agg #[.string .empty, .int .i64 0, .slice none 0 0]), 3, 48) := by kernel_rfl
set_option maxRecDepth 100000 in
set_option maxHeartbeats 1000000 in
theorem CloneMem_any (v : Value) (n : Nat) (xs : List Value) (w : World) (h : Sl w 3 v n xs) (h1 : ∀ x ∈ xs, x.oneCell' = true) (hm : n ≤ maxLen) (hb : n * 48 ≤ 140737488355328) :
    Calls Try.prog 68 #[v] w fun e w' => ∃ v', e = .returned v' ∧ w'.ownsRow w.heap.size 79 3 v' n xs ∧ Below w.heap.size w w' := by
  obtain ⟨i0, hi0, hz0, hz1, hz2⟩ := info_parts CloneMem_info
  obtain ⟨hl, A, c, rfl, hc, hcl⟩ := h
  rcases A with _ | a
  · have hn : n = 0 := by
      rcases Nat.eq_zero_or_pos n with h0 | h0
      · exact h0
      · obtain ⟨_, _, e, _⟩ := hcl h0
        cases e
    subst hn
    have hx : xs = [] := List.eq_nil_of_length_eq_zero (by simpa using hl)
    have HX := Lib.hid hx
    clear hx
    have hnil := fun W => Lib.run_eql_slice_nil (P := Try.prog) W 33 79 none 0 c 0 0 Try.underlying33
    go_enter Try.func68, Try.ntmps68
    go_wp2
    go_ret
    exact ⟨_, rfl, by rw [HX.out]; exact World.ownsRow_nil _ _ _ _, Below.refl _ _⟩
  · have hsl : Sl w 3 (.slice (some a) n c) n xs := ⟨hl, some a, c, rfl, hc, hcl⟩
    have hnil := fun W => Lib.run_eql_slice_nil (P := Try.prog) W 33 79 (some a) n c 0 0 Try.underlying33
    go_enter Try.func68, Try.ntmps68
    go_wp2_with (at_builtin; go_must (refine wpList_append_sl _ rfl (.tmp 5) (.tmp 6) 33 rfl w.heap.size 79 i0 (.agg #[.string .empty, .int .i64 0, .slice none 0 0]) 3 48 Try.underlying33 hi0 hz0 hz1 hz2 rfl (by decide) _ _ _ (by rfl) (own_lit (base := w.heap.size) w 79 _ 3 0 (Nat.le_refl _) (by simp [maxLen]) rfl) _ n xs (by rfl) (hsl.alloc _) h1 (by omega) (by omega) (by simp) ?_; intro v1 w1 ho1 hg1 ha1))
    go_ret
    exact ⟨v1, rfl, own_eq ho1 (by omega) (by simp), ((Below.refl _ _).alloc (Nat.le_refl _) _).grown hg1 (by simp) (by intro k hk; simp [Value.ownBlock] at hk; omega)⟩

end Go.Proofs.Ytjkoceacjbhblaa
namespace Go.Proofs.Ytjkoceacjbhblaa
open Go.RowKit

theorem CloneOff_info : (Try.prog.info? 81).map (fun i => (i.zero, i.size, i.bytes)) = some (some (.agg #[.int .i64 0, .int .i64 0]), 2, 16) := by kernel_rfl
set_option maxRecDepth 100000 in
set_option maxHeartbeats 1000000 in
theorem CloneOff_any (v : Value) (n : Nat) (xs : List Value) (w : World) (h : Sl w 2 v n xs) (h1 : ∀ x ∈ xs, x.oneCell' = true) (hm : n ≤ maxLen) (hb : n * 16 ≤ 140737488355328) :
    Calls Try.prog 69 #[v] w fun e w' => ∃ v', e = .returned v' ∧ w'.ownsRow w.heap.size 81 2 v' n xs ∧ Below w.heap.size w w' := by
  obtain ⟨i0, hi0, hz0, hz1, hz2⟩ := info_parts CloneOff_info
  obtain ⟨hl, A, c, rfl, hc, hcl⟩ := h
  rcases A with _ | a
  · have hn : n = 0 := by
      rcases Nat.eq_zero_or_pos n with h0 | h0
      · exact h0
      · obtain ⟨_, _, e, _⟩ := hcl h0
        cases e
    subst hn
    have hx : xs = [] := List.eq_nil_of_length_eq_zero (by simpa using hl)
    have HX := Lib.hid hx
    clear hx
    have hnil := fun W => Lib.run_eql_slice_nil (P := Try.prog) W 34 81 none 0 c 0 0 Try.underlying34
    go_enter Try.func69, Try.ntmps69
    go_wp2
    go_ret
    exact ⟨_, rfl, by rw [HX.out]; exact World.ownsRow_nil _ _ _ _, Below.refl _ _⟩
  · have hsl : Sl w 2 (.slice (some a) n c) n xs := ⟨hl, some a, c, rfl, hc, hcl⟩
    have hnil := fun W => Lib.run_eql_slice_nil (P := Try.prog) W 34 81 (some a) n c 0 0 Try.underlying34
    go_enter Try.func69, Try.ntmps69
    go_wp2_with (at_builtin; go_must (refine wpList_append_sl _ rfl (.tmp 5) (.tmp 6) 34 rfl w.heap.size 81 i0 (.agg #[.int .i64 0, .int .i64 0]) 2 16 Try.underlying34 hi0 hz0 hz1 hz2 rfl (by decide) _ _ _ (by rfl) (own_lit (base := w.heap.size) w 81 _ 2 0 (Nat.le_refl _) (by simp [maxLen]) rfl) _ n xs (by rfl) (hsl.alloc _) h1 (by omega) (by omega) (by simp) ?_; intro v1 w1 ho1 hg1 ha1))
    go_ret
    exact ⟨v1, rfl, own_eq ho1 (by omega) (by simp), ((Below.refl _ _).alloc (Nat.le_refl _) _).grown hg1 (by simp) (by intro k hk; simp [Value.ownBlock] at hk; omega)⟩

end Go.Proofs.Ytjkoceacjbhblaa
namespace Go.Proofs.Ytjkoceacjbhblaa
open Go.RowKit
attribute [local go_sem ↓] Go.wp_at_zero Go.wp_at_succ

theorem mcells_one (l : List (MemD × Value)) (h : ∀ t ∈ l, t.2.oneCell' = true) : ∀ x ∈ l.flatMap mcells, x.oneCell' = true := by
  intro x hx
  simp only [List.mem_flatMap] at hx
  obtain ⟨e, he, hx⟩ := hx
  simp only [mcells, List.mem_cons, List.not_mem_nil, or_false] at hx
  rcases hx with rfl | rfl | rfl <;> first | rfl | exact h e he
theorem ocells_one (l : List OffD) : ∀ x ∈ l.flatMap ocells, x.oneCell' = true := by
  intro x hx
  simp only [List.mem_flatMap] at hx
  obtain ⟨e, he, hx⟩ := hx
  simp only [ocells, List.mem_cons, List.not_mem_nil, or_false] at hx
  rcases hx with rfl | rfl <;> rfl
/-- the rows with new parts at place k -/
def setPartsM (rows : List (MemD × Value)) (k : Nat) (v : Value) : List (MemD × Value) := rows.modify k fun t => (t.1, v)
theorem setPartsM_fst : ∀ (rows : List (MemD × Value)) (k : Nat) (v : Value), (setPartsM rows k v).map Prod.fst = rows.map Prod.fst
  | [], k, v => by simp [setPartsM]
  | t :: rows, 0, v => by simp [setPartsM]
  | t :: rows, k + 1, v => by
    have := setPartsM_fst rows k v
    simp only [setPartsM] at *
    simp [this]
theorem setPartsM_cells : ∀ (rows : List (MemD × Value)) (k : Nat) (v : Value), k < rows.length → (setPartsM rows k v).flatMap mcells = (rows.flatMap mcells).set (k * 3 + 2) v
  | [], k, v, h => by simp at h
  | t :: rows, 0, v, h => by simp [setPartsM, mcells]
  | t :: rows, k + 1, v, h => by
    have ih := setPartsM_cells rows k v (by simpa using h)
    simp only [setPartsM] at ih
    have hl : (mcells t).length = 3 := rfl
    simp only [setPartsM, List.modify_succ_cons, List.flatMap_cons, ih]
    rw [List.set_append_right _ _ (by rw [hl]; omega), hl, show (k + 1) * 3 + 2 - 3 = k * 3 + 2 from by omega]
theorem setPartsM_take (rows : List (MemD × Value)) (k : Nat) (v : Value) (h : k < rows.length) : (setPartsM rows k v).take (k + 1) = rows.take k ++ [(rows[k].1, v)] := by
  have hl : k < (setPartsM rows k v).length := by simp [setPartsM]; exact h
  rw [List.take_succ_eq_append_getElem hl]
  congr 1
  · simp only [setPartsM, List.take_modify]
    exact List.modify_eq_self (by simp; omega)
  · simp [setPartsM]
theorem setPartsM_drop (rows : List (MemD × Value)) (k : Nat) (v : Value) : (setPartsM rows k v).drop (k + 1) = rows.drop (k + 1) := by
  simp [setPartsM, List.drop_modify_of_lt]

/-- v is a row of members of the call's own (the call began in w0); the first k have parts of their own, no two in one block; the others have the parts that they had -/
structure OwnM (w0 w : World) (base : Nat) (v : Value) (ds : List MemD) (rows : List (MemD × Value)) (k : Nat) : Prop where
  fst : rows.map Prod.fst = ds
  own : w.ownsRow base 79 3 v ds.length (rows.flatMap mcells)
  bel : Below w0.heap.size w0 w
  old : ∀ t ∈ rows.drop k, Is w0 t.2 t.1.parts
  parts : ∀ t ∈ rows.take k, w.ownsRow base 3 1 t.2 t.1.parts.length (t.1.parts.map (Value.int .i64))
  apart : (rows.take k).Pairwise fun a b => a.2.ownBlock = none ∨ a.2.ownBlock ≠ b.2.ownBlock

theorem OwnM.step {w0 w w5 : World} {base g c k : Nat} {ds : List MemD} {rows : List (MemD × Value)} {v5 : Value} (h : OwnM w0 w base (.slice (some ⟨g, 0, none⟩) ds.length c) ds rows k) (hk : k < rows.length) (hb0 : w0.heap.size ≤ base) (hb : base ≤ w.heap.size)
    (hbel : Below w.heap.size w w5) (ho : w5.ownsRow w.heap.size 3 1 v5 rows[k].1.parts.length (rows[k].1.parts.map (Value.int .i64))) :
    OwnM w0 (w5.setCell ⟨g, k * 3 + 2, none⟩ v5) base (.slice (some ⟨g, 0, none⟩) ds.length c) ds (setPartsM rows k v5) (k + 1) := by
  have hgl := h.own.lt g rfl
  have hown5 := own_keep h.own hbel (fun b hb => (h.own.lt b hb).2)
  have hg5 : ∃ cs fr, w5.heap[g]? = some (.cells cs 79 fr) := by
    rcases hown5.2 with ⟨e, _⟩ | ⟨g', cap, cur, e, _, hh, _⟩
    · cases e
    · injection e with e1
      injection e1 with e1
      injection e1 with e1
      subst e1
      exact ⟨_, _, hh⟩
  obtain ⟨cs, fr, hg5⟩ := hg5
  refine ⟨(setPartsM_fst rows k v5).trans h.fst, ?_, ?_, ?_, ?_, ?_⟩
  · rw [setPartsM_cells rows k v5 hk]
    exact (World.ownsRow.stored hown5 _ _).1
  · exact (h.bel.trans (hbel.mono h.bel.size)).setCell (by show w0.heap.size ≤ g; omega) _
  · intro t ht
    rw [setPartsM_drop] at ht
    refine h.old t ?_
    have : rows.drop (k + 1) = (rows.drop k).drop 1 := by simp [List.drop_drop]
    rw [this] at ht
    exact List.mem_of_mem_drop ht
  · intro t ht
    rw [setPartsM_take rows k v5 hk] at ht
    rcases List.mem_append.1 ht with ht | ht
    · exact own_far (own_keep (h.parts t ht) hbel (fun b hb => ((h.parts t ht).lt b hb).2)) hg5 (by decide) _ _
    · simp only [List.mem_singleton] at ht
      subst ht
      exact own_far (own_base ho hb) hg5 (by decide) _ _
  · rw [setPartsM_take rows k v5 hk]
    refine List.pairwise_append.2 ⟨h.apart, by simp, fun a ha b hb' => ?_⟩
    simp only [List.mem_singleton] at hb'
    subst hb'
    rcases hab : a.2.ownBlock with _ | x
    · exact Or.inl rfl
    · refine Or.inr fun e => ?_
      have h1 := (h.parts a ha).lt x hab
      have h2 := ho.lt x e.symm
      omega
theorem OwnM.more {w0 w : World} {base base' k : Nat} {v : Value} {ds : List MemD} {rows : List (MemD × Value)} (h : OwnM w0 w base v ds rows k) (hb : base' ≤ base) : OwnM w0 w base' v ds rows k :=
  ⟨h.fst, own_base h.own hb, h.bel, h.old, fun t ht => own_base (h.parts t ht) hb, h.apart⟩

theorem OwnM.under {w0 w : World} {base k : Nat} {v : Value} {ds : List MemD} {rows : List (MemD × Value)} (h : OwnM w0 w base v ds rows k) {a : Addr} (ha : a.block < base ∧ w0.heap.size ≤ a.block) (u : Value) : OwnM w0 (w.setCell a u) base v ds rows k :=
  ⟨h.fst, ownsRow_setCell_below h.own ha.1 u, h.bel.setCell ha.2 u, h.old, fun t ht => ownsRow_setCell_below (h.parts t ht) ha.1 u, h.apart⟩

theorem OwnM.at_ {w0 w : World} {base : Nat} {v : Value} {ds : List MemD} {rows : List (MemD × Value)} {k : Nat} (h : OwnM w0 w base v ds rows k) (hn : 0 < ds.length) : ∃ g c, v = .slice (some ⟨g, 0, none⟩) ds.length c ∧ base ≤ g ∧ g < w.heap.size ∧ ds.length ≤ c ∧ ∀ i (hi : i < rows.length) (j : Nat), j < 3 → w.cell? ⟨g, i * 3 + j, none⟩ = (mcells rows[i])[j]? ∧ w.frozen? ⟨g, i * 3 + j, none⟩ = false := by
  obtain ⟨g, c, hv, hb, hlt⟩ := h.own.form hn
  subst hv
  have hle : ds.length ≤ c := by
    obtain ⟨_, A, c', he, hc, _⟩ := Sl.of_own h.own
    injection he with _ _ e; omega
  refine ⟨g, c, rfl, hb, hlt, hle, fun i hi j hj => ⟨?_, World.ownsRow.frozenAt h.own _⟩⟩
  have hl : rows.length = ds.length := by rw [← h.fst]; simp
  rw [World.ownsRow.cellAt h.own _ (by omega)]
  exact cells_get mcells 3 (fun _ => rfl) rows i hi j hj

theorem OwnM.offs {w0 w w5 : World} {base base' g c k j n : Nat} {ds : List MemD} {rows : List (MemD × Value)} {u : Value} {xs : List Value} (h : OwnM w0 w base (.slice (some ⟨g, 0, none⟩) ds.length c) ds rows k) (hbel : Below w.heap.size w w5) (hof : w5.ownsRow base' 81 2 u n xs) (v5 : Value) : (w5.setCell ⟨g, j, none⟩ v5).ownsRow base' 81 2 u n xs := by
  have hown5 := own_keep h.own hbel (fun b hb => (h.own.lt b hb).2)
  rcases hown5.2 with ⟨e, _⟩ | ⟨g', cap, cur, e, _, hh, _⟩
  · cases e
  · injection e with e1
    injection e1 with e1
    injection e1 with e1
    subst e1
    exact own_far hof hh (by decide) _ _

/-- the loop of group.Copy -/
def CopyLpM (w : World) (bc zc : Array Value) (mv ov : Value) (ms : List MemD) (os : List OffD) (i : Value) (wr : World) : Prop :=
  ∃ (k : Nat) (rows : List (MemD × Value)), k ≤ ms.length ∧ i = .int .i64 k ∧ OwnM w wr (w.heap.size + 2) mv ms rows k ∧ wr.ownsRow (w.heap.size + 2) 81 2 ov os.length (os.flatMap ocells) ∧ Blk wr w.heap.size 36 bc ∧ Blk wr (w.heap.size + 1) 36 zc ∧ Below w.heap.size w wr
/-- what group.Copy leaves -/
def CopyPostM (w : World) (c : GroupD) (e : Ending) (w' : World) : Prop := ∃ mv ov rows, e = .returned (groupV c mv ov) ∧ OwnM w w' w.heap.size mv c.mems rows c.mems.length ∧ w'.ownsRow w.heap.size 81 2 ov c.offs.length (c.offs.flatMap ocells) ∧ Below w.heap.size w w'

set_option maxRecDepth 100000 in
set_option maxHeartbeats 8000000 in
theorem groupCopy_any (v : Value) (c : GroupD) (w : World) (h : Gv w v c) (hb : c.mems.length * 48 ≤ 140737488355328) (hp : ∀ t ∈ c.mems, t.parts.length * 8 ≤ 140737488355328) (ho : c.offs.length * 16 ≤ 140737488355328) :
    Calls Try.prog 30 #[v] w (CopyPostM w c) := by
  obtain ⟨xm, xo, rfl, ⟨rows, hfst, hsl, hparts⟩, hof, hlm, hlo⟩ := h
  unfold groupV
  obtain ⟨ck, wt, gn, ms, os⟩ := c
  simp only at *
  obtain ⟨A, c, rfl, hc⟩ := hsl.form
  obtain ⟨B, d, rfl, hd⟩ := Sl.form hof
  have H1 := Lib.hid hsl
  have H2 := Lib.hid hparts
  have H3 := Lib.hid hfst
  have H4 := Lib.hid hp
  have H5 := Lib.hid hof
  clear hsl hparts hfst hp hof
  have hone : ∀ x ∈ rows.flatMap mcells, x.oneCell' = true := mcells_one rows (fun t ht => Sl.oneCell (H2.out t ht).1)
  have HONE := Lib.hid hone
  clear hone
  have hm1 : ms.length ≤ maxLen := by simp only [maxLen]; omega
  have hm2 : os.length ≤ maxLen := by simp only [maxLen]; omega
  have HM1 := Lib.hid hm1
  have HM2 := Lib.hid hm2
  have HB := Lib.hid hb
  have HO := Lib.hid ho
  clear hm1 hm2 hb ho
  go_enter Try.func30, Try.ntmps30
  have hbd : Below w.heap.size w ((w.alloc (.cells #[.int .i64 ck, .int .i64 wt, .int .i64 gn, .slice A ms.length c, .slice B os.length d] 36)).alloc (.cells #[.int .i64 0, .int .i64 0, .int .i64 0, .slice none 0 0, .slice none 0 0] 36)).drew := (((Below.refl _ _).alloc (Nat.le_refl _) _).alloc (by simp) _).drew
  have bx := ((Blk.new w 36 #[.int .i64 ck, .int .i64 wt, .int .i64 gn, .slice A ms.length c, .slice B os.length d]).alloc (.cells #[.int .i64 0, .int .i64 0, .int .i64 0, .slice none 0 0, .slice none 0 0] 36))
  have bxd := bx.below (B := w.heap.size + 2) ((Below.refl _ _).drew) (by omega)
  go_wp2
  go_region_with (first
    | (go_at_call 68; refine (CloneMem_any (.slice A ms.length c) ms.length (rows.flatMap mcells) _ (H1.out.below hbd) HONE.out HM1.out HB.out).mono ?_; rintro e w5 ⟨v5, rfl, ho5, hb5⟩; obtain ⟨A5, c5, rfl, hc5⟩ := (Sl.of_own ho5).form; have k4 := (hb5.cell (p := ⟨w.heap.size, 4, none⟩) (by simp; omega)).trans (bxd.cell 4); have bx5 := bxd.below hb5 (by simp; omega); have hlt5 : w.heap.size < w5.heap.size := bx5.lt)
    | (go_at_call 69; refine (CloneOff_any (.slice B os.length d) os.length (os.flatMap ocells) _ (Sl.below H5.out (below_then hbd hb5)) (ocells_one os) HM2.out HO.out).mono ?_; rintro e w6 ⟨v6, rfl, ho6, hb6⟩; obtain ⟨A6, c6, rfl, hc6⟩ := (Sl.of_own ho6).form; have bx6 := bx5.below hb6 hlt5; have r3 := bx6.cell 3; have r4 := bx6.cell 4; have s3 := bx6.frozen 3; have s4 := bx6.frozen 4; have hlt6 : w.heap.size < w6.heap.size := bx6.lt))
  all_goals (
    have rx := (Blk.new (w.alloc (.cells #[.int .i64 ck, .int .i64 wt, .int .i64 gn, .slice A ms.length c, .slice B os.length d] 36)) 36 #[.int .i64 0, .int .i64 0, .int .i64 0, .slice none 0 0, .slice none 0 0]).below (B := w.heap.size + 2) ((Below.refl _ _).drew) (by simp)
    have sz5 := hb5.size
    have bl6 := below_then hbd (below_then hb5 hb6)
    simp only [World.size_alloc, World.size_drew] at rx ho5 hb5 sz5
    have rx6 := (rx.below hb5 (by omega)).below hb6 (by omega)
    have own5 := own_keep ho5 hb6 (fun b hb => (ho5.lt b hb).2)
    have own6 := own_base (base' := w.heap.size + 2) ho6 (by omega)
    have bx8 := (bx6.set_ 3 (.slice A5 ms.length c5)).set_ 4 (.slice A6 os.length c6)
    have rx8 := (rx6.far (p := ⟨w.heap.size, 3, none⟩) (by simp) (.slice A5 ms.length c5)).far (p := ⟨w.heap.size, 4, none⟩) (by simp) (.slice A6 os.length c6)
    have bl8 := (bl6.setCell (p := ⟨w.heap.size, 3, none⟩) (Nat.le_refl _) (.slice A5 ms.length c5)).setCell (p := ⟨w.heap.size, 4, none⟩) (Nat.le_refl _) (.slice A6 os.length c6)
    have own58 := ownsRow_setCell_below (ownsRow_setCell_below own5 (a := ⟨w.heap.size, 3, none⟩) (by simp; omega) (.slice A5 ms.length c5)) (a := ⟨w.heap.size, 4, none⟩) (by simp; omega) (.slice A6 os.length c6)
    have own68 := ownsRow_setCell_below (ownsRow_setCell_below own6 (a := ⟨w.heap.size, 3, none⟩) (by simp) (.slice A5 ms.length c5)) (a := ⟨w.heap.size, 4, none⟩) (by simp) (.slice A6 os.length c6)
    generalize (w6.setCell ⟨w.heap.size, 3, none⟩ (.slice A5 ms.length c5)).setCell ⟨w.heap.size, 4, none⟩ (.slice A6 os.length c6) = W2 at *
    simp only [List.setIfInBounds_toArray, List.set_cons_succ, List.set_cons_zero] at bx8
    have hown : OwnM w W2 (w.heap.size + 2) (.slice A5 ms.length c5) ms rows 0 := ⟨H3.out, own58, bl8, fun t ht => (H2.out t (by simpa using ht)).1, by simp, by simp⟩
    clear hbd bx bxd hb5 ho5 k4 bx5 hlt5 hb6 ho6 bx6 r3 r4 s3 s4 hlt6 rx sz5 rx6 bl6 own5 own6 own58
    have q3 := bx8.cell 3
    have PO := Lib.hid hown
    have PB := Lib.hid bx8
    have PR := Lib.hid rx8
    have PL := Lib.hid bl8
    have PF := Lib.hid own68
    clear hown bx8 rx8 bl8 own68
    go_wp2
    go_loopw [15] (fun i wr => CopyLpM w #[.int .i64 ck, .int .i64 wt, .int .i64 gn, .slice A5 ms.length c5, .slice A6 os.length c6] #[.int .i64 0, .int .i64 0, .int .i64 0, .slice none 0 0, .slice none 0 0] (.slice A5 ms.length c5) (.slice A6 os.length c6) ms os i wr) (fun i _ => ms.length - (intOf i).toNat)
    case atStart => exact ⟨0, rows, by omega, rfl, PO.out, PF.out, PB.out, PR.out, PL.out⟩
    case round =>
      obtain ⟨k, rows', hk, rfl, ho, hof, hbx, hrx, hbl⟩ := hrel
      clear q3
      have q3 := hbx.cell 3
      by_cases hlt : k < ms.length
      · have hl : rows'.length = ms.length := by rw [← ho.fst]; simp
        obtain ⟨g, c2, hv, hg1, hg2, hc2, hcell⟩ := ho.at_ (by omega)
        injection hv with hA hlen' hcc
        subst hA hcc
        have hr := (ho.old rows'[k] (List.mem_drop_iff_getElem.2 ⟨0, by omega, by simp⟩)).below ho.bel
        have h4 := (hcell k (by omega) 2 (by omega)).1
        have f4 := (hcell k (by omega) 2 (by omega)).2
        have h4' : wr.cell? ⟨g, k * 3 + 2, none⟩ = some rows'[k].2 := h4
        have HRD := Lib.hid hr
        have HOW := Lib.hid ho
        have HFF := Lib.hid hof
        have hpl : (rows'[k].1.parts.length : Nat) * 8 ≤ 140737488355328 := by
          have he : ms[k] = rows'[k].1 := by simp [← HOW.out.fst]
          rw [← he]; exact H4.out _ (List.getElem_mem _)
        generalize hpv : rows'[k].2 = pv at h4' HRD
        have HPV := Lib.hid hpv
        clear hpv
        obtain ⟨A3, c3, rfl, hc3⟩ := Sl.form HRD.out
        have hk0 : (0 : Int) ≤ (k : Int) := by omega
        have hk1 : (k : Int) < (ms.length : Int) := by omega
        clear h4 hcell hr ho hof
        go_wp2
        have hrd := HRD.out
        have hbd : Below wr.heap.size wr wr.drew := (Below.refl _ _).drew
        have hlw : w.heap.size < wr.heap.size := hbx.lt
        have q3' : wr.cell? ⟨w.heap.size, 3, none⟩ = some (.slice (some ⟨g, 0, none⟩) ms.length c5) := q3
        have hpm : rows'[k].1.parts.length ≤ maxLen := by simp only [maxLen]; omega
        go_region_with ((go_at_call 67; refine (CloneInt_any (.slice A3 rows'[k].1.parts.length c3) rows'[k].1.parts.length (rows'[k].1.parts.map (Value.int .i64)) _ (Sl.below hrd hbd) (ints_one _) hpm hpl).mono ?_; rintro e w5 ⟨v5, rfl, ho5, hb5⟩; obtain ⟨A5, c5, rfl, hc5⟩ := (Sl.of_own ho5).form; have hbel := below_then hbd hb5; have k1 := (hbel.cell (p := ⟨w.heap.size, 3, none⟩) hlw).trans q3'; have k2 := (hbel.cell (p := ⟨g, k * 3 + 2, none⟩) hg2).trans h4'; have k3 := (hbel.frozen (p := ⟨g, k * 3 + 2, none⟩) hg2).trans f4))
        all_goals go_wp2
        all_goals go_light
        all_goals refine ⟨?_, by simp [intOf]; omega⟩
        all_goals have hof5 := own_keep HFF.out hbel (fun b hb => (HFF.out.lt b hb).2)
        all_goals exact ⟨k + 1, setPartsM rows' k _, by omega, by go_num, HOW.out.step (by omega) (by omega) (by omega) hbel ho5, HOW.out.offs hbel hof5 _, ((hbx.below hbel hbx.lt).far (by show w.heap.size ≠ g; omega) _), ((hrx.below hbel hrx.lt).far (by show w.heap.size + 1 ≠ g; omega) _), (HOW.out.bel.trans (hbel.mono HOW.out.bel.size)).setCell (by show w.heap.size ≤ g; omega) _⟩
      · obtain rfl : k = ms.length := by omega
        have q0 := hbx.cell 0
        have q1 := hbx.cell 1
        have q2 := hbx.cell 2
        have q4 := hbx.cell 4
        have z0 := hrx.cell 0
        have z1 := hrx.cell 1
        have z2 := hrx.cell 2
        have z3 := hrx.cell 3
        have z4 := hrx.cell 4
        have f0 := hrx.frozen 0
        have f1 := hrx.frozen 1
        have f2 := hrx.frozen 2
        have f3 := hrx.frozen 3
        have f4 := hrx.frozen 4
        have HOW := Lib.hid ho
        have HFF := Lib.hid hof
        clear ho hof
        go_wp2
        have HB5 := (((((hrx.set_ 0 (.int .i64 ck)).set_ 1 (.int .i64 wt)).set_ 2 (.int .i64 gn)).set_ 3 (.slice A5 ms.length c5)).set_ 4 (.slice A6 os.length c6))
        have HO5 := ((((HOW.out.under (a := ⟨w.heap.size + 1, 0, none⟩) (by simp) (.int .i64 ck)).under (a := ⟨w.heap.size + 1, 1, none⟩) (by simp) (.int .i64 wt)).under (a := ⟨w.heap.size + 1, 2, none⟩) (by simp) (.int .i64 gn)).under (a := ⟨w.heap.size + 1, 3, none⟩) (by simp) (.slice A5 ms.length c5)).under (a := ⟨w.heap.size + 1, 4, none⟩) (by simp) (.slice A6 os.length c6)
        have HF5 := ownsRow_setCell_below (ownsRow_setCell_below (ownsRow_setCell_below (ownsRow_setCell_below (ownsRow_setCell_below HFF.out (a := ⟨w.heap.size + 1, 0, none⟩) (by simp) (.int .i64 ck)) (a := ⟨w.heap.size + 1, 1, none⟩) (by simp) (.int .i64 wt)) (a := ⟨w.heap.size + 1, 2, none⟩) (by simp) (.int .i64 gn)) (a := ⟨w.heap.size + 1, 3, none⟩) (by simp) (.slice A5 ms.length c5)) (a := ⟨w.heap.size + 1, 4, none⟩) (by simp) (.slice A6 os.length c6)
        have HL5 : Below w.heap.size w (((((wr.setCell ⟨w.heap.size + 1, 0, none⟩ (.int .i64 ck)).setCell ⟨w.heap.size + 1, 1, none⟩ (.int .i64 wt)).setCell ⟨w.heap.size + 1, 2, none⟩ (.int .i64 gn)).setCell ⟨w.heap.size + 1, 3, none⟩ (.slice A5 ms.length c5)).setCell ⟨w.heap.size + 1, 4, none⟩ (.slice A6 os.length c6)) := ((((hbl.setCell (Nat.le_succ _) _).setCell (Nat.le_succ _) _).setCell (Nat.le_succ _) _).setCell (Nat.le_succ _) _).setCell (Nat.le_succ _) _
        generalize ((((wr.setCell ⟨w.heap.size + 1, 0, none⟩ (.int .i64 ck)).setCell ⟨w.heap.size + 1, 1, none⟩ (.int .i64 wt)).setCell ⟨w.heap.size + 1, 2, none⟩ (.int .i64 gn)).setCell ⟨w.heap.size + 1, 3, none⟩ (.slice A5 ms.length c5)).setCell ⟨w.heap.size + 1, 4, none⟩ (.slice A6 os.length c6) = W5 at *
        simp only [List.setIfInBounds_toArray, List.set_cons_succ, List.set_cons_zero] at HB5
        have y0 := HB5.cell 0
        have y1 := HB5.cell 1
        have y2 := HB5.cell 2
        have y3 := HB5.cell 3
        have y4 := HB5.cell 4
        exact bodyPost_ret (v := .agg #[.int .i64 ck, .int .i64 wt, .int .i64 gn, .slice A5 ms.length c5, .slice A6 os.length c6]) (by simp [results, Try.results30, go_sem, y0, y1, y2, y3, y4]) rfl ⟨.slice A5 ms.length c5, .slice A6 os.length c6, rows', rfl, HO5.more (by omega), own_base HF5 (by omega), HL5⟩)

theorem CopyPostM.gv {w w' : World} {c : GroupD} {e : Ending} (h : CopyPostM w c e w') (hc : c.mems.length ≤ 9223372036854775807) (hd : c.offs.length ≤ 9223372036854775807) (hp : ∀ t ∈ c.mems, t.parts.length ≤ 9223372036854775807) : ∃ A n B m, e = .returned (groupV c (.slice A c.mems.length n) (.slice B c.offs.length m)) ∧ Gv w' (groupV c (.slice A c.mems.length n) (.slice B c.offs.length m)) c ∧ Below w.heap.size w w' := by
  obtain ⟨mv, ov, rows, rfl, ho, hf, hb⟩ := h
  have hl : rows.length = c.mems.length := by rw [← ho.fst]; simp
  have hg : Gv w' (groupV c mv ov) c := by
    refine ⟨mv, ov, rfl, ⟨rows, ho.fst, Sl.of_own ho.own, fun t ht => ?_⟩, Sl.of_own hf, hc, hd⟩
    have ht' : t ∈ rows.take c.mems.length := by rw [← hl, List.take_length]; exact ht
    refine ⟨?_, hp _ (by rw [← ho.fst]; exact List.mem_map_of_mem ht)⟩
    have := Sl.of_own (ho.parts t ht')
    exact this
  obtain ⟨A, n, rfl, -⟩ := (Sl.of_own ho.own).form
  obtain ⟨B, m, rfl, -⟩ := (Sl.of_own hf).form
  exact ⟨A, n, B, m, rfl, hg, hb⟩
end Go.Proofs.Ytjkoceacjbhblaa
namespace Go.Proofs.Ytjkoceacjbhblaa
open Go.RowKit

theorem Own.keep {w0 w w' : World} {base k : Nat} {v : Value} {ds : List TxnD} {rows : List (TxnD × Value)} (h : Own w0 w base v ds rows k) (hb : Below w.heap.size w w') : Own w0 w' base v ds rows k :=
  ⟨h.fst, own_keep h.own hb (fun b hb => (h.own.lt b hb).2), h.bel.trans (hb.mono h.bel.size), h.old, fun t ht => own_keep (h.parts t ht) hb (fun b hb => ((h.parts t ht).lt b hb).2), h.apart⟩
theorem Own.rebase {w0 w1 w : World} {base base' n : Nat} {v : Value} {ds : List TxnD} {rows : List (TxnD × Value)} (h : Own w1 w base v ds rows n) (hn : n = ds.length) (hb : base' ≤ base) (hw : Below w0.heap.size w0 w) : Own w0 w base' v ds rows n := by
  have hl : rows.length = ds.length := by rw [← h.fst]; simp
  refine ⟨h.fst, own_base h.own hb, hw, fun t ht => ?_, fun t ht => own_base (h.parts t ht) hb, h.apart⟩
  rw [List.drop_of_length_le (by omega)] at ht
  simp at ht

/-- the bounds that a coordinator which may be keeps -/
theorem CoordOk.bounds {c : CoordD} (h : CoordOk c) : c.txns.length * 80 ≤ 140737488355328 ∧ (∀ t ∈ c.txns, t.parts.length * 8 ≤ 140737488355328) ∧ c.txns.length ≤ 9223372036854775807 ∧ ∀ t ∈ c.txns, t.parts.length ≤ 9223372036854775807 := by
  have h1 := h.many
  have h2 : ∀ t ∈ c.txns, t.parts.length ≤ 4 := by
    intro t ht
    obtain ⟨i, hi, rfl⟩ := List.mem_iff_getElem.1 ht
    exact (h.all i hi hi).1.rises.small
  exact ⟨by omega, fun t ht => by have := h2 t ht; omega, by omega, fun t ht => by have := h2 t ht; omega⟩

/-- a refusal: no coordinator, an error number -/
def zeroV : Value := .agg #[.int .i64 0, .int .i64 0, .int .i64 0, .slice none 0 0]
def Refuses (n : Int) (w : World) (e : Ending) (w' : World) : Prop := e = .returned (.tuple #[.agg #[.int .i64 0, .int .i64 0, .int .i64 0, .slice none 0 0], .int .i64 0, .int .i64 n]) ∧ Below w.heap.size w w'
def Found (c : CoordD) (i : Int) (w : World) (e : Ending) (w' : World) : Prop := ∃ tv rows, e = .returned (.tuple #[coordV c tv, .int .i64 i, .int .i64 0]) ∧ Own w w' w.heap.size tv c.txns rows c.txns.length ∧ Below w.heap.size w w'

end Go.Proofs.Ytjkoceacjbhblaa
namespace Go.Proofs.Ytjkoceacjbhblaa
open Go.RowKit

/-- the fault of a call that names a producer: n is not 0 -/
def NameFault (c : CoordD) (s : ByteArray) (n : Int) : Prop := (¬ CoordOk c ∧ n = 12) ∨ (CoordOk c ∧ ¬ NameOk s ∧ n = 4)
/-- the fault of a call that names a producer and a version -/
def KnownFault (c : CoordD) (s : ByteArray) (ver n : Int) : Prop := NameFault c s n ∨ (CoordOk c ∧ NameOk s ∧ ((idxOf c.txns s = none ∧ n = 5) ∨ (∃ i, ∃ h : i < c.txns.length, idxOf c.txns s = some i ∧ c.txns[i].ver ≠ ver ∧ n = 10)))
def Known (c : CoordD) (s : ByteArray) (ver : Int) (i : Nat) : Prop := CoordOk c ∧ NameOk s ∧ idxOf c.txns s = some i ∧ ∃ h : i < c.txns.length, c.txns[i].ver = ver
theorem KnownFault.ne {c : CoordD} {s : ByteArray} {ver n : Int} (h : KnownFault c s ver n) : n ≠ 0 := by
  rcases h with (⟨_, rfl⟩ | ⟨_, _, rfl⟩) | ⟨_, _, ⟨_, rfl⟩ | ⟨_, _, _, _, rfl⟩⟩ <;> decide

theorem own_rows {rows : List (TxnD × Value)} {ts : List TxnD} (h : rows.map Prod.fst = ts) : rows.length = ts.length := by
  rw [← h]
  simp
theorem fst_get {rows : List (TxnD × Value)} {ts : List TxnD} (h : rows.map Prod.fst = ts) {i : Nat} (hi : i < rows.length) (hi' : i < ts.length) : rows[i].1 = ts[i] := by
  subst h
  simp
end Go.Proofs.Ytjkoceacjbhblaa
namespace Go.Proofs.Ytjkoceacjbhblaa
open Go.RowKit

/-- a coordinator in memory of its own, and beside it the plain values xs -/
def CRes (c : CoordD) (xs : List Value) (w : World) (e : Ending) (w' : World) : Prop :=
  ∃ tv rows, e = .returned (.tuple (coordV c tv :: xs).toArray) ∧ Own w w' w.heap.size tv c.txns rows c.txns.length ∧ Below w.heap.size w w'
theorem own_nil {w0 w : World} {base : Nat} (hb : Below w0.heap.size w0 w) : Own w0 w base (.slice none 0 0) [] [] 0 :=
  ⟨rfl, World.ownsRow_nil _ _ _ _, hb, by simp, by simp, by simp⟩
theorem CRes.zero {xs : List Value} {w w' : World} (hb : Below w.heap.size w w') : CRes zeroC xs w (.returned (.tuple (.agg #[.int .i64 0, .int .i64 0, .int .i64 0, .slice none 0 0] :: xs).toArray)) w' :=
  ⟨.slice none 0 0, [], rfl, own_nil hb, hb⟩
/-- small coordinators: what a copy asks -/
def CoordD.Fits (c : CoordD) : Prop := c.txns.length * 80 ≤ 140737488355328 ∧ (∀ t ∈ c.txns, t.parts.length * 8 ≤ 140737488355328) ∧ c.txns.length ≤ 9223372036854775807 ∧ ∀ t ∈ c.txns, t.parts.length ≤ 9223372036854775807
theorem zero_fits : zeroC.Fits := by simp [CoordD.Fits, zeroC]

theorem Own.alloc {w0 w : World} {base n : Nat} {v : Value} {ds : List TxnD} {rows : List (TxnD × Value)} (h : Own w0 w base v ds rows n) (o : Obj) : Own w0 (w.alloc o) base v ds rows n :=
  h.keep ((Below.refl _ _).alloc (Nat.le_refl _) o)
/-- f at the first k -/
def upTo {α : Type} (f : α → α) (l : List α) (k : Nat) : List α := (l.take k).map f ++ l.drop k
theorem CopyPost.open_ {c : CoordD} {w w' : World} {e : Ending} (h : CopyPost w c e w') (hc : c.txns.length ≤ 9223372036854775807) (hp : ∀ t ∈ c.txns, t.parts.length ≤ 9223372036854775807) : ∃ A m, e = .returned (.agg #[.int .i64 c.clock, .int .i64 c.next, .int .i64 c.wait, .slice A c.txns.length m]) ∧ Cv w' (.agg #[.int .i64 c.clock, .int .i64 c.next, .int .i64 c.wait, .slice A c.txns.length m]) c ∧ Below w.heap.size w w' := by
  obtain ⟨tv, rows, rfl, ho, hb⟩ := h
  obtain ⟨A, m, rfl, -⟩ := (Sl.of_own ho.own).form
  exact ⟨A, m, rfl, ho.cv rfl hc hp, hb⟩

def tickT (ck wt : Int) (t : TxnD) : TxnD := if t.state = 2 ∧ wt ≤ ck - t.since ∧ t.ver < 1073741824 then ⟨t.name, t.pid, t.ver + 1, 4, t.parts, t.since, t.done⟩ else t
def tickC (c : CoordD) (n : Int) : CoordD := ⟨c.clock + n, c.next, c.wait, c.txns.map (tickT (c.clock + n) c.wait)⟩
def TickOk (c : CoordD) (n : Int) : Prop := 0 ≤ n ∧ n ≤ 1000 ∧ c.clock + n ≤ 1073741824
def TickTo (c : CoordD) (n : Int) (c' : CoordD) (code : Int) : Prop :=
  (¬ CoordOk c ∧ c' = zeroC ∧ code = 12) ∨ (CoordOk c ∧ ¬ TickOk c n ∧ c' = zeroC ∧ code = 2) ∨ (CoordOk c ∧ TickOk c n ∧ c' = tickC c n ∧ code = 0)
theorem tickT_parts (ck wt : Int) (t : TxnD) : (tickT ck wt t).parts = t.parts := by unfold tickT; split <;> rfl
theorem CoordOk.fits {c : CoordD} (h : CoordOk c) : c.Fits := h.bounds
theorem tick_fits {c : CoordD} {n : Int} (h : CoordOk c) : (tickC c n).Fits := by
  obtain ⟨h1, h2, h3, h4⟩ := h.fits
  refine ⟨by simpa [tickC] using h1, ?_, by simpa [tickC] using h3, ?_⟩
  · intro t ht
    obtain ⟨t', ht', rfl⟩ := List.mem_map.1 ht
    rw [tickT_parts]; exact h2 t' ht'
  · intro t ht
    obtain ⟨t', ht', rfl⟩ := List.mem_map.1 ht
    rw [tickT_parts]; exact h4 t' ht'
theorem TickTo.fits {c : CoordD} {n : Int} {c' : CoordD} {code : Int} (h : TickTo c n c' code) : c'.Fits := by
  rcases h with ⟨-, rfl, -⟩ | ⟨-, -, rfl, -⟩ | ⟨h, -, rfl, -⟩
  · exact zero_fits
  · exact zero_fits
  · exact tick_fits h

end Go.Proofs.Ytjkoceacjbhblaa
