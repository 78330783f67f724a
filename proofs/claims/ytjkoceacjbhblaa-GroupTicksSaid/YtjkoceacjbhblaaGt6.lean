/- Parts of a proof, merged: CloneMem, CloneOff, GroupCopy, FindB, KnownA, CoordR, GFind, GWh, RefCopyG. No condition. -/
import Derived.Test.YtjkoceacjbhblaaGt1
import Derived.Test.YtjkoceacjbhblaaGt4
import Derived.Test.YtjkoceacjbhblaaGt5
import Derived.Deep.RegionLaw
namespace Go.Proofs.Ytjkoceacjbhblaa
open Go.RowKit

theorem CloneMem_info : (Try.prog.info? 79).map (fun i => (i.zero, i.size, i.bytes)) = some (some (.agg #[.string .empty, .int .i64 0, .slice none 0 0]), 3, 48) := by kernel_rfl
set_option maxRecDepth 100000 in
set_option maxHeartbeats 1000000 in
theorem CloneMem_any (v : Value) (n : Nat) (xs : List Value) (w : World) (h : Sl w 3 v n xs) (h1 : ∀ x ∈ xs, x.oneCell' = true) (hm : n ≤ maxLen) (hb : n * 48 ≤ 140737488355328) :
    Calls Try.prog 68 #[v] w fun e w' => ∃ v', e = .returned v' ∧ w'.ownsRow w.heap.size 79 3 v' n xs ∧ Below w.heap.size w w' := by
  obtain ⟨i0, hi0, hz0, hz1, hz2⟩ := info_parts CloneMem_info
  obtain ⟨hl, A, c, rfl, hc, hcl⟩ := h
  rcases A with _ | a
  · have hn : n = 0 := by
      rcases Nat.eq_zero_or_pos n with h0 | h0
      · exact h0
      · obtain ⟨_, _, e, _⟩ := hcl h0
        cases e
    subst hn
    have hx : xs = [] := List.eq_nil_of_length_eq_zero (by simpa using hl)
    have HX := Lib.hid hx
    clear hx
    have hnil := fun W => Lib.run_eql_slice_nil (P := Try.prog) W 33 79 none 0 c 0 0 Try.underlying33
    go_enter Try.func68, Try.ntmps68
    go_wp2
    go_ret
    exact ⟨_, rfl, by rw [HX.out]; exact World.ownsRow_nil _ _ _ _, Below.refl _ _⟩
  · have hsl : Sl w 3 (.slice (some a) n c) n xs := ⟨hl, some a, c, rfl, hc, hcl⟩
    have hnil := fun W => Lib.run_eql_slice_nil (P := Try.prog) W 33 79 (some a) n c 0 0 Try.underlying33
    go_enter Try.func68, Try.ntmps68
    go_wp2_with (at_builtin; go_must (refine wpList_append_sl _ rfl (.tmp 5) (.tmp 6) 33 rfl w.heap.size 79 i0 (.agg #[.string .empty, .int .i64 0, .slice none 0 0]) 3 48 Try.underlying33 hi0 hz0 hz1 hz2 rfl (by decide) _ _ _ (by rfl) (own_lit (base := w.heap.size) w 79 _ 3 0 (Nat.le_refl _) (by simp [maxLen]) rfl) _ n xs (by rfl) (hsl.alloc _) h1 (by omega) (by omega) (by simp) ?_; intro v1 w1 ho1 hg1 ha1))
    go_ret
    exact ⟨v1, rfl, own_eq ho1 (by omega) (by simp), ((Below.refl _ _).alloc (Nat.le_refl _) _).grown hg1 (by simp) (by intro k hk; simp [Value.ownBlock] at hk; omega)⟩

end Go.Proofs.Ytjkoceacjbhblaa
namespace Go.Proofs.Ytjkoceacjbhblaa
open Go.RowKit

theorem CloneOff_info : (Try.prog.info? 81).map (fun i => (i.zero, i.size, i.bytes)) = some (some (.agg #[.int .i64 0, .int .i64 0]), 2, 16) := by kernel_rfl
set_option maxRecDepth 100000 in
set_option maxHeartbeats 1000000 in
theorem CloneOff_any (v : Value) (n : Nat) (xs : List Value) (w : World) (h : Sl w 2 v n xs) (h1 : ∀ x ∈ xs, x.oneCell' = true) (hm : n ≤ maxLen) (hb : n * 16 ≤ 140737488355328) :
    Calls Try.prog 69 #[v] w fun e w' => ∃ v', e = .returned v' ∧ w'.ownsRow w.heap.size 81 2 v' n xs ∧ Below w.heap.size w w' := by
  obtain ⟨i0, hi0, hz0, hz1, hz2⟩ := info_parts CloneOff_info
  obtain ⟨hl, A, c, rfl, hc, hcl⟩ := h
  rcases A with _ | a
  · have hn : n = 0 := by
      rcases Nat.eq_zero_or_pos n with h0 | h0
      · exact h0
      · obtain ⟨_, _, e, _⟩ := hcl h0
        cases e
    subst hn
    have hx : xs = [] := List.eq_nil_of_length_eq_zero (by simpa using hl)
    have HX := Lib.hid hx
    clear hx
    have hnil := fun W => Lib.run_eql_slice_nil (P := Try.prog) W 34 81 none 0 c 0 0 Try.underlying34
    go_enter Try.func69, Try.ntmps69
    go_wp2
    go_ret
    exact ⟨_, rfl, by rw [HX.out]; exact World.ownsRow_nil _ _ _ _, Below.refl _ _⟩
  · have hsl : Sl w 2 (.slice (some a) n c) n xs := ⟨hl, some a, c, rfl, hc, hcl⟩
    have hnil := fun W => Lib.run_eql_slice_nil (P := Try.prog) W 34 81 (some a) n c 0 0 Try.underlying34
    go_enter Try.func69, Try.ntmps69
    go_wp2_with (at_builtin; go_must (refine wpList_append_sl _ rfl (.tmp 5) (.tmp 6) 34 rfl w.heap.size 81 i0 (.agg #[.int .i64 0, .int .i64 0]) 2 16 Try.underlying34 hi0 hz0 hz1 hz2 rfl (by decide) _ _ _ (by rfl) (own_lit (base := w.heap.size) w 81 _ 2 0 (Nat.le_refl _) (by simp [maxLen]) rfl) _ n xs (by rfl) (hsl.alloc _) h1 (by omega) (by omega) (by simp) ?_; intro v1 w1 ho1 hg1 ha1))
    go_ret
    exact ⟨v1, rfl, own_eq ho1 (by omega) (by simp), ((Below.refl _ _).alloc (Nat.le_refl _) _).grown hg1 (by simp) (by intro k hk; simp [Value.ownBlock] at hk; omega)⟩

end Go.Proofs.Ytjkoceacjbhblaa
namespace Go.Proofs.Ytjkoceacjbhblaa
open Go.RowKit
attribute [local go_sem ↓] Go.wp_at_zero Go.wp_at_succ

theorem mcells_one (l : List (MemD × Value)) (h : ∀ t ∈ l, t.2.oneCell' = true) : ∀ x ∈ l.flatMap mcells, x.oneCell' = true := by
  intro x hx
  simp only [List.mem_flatMap] at hx
  obtain ⟨e, he, hx⟩ := hx
  simp only [mcells, List.mem_cons, List.not_mem_nil, or_false] at hx
  rcases hx with rfl | rfl | rfl <;> first | rfl | exact h e he
theorem ocells_one (l : List OffD) : ∀ x ∈ l.flatMap ocells, x.oneCell' = true := by
  intro x hx
  simp only [List.mem_flatMap] at hx
  obtain ⟨e, he, hx⟩ := hx
  simp only [ocells, List.mem_cons, List.not_mem_nil, or_false] at hx
  rcases hx with rfl | rfl <;> rfl
/-- the rows with new parts at place k -/
def setPartsM (rows : List (MemD × Value)) (k : Nat) (v : Value) : List (MemD × Value) := rows.modify k fun t => (t.1, v)
theorem setPartsM_fst : ∀ (rows : List (MemD × Value)) (k : Nat) (v : Value), (setPartsM rows k v).map Prod.fst = rows.map Prod.fst
  | [], k, v => by simp [setPartsM]
  | t :: rows, 0, v => by simp [setPartsM]
  | t :: rows, k + 1, v => by
    have := setPartsM_fst rows k v
    simp only [setPartsM] at *
    simp [this]
theorem setPartsM_cells : ∀ (rows : List (MemD × Value)) (k : Nat) (v : Value), k < rows.length → (setPartsM rows k v).flatMap mcells = (rows.flatMap mcells).set (k * 3 + 2) v
  | [], k, v, h => by simp at h
  | t :: rows, 0, v, h => by simp [setPartsM, mcells]
  | t :: rows, k + 1, v, h => by
    have ih := setPartsM_cells rows k v (by simpa using h)
    simp only [setPartsM] at ih
    have hl : (mcells t).length = 3 := rfl
    simp only [setPartsM, List.modify_succ_cons, List.flatMap_cons, ih]
    rw [List.set_append_right _ _ (by rw [hl]; omega), hl, show (k + 1) * 3 + 2 - 3 = k * 3 + 2 from by omega]
theorem setPartsM_take (rows : List (MemD × Value)) (k : Nat) (v : Value) (h : k < rows.length) : (setPartsM rows k v).take (k + 1) = rows.take k ++ [(rows[k].1, v)] := by
  have hl : k < (setPartsM rows k v).length := by simp [setPartsM]; exact h
  rw [List.take_succ_eq_append_getElem hl]
  congr 1
  · simp only [setPartsM, List.take_modify]
    exact List.modify_eq_self (by simp; omega)
  · simp [setPartsM]
theorem setPartsM_drop (rows : List (MemD × Value)) (k : Nat) (v : Value) : (setPartsM rows k v).drop (k + 1) = rows.drop (k + 1) := by
  simp [setPartsM, List.drop_modify_of_lt]

/-- v is a row of members of the call's own (the call began in w0); the first k have parts of their own, no two in one block; the others have the parts that they had -/
structure OwnM (w0 w : World) (base : Nat) (v : Value) (ds : List MemD) (rows : List (MemD × Value)) (k : Nat) : Prop where
  fst : rows.map Prod.fst = ds
  own : w.ownsRow base 79 3 v ds.length (rows.flatMap mcells)
  bel : Below w0.heap.size w0 w
  old : ∀ t ∈ rows.drop k, Is w0 t.2 t.1.parts
  parts : ∀ t ∈ rows.take k, w.ownsRow base 3 1 t.2 t.1.parts.length (t.1.parts.map (Value.int .i64))
  apart : (rows.take k).Pairwise fun a b => a.2.ownBlock = none ∨ a.2.ownBlock ≠ b.2.ownBlock

theorem OwnM.step {w0 w w5 : World} {base g c k : Nat} {ds : List MemD} {rows : List (MemD × Value)} {v5 : Value} (h : OwnM w0 w base (.slice (some ⟨g, 0, none⟩) ds.length c) ds rows k) (hk : k < rows.length) (hb0 : w0.heap.size ≤ base) (hb : base ≤ w.heap.size)
    (hbel : Below w.heap.size w w5) (ho : w5.ownsRow w.heap.size 3 1 v5 rows[k].1.parts.length (rows[k].1.parts.map (Value.int .i64))) :
    OwnM w0 (w5.setCell ⟨g, k * 3 + 2, none⟩ v5) base (.slice (some ⟨g, 0, none⟩) ds.length c) ds (setPartsM rows k v5) (k + 1) := by
  have hgl := h.own.lt g rfl
  have hown5 := own_keep h.own hbel (fun b hb => (h.own.lt b hb).2)
  have hg5 : ∃ cs fr, w5.heap[g]? = some (.cells cs 79 fr) := by
    rcases hown5.2 with ⟨e, _⟩ | ⟨g', cap, cur, e, _, hh, _⟩
    · cases e
    · injection e with e1
      injection e1 with e1
      injection e1 with e1
      subst e1
      exact ⟨_, _, hh⟩
  obtain ⟨cs, fr, hg5⟩ := hg5
  refine ⟨(setPartsM_fst rows k v5).trans h.fst, ?_, ?_, ?_, ?_, ?_⟩
  · rw [setPartsM_cells rows k v5 hk]
    exact (World.ownsRow.stored hown5 _ _).1
  · exact (h.bel.trans (hbel.mono h.bel.size)).setCell (by show w0.heap.size ≤ g; omega) _
  · intro t ht
    rw [setPartsM_drop] at ht
    refine h.old t ?_
    have : rows.drop (k + 1) = (rows.drop k).drop 1 := by simp [List.drop_drop]
    rw [this] at ht
    exact List.mem_of_mem_drop ht
  · intro t ht
    rw [setPartsM_take rows k v5 hk] at ht
    rcases List.mem_append.1 ht with ht | ht
    · exact own_far (own_keep (h.parts t ht) hbel (fun b hb => ((h.parts t ht).lt b hb).2)) hg5 (by decide) _ _
    · simp only [List.mem_singleton] at ht
      subst ht
      exact own_far (own_base ho hb) hg5 (by decide) _ _
  · rw [setPartsM_take rows k v5 hk]
    refine List.pairwise_append.2 ⟨h.apart, by simp, fun a ha b hb' => ?_⟩
    simp only [List.mem_singleton] at hb'
    subst hb'
    rcases hab : a.2.ownBlock with _ | x
    · exact Or.inl rfl
    · refine Or.inr fun e => ?_
      have h1 := (h.parts a ha).lt x hab
      have h2 := ho.lt x e.symm
      omega
theorem OwnM.more {w0 w : World} {base base' k : Nat} {v : Value} {ds : List MemD} {rows : List (MemD × Value)} (h : OwnM w0 w base v ds rows k) (hb : base' ≤ base) : OwnM w0 w base' v ds rows k :=
  ⟨h.fst, own_base h.own hb, h.bel, h.old, fun t ht => own_base (h.parts t ht) hb, h.apart⟩

theorem OwnM.under {w0 w : World} {base k : Nat} {v : Value} {ds : List MemD} {rows : List (MemD × Value)} (h : OwnM w0 w base v ds rows k) {a : Addr} (ha : a.block < base ∧ w0.heap.size ≤ a.block) (u : Value) : OwnM w0 (w.setCell a u) base v ds rows k :=
  ⟨h.fst, ownsRow_setCell_below h.own ha.1 u, h.bel.setCell ha.2 u, h.old, fun t ht => ownsRow_setCell_below (h.parts t ht) ha.1 u, h.apart⟩

theorem OwnM.at_ {w0 w : World} {base : Nat} {v : Value} {ds : List MemD} {rows : List (MemD × Value)} {k : Nat} (h : OwnM w0 w base v ds rows k) (hn : 0 < ds.length) : ∃ g c, v = .slice (some ⟨g, 0, none⟩) ds.length c ∧ base ≤ g ∧ g < w.heap.size ∧ ds.length ≤ c ∧ ∀ i (hi : i < rows.length) (j : Nat), j < 3 → w.cell? ⟨g, i * 3 + j, none⟩ = (mcells rows[i])[j]? ∧ w.frozen? ⟨g, i * 3 + j, none⟩ = false := by
  obtain ⟨g, c, hv, hb, hlt⟩ := h.own.form hn
  subst hv
  have hle : ds.length ≤ c := by
    obtain ⟨_, A, c', he, hc, _⟩ := Sl.of_own h.own
    injection he with _ _ e; omega
  refine ⟨g, c, rfl, hb, hlt, hle, fun i hi j hj => ⟨?_, World.ownsRow.frozenAt h.own _⟩⟩
  have hl : rows.length = ds.length := by rw [← h.fst]; simp
  rw [World.ownsRow.cellAt h.own _ (by omega)]
  exact cells_get mcells 3 (fun _ => rfl) rows i hi j hj

theorem OwnM.offs {w0 w w5 : World} {base base' g c k j n : Nat} {ds : List MemD} {rows : List (MemD × Value)} {u : Value} {xs : List Value} (h : OwnM w0 w base (.slice (some ⟨g, 0, none⟩) ds.length c) ds rows k) (hbel : Below w.heap.size w w5) (hof : w5.ownsRow base' 81 2 u n xs) (v5 : Value) : (w5.setCell ⟨g, j, none⟩ v5).ownsRow base' 81 2 u n xs := by
  have hown5 := own_keep h.own hbel (fun b hb => (h.own.lt b hb).2)
  rcases hown5.2 with ⟨e, _⟩ | ⟨g', cap, cur, e, _, hh, _⟩
  · cases e
  · injection e with e1
    injection e1 with e1
    injection e1 with e1
    subst e1
    exact own_far hof hh (by decide) _ _

/-- the loop of group.Copy -/
def CopyLpM (w : World) (bc zc : Array Value) (mv ov : Value) (ms : List MemD) (os : List OffD) (i : Value) (wr : World) : Prop :=
  ∃ (k : Nat) (rows : List (MemD × Value)), k ≤ ms.length ∧ i = .int .i64 k ∧ OwnM w wr (w.heap.size + 2) mv ms rows k ∧ wr.ownsRow (w.heap.size + 2) 81 2 ov os.length (os.flatMap ocells) ∧ Blk wr w.heap.size 36 bc ∧ Blk wr (w.heap.size + 1) 36 zc ∧ Below w.heap.size w wr
/-- what group.Copy leaves -/
def CopyPostM (w : World) (c : GroupD) (e : Ending) (w' : World) : Prop := ∃ mv ov rows, e = .returned (groupV c mv ov) ∧ OwnM w w' w.heap.size mv c.mems rows c.mems.length ∧ w'.ownsRow w.heap.size 81 2 ov c.offs.length (c.offs.flatMap ocells) ∧ Below w.heap.size w w'

set_option maxRecDepth 100000 in
set_option maxHeartbeats 8000000 in
theorem groupCopy_any (v : Value) (c : GroupD) (w : World) (h : Gv w v c) (hb : c.mems.length * 48 ≤ 140737488355328) (hp : ∀ t ∈ c.mems, t.parts.length * 8 ≤ 140737488355328) (ho : c.offs.length * 16 ≤ 140737488355328) :
    Calls Try.prog 30 #[v] w (CopyPostM w c) := by
  obtain ⟨xm, xo, rfl, ⟨rows, hfst, hsl, hparts⟩, hof, hlm, hlo⟩ := h
  unfold groupV
  obtain ⟨ck, wt, gn, ms, os⟩ := c
  simp only at *
  obtain ⟨A, c, rfl, hc⟩ := hsl.form
  obtain ⟨B, d, rfl, hd⟩ := Sl.form hof
  have H1 := Lib.hid hsl
  have H2 := Lib.hid hparts
  have H3 := Lib.hid hfst
  have H4 := Lib.hid hp
  have H5 := Lib.hid hof
  clear hsl hparts hfst hp hof
  have hone : ∀ x ∈ rows.flatMap mcells, x.oneCell' = true := mcells_one rows (fun t ht => Sl.oneCell (H2.out t ht).1)
  have HONE := Lib.hid hone
  clear hone
  have hm1 : ms.length ≤ maxLen := by simp only [maxLen]; omega
  have hm2 : os.length ≤ maxLen := by simp only [maxLen]; omega
  have HM1 := Lib.hid hm1
  have HM2 := Lib.hid hm2
  have HB := Lib.hid hb
  have HO := Lib.hid ho
  clear hm1 hm2 hb ho
  go_enter Try.func30, Try.ntmps30
  have hbd : Below w.heap.size w ((w.alloc (.cells #[.int .i64 ck, .int .i64 wt, .int .i64 gn, .slice A ms.length c, .slice B os.length d] 36)).alloc (.cells #[.int .i64 0, .int .i64 0, .int .i64 0, .slice none 0 0, .slice none 0 0] 36)).drew := (((Below.refl _ _).alloc (Nat.le_refl _) _).alloc (by simp) _).drew
  have bx := ((Blk.new w 36 #[.int .i64 ck, .int .i64 wt, .int .i64 gn, .slice A ms.length c, .slice B os.length d]).alloc (.cells #[.int .i64 0, .int .i64 0, .int .i64 0, .slice none 0 0, .slice none 0 0] 36))
  have bxd := bx.below (B := w.heap.size + 2) ((Below.refl _ _).drew) (by omega)
  go_wp2
  go_region_with (first
    | (go_at_call 68; refine (CloneMem_any (.slice A ms.length c) ms.length (rows.flatMap mcells) _ (H1.out.below hbd) HONE.out HM1.out HB.out).mono ?_; rintro e w5 ⟨v5, rfl, ho5, hb5⟩; obtain ⟨A5, c5, rfl, hc5⟩ := (Sl.of_own ho5).form; have k4 := (hb5.cell (p := ⟨w.heap.size, 4, none⟩) (by simp; omega)).trans (bxd.cell 4); have bx5 := bxd.below hb5 (by simp; omega); have hlt5 : w.heap.size < w5.heap.size := bx5.lt)
    | (go_at_call 69; refine (CloneOff_any (.slice B os.length d) os.length (os.flatMap ocells) _ (Sl.below H5.out (below_then hbd hb5)) (ocells_one os) HM2.out HO.out).mono ?_; rintro e w6 ⟨v6, rfl, ho6, hb6⟩; obtain ⟨A6, c6, rfl, hc6⟩ := (Sl.of_own ho6).form; have bx6 := bx5.below hb6 hlt5; have r3 := bx6.cell 3; have r4 := bx6.cell 4; have s3 := bx6.frozen 3; have s4 := bx6.frozen 4; have hlt6 : w.heap.size < w6.heap.size := bx6.lt))
  all_goals (
    have rx := (Blk.new (w.alloc (.cells #[.int .i64 ck, .int .i64 wt, .int .i64 gn, .slice A ms.length c, .slice B os.length d] 36)) 36 #[.int .i64 0, .int .i64 0, .int .i64 0, .slice none 0 0, .slice none 0 0]).below (B := w.heap.size + 2) ((Below.refl _ _).drew) (by simp)
    have sz5 := hb5.size
    have bl6 := below_then hbd (below_then hb5 hb6)
    simp only [World.size_alloc, World.size_drew] at rx ho5 hb5 sz5
    have rx6 := (rx.below hb5 (by omega)).below hb6 (by omega)
    have own5 := own_keep ho5 hb6 (fun b hb => (ho5.lt b hb).2)
    have own6 := own_base (base' := w.heap.size + 2) ho6 (by omega)
    have bx8 := (bx6.set_ 3 (.slice A5 ms.length c5)).set_ 4 (.slice A6 os.length c6)
    have rx8 := (rx6.far (p := ⟨w.heap.size, 3, none⟩) (by simp) (.slice A5 ms.length c5)).far (p := ⟨w.heap.size, 4, none⟩) (by simp) (.slice A6 os.length c6)
    have bl8 := (bl6.setCell (p := ⟨w.heap.size, 3, none⟩) (Nat.le_refl _) (.slice A5 ms.length c5)).setCell (p := ⟨w.heap.size, 4, none⟩) (Nat.le_refl _) (.slice A6 os.length c6)
    have own58 := ownsRow_setCell_below (ownsRow_setCell_below own5 (a := ⟨w.heap.size, 3, none⟩) (by simp; omega) (.slice A5 ms.length c5)) (a := ⟨w.heap.size, 4, none⟩) (by simp; omega) (.slice A6 os.length c6)
    have own68 := ownsRow_setCell_below (ownsRow_setCell_below own6 (a := ⟨w.heap.size, 3, none⟩) (by simp) (.slice A5 ms.length c5)) (a := ⟨w.heap.size, 4, none⟩) (by simp) (.slice A6 os.length c6)
    generalize (w6.setCell ⟨w.heap.size, 3, none⟩ (.slice A5 ms.length c5)).setCell ⟨w.heap.size, 4, none⟩ (.slice A6 os.length c6) = W2 at *
    simp only [List.setIfInBounds_toArray, List.set_cons_succ, List.set_cons_zero] at bx8
    have hown : OwnM w W2 (w.heap.size + 2) (.slice A5 ms.length c5) ms rows 0 := ⟨H3.out, own58, bl8, fun t ht => (H2.out t (by simpa using ht)).1, by simp, by simp⟩
    clear hbd bx bxd hb5 ho5 k4 bx5 hlt5 hb6 ho6 bx6 r3 r4 s3 s4 hlt6 rx sz5 rx6 bl6 own5 own6 own58
    have q3 := bx8.cell 3
    have PO := Lib.hid hown
    have PB := Lib.hid bx8
    have PR := Lib.hid rx8
    have PL := Lib.hid bl8
    have PF := Lib.hid own68
    clear hown bx8 rx8 bl8 own68
    go_wp2
    go_loopw [15] (fun i wr => CopyLpM w #[.int .i64 ck, .int .i64 wt, .int .i64 gn, .slice A5 ms.length c5, .slice A6 os.length c6] #[.int .i64 0, .int .i64 0, .int .i64 0, .slice none 0 0, .slice none 0 0] (.slice A5 ms.length c5) (.slice A6 os.length c6) ms os i wr) (fun i _ => ms.length - (intOf i).toNat)
    case atStart => exact ⟨0, rows, by omega, rfl, PO.out, PF.out, PB.out, PR.out, PL.out⟩
    case round =>
      obtain ⟨k, rows', hk, rfl, ho, hof, hbx, hrx, hbl⟩ := hrel
      clear q3
      have q3 := hbx.cell 3
      by_cases hlt : k < ms.length
      · have hl : rows'.length = ms.length := by rw [← ho.fst]; simp
        obtain ⟨g, c2, hv, hg1, hg2, hc2, hcell⟩ := ho.at_ (by omega)
        injection hv with hA hlen' hcc
        subst hA hcc
        have hr := (ho.old rows'[k] (List.mem_drop_iff_getElem.2 ⟨0, by omega, by simp⟩)).below ho.bel
        have h4 := (hcell k (by omega) 2 (by omega)).1
        have f4 := (hcell k (by omega) 2 (by omega)).2
        have h4' : wr.cell? ⟨g, k * 3 + 2, none⟩ = some rows'[k].2 := h4
        have HRD := Lib.hid hr
        have HOW := Lib.hid ho
        have HFF := Lib.hid hof
        have hpl : (rows'[k].1.parts.length : Nat) * 8 ≤ 140737488355328 := by
          have he : ms[k] = rows'[k].1 := by simp [← HOW.out.fst]
          rw [← he]; exact H4.out _ (List.getElem_mem _)
        generalize hpv : rows'[k].2 = pv at h4' HRD
        have HPV := Lib.hid hpv
        clear hpv
        obtain ⟨A3, c3, rfl, hc3⟩ := Sl.form HRD.out
        have hk0 : (0 : Int) ≤ (k : Int) := by omega
        have hk1 : (k : Int) < (ms.length : Int) := by omega
        clear h4 hcell hr ho hof
        go_wp2
        have hrd := HRD.out
        have hbd : Below wr.heap.size wr wr.drew := (Below.refl _ _).drew
        have hlw : w.heap.size < wr.heap.size := hbx.lt
        have q3' : wr.cell? ⟨w.heap.size, 3, none⟩ = some (.slice (some ⟨g, 0, none⟩) ms.length c5) := q3
        have hpm : rows'[k].1.parts.length ≤ maxLen := by simp only [maxLen]; omega
        go_region_with ((go_at_call 67; refine (CloneInt_any (.slice A3 rows'[k].1.parts.length c3) rows'[k].1.parts.length (rows'[k].1.parts.map (Value.int .i64)) _ (Sl.below hrd hbd) (ints_one _) hpm hpl).mono ?_; rintro e w5 ⟨v5, rfl, ho5, hb5⟩; obtain ⟨A5, c5, rfl, hc5⟩ := (Sl.of_own ho5).form; have hbel := below_then hbd hb5; have k1 := (hbel.cell (p := ⟨w.heap.size, 3, none⟩) hlw).trans q3'; have k2 := (hbel.cell (p := ⟨g, k * 3 + 2, none⟩) hg2).trans h4'; have k3 := (hbel.frozen (p := ⟨g, k * 3 + 2, none⟩) hg2).trans f4))
        all_goals go_wp2
        all_goals go_light
        all_goals refine ⟨?_, by simp [intOf]; omega⟩
        all_goals have hof5 := own_keep HFF.out hbel (fun b hb => (HFF.out.lt b hb).2)
        all_goals exact ⟨k + 1, setPartsM rows' k _, by omega, by go_num, HOW.out.step (by omega) (by omega) (by omega) hbel ho5, HOW.out.offs hbel hof5 _, ((hbx.below hbel hbx.lt).far (by show w.heap.size ≠ g; omega) _), ((hrx.below hbel hrx.lt).far (by show w.heap.size + 1 ≠ g; omega) _), (HOW.out.bel.trans (hbel.mono HOW.out.bel.size)).setCell (by show w.heap.size ≤ g; omega) _⟩
      · obtain rfl : k = ms.length := by omega
        have q0 := hbx.cell 0
        have q1 := hbx.cell 1
        have q2 := hbx.cell 2
        have q4 := hbx.cell 4
        have z0 := hrx.cell 0
        have z1 := hrx.cell 1
        have z2 := hrx.cell 2
        have z3 := hrx.cell 3
        have z4 := hrx.cell 4
        have f0 := hrx.frozen 0
        have f1 := hrx.frozen 1
        have f2 := hrx.frozen 2
        have f3 := hrx.frozen 3
        have f4 := hrx.frozen 4
        have HOW := Lib.hid ho
        have HFF := Lib.hid hof
        clear ho hof
        go_wp2
        have HB5 := (((((hrx.set_ 0 (.int .i64 ck)).set_ 1 (.int .i64 wt)).set_ 2 (.int .i64 gn)).set_ 3 (.slice A5 ms.length c5)).set_ 4 (.slice A6 os.length c6))
        have HO5 := ((((HOW.out.under (a := ⟨w.heap.size + 1, 0, none⟩) (by simp) (.int .i64 ck)).under (a := ⟨w.heap.size + 1, 1, none⟩) (by simp) (.int .i64 wt)).under (a := ⟨w.heap.size + 1, 2, none⟩) (by simp) (.int .i64 gn)).under (a := ⟨w.heap.size + 1, 3, none⟩) (by simp) (.slice A5 ms.length c5)).under (a := ⟨w.heap.size + 1, 4, none⟩) (by simp) (.slice A6 os.length c6)
        have HF5 := ownsRow_setCell_below (ownsRow_setCell_below (ownsRow_setCell_below (ownsRow_setCell_below (ownsRow_setCell_below HFF.out (a := ⟨w.heap.size + 1, 0, none⟩) (by simp) (.int .i64 ck)) (a := ⟨w.heap.size + 1, 1, none⟩) (by simp) (.int .i64 wt)) (a := ⟨w.heap.size + 1, 2, none⟩) (by simp) (.int .i64 gn)) (a := ⟨w.heap.size + 1, 3, none⟩) (by simp) (.slice A5 ms.length c5)) (a := ⟨w.heap.size + 1, 4, none⟩) (by simp) (.slice A6 os.length c6)
        have HL5 : Below w.heap.size w (((((wr.setCell ⟨w.heap.size + 1, 0, none⟩ (.int .i64 ck)).setCell ⟨w.heap.size + 1, 1, none⟩ (.int .i64 wt)).setCell ⟨w.heap.size + 1, 2, none⟩ (.int .i64 gn)).setCell ⟨w.heap.size + 1, 3, none⟩ (.slice A5 ms.length c5)).setCell ⟨w.heap.size + 1, 4, none⟩ (.slice A6 os.length c6)) := ((((hbl.setCell (Nat.le_succ _) _).setCell (Nat.le_succ _) _).setCell (Nat.le_succ _) _).setCell (Nat.le_succ _) _).setCell (Nat.le_succ _) _
        generalize ((((wr.setCell ⟨w.heap.size + 1, 0, none⟩ (.int .i64 ck)).setCell ⟨w.heap.size + 1, 1, none⟩ (.int .i64 wt)).setCell ⟨w.heap.size + 1, 2, none⟩ (.int .i64 gn)).setCell ⟨w.heap.size + 1, 3, none⟩ (.slice A5 ms.length c5)).setCell ⟨w.heap.size + 1, 4, none⟩ (.slice A6 os.length c6) = W5 at *
        simp only [List.setIfInBounds_toArray, List.set_cons_succ, List.set_cons_zero] at HB5
        have y0 := HB5.cell 0
        have y1 := HB5.cell 1
        have y2 := HB5.cell 2
        have y3 := HB5.cell 3
        have y4 := HB5.cell 4
        exact bodyPost_ret (v := .agg #[.int .i64 ck, .int .i64 wt, .int .i64 gn, .slice A5 ms.length c5, .slice A6 os.length c6]) (by simp [results, Try.results30, go_sem, y0, y1, y2, y3, y4]) rfl ⟨.slice A5 ms.length c5, .slice A6 os.length c6, rows', rfl, HO5.more (by omega), own_base HF5 (by omega), HL5⟩)

theorem CopyPostM.gv {w w' : World} {c : GroupD} {e : Ending} (h : CopyPostM w c e w') (hc : c.mems.length ≤ 9223372036854775807) (hd : c.offs.length ≤ 9223372036854775807) (hp : ∀ t ∈ c.mems, t.parts.length ≤ 9223372036854775807) : ∃ A n B m, e = .returned (groupV c (.slice A c.mems.length n) (.slice B c.offs.length m)) ∧ Gv w' (groupV c (.slice A c.mems.length n) (.slice B c.offs.length m)) c ∧ Below w.heap.size w w' := by
  obtain ⟨mv, ov, rows, rfl, ho, hf, hb⟩ := h
  have hl : rows.length = c.mems.length := by rw [← ho.fst]; simp
  have hg : Gv w' (groupV c mv ov) c := by
    refine ⟨mv, ov, rfl, ⟨rows, ho.fst, Sl.of_own ho.own, fun t ht => ?_⟩, Sl.of_own hf, hc, hd⟩
    have ht' : t ∈ rows.take c.mems.length := by rw [← hl, List.take_length]; exact ht
    refine ⟨?_, hp _ (by rw [← ho.fst]; exact List.mem_map_of_mem ht)⟩
    have := Sl.of_own (ho.parts t ht')
    exact this
  obtain ⟨A, n, rfl, -⟩ := (Sl.of_own ho.own).form
  obtain ⟨B, m, rfl, -⟩ := (Sl.of_own hf).form
  exact ⟨A, n, B, m, rfl, hg, hb⟩
end Go.Proofs.Ytjkoceacjbhblaa
namespace Go.Proofs.Ytjkoceacjbhblaa
open Go.RowKit

theorem Own.keep {w0 w w' : World} {base k : Nat} {v : Value} {ds : List TxnD} {rows : List (TxnD × Value)} (h : Own w0 w base v ds rows k) (hb : Below w.heap.size w w') : Own w0 w' base v ds rows k :=
  ⟨h.fst, own_keep h.own hb (fun b hb => (h.own.lt b hb).2), h.bel.trans (hb.mono h.bel.size), h.old, fun t ht => own_keep (h.parts t ht) hb (fun b hb => ((h.parts t ht).lt b hb).2), h.apart⟩
theorem Own.rebase {w0 w1 w : World} {base base' n : Nat} {v : Value} {ds : List TxnD} {rows : List (TxnD × Value)} (h : Own w1 w base v ds rows n) (hn : n = ds.length) (hb : base' ≤ base) (hw : Below w0.heap.size w0 w) : Own w0 w base' v ds rows n := by
  have hl : rows.length = ds.length := by rw [← h.fst]; simp
  refine ⟨h.fst, own_base h.own hb, hw, fun t ht => ?_, fun t ht => own_base (h.parts t ht) hb, h.apart⟩
  rw [List.drop_of_length_le (by omega)] at ht
  simp at ht

/-- the bounds that a coordinator which may be keeps -/
theorem CoordOk.bounds {c : CoordD} (h : CoordOk c) : c.txns.length * 80 ≤ 140737488355328 ∧ (∀ t ∈ c.txns, t.parts.length * 8 ≤ 140737488355328) ∧ c.txns.length ≤ 9223372036854775807 ∧ ∀ t ∈ c.txns, t.parts.length ≤ 9223372036854775807 := by
  have h1 := h.many
  have h2 : ∀ t ∈ c.txns, t.parts.length ≤ 4 := by
    intro t ht
    obtain ⟨i, hi, rfl⟩ := List.mem_iff_getElem.1 ht
    exact (h.all i hi hi).1.rises.small
  exact ⟨by omega, fun t ht => by have := h2 t ht; omega, by omega, fun t ht => by have := h2 t ht; omega⟩

/-- a refusal: no coordinator, an error number -/
def zeroV : Value := .agg #[.int .i64 0, .int .i64 0, .int .i64 0, .slice none 0 0]
def Refuses (n : Int) (w : World) (e : Ending) (w' : World) : Prop := e = .returned (.tuple #[.agg #[.int .i64 0, .int .i64 0, .int .i64 0, .slice none 0 0], .int .i64 0, .int .i64 n]) ∧ Below w.heap.size w w'
def Found (c : CoordD) (i : Int) (w : World) (e : Ending) (w' : World) : Prop := ∃ tv rows, e = .returned (.tuple #[coordV c tv, .int .i64 i, .int .i64 0]) ∧ Own w w' w.heap.size tv c.txns rows c.txns.length ∧ Below w.heap.size w w'

end Go.Proofs.Ytjkoceacjbhblaa
namespace Go.Proofs.Ytjkoceacjbhblaa
open Go.RowKit

/-- the fault of a call that names a producer: n is not 0 -/
def NameFault (c : CoordD) (s : ByteArray) (n : Int) : Prop := (¬ CoordOk c ∧ n = 12) ∨ (CoordOk c ∧ ¬ NameOk s ∧ n = 4)
/-- the fault of a call that names a producer and a version -/
def KnownFault (c : CoordD) (s : ByteArray) (ver n : Int) : Prop := NameFault c s n ∨ (CoordOk c ∧ NameOk s ∧ ((idxOf c.txns s = none ∧ n = 5) ∨ (∃ i, ∃ h : i < c.txns.length, idxOf c.txns s = some i ∧ c.txns[i].ver ≠ ver ∧ n = 10)))
def Known (c : CoordD) (s : ByteArray) (ver : Int) (i : Nat) : Prop := CoordOk c ∧ NameOk s ∧ idxOf c.txns s = some i ∧ ∃ h : i < c.txns.length, c.txns[i].ver = ver
theorem KnownFault.ne {c : CoordD} {s : ByteArray} {ver n : Int} (h : KnownFault c s ver n) : n ≠ 0 := by
  rcases h with (⟨_, rfl⟩ | ⟨_, _, rfl⟩) | ⟨_, _, ⟨_, rfl⟩ | ⟨_, _, _, _, rfl⟩⟩ <;> decide

theorem own_rows {rows : List (TxnD × Value)} {ts : List TxnD} (h : rows.map Prod.fst = ts) : rows.length = ts.length := by
  rw [← h]
  simp
theorem fst_get {rows : List (TxnD × Value)} {ts : List TxnD} (h : rows.map Prod.fst = ts) {i : Nat} (hi : i < rows.length) (hi' : i < ts.length) : rows[i].1 = ts[i] := by
  subst h
  simp
end Go.Proofs.Ytjkoceacjbhblaa
namespace Go.Proofs.Ytjkoceacjbhblaa
open Go.RowKit

/-- a coordinator in memory of its own, and beside it the plain values xs -/
def CRes (c : CoordD) (xs : List Value) (w : World) (e : Ending) (w' : World) : Prop :=
  ∃ tv rows, e = .returned (.tuple (coordV c tv :: xs).toArray) ∧ Own w w' w.heap.size tv c.txns rows c.txns.length ∧ Below w.heap.size w w'
theorem own_nil {w0 w : World} {base : Nat} (hb : Below w0.heap.size w0 w) : Own w0 w base (.slice none 0 0) [] [] 0 :=
  ⟨rfl, World.ownsRow_nil _ _ _ _, hb, by simp, by simp, by simp⟩
theorem CRes.zero {xs : List Value} {w w' : World} (hb : Below w.heap.size w w') : CRes zeroC xs w (.returned (.tuple (.agg #[.int .i64 0, .int .i64 0, .int .i64 0, .slice none 0 0] :: xs).toArray)) w' :=
  ⟨.slice none 0 0, [], rfl, own_nil hb, hb⟩
/-- small coordinators: what a copy asks -/
def CoordD.Fits (c : CoordD) : Prop := c.txns.length * 80 ≤ 140737488355328 ∧ (∀ t ∈ c.txns, t.parts.length * 8 ≤ 140737488355328) ∧ c.txns.length ≤ 9223372036854775807 ∧ ∀ t ∈ c.txns, t.parts.length ≤ 9223372036854775807
theorem zero_fits : zeroC.Fits := by simp [CoordD.Fits, zeroC]

theorem Own.alloc {w0 w : World} {base n : Nat} {v : Value} {ds : List TxnD} {rows : List (TxnD × Value)} (h : Own w0 w base v ds rows n) (o : Obj) : Own w0 (w.alloc o) base v ds rows n :=
  h.keep ((Below.refl _ _).alloc (Nat.le_refl _) o)
/-- f at the first k -/
def upTo {α : Type} (f : α → α) (l : List α) (k : Nat) : List α := (l.take k).map f ++ l.drop k
theorem CopyPost.open_ {c : CoordD} {w w' : World} {e : Ending} (h : CopyPost w c e w') (hc : c.txns.length ≤ 9223372036854775807) (hp : ∀ t ∈ c.txns, t.parts.length ≤ 9223372036854775807) : ∃ A m, e = .returned (.agg #[.int .i64 c.clock, .int .i64 c.next, .int .i64 c.wait, .slice A c.txns.length m]) ∧ Cv w' (.agg #[.int .i64 c.clock, .int .i64 c.next, .int .i64 c.wait, .slice A c.txns.length m]) c ∧ Below w.heap.size w w' := by
  obtain ⟨tv, rows, rfl, ho, hb⟩ := h
  obtain ⟨A, m, rfl, -⟩ := (Sl.of_own ho.own).form
  exact ⟨A, m, rfl, ho.cv rfl hc hp, hb⟩

def tickT (ck wt : Int) (t : TxnD) : TxnD := if t.state = 2 ∧ wt ≤ ck - t.since ∧ t.ver < 1073741824 then ⟨t.name, t.pid, t.ver + 1, 4, t.parts, t.since, t.done⟩ else t
def tickC (c : CoordD) (n : Int) : CoordD := ⟨c.clock + n, c.next, c.wait, c.txns.map (tickT (c.clock + n) c.wait)⟩
def TickOk (c : CoordD) (n : Int) : Prop := 0 ≤ n ∧ n ≤ 1000 ∧ c.clock + n ≤ 1073741824
def TickTo (c : CoordD) (n : Int) (c' : CoordD) (code : Int) : Prop :=
  (¬ CoordOk c ∧ c' = zeroC ∧ code = 12) ∨ (CoordOk c ∧ ¬ TickOk c n ∧ c' = zeroC ∧ code = 2) ∨ (CoordOk c ∧ TickOk c n ∧ c' = tickC c n ∧ code = 0)
theorem tickT_parts (ck wt : Int) (t : TxnD) : (tickT ck wt t).parts = t.parts := by unfold tickT; split <;> rfl
theorem CoordOk.fits {c : CoordD} (h : CoordOk c) : c.Fits := h.bounds
theorem tick_fits {c : CoordD} {n : Int} (h : CoordOk c) : (tickC c n).Fits := by
  obtain ⟨h1, h2, h3, h4⟩ := h.fits
  refine ⟨by simpa [tickC] using h1, ?_, by simpa [tickC] using h3, ?_⟩
  · intro t ht
    obtain ⟨t', ht', rfl⟩ := List.mem_map.1 ht
    rw [tickT_parts]; exact h2 t' ht'
  · intro t ht
    obtain ⟨t', ht', rfl⟩ := List.mem_map.1 ht
    rw [tickT_parts]; exact h4 t' ht'
theorem TickTo.fits {c : CoordD} {n : Int} {c' : CoordD} {code : Int} (h : TickTo c n c' code) : c'.Fits := by
  rcases h with ⟨-, rfl, -⟩ | ⟨-, -, rfl, -⟩ | ⟨h, -, rfl, -⟩
  · exact zero_fits
  · exact zero_fits
  · exact tick_fits h

end Go.Proofs.Ytjkoceacjbhblaa
namespace Go.Proofs.Ytjkoceacjbhblaa
open Go.RowKit

def idxM (ms : List MemD) (s : ByteArray) : Option Nat := ms.findIdx? fun t => decide (t.name = s)
def ixM (ms : List MemD) (s : ByteArray) : Int := match idxM ms s with | none => -1 | some k => k
theorem OwnM.keep {w0 w w' : World} {base k : Nat} {v : Value} {ds : List MemD} {rows : List (MemD × Value)} (h : OwnM w0 w base v ds rows k) (hb : Below w.heap.size w w') : OwnM w0 w' base v ds rows k :=
  ⟨h.fst, own_keep h.own hb (fun b hb => (h.own.lt b hb).2), h.bel.trans (hb.mono h.bel.size), h.old, fun t ht => own_keep (h.parts t ht) hb (fun b hb => ((h.parts t ht).lt b hb).2), h.apart⟩
theorem OwnM.rebase {w0 w1 w : World} {base base' n : Nat} {v : Value} {ds : List MemD} {rows : List (MemD × Value)} (h : OwnM w1 w base v ds rows n) (hn : n = ds.length) (hb : base' ≤ base) (hw : Below w0.heap.size w0 w) : OwnM w0 w base' v ds rows n := by
  have hl : rows.length = ds.length := by rw [← h.fst]; simp
  refine ⟨h.fst, own_base h.own hb, hw, fun t ht => ?_, fun t ht => own_base (h.parts t ht) hb, h.apart⟩
  rw [List.drop_of_length_le (by omega)] at ht
  simp at ht
/-- a refusal: no group, an error number -/
def RefusesM (n : Int) (w : World) (e : Ending) (w' : World) : Prop := e = .returned (.tuple #[.agg #[.int .i64 0, .int .i64 0, .int .i64 0, .slice none 0 0, .slice none 0 0], .int .i64 0, .int .i64 n]) ∧ Below w.heap.size w w'
def FoundM (c : GroupD) (i : Int) (w : World) (e : Ending) (w' : World) : Prop :=
  ∃ mv ov rows, e = .returned (.tuple #[groupV c mv ov, .int .i64 i, .int .i64 0]) ∧ OwnM w w' w.heap.size mv c.mems rows c.mems.length ∧ w'.ownsRow w.heap.size 81 2 ov c.offs.length (c.offs.flatMap ocells) ∧ Below w.heap.size w w'

/-- the fault of a call that names a member: n is not 0 -/
def NameFaultM (g : GroupD) (s : ByteArray) (n : Int) : Prop := (¬ GroupOk g ∧ n = 12) ∨ (GroupOk g ∧ ¬ NameOk s ∧ n = 4)
theorem NameFaultM.ne {g : GroupD} {s : ByteArray} {n : Int} (h : NameFaultM g s n) : n ≠ 0 := by
  rcases h with ⟨-, rfl⟩ | ⟨-, -, rfl⟩ <;> decide
end Go.Proofs.Ytjkoceacjbhblaa
namespace Go.Proofs.Ytjkoceacjbhblaa
open Go.RowKit

def whereOf (os : List OffD) (p : Int) : Int := match os.find? fun o => decide (o.part = p) with | some o => o.at_ | none => 0
def WhereTo (g : GroupD) (s : ByteArray) (p : Int) (r0 r1 : Int) : Prop :=
  (NameFaultM g s r1 ∧ r0 = 0) ∨ (GroupOk g ∧ NameOk s ∧ ((idxM g.mems s = none ∧ r0 = 0 ∧ r1 = 5) ∨ ∃ i, idxM g.mems s = some i ∧ ∃ h : i < g.mems.length, (p ∉ g.mems[i].parts ∧ r0 = 0 ∧ r1 = 12) ∨ (p ∈ g.mems[i].parts ∧ r0 = whereOf g.offs p ∧ r1 = 0)))
/-- two plain values -/
def Two (x y : Int) (w : World) (e : Ending) (w' : World) : Prop := e = .returned (.tuple #[.int .i64 x, .int .i64 y]) ∧ Below w.heap.size w w'
theorem OwnM.mems {w0 w : World} {base n : Nat} {v : Value} {ds : List MemD} {rows : List (MemD × Value)} (h : OwnM w0 w base v ds rows n) (hn : n = ds.length) (hp : ∀ t ∈ ds, t.parts.length ≤ 9223372036854775807) : Mems w v ds := by
  have hl : rows.length = ds.length := by rw [← h.fst]; simp
  refine ⟨rows, h.fst, Sl.of_own h.own, fun t ht => ?_⟩
  have ht' : t ∈ rows.take n := by rw [hn, ← hl, List.take_length]; exact ht
  exact ⟨Sl.of_own (h.parts t ht'), hp _ (by rw [← h.fst]; exact List.mem_map_of_mem ht)⟩
/-- offsets of the call's own -/
def OwnO (w : World) (base : Nat) (v : Value) (os : List OffD) : Prop := w.ownsRow base 81 2 v os.length (os.flatMap ocells)
theorem OwnO.keep {w w' : World} {base : Nat} {v : Value} {os : List OffD} (h : OwnO w base v os) (hb : Below w.heap.size w w') : OwnO w' base v os := own_keep h hb (fun b hb => (h.lt b hb).2)
theorem OwnO.under {w : World} {base : Nat} {v : Value} {os : List OffD} (h : OwnO w base v os) {a : Addr} (ha : a.block < base) (u : Value) : OwnO (w.setCell a u) base v os := ownsRow_setCell_below h ha u
theorem OwnO.offs {w : World} {base : Nat} {v : Value} {os : List OffD} (h : OwnO w base v os) : Offs w v os := Sl.of_own h
end Go.Proofs.Ytjkoceacjbhblaa
namespace Go.Proofs.Ytjkoceacjbhblaa
open Go.RowKit

theorem OwnM.push {w0 w w6 w7 : World} {base k : Nat} {tv v5 v7 : Value} {ds : List MemD} {rows : List (MemD × Value)} {t : MemD} {o : Obj} (h : OwnM w0 w base tv ds rows k) (hk : k = ds.length) (hb0 : w0.heap.size ≤ base) (hb : base ≤ w.heap.size)
    (h6 : Below w.heap.size w w6) (ho5 : w6.ownsRow w.heap.size 3 1 v5 t.parts.length (t.parts.map (Value.int .i64))) (ho7 : w7.ownsRow base 79 3 v7 (k + 1) (rows.flatMap mcells ++ mcells (t, v5))) (hg : (w6.alloc o).grownBy w7 tv.ownBlock) :
    OwnM w0 w7 base v7 (ds ++ [t]) (rows ++ [(t, v5)]) (k + 1) := by
  subst hk
  have hl : rows.length = ds.length := by rw [← h.fst]; simp
  have e1 : rows.take ds.length = rows := by rw [← hl, List.take_length]
  have e2 : (rows ++ [(t, v5)]).take (ds.length + 1) = rows ++ [(t, v5)] := by rw [List.take_of_length_le]; simp [hl]
  have hown6 := (own_keep h.own h6 (fun b hb => (h.own.lt b hb).2)).alloc o
  refine ⟨by simp [h.fst], own_eq ho7 (by simp) (by simp), ?_, ?_, ?_, ?_⟩
  · exact ((h.bel.trans (h6.mono h.bel.size)).alloc (Nat.le_trans h.bel.size h6.size) o).grown hg (by have := h.bel.size; have := h6.size; simp; omega) fun b hb => by have := (h.own.lt b hb).1; omega
  · intro t' ht'
    rw [List.drop_of_length_le (by simp [hl])] at ht'
    simp at ht'
  · intro t' ht'
    rw [e2] at ht'
    rcases List.mem_append.1 ht' with ht' | ht'
    · have hp := h.parts t' (by rw [e1]; exact ht')
      have hp6 := (own_keep hp h6 (fun b hb => (hp.lt b hb).2)).alloc o
      exact hp6.kept hg (own_apart hp6 hown6 (by decide))
    · simp only [List.mem_singleton] at ht'
      subst ht'
      exact own_base ((ho5.alloc o).kept hg (own_apart (ho5.alloc o) hown6 (by decide))) hb
  · rw [e2]
    have ha := h.apart
    rw [e1] at ha
    refine List.pairwise_append.2 ⟨ha, by simp, fun a ha' b hb' => ?_⟩
    simp only [List.mem_singleton] at hb'
    subst hb'
    rcases hab : a.2.ownBlock with _ | x
    · exact Or.inl rfl
    · refine Or.inr fun e => ?_
      have h1 := (h.parts a (by rw [e1]; exact ha')).lt x hab
      have h2 := ho5.lt x e.symm
      omega

theorem OwnM.grow {w0 w w7 : World} {base n k : Nat} {v ov : Value} {ds : List MemD} {rows : List (MemD × Value)} {xs : List Value} {o : Obj} (h : OwnM w0 w base v ds rows n) (hn : n = ds.length) (hb0 : w0.heap.size ≤ base) (_hb : base ≤ w.heap.size) (ho : w.ownsRow base 81 2 ov k xs) (hg : (w.alloc o).grownBy w7 ov.ownBlock) : OwnM w0 w7 base v ds rows n := by
  have hl : rows.length = ds.length := by rw [← h.fst]; simp
  have ho' := ho.alloc o
  refine ⟨h.fst, (h.own.alloc o).kept hg (own_apart (h.own.alloc o) ho' (by decide)), ?_, fun t ht => ?_, fun t ht => ?_, h.apart⟩
  · exact ((h.bel).alloc h.bel.size o).grown hg (by have := h.bel.size; simp; omega) fun b hb => by have := (ho.lt b hb).1; omega
  · rw [List.drop_of_length_le (by omega)] at ht
    simp at ht
  · exact ((h.parts t ht).alloc o).kept hg (own_apart ((h.parts t ht).alloc o) ho' (by decide))
theorem step_append_sl {w : World} {ops : Array Oper} {o : Oper} {a : Act} {K : Act → World → Prop} {Q : Exit → Act → World → Prop} {E : Prop} (hgd : o.guard = none) (s x : Operand) (t : TypeId)
    (ho : o.op = .call { callee := .builtin .append, args := #[s, x], argTypes := #[t, t] })
    (base : Nat) (e : TypeId) (i : TypeInfo) (z : Value) (size bytes : Nat) (ht : Try.prog.underlying t = some (.slice e)) (hi : Try.prog.info? e = some i) (hz : i.zero = some z)
    (hsize : i.size = size) (hby : i.bytes = bytes) (hzs : z.cells.size = size) (hsz : 0 < size)
    (v : Value) (n : Nat) (xs : List Value) (hs : a.eval s = v) (hown : w.ownsRow base e size v n xs)
    (u : Value) (m : Nat) (news : List Value) (hx : a.eval x = u) (hr : Sl w size u m news) (h1 : ∀ x ∈ news, x.oneCell' = true)
    (h63 : n + m ≤ maxLen) (hbytes : (n + m) * bytes ≤ 140737488355328) (hbase : base ≤ w.heap.size)
    (h : ∀ v' w', w'.ownsRow base e size v' (n + m) (xs ++ news) → w.grownBy w' v.ownBlock → (v'.ownBlock = v.ownBlock ∨ v'.ownBlock = some w.heap.size) → K (a.put o.dst v') w') :
    if Region.wanted o (yielded ops a.tmps) = true then Oper.wp Try.prog o a w K Q else E := by
  have hw : Region.wanted o (yielded ops a.tmps) = true := by simp [Region.wanted, hgd]
  rw [if_pos hw]
  exact wp_append_sl w s x t ho base e i z size bytes ht hi hz hsize hby hzs hsz v n xs hs hown u m news hx hr h1 h63 hbytes hbase h
/-- the loops of tailraceref.GroupCopy -/
def RgLp (w : World) (bc zc : Array Value) (ck wt gn : Int) (ms : List MemD) (i : Value) (wr : World) : Prop :=
  ∃ (k : Nat) (rows : List (MemD × Value)) (tv : Value), k ≤ ms.length ∧ i = .int .i64 k ∧ OwnM w wr (w.heap.size + 3) tv (ms.take k) rows k ∧ Blk wr w.heap.size 36 bc ∧ Blk wr (w.heap.size + 1) 36 zc ∧ Blk wr (w.heap.size + 2) 36 #[.int .i64 ck, .int .i64 wt, .int .i64 gn, tv, .slice none 0 0] ∧ Below w.heap.size w wr
def RhLp (w : World) (bc zc : Array Value) (ck wt gn : Int) (ms : List MemD) (rows : List (MemD × Value)) (tv : Value) (os : List OffD) (i : Value) (wr : World) : Prop :=
  ∃ (k : Nat) (ov : Value), k ≤ os.length ∧ i = .int .i64 k ∧ OwnM w wr (w.heap.size + 3) tv ms rows ms.length ∧ wr.ownsRow (w.heap.size + 3) 81 2 ov k ((os.take k).flatMap ocells) ∧ Blk wr w.heap.size 36 bc ∧ Blk wr (w.heap.size + 1) 36 zc ∧ Blk wr (w.heap.size + 2) 36 #[.int .i64 ck, .int .i64 wt, .int .i64 gn, tv, ov] ∧ Below w.heap.size w wr ∧ w.heap.size + 3 ≤ wr.heap.size
theorem mem_info : (Try.prog.info? 79).map (fun i => (i.zero, i.size, i.bytes)) = some (some (.agg #[.string .empty, .int .i64 0, .slice none 0 0]), 3, 48) := by kernel_rfl
theorem off_info : (Try.prog.info? 81).map (fun i => (i.zero, i.size, i.bytes)) = some (some (.agg #[.int .i64 0, .int .i64 0]), 2, 16) := by kernel_rfl

set_option maxRecDepth 100000 in
set_option maxHeartbeats 8000000 in
theorem refGroupCopy_any (v : Value) (c : GroupD) (w : World) (h : Gv w v c) (hb : c.mems.length * 48 ≤ 140737488355328) (hp : ∀ t ∈ c.mems, t.parts.length * 8 ≤ 140737488355328) (hob : c.offs.length * 16 ≤ 140737488355328) :
    Calls Try.prog 40 #[v] w (CopyPostM w c) := by
  obtain ⟨i0, hi0, hz0, hz1, hz2'⟩ := info_parts mem_info
  obtain ⟨j0, hj0, hy0, hy1, hy2'⟩ := info_parts off_info
  obtain ⟨mv, ov, rfl, hx, hy, hl1, hl2⟩ := h
  obtain ⟨A, c1, rfl, hc1, hx1⟩ := hx.at_
  obtain ⟨A', c2, rfl, hc2, hy1'⟩ := hy.at_
  unfold groupV
  obtain ⟨ck, wt, gn, ms, os⟩ := c
  simp only at *
  have HX := Lib.hid hx1
  have HY := Lib.hid hy1'
  have HP := Lib.hid hp
  clear hx1 hy1' hx hy hp
  go_enter Try.func40, Try.ntmps40
  go_wp2
  have bx := ((Blk.new w 36 #[.int .i64 ck, .int .i64 wt, .int .i64 gn, .slice A ms.length c1, .slice A' os.length c2]).alloc (.cells #[.int .i64 0, .int .i64 0, .int .i64 0, .slice none 0 0, .slice none 0 0] 36)).alloc (.cells #[.int .i64 ck, .int .i64 wt, .int .i64 gn, .slice none 0 0, .slice none 0 0] 36)
  have bz := (Blk.new (w.alloc (.cells #[.int .i64 ck, .int .i64 wt, .int .i64 gn, .slice A ms.length c1, .slice A' os.length c2] 36)) 36 #[.int .i64 0, .int .i64 0, .int .i64 0, .slice none 0 0, .slice none 0 0]).alloc (.cells #[.int .i64 ck, .int .i64 wt, .int .i64 gn, .slice none 0 0, .slice none 0 0] 36)
  have bn := Blk.new ((w.alloc (.cells #[.int .i64 ck, .int .i64 wt, .int .i64 gn, .slice A ms.length c1, .slice A' os.length c2] 36)).alloc (.cells #[.int .i64 0, .int .i64 0, .int .i64 0, .slice none 0 0, .slice none 0 0] 36)) 36 #[.int .i64 ck, .int .i64 wt, .int .i64 gn, .slice none 0 0, .slice none 0 0]
  have hbl : Below w.heap.size w (((w.alloc (.cells #[.int .i64 ck, .int .i64 wt, .int .i64 gn, .slice A ms.length c1, .slice A' os.length c2] 36)).alloc (.cells #[.int .i64 0, .int .i64 0, .int .i64 0, .slice none 0 0, .slice none 0 0] 36)).alloc (.cells #[.int .i64 ck, .int .i64 wt, .int .i64 gn, .slice none 0 0, .slice none 0 0] 36)) := ((((Below.refl _ _).alloc (Nat.le_refl _) _).alloc (by simp) _).alloc (by simp; omega) _)
  simp only [World.size_alloc] at bz bn
  generalize ((w.alloc (.cells #[.int .i64 ck, .int .i64 wt, .int .i64 gn, .slice A ms.length c1, .slice A' os.length c2] 36)).alloc (.cells #[.int .i64 0, .int .i64 0, .int .i64 0, .slice none 0 0, .slice none 0 0] 36)).alloc (.cells #[.int .i64 ck, .int .i64 wt, .int .i64 gn, .slice none 0 0, .slice none 0 0] 36) = W0 at *
  have HBX := Lib.hid bx
  have HBZ := Lib.hid bz
  have HBN := Lib.hid bn
  have HBL := Lib.hid hbl
  clear bx bz bn hbl
  go_loopw [4] (fun i wr => RgLp w #[.int .i64 ck, .int .i64 wt, .int .i64 gn, .slice A ms.length c1, .slice A' os.length c2] #[.int .i64 0, .int .i64 0, .int .i64 0, .slice none 0 0, .slice none 0 0] ck wt gn ms i wr) (fun i _ => ms.length - (intOf i).toNat)
  case atStart => exact ⟨0, [], .slice none 0 0, by omega, rfl, ⟨by simp, by simpa using World.ownsRow_nil _ _ _ _, HBL.out, by simp, by simp, by simp⟩, HBX.out, HBZ.out, HBN.out, HBL.out⟩
  case round =>
    obtain ⟨k, rows, tv, hk, rfl, ho, hbx, hbz, hbn, hbw⟩ := hrel
    have g3 := hbx.cell 3
    have HBW := Lib.hid hbw
    have HO := Lib.hid ho
    clear hbw ho
    by_cases hlt : k < ms.length
    · obtain ⟨b, off, rfl, hbb, hcell⟩ := HX.out (by omega)
      obtain ⟨pv, x0, x1, x2, xi, xl⟩ := hcell k hlt
      have X0 := (HBW.out.cell (p := ⟨b, off + k * 3, none⟩) hbb).trans x0
      have X1 := (HBW.out.cell (p := ⟨b, off + k * 3 + 1, none⟩) hbb).trans x1
      have X2 := (HBW.out.cell (p := ⟨b, off + k * 3 + 2, none⟩) hbb).trans x2
      have i0' : (0 : Int) ≤ (k : Int) := by omega
      have i1' : (k : Int) < (ms.length : Int) := by omega
      obtain ⟨A3, c3, rfl, hc3, -⟩ := xi.at_
      have XI := Lib.hid (xi.below HBW.out)
      have hble : b < wr.heap.size := by have := HBW.out.size; omega
      have hsz : w.heap.size + 3 ≤ wr.heap.size := by have := hbn.lt; omega
      clear x0 x1 x2 hcell xi
      go_wp2_with fail
      have bt := Blk.new wr 79 #[.string ms[k].name, .int .i64 ms[k].heard, .slice A3 ms[k].parts.length c3]
      have hal := (Below.refl wr.heap.size wr).alloc (Nat.le_refl _) (.cells #[.string ms[k].name, .int .i64 ms[k].heard, .slice A3 ms[k].parts.length c3] 79)
      have hz2 : (wr.alloc (.cells #[.string ms[k].name, .int .i64 ms[k].heard, .slice A3 ms[k].parts.length c3] 79)).heap.size = wr.heap.size + 1 := by simp
      generalize wr.alloc (.cells #[.string ms[k].name, .int .i64 ms[k].heard, .slice A3 ms[k].parts.length c3] 79) = w2 at *
      refine (intsCopy_any _ ms[k].parts w2 (XI.out.below hal) (HP.out _ (List.getElem_mem _))).mono ?_
      rintro e w5 ⟨v5, rfl, ho5, hb5⟩
      obtain ⟨A5, c5, rfl, hc5⟩ := (Sl.of_own ho5).form
      have hb6 := below_then hal hb5
      have bt5 := bt.below hb5 bt.lt
      have bx5 := hbx.below hb6 hbx.lt
      have bz5 := hbz.below hb6 hbz.lt
      have bn5 := hbn.below hb6 hbn.lt
      have f4 := bt5.frozen 2
      have t4 := bt5.cell 2
      have tlt := bt5.lt
      have bt6 := bt5.set_ 2 (.slice A5 ms[k].parts.length c5)
      have bn6 := bn5.far (p := ⟨wr.heap.size, 2, none⟩) (by show w.heap.size + 2 ≠ wr.heap.size; omega) (.slice A5 ms[k].parts.length c5)
      have bx6 := bx5.far (p := ⟨wr.heap.size, 2, none⟩) (by show w.heap.size ≠ wr.heap.size; omega) (.slice A5 ms[k].parts.length c5)
      have bz6 := bz5.far (p := ⟨wr.heap.size, 2, none⟩) (by show w.heap.size + 1 ≠ wr.heap.size; omega) (.slice A5 ms[k].parts.length c5)
      have hb6' : Below wr.heap.size wr (w5.setCell ⟨wr.heap.size, 2, none⟩ (.slice A5 ms[k].parts.length c5)) := hb6.setCell (Nat.le_refl _) _
      have ho5' := own_base (ownsRow_setCell_below ho5 (a := ⟨wr.heap.size, 2, none⟩) (by rw [hz2]; exact Nat.lt_succ_self _) (.slice A5 ms[k].parts.length c5)) (show wr.heap.size ≤ w2.heap.size by omega)
      simp only [List.setIfInBounds_toArray, List.set_cons_succ, List.set_cons_zero] at bt6
      have htl : (ms.take k).length = k := by simp; omega
      have hot := own_eq (own_keep HO.out.own hb6' (fun b hb => (HO.out.own.lt b hb).2)) htl rfl
      obtain ⟨At, ct, rfl, hct⟩ := (Sl.of_own hot).form
      have y0 := bt6.cell 0
      have y1 := bt6.cell 1
      have y2 := bt6.cell 2
      have n3 : (w5.setCell ⟨wr.heap.size, 2, none⟩ (.slice A5 ms[k].parts.length c5)).cell? ⟨w.heap.size + 1 + 1, 3, none⟩ = some (.slice At k ct) := bn6.cell 3
      have hlen6 : w.heap.size + 3 ≤ (w5.setCell ⟨wr.heap.size, 2, none⟩ (.slice A5 ms[k].parts.length c5)).heap.size := Nat.le_trans hsz hb6'.size
      have hne : ∀ g, (Value.slice At k ct).ownBlock = some g → w.heap.size + 3 ≤ g := fun g hg => (hot.lt g hg).1
      have HBT := Lib.hid bt6
      have HNX := Lib.hid bx6
      have HNZ := Lib.hid bz6
      have HNN := Lib.hid bn6
      have HW6 := Lib.hid hb6'
      have HO5 := Lib.hid ho5'
      have HNE := Lib.hid hne
      clear bt bt5 bt6 bx5 bz5 bn5 bn6 bx6 bz6 hb6 hb6' ho5 ho5' hb5 hal hne hbx hbz hbn
      go_wp2_with (at_builtin; go_must (refine wpList_append_sl _ rfl (.tmp 31) (.tmp 33) 33 rfl (w.heap.size + 3) 79 i0 (.agg #[.string .empty, .int .i64 0, .slice none 0 0]) 3 48 Try.underlying33 hi0 hz0 hz1 hz2' rfl (by decide) _ _ _ (by rfl) (hot.alloc _) _ 1 _ (by rfl) (Sl.lit' _ _ _ 3 1 _ rfl (by simp)) (mcells_one [(ms[k], .slice A5 ms[k].parts.length c5)] (by intro t ht; simp only [List.mem_singleton] at ht; subst ht; rfl)) (by simp only [maxLen]; omega) (by omega) (by simp; omega) ?_; intro v7 w7 ho7 hg7 ha7; obtain ⟨A7, c7, rfl, hc7⟩ := (Sl.of_own ho7).form; have bn7 := (HNN.out.alloc _).grown hg7 (fun e => by have := HNE.out _ e.symm; omega); have c7' : w7.cell? ⟨w.heap.size + 1 + 1, 3, none⟩ = some (.slice At k ct) := bn7.cell 3; have f7 : w7.frozen? ⟨w.heap.size + 1 + 1, 3, none⟩ = false := bn7.frozen 3; have l7 : w.heap.size + 1 + 1 < w7.heap.size := bn7.lt))
      have hpush := (HO.out.push (t := ms[k]) htl.symm (Nat.le_add_right _ 3) hsz HW6.out HO5.out ho7 hg7).under (a := ⟨w.heap.size + 2, 3, none⟩) ⟨Nat.lt_succ_self _, Nat.le_add_right _ 2⟩ (.slice A7 (k + 1) c7)
      rw [← List.take_succ_eq_append_getElem hlt] at hpush
      have bx7 := ((HNX.out.alloc _).grown hg7 (fun e => by have := HNE.out _ e.symm; omega)).far (p := ⟨w.heap.size + 2, 3, none⟩) (by show w.heap.size ≠ w.heap.size + 2; omega) (.slice A7 (k + 1) c7)
      have bz7 := ((HNZ.out.alloc _).grown hg7 (fun e => by have := HNE.out _ e.symm; omega)).far (p := ⟨w.heap.size + 2, 3, none⟩) (by show w.heap.size + 1 ≠ w.heap.size + 2; omega) (.slice A7 (k + 1) c7)
      have bn8 := bn7.set_ 3 (.slice A7 (k + 1) c7)
      simp only [List.setIfInBounds_toArray, List.set_cons_succ, List.set_cons_zero] at bn8
      go_light
      exact ⟨⟨k + 1, _, _, by omega, by go_num, hpush, bx7, bz7, bn8, hpush.bel⟩, by simp [intOf]; omega⟩
    · obtain rfl : k = ms.length := by omega
      have ho := HO.out
      rw [List.take_length] at ho
      have hsz : w.heap.size + 3 ≤ wr.heap.size := by have := hbn.lt; omega
      obtain ⟨w9, hw9⟩ : ∃ w9, w9 = wr := ⟨_, rfl⟩
      subst hw9
      have HO9 := Lib.hid ho
      have NX := Lib.hid hbx
      have NZ := Lib.hid hbz
      have NN := Lib.hid hbn
      clear ho
      go_wp2_with fail
      clear hbx hbz hbn g3 HO
      go_loopw [6] (fun j wq => RhLp w #[.int .i64 ck, .int .i64 wt, .int .i64 gn, .slice A ms.length c1, .slice A' os.length c2] #[.int .i64 0, .int .i64 0, .int .i64 0, .slice none 0 0, .slice none 0 0] ck wt gn ms rows tv os j wq) (fun j _ => os.length - (intOf j).toNat)
      case atStart => exact ⟨0, .slice none 0 0, by omega, rfl, HO9.out, by simpa using World.ownsRow_nil _ _ _ _, NX.out, NZ.out, NN.out, HBW.out, hsz⟩
      case round =>
        obtain ⟨k, ov, hk, rfl, ho, hoff, hbx, hbz, hbn, hbw, hsz⟩ := hrel
        have HO := Lib.hid ho
        have HBW := Lib.hid hbw
        clear ho hbw
        obtain ⟨At, ct, rfl, hct⟩ := (Sl.of_own hoff).form
        by_cases hlt : k < os.length
        · obtain ⟨b, off, rfl, hbb, hcell⟩ := HY.out (by omega)
          obtain ⟨x0, x1⟩ := hcell k hlt
          have X0 := (HBW.out.cell (p := ⟨b, off + k * 2, none⟩) hbb).trans x0
          have X1 := (HBW.out.cell (p := ⟨b, off + k * 2 + 1, none⟩) hbb).trans x1
          have i0' : (0 : Int) ≤ (k : Int) := by omega
          have i1' : (k : Int) < (os.length : Int) := by omega
          have hble : b < wr.heap.size := by have := HBW.out.size; omega
          have g4 := hbx.cell 4
          have gl := hbx.lt
          have n4 : wr.cell? ⟨w.heap.size + 1 + 1, 4, none⟩ = some (.slice At k ct) := hbn.cell 4
          have nl : w.heap.size + 1 + 1 < wr.heap.size := hbn.lt
          have hdr : Below wr.heap.size wr wr.drew := (Below.refl _ _).drew
          have hod := own_keep hoff hdr (fun b hb => (hoff.lt b hb).2)
          have hne : ∀ g, (Value.slice At k ct).ownBlock = some g → w.heap.size + 3 ≤ g := fun g hg => (hoff.lt g hg).1
          have hszd := hdr.size
          have HND := Lib.hid (hbn.below hdr hbn.lt)
          have HXD := Lib.hid (hbx.below hdr hbx.lt)
          have HZD := Lib.hid (hbz.below hdr hbz.lt)
          have HOD := Lib.hid (HO.out.keep hdr)
          have HBD := Lib.hid (below_then HBW.out hdr)
          have HNE := Lib.hid hne
          have HFD := Lib.hid hod
          clear x0 x1 hcell hbn hbx hbz hne hod hdr hoff
          go_wp2_with fail
          go_region_law ((refine step_append_sl rfl (.tmp 44) (.tmp 50) 34 rfl (w.heap.size + 3) 81 j0 (.agg #[.int .i64 0, .int .i64 0]) 2 16 Try.underlying34 hj0 hy0 hy1 hy2' rfl (by decide) _ _ _ (by first | rfl | simp [Act.eval, Act.put]) (HFD.out.alloc _) _ 1 _ (by first | rfl | simp [Act.eval, Act.put]) (Sl.lit' _ _ _ 2 1 _ rfl (by simp)) (ocells_one [os[k]]) (by simp only [maxLen]; omega) (by omega) (by simp; omega) ?_; intro v7 w7 ho7 hg7 ha7; obtain ⟨A7, c7, rfl, hc7⟩ := (Sl.of_own ho7).form; have bn7 := (HND.out.alloc _).grown hg7 (fun e => by have := HNE.out _ e.symm; omega); have c7' : w7.cell? ⟨w.heap.size + 1 + 1, 4, none⟩ = some (.slice At k ct) := bn7.cell 4; have f7 : w7.frozen? ⟨w.heap.size + 1 + 1, 4, none⟩ = false := bn7.frozen 4; have l7 : w.heap.size + 1 + 1 < w7.heap.size := bn7.lt))
          all_goals
            have hgr := (HOD.out.grow rfl (Nat.le_add_right _ 3) (by omega) HFD.out hg7).under (a := ⟨w.heap.size + 2, 4, none⟩) ⟨Nat.lt_succ_self _, Nat.le_add_right _ 2⟩ (.slice A7 (k + 1) c7)
            have bx7 := ((HXD.out.alloc _).grown hg7 (fun e => by have := HNE.out _ e.symm; omega)).far (p := ⟨w.heap.size + 2, 4, none⟩) (by show w.heap.size ≠ w.heap.size + 2; omega) (.slice A7 (k + 1) c7)
            have bz7 := ((HZD.out.alloc _).grown hg7 (fun e => by have := HNE.out _ e.symm; omega)).far (p := ⟨w.heap.size + 2, 4, none⟩) (by show w.heap.size + 1 ≠ w.heap.size + 2; omega) (.slice A7 (k + 1) c7)
            have bn8 := bn7.set_ 4 (.slice A7 (k + 1) c7)
            simp only [List.setIfInBounds_toArray, List.set_cons_succ, List.set_cons_zero] at bn8
            have hof8 := own_eq (ownsRow_setCell_below ho7 (a := ⟨w.heap.size + 2, 4, none⟩) (Nat.lt_succ_self _) (.slice A7 (k + 1) c7)) rfl (show (os.take k).flatMap ocells ++ _ = (os.take (k + 1)).flatMap ocells by rw [List.take_succ_eq_append_getElem hlt, List.flatMap_append]; simp [ocells])
            have hs7 := hgr.bel.size
            go_wp2
            go_light
            exact ⟨⟨k + 1, _, by omega, by go_num, hgr, hof8, bx7, bz7, bn8, hgr.bel, by have := hg7.size; simp at this ⊢; omega⟩, by simp [intOf]; omega⟩
        · obtain rfl : k = os.length := by omega
          obtain ⟨Am, cm, rfl, hcm⟩ := (Sl.of_own HO.out.own).form
          rw [List.take_length] at hoff
          have HF := Lib.hid hoff
          have g4 := hbx.cell 4
          have gl := hbx.lt
          have q0 := hbn.cell 0
          have q1 := hbn.cell 1
          have q2 := hbn.cell 2
          have q3 := hbn.cell 3
          have q4 := hbn.cell 4
          have ql := hbn.lt
          have z0 := hbz.cell 0
          have z1 := hbz.cell 1
          have z2 := hbz.cell 2
          have z3 := hbz.cell 3
          have z4 := hbz.cell 4
          have f0 := hbz.frozen 0
          have f1 := hbz.frozen 1
          have f2 := hbz.frozen 2
          have f3 := hbz.frozen 3
          have f4 := hbz.frozen 4
          have zl := hbz.lt
          have BZ := Lib.hid hbz
          clear hoff hbx hbz hbn
          go_wp2
          have HB5 := (((((BZ.out).set_ 0 (.int .i64 ck)).set_ 1 (.int .i64 wt)).set_ 2 (.int .i64 gn)).set_ 3 (.slice Am ms.length cm)).set_ 4 (.slice At os.length ct)
          have HO5 := (((((HO.out).under (a := ⟨w.heap.size + 1, 0, none⟩) (by simp) (.int .i64 ck)).under (a := ⟨w.heap.size + 1, 1, none⟩) (by simp) (.int .i64 wt)).under (a := ⟨w.heap.size + 1, 2, none⟩) (by simp) (.int .i64 gn)).under (a := ⟨w.heap.size + 1, 3, none⟩) (by simp) (.slice Am ms.length cm)).under (a := ⟨w.heap.size + 1, 4, none⟩) (by simp) (.slice At os.length ct)
          have HF5 := ownsRow_setCell_below (ownsRow_setCell_below (ownsRow_setCell_below (ownsRow_setCell_below (ownsRow_setCell_below (HF.out) (a := ⟨w.heap.size + 1, 0, none⟩) (by simp) (.int .i64 ck)) (a := ⟨w.heap.size + 1, 1, none⟩) (by simp) (.int .i64 wt)) (a := ⟨w.heap.size + 1, 2, none⟩) (by simp) (.int .i64 gn)) (a := ⟨w.heap.size + 1, 3, none⟩) (by simp) (.slice Am ms.length cm)) (a := ⟨w.heap.size + 1, 4, none⟩) (by simp) (.slice At os.length ct)
          have HL5 : Below w.heap.size w (((((wr.setCell ⟨w.heap.size + 1, 0, none⟩ (.int .i64 ck)).setCell ⟨w.heap.size + 1, 1, none⟩ (.int .i64 wt)).setCell ⟨w.heap.size + 1, 2, none⟩ (.int .i64 gn)).setCell ⟨w.heap.size + 1, 3, none⟩ (.slice Am ms.length cm)).setCell ⟨w.heap.size + 1, 4, none⟩ (.slice At os.length ct)) := (((((HBW.out).setCell (Nat.le_succ _) _).setCell (Nat.le_succ _) _).setCell (Nat.le_succ _) _).setCell (Nat.le_succ _) _).setCell (Nat.le_succ _) _
          generalize (((((wr.setCell ⟨w.heap.size + 1, 0, none⟩ (.int .i64 ck)).setCell ⟨w.heap.size + 1, 1, none⟩ (.int .i64 wt)).setCell ⟨w.heap.size + 1, 2, none⟩ (.int .i64 gn)).setCell ⟨w.heap.size + 1, 3, none⟩ (.slice Am ms.length cm)).setCell ⟨w.heap.size + 1, 4, none⟩ (.slice At os.length ct)) = W5 at *
          simp only [List.setIfInBounds_toArray, List.set_cons_succ, List.set_cons_zero] at HB5
          have y0 := HB5.cell 0
          have y1 := HB5.cell 1
          have y2 := HB5.cell 2
          have y3 := HB5.cell 3
          have y4 := HB5.cell 4
          exact bodyPost_ret (v := .agg #[.int .i64 ck, .int .i64 wt, .int .i64 gn, .slice Am ms.length cm, .slice At os.length ct]) (by simp [results, Try.results40, go_sem, y0, y1, y2, y3, y4]) rfl ⟨.slice Am ms.length cm, .slice At os.length ct, rows, rfl, HO5.more (by omega), own_base HF5 (by omega), HL5⟩

end Go.Proofs.Ytjkoceacjbhblaa
