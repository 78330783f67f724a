/- tailraceref.GroupCopy: a group in memory of its own. -/
import Derived.Test.YtjkoceacjbhblaaRefCopy
import Derived.Test.YtjkoceacjbhblaaGWh
import Derived.Deep.RegionLaw
namespace Go.Proofs.Ytjkoceacjbhblaa
open Go.RowKit

theorem OwnM.push {w0 w w6 w7 : World} {base k : Nat} {tv v5 v7 : Value} {ds : List MemD} {rows : List (MemD × Value)} {t : MemD} {o : Obj} (h : OwnM w0 w base tv ds rows k) (hk : k = ds.length) (hb0 : w0.heap.size ≤ base) (hb : base ≤ w.heap.size)
    (h6 : Below w.heap.size w w6) (ho5 : w6.ownsRow w.heap.size 3 1 v5 t.parts.length (t.parts.map (Value.int .i64))) (ho7 : w7.ownsRow base 79 3 v7 (k + 1) (rows.flatMap mcells ++ mcells (t, v5))) (hg : (w6.alloc o).grownBy w7 tv.ownBlock) :
    OwnM w0 w7 base v7 (ds ++ [t]) (rows ++ [(t, v5)]) (k + 1) := by
  subst hk
  have hl : rows.length = ds.length := by rw [← h.fst]; simp
  have e1 : rows.take ds.length = rows := by rw [← hl, List.take_length]
  have e2 : (rows ++ [(t, v5)]).take (ds.length + 1) = rows ++ [(t, v5)] := by rw [List.take_of_length_le]; simp [hl]
  have hown6 := (own_keep h.own h6 (fun b hb => (h.own.lt b hb).2)).alloc o
  refine ⟨by simp [h.fst], own_eq ho7 (by simp) (by simp), ?_, ?_, ?_, ?_⟩
  · exact ((h.bel.trans (h6.mono h.bel.size)).alloc (Nat.le_trans h.bel.size h6.size) o).grown hg (by have := h.bel.size; have := h6.size; simp; omega) fun b hb => by have := (h.own.lt b hb).1; omega
  · intro t' ht'
    rw [List.drop_of_length_le (by simp [hl])] at ht'
    simp at ht'
  · intro t' ht'
    rw [e2] at ht'
    rcases List.mem_append.1 ht' with ht' | ht'
    · have hp := h.parts t' (by rw [e1]; exact ht')
      have hp6 := (own_keep hp h6 (fun b hb => (hp.lt b hb).2)).alloc o
      exact hp6.kept hg (own_apart hp6 hown6 (by decide))
    · simp only [List.mem_singleton] at ht'
      subst ht'
      exact own_base ((ho5.alloc o).kept hg (own_apart (ho5.alloc o) hown6 (by decide))) hb
  · rw [e2]
    have ha := h.apart
    rw [e1] at ha
    refine List.pairwise_append.2 ⟨ha, by simp, fun a ha' b hb' => ?_⟩
    simp only [List.mem_singleton] at hb'
    subst hb'
    rcases hab : a.2.ownBlock with _ | x
    · exact Or.inl rfl
    · refine Or.inr fun e => ?_
      have h1 := (h.parts a (by rw [e1]; exact ha')).lt x hab
      have h2 := ho5.lt x e.symm
      omega


theorem OwnM.grow {w0 w w7 : World} {base n k : Nat} {v ov : Value} {ds : List MemD} {rows : List (MemD × Value)} {xs : List Value} {o : Obj} (h : OwnM w0 w base v ds rows n) (hn : n = ds.length) (hb0 : w0.heap.size ≤ base) (_hb : base ≤ w.heap.size) (ho : w.ownsRow base 81 2 ov k xs) (hg : (w.alloc o).grownBy w7 ov.ownBlock) : OwnM w0 w7 base v ds rows n := by
  have hl : rows.length = ds.length := by rw [← h.fst]; simp
  have ho' := ho.alloc o
  refine ⟨h.fst, (h.own.alloc o).kept hg (own_apart (h.own.alloc o) ho' (by decide)), ?_, fun t ht => ?_, fun t ht => ?_, h.apart⟩
  · exact ((h.bel).alloc h.bel.size o).grown hg (by have := h.bel.size; simp; omega) fun b hb => by have := (ho.lt b hb).1; omega
  · rw [List.drop_of_length_le (by omega)] at ht
    simp at ht
  · exact ((h.parts t ht).alloc o).kept hg (own_apart ((h.parts t ht).alloc o) ho' (by decide))
theorem step_append_sl {w : World} {ops : Array Oper} {o : Oper} {a : Act} {K : Act → World → Prop} {Q : Exit → Act → World → Prop} {E : Prop} (hgd : o.guard = none) (s x : Operand) (t : TypeId)
    (ho : o.op = .call { callee := .builtin .append, args := #[s, x], argTypes := #[t, t] })
    (base : Nat) (e : TypeId) (i : TypeInfo) (z : Value) (size bytes : Nat) (ht : Try.prog.underlying t = some (.slice e)) (hi : Try.prog.info? e = some i) (hz : i.zero = some z)
    (hsize : i.size = size) (hby : i.bytes = bytes) (hzs : z.cells.size = size) (hsz : 0 < size)
    (v : Value) (n : Nat) (xs : List Value) (hs : a.eval s = v) (hown : w.ownsRow base e size v n xs)
    (u : Value) (m : Nat) (news : List Value) (hx : a.eval x = u) (hr : Sl w size u m news) (h1 : ∀ x ∈ news, x.oneCell' = true)
    (h63 : n + m ≤ maxLen) (hbytes : (n + m) * bytes ≤ 140737488355328) (hbase : base ≤ w.heap.size)
    (h : ∀ v' w', w'.ownsRow base e size v' (n + m) (xs ++ news) → w.grownBy w' v.ownBlock → (v'.ownBlock = v.ownBlock ∨ v'.ownBlock = some w.heap.size) → K (a.put o.dst v') w') :
    if Region.wanted o (yielded ops a.tmps) = true then Oper.wp Try.prog o a w K Q else E := by
  have hw : Region.wanted o (yielded ops a.tmps) = true := by simp [Region.wanted, hgd]
  rw [if_pos hw]
  exact wp_append_sl w s x t ho base e i z size bytes ht hi hz hsize hby hzs hsz v n xs hs hown u m news hx hr h1 h63 hbytes hbase h
/-- the loops of tailraceref.GroupCopy -/
def RgLp (w : World) (bc zc : Array Value) (ck wt gn : Int) (ms : List MemD) (i : Value) (wr : World) : Prop :=
  ∃ (k : Nat) (rows : List (MemD × Value)) (tv : Value), k ≤ ms.length ∧ i = .int .i64 k ∧ OwnM w wr (w.heap.size + 3) tv (ms.take k) rows k ∧ Blk wr w.heap.size 36 bc ∧ Blk wr (w.heap.size + 1) 36 zc ∧ Blk wr (w.heap.size + 2) 36 #[.int .i64 ck, .int .i64 wt, .int .i64 gn, tv, .slice none 0 0] ∧ Below w.heap.size w wr
def RhLp (w : World) (bc zc : Array Value) (ck wt gn : Int) (ms : List MemD) (rows : List (MemD × Value)) (tv : Value) (os : List OffD) (i : Value) (wr : World) : Prop :=
  ∃ (k : Nat) (ov : Value), k ≤ os.length ∧ i = .int .i64 k ∧ OwnM w wr (w.heap.size + 3) tv ms rows ms.length ∧ wr.ownsRow (w.heap.size + 3) 81 2 ov k ((os.take k).flatMap ocells) ∧ Blk wr w.heap.size 36 bc ∧ Blk wr (w.heap.size + 1) 36 zc ∧ Blk wr (w.heap.size + 2) 36 #[.int .i64 ck, .int .i64 wt, .int .i64 gn, tv, ov] ∧ Below w.heap.size w wr ∧ w.heap.size + 3 ≤ wr.heap.size
theorem mem_info : (Try.prog.info? 79).map (fun i => (i.zero, i.size, i.bytes)) = some (some (.agg #[.string .empty, .int .i64 0, .slice none 0 0]), 3, 48) := by kernel_rfl
theorem off_info : (Try.prog.info? 81).map (fun i => (i.zero, i.size, i.bytes)) = some (some (.agg #[.int .i64 0, .int .i64 0]), 2, 16) := by kernel_rfl

set_option maxRecDepth 100000 in
set_option maxHeartbeats 8000000 in
theorem refGroupCopy_any (v : Value) (c : GroupD) (w : World) (h : Gv w v c) (hb : c.mems.length * 48 ≤ 140737488355328) (hp : ∀ t ∈ c.mems, t.parts.length * 8 ≤ 140737488355328) (hob : c.offs.length * 16 ≤ 140737488355328) :
    Calls Try.prog 40 #[v] w (CopyPostM w c) := by
  obtain ⟨i0, hi0, hz0, hz1, hz2'⟩ := info_parts mem_info
  obtain ⟨j0, hj0, hy0, hy1, hy2'⟩ := info_parts off_info
  obtain ⟨mv, ov, rfl, hx, hy, hl1, hl2⟩ := h
  obtain ⟨A, c1, rfl, hc1, hx1⟩ := hx.at_
  obtain ⟨A', c2, rfl, hc2, hy1'⟩ := hy.at_
  unfold groupV
  obtain ⟨ck, wt, gn, ms, os⟩ := c
  simp only at *
  have HX := Lib.hid hx1
  have HY := Lib.hid hy1'
  have HP := Lib.hid hp
  clear hx1 hy1' hx hy hp
  go_enter Try.func40, Try.ntmps40
  go_wp2
  have bx := ((Blk.new w 36 #[.int .i64 ck, .int .i64 wt, .int .i64 gn, .slice A ms.length c1, .slice A' os.length c2]).alloc (.cells #[.int .i64 0, .int .i64 0, .int .i64 0, .slice none 0 0, .slice none 0 0] 36)).alloc (.cells #[.int .i64 ck, .int .i64 wt, .int .i64 gn, .slice none 0 0, .slice none 0 0] 36)
  have bz := (Blk.new (w.alloc (.cells #[.int .i64 ck, .int .i64 wt, .int .i64 gn, .slice A ms.length c1, .slice A' os.length c2] 36)) 36 #[.int .i64 0, .int .i64 0, .int .i64 0, .slice none 0 0, .slice none 0 0]).alloc (.cells #[.int .i64 ck, .int .i64 wt, .int .i64 gn, .slice none 0 0, .slice none 0 0] 36)
  have bn := Blk.new ((w.alloc (.cells #[.int .i64 ck, .int .i64 wt, .int .i64 gn, .slice A ms.length c1, .slice A' os.length c2] 36)).alloc (.cells #[.int .i64 0, .int .i64 0, .int .i64 0, .slice none 0 0, .slice none 0 0] 36)) 36 #[.int .i64 ck, .int .i64 wt, .int .i64 gn, .slice none 0 0, .slice none 0 0]
  have hbl : Below w.heap.size w (((w.alloc (.cells #[.int .i64 ck, .int .i64 wt, .int .i64 gn, .slice A ms.length c1, .slice A' os.length c2] 36)).alloc (.cells #[.int .i64 0, .int .i64 0, .int .i64 0, .slice none 0 0, .slice none 0 0] 36)).alloc (.cells #[.int .i64 ck, .int .i64 wt, .int .i64 gn, .slice none 0 0, .slice none 0 0] 36)) := ((((Below.refl _ _).alloc (Nat.le_refl _) _).alloc (by simp) _).alloc (by simp; omega) _)
  simp only [World.size_alloc] at bz bn
  generalize ((w.alloc (.cells #[.int .i64 ck, .int .i64 wt, .int .i64 gn, .slice A ms.length c1, .slice A' os.length c2] 36)).alloc (.cells #[.int .i64 0, .int .i64 0, .int .i64 0, .slice none 0 0, .slice none 0 0] 36)).alloc (.cells #[.int .i64 ck, .int .i64 wt, .int .i64 gn, .slice none 0 0, .slice none 0 0] 36) = W0 at *
  have HBX := Lib.hid bx
  have HBZ := Lib.hid bz
  have HBN := Lib.hid bn
  have HBL := Lib.hid hbl
  clear bx bz bn hbl
  go_loopw [4] (fun i wr => RgLp w #[.int .i64 ck, .int .i64 wt, .int .i64 gn, .slice A ms.length c1, .slice A' os.length c2] #[.int .i64 0, .int .i64 0, .int .i64 0, .slice none 0 0, .slice none 0 0] ck wt gn ms i wr) (fun i _ => ms.length - (intOf i).toNat)
  case atStart => exact ⟨0, [], .slice none 0 0, by omega, rfl, ⟨by simp, by simpa using World.ownsRow_nil _ _ _ _, HBL.out, by simp, by simp, by simp⟩, HBX.out, HBZ.out, HBN.out, HBL.out⟩
  case round =>
    obtain ⟨k, rows, tv, hk, rfl, ho, hbx, hbz, hbn, hbw⟩ := hrel
    have g3 := hbx.cell 3
    have HBW := Lib.hid hbw
    have HO := Lib.hid ho
    clear hbw ho
    by_cases hlt : k < ms.length
    · obtain ⟨b, off, rfl, hbb, hcell⟩ := HX.out (by omega)
      obtain ⟨pv, x0, x1, x2, xi, xl⟩ := hcell k hlt
      have X0 := (HBW.out.cell (p := ⟨b, off + k * 3, none⟩) hbb).trans x0
      have X1 := (HBW.out.cell (p := ⟨b, off + k * 3 + 1, none⟩) hbb).trans x1
      have X2 := (HBW.out.cell (p := ⟨b, off + k * 3 + 2, none⟩) hbb).trans x2
      have i0' : (0 : Int) ≤ (k : Int) := by omega
      have i1' : (k : Int) < (ms.length : Int) := by omega
      obtain ⟨A3, c3, rfl, hc3, -⟩ := xi.at_
      have XI := Lib.hid (xi.below HBW.out)
      have hble : b < wr.heap.size := by have := HBW.out.size; omega
      have hsz : w.heap.size + 3 ≤ wr.heap.size := by have := hbn.lt; omega
      clear x0 x1 x2 hcell xi
      go_wp2_with fail
      have bt := Blk.new wr 79 #[.string ms[k].name, .int .i64 ms[k].heard, .slice A3 ms[k].parts.length c3]
      have hal := (Below.refl wr.heap.size wr).alloc (Nat.le_refl _) (.cells #[.string ms[k].name, .int .i64 ms[k].heard, .slice A3 ms[k].parts.length c3] 79)
      have hz2 : (wr.alloc (.cells #[.string ms[k].name, .int .i64 ms[k].heard, .slice A3 ms[k].parts.length c3] 79)).heap.size = wr.heap.size + 1 := by simp
      generalize wr.alloc (.cells #[.string ms[k].name, .int .i64 ms[k].heard, .slice A3 ms[k].parts.length c3] 79) = w2 at *
      refine (intsCopy_any _ ms[k].parts w2 (XI.out.below hal) (HP.out _ (List.getElem_mem _))).mono ?_
      rintro e w5 ⟨v5, rfl, ho5, hb5⟩
      obtain ⟨A5, c5, rfl, hc5⟩ := (Sl.of_own ho5).form
      have hb6 := below_then hal hb5
      have bt5 := bt.below hb5 bt.lt
      have bx5 := hbx.below hb6 hbx.lt
      have bz5 := hbz.below hb6 hbz.lt
      have bn5 := hbn.below hb6 hbn.lt
      have f4 := bt5.frozen 2
      have t4 := bt5.cell 2
      have tlt := bt5.lt
      have bt6 := bt5.set_ 2 (.slice A5 ms[k].parts.length c5)
      have bn6 := bn5.far (p := ⟨wr.heap.size, 2, none⟩) (by show w.heap.size + 2 ≠ wr.heap.size; omega) (.slice A5 ms[k].parts.length c5)
      have bx6 := bx5.far (p := ⟨wr.heap.size, 2, none⟩) (by show w.heap.size ≠ wr.heap.size; omega) (.slice A5 ms[k].parts.length c5)
      have bz6 := bz5.far (p := ⟨wr.heap.size, 2, none⟩) (by show w.heap.size + 1 ≠ wr.heap.size; omega) (.slice A5 ms[k].parts.length c5)
      have hb6' : Below wr.heap.size wr (w5.setCell ⟨wr.heap.size, 2, none⟩ (.slice A5 ms[k].parts.length c5)) := hb6.setCell (Nat.le_refl _) _
      have ho5' := own_base (ownsRow_setCell_below ho5 (a := ⟨wr.heap.size, 2, none⟩) (by rw [hz2]; exact Nat.lt_succ_self _) (.slice A5 ms[k].parts.length c5)) (show wr.heap.size ≤ w2.heap.size by omega)
      simp only [List.setIfInBounds_toArray, List.set_cons_succ, List.set_cons_zero] at bt6
      have htl : (ms.take k).length = k := by simp; omega
      have hot := own_eq (own_keep HO.out.own hb6' (fun b hb => (HO.out.own.lt b hb).2)) htl rfl
      obtain ⟨At, ct, rfl, hct⟩ := (Sl.of_own hot).form
      have y0 := bt6.cell 0
      have y1 := bt6.cell 1
      have y2 := bt6.cell 2
      have n3 : (w5.setCell ⟨wr.heap.size, 2, none⟩ (.slice A5 ms[k].parts.length c5)).cell? ⟨w.heap.size + 1 + 1, 3, none⟩ = some (.slice At k ct) := bn6.cell 3
      have hlen6 : w.heap.size + 3 ≤ (w5.setCell ⟨wr.heap.size, 2, none⟩ (.slice A5 ms[k].parts.length c5)).heap.size := Nat.le_trans hsz hb6'.size
      have hne : ∀ g, (Value.slice At k ct).ownBlock = some g → w.heap.size + 3 ≤ g := fun g hg => (hot.lt g hg).1
      have HBT := Lib.hid bt6
      have HNX := Lib.hid bx6
      have HNZ := Lib.hid bz6
      have HNN := Lib.hid bn6
      have HW6 := Lib.hid hb6'
      have HO5 := Lib.hid ho5'
      have HNE := Lib.hid hne
      clear bt bt5 bt6 bx5 bz5 bn5 bn6 bx6 bz6 hb6 hb6' ho5 ho5' hb5 hal hne hbx hbz hbn
      go_wp2_with (at_builtin; go_must (refine wpList_append_sl _ rfl (.tmp 31) (.tmp 33) 33 rfl (w.heap.size + 3) 79 i0 (.agg #[.string .empty, .int .i64 0, .slice none 0 0]) 3 48 Try.underlying33 hi0 hz0 hz1 hz2' rfl (by decide) _ _ _ (by rfl) (hot.alloc _) _ 1 _ (by rfl) (Sl.lit' _ _ _ 3 1 _ rfl (by simp)) (mcells_one [(ms[k], .slice A5 ms[k].parts.length c5)] (by intro t ht; simp only [List.mem_singleton] at ht; subst ht; rfl)) (by simp only [maxLen]; omega) (by omega) (by simp; omega) ?_; intro v7 w7 ho7 hg7 ha7; obtain ⟨A7, c7, rfl, hc7⟩ := (Sl.of_own ho7).form; have bn7 := (HNN.out.alloc _).grown hg7 (fun e => by have := HNE.out _ e.symm; omega); have c7' : w7.cell? ⟨w.heap.size + 1 + 1, 3, none⟩ = some (.slice At k ct) := bn7.cell 3; have f7 : w7.frozen? ⟨w.heap.size + 1 + 1, 3, none⟩ = false := bn7.frozen 3; have l7 : w.heap.size + 1 + 1 < w7.heap.size := bn7.lt))
      have hpush := (HO.out.push (t := ms[k]) htl.symm (Nat.le_add_right _ 3) hsz HW6.out HO5.out ho7 hg7).under (a := ⟨w.heap.size + 2, 3, none⟩) ⟨Nat.lt_succ_self _, Nat.le_add_right _ 2⟩ (.slice A7 (k + 1) c7)
      rw [← List.take_succ_eq_append_getElem hlt] at hpush
      have bx7 := ((HNX.out.alloc _).grown hg7 (fun e => by have := HNE.out _ e.symm; omega)).far (p := ⟨w.heap.size + 2, 3, none⟩) (by show w.heap.size ≠ w.heap.size + 2; omega) (.slice A7 (k + 1) c7)
      have bz7 := ((HNZ.out.alloc _).grown hg7 (fun e => by have := HNE.out _ e.symm; omega)).far (p := ⟨w.heap.size + 2, 3, none⟩) (by show w.heap.size + 1 ≠ w.heap.size + 2; omega) (.slice A7 (k + 1) c7)
      have bn8 := bn7.set_ 3 (.slice A7 (k + 1) c7)
      simp only [List.setIfInBounds_toArray, List.set_cons_succ, List.set_cons_zero] at bn8
      go_light
      exact ⟨⟨k + 1, _, _, by omega, by go_num, hpush, bx7, bz7, bn8, hpush.bel⟩, by simp [intOf]; omega⟩
    · obtain rfl : k = ms.length := by omega
      have ho := HO.out
      rw [List.take_length] at ho
      have hsz : w.heap.size + 3 ≤ wr.heap.size := by have := hbn.lt; omega
      obtain ⟨w9, hw9⟩ : ∃ w9, w9 = wr := ⟨_, rfl⟩
      subst hw9
      have HO9 := Lib.hid ho
      have NX := Lib.hid hbx
      have NZ := Lib.hid hbz
      have NN := Lib.hid hbn
      clear ho
      go_wp2_with fail
      clear hbx hbz hbn g3 HO
      go_loopw [6] (fun j wq => RhLp w #[.int .i64 ck, .int .i64 wt, .int .i64 gn, .slice A ms.length c1, .slice A' os.length c2] #[.int .i64 0, .int .i64 0, .int .i64 0, .slice none 0 0, .slice none 0 0] ck wt gn ms rows tv os j wq) (fun j _ => os.length - (intOf j).toNat)
      case atStart => exact ⟨0, .slice none 0 0, by omega, rfl, HO9.out, by simpa using World.ownsRow_nil _ _ _ _, NX.out, NZ.out, NN.out, HBW.out, hsz⟩
      case round =>
        obtain ⟨k, ov, hk, rfl, ho, hoff, hbx, hbz, hbn, hbw, hsz⟩ := hrel
        have HO := Lib.hid ho
        have HBW := Lib.hid hbw
        clear ho hbw
        obtain ⟨At, ct, rfl, hct⟩ := (Sl.of_own hoff).form
        by_cases hlt : k < os.length
        · obtain ⟨b, off, rfl, hbb, hcell⟩ := HY.out (by omega)
          obtain ⟨x0, x1⟩ := hcell k hlt
          have X0 := (HBW.out.cell (p := ⟨b, off + k * 2, none⟩) hbb).trans x0
          have X1 := (HBW.out.cell (p := ⟨b, off + k * 2 + 1, none⟩) hbb).trans x1
          have i0' : (0 : Int) ≤ (k : Int) := by omega
          have i1' : (k : Int) < (os.length : Int) := by omega
          have hble : b < wr.heap.size := by have := HBW.out.size; omega
          have g4 := hbx.cell 4
          have gl := hbx.lt
          have n4 : wr.cell? ⟨w.heap.size + 1 + 1, 4, none⟩ = some (.slice At k ct) := hbn.cell 4
          have nl : w.heap.size + 1 + 1 < wr.heap.size := hbn.lt
          have hdr : Below wr.heap.size wr wr.drew := (Below.refl _ _).drew
          have hod := own_keep hoff hdr (fun b hb => (hoff.lt b hb).2)
          have hne : ∀ g, (Value.slice At k ct).ownBlock = some g → w.heap.size + 3 ≤ g := fun g hg => (hoff.lt g hg).1
          have hszd := hdr.size
          have HND := Lib.hid (hbn.below hdr hbn.lt)
          have HXD := Lib.hid (hbx.below hdr hbx.lt)
          have HZD := Lib.hid (hbz.below hdr hbz.lt)
          have HOD := Lib.hid (HO.out.keep hdr)
          have HBD := Lib.hid (below_then HBW.out hdr)
          have HNE := Lib.hid hne
          have HFD := Lib.hid hod
          clear x0 x1 hcell hbn hbx hbz hne hod hdr hoff
          go_wp2_with fail
          go_region_law ((refine step_append_sl rfl (.tmp 44) (.tmp 50) 34 rfl (w.heap.size + 3) 81 j0 (.agg #[.int .i64 0, .int .i64 0]) 2 16 Try.underlying34 hj0 hy0 hy1 hy2' rfl (by decide) _ _ _ (by first | rfl | simp [Act.eval, Act.put]) (HFD.out.alloc _) _ 1 _ (by first | rfl | simp [Act.eval, Act.put]) (Sl.lit' _ _ _ 2 1 _ rfl (by simp)) (ocells_one [os[k]]) (by simp only [maxLen]; omega) (by omega) (by simp; omega) ?_; intro v7 w7 ho7 hg7 ha7; obtain ⟨A7, c7, rfl, hc7⟩ := (Sl.of_own ho7).form; have bn7 := (HND.out.alloc _).grown hg7 (fun e => by have := HNE.out _ e.symm; omega); have c7' : w7.cell? ⟨w.heap.size + 1 + 1, 4, none⟩ = some (.slice At k ct) := bn7.cell 4; have f7 : w7.frozen? ⟨w.heap.size + 1 + 1, 4, none⟩ = false := bn7.frozen 4; have l7 : w.heap.size + 1 + 1 < w7.heap.size := bn7.lt))
          all_goals
            have hgr := (HOD.out.grow rfl (Nat.le_add_right _ 3) (by omega) HFD.out hg7).under (a := ⟨w.heap.size + 2, 4, none⟩) ⟨Nat.lt_succ_self _, Nat.le_add_right _ 2⟩ (.slice A7 (k + 1) c7)
            have bx7 := ((HXD.out.alloc _).grown hg7 (fun e => by have := HNE.out _ e.symm; omega)).far (p := ⟨w.heap.size + 2, 4, none⟩) (by show w.heap.size ≠ w.heap.size + 2; omega) (.slice A7 (k + 1) c7)
            have bz7 := ((HZD.out.alloc _).grown hg7 (fun e => by have := HNE.out _ e.symm; omega)).far (p := ⟨w.heap.size + 2, 4, none⟩) (by show w.heap.size + 1 ≠ w.heap.size + 2; omega) (.slice A7 (k + 1) c7)
            have bn8 := bn7.set_ 4 (.slice A7 (k + 1) c7)
            simp only [List.setIfInBounds_toArray, List.set_cons_succ, List.set_cons_zero] at bn8
            have hof8 := own_eq (ownsRow_setCell_below ho7 (a := ⟨w.heap.size + 2, 4, none⟩) (Nat.lt_succ_self _) (.slice A7 (k + 1) c7)) rfl (show (os.take k).flatMap ocells ++ _ = (os.take (k + 1)).flatMap ocells by rw [List.take_succ_eq_append_getElem hlt, List.flatMap_append]; simp [ocells])
            have hs7 := hgr.bel.size
            go_wp2
            go_light
            exact ⟨⟨k + 1, _, by omega, by go_num, hgr, hof8, bx7, bz7, bn8, hgr.bel, by have := hg7.size; simp at this ⊢; omega⟩, by simp [intOf]; omega⟩
        · obtain rfl : k = os.length := by omega
          obtain ⟨Am, cm, rfl, hcm⟩ := (Sl.of_own HO.out.own).form
          rw [List.take_length] at hoff
          have HF := Lib.hid hoff
          have g4 := hbx.cell 4
          have gl := hbx.lt
          have q0 := hbn.cell 0
          have q1 := hbn.cell 1
          have q2 := hbn.cell 2
          have q3 := hbn.cell 3
          have q4 := hbn.cell 4
          have ql := hbn.lt
          have z0 := hbz.cell 0
          have z1 := hbz.cell 1
          have z2 := hbz.cell 2
          have z3 := hbz.cell 3
          have z4 := hbz.cell 4
          have f0 := hbz.frozen 0
          have f1 := hbz.frozen 1
          have f2 := hbz.frozen 2
          have f3 := hbz.frozen 3
          have f4 := hbz.frozen 4
          have zl := hbz.lt
          have BZ := Lib.hid hbz
          clear hoff hbx hbz hbn
          go_wp2
          have HB5 := (((((BZ.out).set_ 0 (.int .i64 ck)).set_ 1 (.int .i64 wt)).set_ 2 (.int .i64 gn)).set_ 3 (.slice Am ms.length cm)).set_ 4 (.slice At os.length ct)
          have HO5 := (((((HO.out).under (a := ⟨w.heap.size + 1, 0, none⟩) (by simp) (.int .i64 ck)).under (a := ⟨w.heap.size + 1, 1, none⟩) (by simp) (.int .i64 wt)).under (a := ⟨w.heap.size + 1, 2, none⟩) (by simp) (.int .i64 gn)).under (a := ⟨w.heap.size + 1, 3, none⟩) (by simp) (.slice Am ms.length cm)).under (a := ⟨w.heap.size + 1, 4, none⟩) (by simp) (.slice At os.length ct)
          have HF5 := ownsRow_setCell_below (ownsRow_setCell_below (ownsRow_setCell_below (ownsRow_setCell_below (ownsRow_setCell_below (HF.out) (a := ⟨w.heap.size + 1, 0, none⟩) (by simp) (.int .i64 ck)) (a := ⟨w.heap.size + 1, 1, none⟩) (by simp) (.int .i64 wt)) (a := ⟨w.heap.size + 1, 2, none⟩) (by simp) (.int .i64 gn)) (a := ⟨w.heap.size + 1, 3, none⟩) (by simp) (.slice Am ms.length cm)) (a := ⟨w.heap.size + 1, 4, none⟩) (by simp) (.slice At os.length ct)
          have HL5 : Below w.heap.size w (((((wr.setCell ⟨w.heap.size + 1, 0, none⟩ (.int .i64 ck)).setCell ⟨w.heap.size + 1, 1, none⟩ (.int .i64 wt)).setCell ⟨w.heap.size + 1, 2, none⟩ (.int .i64 gn)).setCell ⟨w.heap.size + 1, 3, none⟩ (.slice Am ms.length cm)).setCell ⟨w.heap.size + 1, 4, none⟩ (.slice At os.length ct)) := (((((HBW.out).setCell (Nat.le_succ _) _).setCell (Nat.le_succ _) _).setCell (Nat.le_succ _) _).setCell (Nat.le_succ _) _).setCell (Nat.le_succ _) _
          generalize (((((wr.setCell ⟨w.heap.size + 1, 0, none⟩ (.int .i64 ck)).setCell ⟨w.heap.size + 1, 1, none⟩ (.int .i64 wt)).setCell ⟨w.heap.size + 1, 2, none⟩ (.int .i64 gn)).setCell ⟨w.heap.size + 1, 3, none⟩ (.slice Am ms.length cm)).setCell ⟨w.heap.size + 1, 4, none⟩ (.slice At os.length ct)) = W5 at *
          simp only [List.setIfInBounds_toArray, List.set_cons_succ, List.set_cons_zero] at HB5
          have y0 := HB5.cell 0
          have y1 := HB5.cell 1
          have y2 := HB5.cell 2
          have y3 := HB5.cell 3
          have y4 := HB5.cell 4
          exact bodyPost_ret (v := .agg #[.int .i64 ck, .int .i64 wt, .int .i64 gn, .slice Am ms.length cm, .slice At os.length ct]) (by simp [results, Try.results40, go_sem, y0, y1, y2, y3, y4]) rfl ⟨.slice Am ms.length cm, .slice At os.length ct, rows, rfl, HO5.more (by omega), own_base HF5 (by omega), HL5⟩

end Go.Proofs.Ytjkoceacjbhblaa
