/- Parts of a proof, merged: GWh, RefCopyG, CoordE, GrpR, AsgA. No condition. -/
import Derived.Test.YtjkoceacjbhblaaGl7
import Derived.Test.YtjkoceacjbhblaaGl5
import Derived.Deep.RegionLaw
import Derived.Test.YtjkoceacjbhblaaGl6
import Derived.Test.YtjkoceacjbhblaaGl4
namespace Go.Proofs.Ytjkoceacjbhblaa
open Go.RowKit

def whereOf (os : List OffD) (p : Int) : Int := match os.find? fun o => decide (o.part = p) with | some o => o.at_ | none => 0
def WhereTo (g : GroupD) (s : ByteArray) (p : Int) (r0 r1 : Int) : Prop :=
  (NameFaultM g s r1 ∧ r0 = 0) ∨ (GroupOk g ∧ NameOk s ∧ ((idxM g.mems s = none ∧ r0 = 0 ∧ r1 = 5) ∨ ∃ i, idxM g.mems s = some i ∧ ∃ h : i < g.mems.length, (p ∉ g.mems[i].parts ∧ r0 = 0 ∧ r1 = 12) ∨ (p ∈ g.mems[i].parts ∧ r0 = whereOf g.offs p ∧ r1 = 0)))
/-- two plain values -/
def Two (x y : Int) (w : World) (e : Ending) (w' : World) : Prop := e = .returned (.tuple #[.int .i64 x, .int .i64 y]) ∧ Below w.heap.size w w'
theorem OwnM.mems {w0 w : World} {base n : Nat} {v : Value} {ds : List MemD} {rows : List (MemD × Value)} (h : OwnM w0 w base v ds rows n) (hn : n = ds.length) (hp : ∀ t ∈ ds, t.parts.length ≤ 9223372036854775807) : Mems w v ds := by
  have hl : rows.length = ds.length := by rw [← h.fst]; simp
  refine ⟨rows, h.fst, Sl.of_own h.own, fun t ht => ?_⟩
  have ht' : t ∈ rows.take n := by rw [hn, ← hl, List.take_length]; exact ht
  exact ⟨Sl.of_own (h.parts t ht'), hp _ (by rw [← h.fst]; exact List.mem_map_of_mem ht)⟩
/-- offsets of the call's own -/
def OwnO (w : World) (base : Nat) (v : Value) (os : List OffD) : Prop := w.ownsRow base 81 2 v os.length (os.flatMap ocells)
theorem OwnO.keep {w w' : World} {base : Nat} {v : Value} {os : List OffD} (h : OwnO w base v os) (hb : Below w.heap.size w w') : OwnO w' base v os := own_keep h hb (fun b hb => (h.lt b hb).2)
theorem OwnO.under {w : World} {base : Nat} {v : Value} {os : List OffD} (h : OwnO w base v os) {a : Addr} (ha : a.block < base) (u : Value) : OwnO (w.setCell a u) base v os := ownsRow_setCell_below h ha u
theorem OwnO.offs {w : World} {base : Nat} {v : Value} {os : List OffD} (h : OwnO w base v os) : Offs w v os := Sl.of_own h
end Go.Proofs.Ytjkoceacjbhblaa
namespace Go.Proofs.Ytjkoceacjbhblaa
open Go.RowKit

theorem OwnM.push {w0 w w6 w7 : World} {base k : Nat} {tv v5 v7 : Value} {ds : List MemD} {rows : List (MemD × Value)} {t : MemD} {o : Obj} (h : OwnM w0 w base tv ds rows k) (hk : k = ds.length) (hb0 : w0.heap.size ≤ base) (hb : base ≤ w.heap.size)
    (h6 : Below w.heap.size w w6) (ho5 : w6.ownsRow w.heap.size 3 1 v5 t.parts.length (t.parts.map (Value.int .i64))) (ho7 : w7.ownsRow base 79 3 v7 (k + 1) (rows.flatMap mcells ++ mcells (t, v5))) (hg : (w6.alloc o).grownBy w7 tv.ownBlock) :
    OwnM w0 w7 base v7 (ds ++ [t]) (rows ++ [(t, v5)]) (k + 1) := by
  subst hk
  have hl : rows.length = ds.length := by rw [← h.fst]; simp
  have e1 : rows.take ds.length = rows := by rw [← hl, List.take_length]
  have e2 : (rows ++ [(t, v5)]).take (ds.length + 1) = rows ++ [(t, v5)] := by rw [List.take_of_length_le]; simp [hl]
  have hown6 := (own_keep h.own h6 (fun b hb => (h.own.lt b hb).2)).alloc o
  refine ⟨by simp [h.fst], own_eq ho7 (by simp) (by simp), ?_, ?_, ?_, ?_⟩
  · exact ((h.bel.trans (h6.mono h.bel.size)).alloc (Nat.le_trans h.bel.size h6.size) o).grown hg (by have := h.bel.size; have := h6.size; simp; omega) fun b hb => by have := (h.own.lt b hb).1; omega
  · intro t' ht'
    rw [List.drop_of_length_le (by simp [hl])] at ht'
    simp at ht'
  · intro t' ht'
    rw [e2] at ht'
    rcases List.mem_append.1 ht' with ht' | ht'
    · have hp := h.parts t' (by rw [e1]; exact ht')
      have hp6 := (own_keep hp h6 (fun b hb => (hp.lt b hb).2)).alloc o
      exact hp6.kept hg (own_apart hp6 hown6 (by decide))
    · simp only [List.mem_singleton] at ht'
      subst ht'
      exact own_base ((ho5.alloc o).kept hg (own_apart (ho5.alloc o) hown6 (by decide))) hb
  · rw [e2]
    have ha := h.apart
    rw [e1] at ha
    refine List.pairwise_append.2 ⟨ha, by simp, fun a ha' b hb' => ?_⟩
    simp only [List.mem_singleton] at hb'
    subst hb'
    rcases hab : a.2.ownBlock with _ | x
    · exact Or.inl rfl
    · refine Or.inr fun e => ?_
      have h1 := (h.parts a (by rw [e1]; exact ha')).lt x hab
      have h2 := ho5.lt x e.symm
      omega

theorem OwnM.grow {w0 w w7 : World} {base n k : Nat} {v ov : Value} {ds : List MemD} {rows : List (MemD × Value)} {xs : List Value} {o : Obj} (h : OwnM w0 w base v ds rows n) (hn : n = ds.length) (hb0 : w0.heap.size ≤ base) (_hb : base ≤ w.heap.size) (ho : w.ownsRow base 81 2 ov k xs) (hg : (w.alloc o).grownBy w7 ov.ownBlock) : OwnM w0 w7 base v ds rows n := by
  have hl : rows.length = ds.length := by rw [← h.fst]; simp
  have ho' := ho.alloc o
  refine ⟨h.fst, (h.own.alloc o).kept hg (own_apart (h.own.alloc o) ho' (by decide)), ?_, fun t ht => ?_, fun t ht => ?_, h.apart⟩
  · exact ((h.bel).alloc h.bel.size o).grown hg (by have := h.bel.size; simp; omega) fun b hb => by have := (ho.lt b hb).1; omega
  · rw [List.drop_of_length_le (by omega)] at ht
    simp at ht
  · exact ((h.parts t ht).alloc o).kept hg (own_apart ((h.parts t ht).alloc o) ho' (by decide))
theorem step_append_sl {w : World} {ops : Array Oper} {o : Oper} {a : Act} {K : Act → World → Prop} {Q : Exit → Act → World → Prop} {E : Prop} (hgd : o.guard = none) (s x : Operand) (t : TypeId)
    (ho : o.op = .call { callee := .builtin .append, args := #[s, x], argTypes := #[t, t] })
    (base : Nat) (e : TypeId) (i : TypeInfo) (z : Value) (size bytes : Nat) (ht : Try.prog.underlying t = some (.slice e)) (hi : Try.prog.info? e = some i) (hz : i.zero = some z)
    (hsize : i.size = size) (hby : i.bytes = bytes) (hzs : z.cells.size = size) (hsz : 0 < size)
    (v : Value) (n : Nat) (xs : List Value) (hs : a.eval s = v) (hown : w.ownsRow base e size v n xs)
    (u : Value) (m : Nat) (news : List Value) (hx : a.eval x = u) (hr : Sl w size u m news) (h1 : ∀ x ∈ news, x.oneCell' = true)
    (h63 : n + m ≤ maxLen) (hbytes : (n + m) * bytes ≤ 140737488355328) (hbase : base ≤ w.heap.size)
    (h : ∀ v' w', w'.ownsRow base e size v' (n + m) (xs ++ news) → w.grownBy w' v.ownBlock → (v'.ownBlock = v.ownBlock ∨ v'.ownBlock = some w.heap.size) → K (a.put o.dst v') w') :
    if Region.wanted o (yielded ops a.tmps) = true then Oper.wp Try.prog o a w K Q else E := by
  have hw : Region.wanted o (yielded ops a.tmps) = true := by simp [Region.wanted, hgd]
  rw [if_pos hw]
  exact wp_append_sl w s x t ho base e i z size bytes ht hi hz hsize hby hzs hsz v n xs hs hown u m news hx hr h1 h63 hbytes hbase h
/-- the loops of tailraceref.GroupCopy -/
def RgLp (w : World) (bc zc : Array Value) (ck wt gn : Int) (ms : List MemD) (i : Value) (wr : World) : Prop :=
  ∃ (k : Nat) (rows : List (MemD × Value)) (tv : Value), k ≤ ms.length ∧ i = .int .i64 k ∧ OwnM w wr (w.heap.size + 3) tv (ms.take k) rows k ∧ Blk wr w.heap.size 36 bc ∧ Blk wr (w.heap.size + 1) 36 zc ∧ Blk wr (w.heap.size + 2) 36 #[.int .i64 ck, .int .i64 wt, .int .i64 gn, tv, .slice none 0 0] ∧ Below w.heap.size w wr
def RhLp (w : World) (bc zc : Array Value) (ck wt gn : Int) (ms : List MemD) (rows : List (MemD × Value)) (tv : Value) (os : List OffD) (i : Value) (wr : World) : Prop :=
  ∃ (k : Nat) (ov : Value), k ≤ os.length ∧ i = .int .i64 k ∧ OwnM w wr (w.heap.size + 3) tv ms rows ms.length ∧ wr.ownsRow (w.heap.size + 3) 81 2 ov k ((os.take k).flatMap ocells) ∧ Blk wr w.heap.size 36 bc ∧ Blk wr (w.heap.size + 1) 36 zc ∧ Blk wr (w.heap.size + 2) 36 #[.int .i64 ck, .int .i64 wt, .int .i64 gn, tv, ov] ∧ Below w.heap.size w wr ∧ w.heap.size + 3 ≤ wr.heap.size
theorem mem_info : (Try.prog.info? 79).map (fun i => (i.zero, i.size, i.bytes)) = some (some (.agg #[.string .empty, .int .i64 0, .slice none 0 0]), 3, 48) := by kernel_rfl
theorem off_info : (Try.prog.info? 81).map (fun i => (i.zero, i.size, i.bytes)) = some (some (.agg #[.int .i64 0, .int .i64 0]), 2, 16) := by kernel_rfl

set_option maxRecDepth 100000 in
set_option maxHeartbeats 8000000 in
theorem refGroupCopy_any (v : Value) (c : GroupD) (w : World) (h : Gv w v c) (hb : c.mems.length * 48 ≤ 140737488355328) (hp : ∀ t ∈ c.mems, t.parts.length * 8 ≤ 140737488355328) (hob : c.offs.length * 16 ≤ 140737488355328) :
    Calls Try.prog 40 #[v] w (CopyPostM w c) := by
  obtain ⟨i0, hi0, hz0, hz1, hz2'⟩ := info_parts mem_info
  obtain ⟨j0, hj0, hy0, hy1, hy2'⟩ := info_parts off_info
  obtain ⟨mv, ov, rfl, hx, hy, hl1, hl2⟩ := h
  obtain ⟨A, c1, rfl, hc1, hx1⟩ := hx.at_
  obtain ⟨A', c2, rfl, hc2, hy1'⟩ := hy.at_
  unfold groupV
  obtain ⟨ck, wt, gn, ms, os⟩ := c
  simp only at *
  have HX := Lib.hid hx1
  have HY := Lib.hid hy1'
  have HP := Lib.hid hp
  clear hx1 hy1' hx hy hp
  go_enter Try.func40, Try.ntmps40
  go_wp2
  have bx := ((Blk.new w 36 #[.int .i64 ck, .int .i64 wt, .int .i64 gn, .slice A ms.length c1, .slice A' os.length c2]).alloc (.cells #[.int .i64 0, .int .i64 0, .int .i64 0, .slice none 0 0, .slice none 0 0] 36)).alloc (.cells #[.int .i64 ck, .int .i64 wt, .int .i64 gn, .slice none 0 0, .slice none 0 0] 36)
  have bz := (Blk.new (w.alloc (.cells #[.int .i64 ck, .int .i64 wt, .int .i64 gn, .slice A ms.length c1, .slice A' os.length c2] 36)) 36 #[.int .i64 0, .int .i64 0, .int .i64 0, .slice none 0 0, .slice none 0 0]).alloc (.cells #[.int .i64 ck, .int .i64 wt, .int .i64 gn, .slice none 0 0, .slice none 0 0] 36)
  have bn := Blk.new ((w.alloc (.cells #[.int .i64 ck, .int .i64 wt, .int .i64 gn, .slice A ms.length c1, .slice A' os.length c2] 36)).alloc (.cells #[.int .i64 0, .int .i64 0, .int .i64 0, .slice none 0 0, .slice none 0 0] 36)) 36 #[.int .i64 ck, .int .i64 wt, .int .i64 gn, .slice none 0 0, .slice none 0 0]
  have hbl : Below w.heap.size w (((w.alloc (.cells #[.int .i64 ck, .int .i64 wt, .int .i64 gn, .slice A ms.length c1, .slice A' os.length c2] 36)).alloc (.cells #[.int .i64 0, .int .i64 0, .int .i64 0, .slice none 0 0, .slice none 0 0] 36)).alloc (.cells #[.int .i64 ck, .int .i64 wt, .int .i64 gn, .slice none 0 0, .slice none 0 0] 36)) := ((((Below.refl _ _).alloc (Nat.le_refl _) _).alloc (by simp) _).alloc (by simp; omega) _)
  simp only [World.size_alloc] at bz bn
  generalize ((w.alloc (.cells #[.int .i64 ck, .int .i64 wt, .int .i64 gn, .slice A ms.length c1, .slice A' os.length c2] 36)).alloc (.cells #[.int .i64 0, .int .i64 0, .int .i64 0, .slice none 0 0, .slice none 0 0] 36)).alloc (.cells #[.int .i64 ck, .int .i64 wt, .int .i64 gn, .slice none 0 0, .slice none 0 0] 36) = W0 at *
  have HBX := Lib.hid bx
  have HBZ := Lib.hid bz
  have HBN := Lib.hid bn
  have HBL := Lib.hid hbl
  clear bx bz bn hbl
  go_loopw [4] (fun i wr => RgLp w #[.int .i64 ck, .int .i64 wt, .int .i64 gn, .slice A ms.length c1, .slice A' os.length c2] #[.int .i64 0, .int .i64 0, .int .i64 0, .slice none 0 0, .slice none 0 0] ck wt gn ms i wr) (fun i _ => ms.length - (intOf i).toNat)
  case atStart => exact ⟨0, [], .slice none 0 0, by omega, rfl, ⟨by simp, by simpa using World.ownsRow_nil _ _ _ _, HBL.out, by simp, by simp, by simp⟩, HBX.out, HBZ.out, HBN.out, HBL.out⟩
  case round =>
    obtain ⟨k, rows, tv, hk, rfl, ho, hbx, hbz, hbn, hbw⟩ := hrel
    have g3 := hbx.cell 3
    have HBW := Lib.hid hbw
    have HO := Lib.hid ho
    clear hbw ho
    by_cases hlt : k < ms.length
    · obtain ⟨b, off, rfl, hbb, hcell⟩ := HX.out (by omega)
      obtain ⟨pv, x0, x1, x2, xi, xl⟩ := hcell k hlt
      have X0 := (HBW.out.cell (p := ⟨b, off + k * 3, none⟩) hbb).trans x0
      have X1 := (HBW.out.cell (p := ⟨b, off + k * 3 + 1, none⟩) hbb).trans x1
      have X2 := (HBW.out.cell (p := ⟨b, off + k * 3 + 2, none⟩) hbb).trans x2
      have i0' : (0 : Int) ≤ (k : Int) := by omega
      have i1' : (k : Int) < (ms.length : Int) := by omega
      obtain ⟨A3, c3, rfl, hc3, -⟩ := xi.at_
      have XI := Lib.hid (xi.below HBW.out)
      have hble : b < wr.heap.size := by have := HBW.out.size; omega
      have hsz : w.heap.size + 3 ≤ wr.heap.size := by have := hbn.lt; omega
      clear x0 x1 x2 hcell xi
      go_wp2_with fail
      have bt := Blk.new wr 79 #[.string ms[k].name, .int .i64 ms[k].heard, .slice A3 ms[k].parts.length c3]
      have hal := (Below.refl wr.heap.size wr).alloc (Nat.le_refl _) (.cells #[.string ms[k].name, .int .i64 ms[k].heard, .slice A3 ms[k].parts.length c3] 79)
      have hz2 : (wr.alloc (.cells #[.string ms[k].name, .int .i64 ms[k].heard, .slice A3 ms[k].parts.length c3] 79)).heap.size = wr.heap.size + 1 := by simp
      generalize wr.alloc (.cells #[.string ms[k].name, .int .i64 ms[k].heard, .slice A3 ms[k].parts.length c3] 79) = w2 at *
      refine (intsCopy_any _ ms[k].parts w2 (XI.out.below hal) (HP.out _ (List.getElem_mem _))).mono ?_
      rintro e w5 ⟨v5, rfl, ho5, hb5⟩
      obtain ⟨A5, c5, rfl, hc5⟩ := (Sl.of_own ho5).form
      have hb6 := below_then hal hb5
      have bt5 := bt.below hb5 bt.lt
      have bx5 := hbx.below hb6 hbx.lt
      have bz5 := hbz.below hb6 hbz.lt
      have bn5 := hbn.below hb6 hbn.lt
      have f4 := bt5.frozen 2
      have t4 := bt5.cell 2
      have tlt := bt5.lt
      have bt6 := bt5.set_ 2 (.slice A5 ms[k].parts.length c5)
      have bn6 := bn5.far (p := ⟨wr.heap.size, 2, none⟩) (by show w.heap.size + 2 ≠ wr.heap.size; omega) (.slice A5 ms[k].parts.length c5)
      have bx6 := bx5.far (p := ⟨wr.heap.size, 2, none⟩) (by show w.heap.size ≠ wr.heap.size; omega) (.slice A5 ms[k].parts.length c5)
      have bz6 := bz5.far (p := ⟨wr.heap.size, 2, none⟩) (by show w.heap.size + 1 ≠ wr.heap.size; omega) (.slice A5 ms[k].parts.length c5)
      have hb6' : Below wr.heap.size wr (w5.setCell ⟨wr.heap.size, 2, none⟩ (.slice A5 ms[k].parts.length c5)) := hb6.setCell (Nat.le_refl _) _
      have ho5' := own_base (ownsRow_setCell_below ho5 (a := ⟨wr.heap.size, 2, none⟩) (by rw [hz2]; exact Nat.lt_succ_self _) (.slice A5 ms[k].parts.length c5)) (show wr.heap.size ≤ w2.heap.size by omega)
      simp only [List.setIfInBounds_toArray, List.set_cons_succ, List.set_cons_zero] at bt6
      have htl : (ms.take k).length = k := by simp; omega
      have hot := own_eq (own_keep HO.out.own hb6' (fun b hb => (HO.out.own.lt b hb).2)) htl rfl
      obtain ⟨At, ct, rfl, hct⟩ := (Sl.of_own hot).form
      have y0 := bt6.cell 0
      have y1 := bt6.cell 1
      have y2 := bt6.cell 2
      have n3 : (w5.setCell ⟨wr.heap.size, 2, none⟩ (.slice A5 ms[k].parts.length c5)).cell? ⟨w.heap.size + 1 + 1, 3, none⟩ = some (.slice At k ct) := bn6.cell 3
      have hlen6 : w.heap.size + 3 ≤ (w5.setCell ⟨wr.heap.size, 2, none⟩ (.slice A5 ms[k].parts.length c5)).heap.size := Nat.le_trans hsz hb6'.size
      have hne : ∀ g, (Value.slice At k ct).ownBlock = some g → w.heap.size + 3 ≤ g := fun g hg => (hot.lt g hg).1
      have HBT := Lib.hid bt6
      have HNX := Lib.hid bx6
      have HNZ := Lib.hid bz6
      have HNN := Lib.hid bn6
      have HW6 := Lib.hid hb6'
      have HO5 := Lib.hid ho5'
      have HNE := Lib.hid hne
      clear bt bt5 bt6 bx5 bz5 bn5 bn6 bx6 bz6 hb6 hb6' ho5 ho5' hb5 hal hne hbx hbz hbn
      go_wp2_with (at_builtin; go_must (refine wpList_append_sl _ rfl (.tmp 31) (.tmp 33) 33 rfl (w.heap.size + 3) 79 i0 (.agg #[.string .empty, .int .i64 0, .slice none 0 0]) 3 48 Try.underlying33 hi0 hz0 hz1 hz2' rfl (by decide) _ _ _ (by rfl) (hot.alloc _) _ 1 _ (by rfl) (Sl.lit' _ _ _ 3 1 _ rfl (by simp)) (mcells_one [(ms[k], .slice A5 ms[k].parts.length c5)] (by intro t ht; simp only [List.mem_singleton] at ht; subst ht; rfl)) (by simp only [maxLen]; omega) (by omega) (by simp; omega) ?_; intro v7 w7 ho7 hg7 ha7; obtain ⟨A7, c7, rfl, hc7⟩ := (Sl.of_own ho7).form; have bn7 := (HNN.out.alloc _).grown hg7 (fun e => by have := HNE.out _ e.symm; omega); have c7' : w7.cell? ⟨w.heap.size + 1 + 1, 3, none⟩ = some (.slice At k ct) := bn7.cell 3; have f7 : w7.frozen? ⟨w.heap.size + 1 + 1, 3, none⟩ = false := bn7.frozen 3; have l7 : w.heap.size + 1 + 1 < w7.heap.size := bn7.lt))
      have hpush := (HO.out.push (t := ms[k]) htl.symm (Nat.le_add_right _ 3) hsz HW6.out HO5.out ho7 hg7).under (a := ⟨w.heap.size + 2, 3, none⟩) ⟨Nat.lt_succ_self _, Nat.le_add_right _ 2⟩ (.slice A7 (k + 1) c7)
      rw [← List.take_succ_eq_append_getElem hlt] at hpush
      have bx7 := ((HNX.out.alloc _).grown hg7 (fun e => by have := HNE.out _ e.symm; omega)).far (p := ⟨w.heap.size + 2, 3, none⟩) (by show w.heap.size ≠ w.heap.size + 2; omega) (.slice A7 (k + 1) c7)
      have bz7 := ((HNZ.out.alloc _).grown hg7 (fun e => by have := HNE.out _ e.symm; omega)).far (p := ⟨w.heap.size + 2, 3, none⟩) (by show w.heap.size + 1 ≠ w.heap.size + 2; omega) (.slice A7 (k + 1) c7)
      have bn8 := bn7.set_ 3 (.slice A7 (k + 1) c7)
      simp only [List.setIfInBounds_toArray, List.set_cons_succ, List.set_cons_zero] at bn8
      go_light
      exact ⟨⟨k + 1, _, _, by omega, by go_num, hpush, bx7, bz7, bn8, hpush.bel⟩, by simp [intOf]; omega⟩
    · obtain rfl : k = ms.length := by omega
      have ho := HO.out
      rw [List.take_length] at ho
      have hsz : w.heap.size + 3 ≤ wr.heap.size := by have := hbn.lt; omega
      obtain ⟨w9, hw9⟩ : ∃ w9, w9 = wr := ⟨_, rfl⟩
      subst hw9
      have HO9 := Lib.hid ho
      have NX := Lib.hid hbx
      have NZ := Lib.hid hbz
      have NN := Lib.hid hbn
      clear ho
      go_wp2_with fail
      clear hbx hbz hbn g3 HO
      go_loopw [6] (fun j wq => RhLp w #[.int .i64 ck, .int .i64 wt, .int .i64 gn, .slice A ms.length c1, .slice A' os.length c2] #[.int .i64 0, .int .i64 0, .int .i64 0, .slice none 0 0, .slice none 0 0] ck wt gn ms rows tv os j wq) (fun j _ => os.length - (intOf j).toNat)
      case atStart => exact ⟨0, .slice none 0 0, by omega, rfl, HO9.out, by simpa using World.ownsRow_nil _ _ _ _, NX.out, NZ.out, NN.out, HBW.out, hsz⟩
      case round =>
        obtain ⟨k, ov, hk, rfl, ho, hoff, hbx, hbz, hbn, hbw, hsz⟩ := hrel
        have HO := Lib.hid ho
        have HBW := Lib.hid hbw
        clear ho hbw
        obtain ⟨At, ct, rfl, hct⟩ := (Sl.of_own hoff).form
        by_cases hlt : k < os.length
        · obtain ⟨b, off, rfl, hbb, hcell⟩ := HY.out (by omega)
          obtain ⟨x0, x1⟩ := hcell k hlt
          have X0 := (HBW.out.cell (p := ⟨b, off + k * 2, none⟩) hbb).trans x0
          have X1 := (HBW.out.cell (p := ⟨b, off + k * 2 + 1, none⟩) hbb).trans x1
          have i0' : (0 : Int) ≤ (k : Int) := by omega
          have i1' : (k : Int) < (os.length : Int) := by omega
          have hble : b < wr.heap.size := by have := HBW.out.size; omega
          have g4 := hbx.cell 4
          have gl := hbx.lt
          have n4 : wr.cell? ⟨w.heap.size + 1 + 1, 4, none⟩ = some (.slice At k ct) := hbn.cell 4
          have nl : w.heap.size + 1 + 1 < wr.heap.size := hbn.lt
          have hdr : Below wr.heap.size wr wr.drew := (Below.refl _ _).drew
          have hod := own_keep hoff hdr (fun b hb => (hoff.lt b hb).2)
          have hne : ∀ g, (Value.slice At k ct).ownBlock = some g → w.heap.size + 3 ≤ g := fun g hg => (hoff.lt g hg).1
          have hszd := hdr.size
          have HND := Lib.hid (hbn.below hdr hbn.lt)
          have HXD := Lib.hid (hbx.below hdr hbx.lt)
          have HZD := Lib.hid (hbz.below hdr hbz.lt)
          have HOD := Lib.hid (HO.out.keep hdr)
          have HBD := Lib.hid (below_then HBW.out hdr)
          have HNE := Lib.hid hne
          have HFD := Lib.hid hod
          clear x0 x1 hcell hbn hbx hbz hne hod hdr hoff
          go_wp2_with fail
          go_region_law ((refine step_append_sl rfl (.tmp 44) (.tmp 50) 34 rfl (w.heap.size + 3) 81 j0 (.agg #[.int .i64 0, .int .i64 0]) 2 16 Try.underlying34 hj0 hy0 hy1 hy2' rfl (by decide) _ _ _ (by first | rfl | simp [Act.eval, Act.put]) (HFD.out.alloc _) _ 1 _ (by first | rfl | simp [Act.eval, Act.put]) (Sl.lit' _ _ _ 2 1 _ rfl (by simp)) (ocells_one [os[k]]) (by simp only [maxLen]; omega) (by omega) (by simp; omega) ?_; intro v7 w7 ho7 hg7 ha7; obtain ⟨A7, c7, rfl, hc7⟩ := (Sl.of_own ho7).form; have bn7 := (HND.out.alloc _).grown hg7 (fun e => by have := HNE.out _ e.symm; omega); have c7' : w7.cell? ⟨w.heap.size + 1 + 1, 4, none⟩ = some (.slice At k ct) := bn7.cell 4; have f7 : w7.frozen? ⟨w.heap.size + 1 + 1, 4, none⟩ = false := bn7.frozen 4; have l7 : w.heap.size + 1 + 1 < w7.heap.size := bn7.lt))
          all_goals
            have hgr := (HOD.out.grow rfl (Nat.le_add_right _ 3) (by omega) HFD.out hg7).under (a := ⟨w.heap.size + 2, 4, none⟩) ⟨Nat.lt_succ_self _, Nat.le_add_right _ 2⟩ (.slice A7 (k + 1) c7)
            have bx7 := ((HXD.out.alloc _).grown hg7 (fun e => by have := HNE.out _ e.symm; omega)).far (p := ⟨w.heap.size + 2, 4, none⟩) (by show w.heap.size ≠ w.heap.size + 2; omega) (.slice A7 (k + 1) c7)
            have bz7 := ((HZD.out.alloc _).grown hg7 (fun e => by have := HNE.out _ e.symm; omega)).far (p := ⟨w.heap.size + 2, 4, none⟩) (by show w.heap.size + 1 ≠ w.heap.size + 2; omega) (.slice A7 (k + 1) c7)
            have bn8 := bn7.set_ 4 (.slice A7 (k + 1) c7)
            simp only [List.setIfInBounds_toArray, List.set_cons_succ, List.set_cons_zero] at bn8
            have hof8 := own_eq (ownsRow_setCell_below ho7 (a := ⟨w.heap.size + 2, 4, none⟩) (Nat.lt_succ_self _) (.slice A7 (k + 1) c7)) rfl (show (os.take k).flatMap ocells ++ _ = (os.take (k + 1)).flatMap ocells by rw [List.take_succ_eq_append_getElem hlt, List.flatMap_append]; simp [ocells])
            have hs7 := hgr.bel.size
            go_wp2
            go_light
            exact ⟨⟨k + 1, _, by omega, by go_num, hgr, hof8, bx7, bz7, bn8, hgr.bel, by have := hg7.size; simp at this ⊢; omega⟩, by simp [intOf]; omega⟩
        · obtain rfl : k = os.length := by omega
          obtain ⟨Am, cm, rfl, hcm⟩ := (Sl.of_own HO.out.own).form
          rw [List.take_length] at hoff
          have HF := Lib.hid hoff
          have g4 := hbx.cell 4
          have gl := hbx.lt
          have q0 := hbn.cell 0
          have q1 := hbn.cell 1
          have q2 := hbn.cell 2
          have q3 := hbn.cell 3
          have q4 := hbn.cell 4
          have ql := hbn.lt
          have z0 := hbz.cell 0
          have z1 := hbz.cell 1
          have z2 := hbz.cell 2
          have z3 := hbz.cell 3
          have z4 := hbz.cell 4
          have f0 := hbz.frozen 0
          have f1 := hbz.frozen 1
          have f2 := hbz.frozen 2
          have f3 := hbz.frozen 3
          have f4 := hbz.frozen 4
          have zl := hbz.lt
          have BZ := Lib.hid hbz
          clear hoff hbx hbz hbn
          go_wp2
          have HB5 := (((((BZ.out).set_ 0 (.int .i64 ck)).set_ 1 (.int .i64 wt)).set_ 2 (.int .i64 gn)).set_ 3 (.slice Am ms.length cm)).set_ 4 (.slice At os.length ct)
          have HO5 := (((((HO.out).under (a := ⟨w.heap.size + 1, 0, none⟩) (by simp) (.int .i64 ck)).under (a := ⟨w.heap.size + 1, 1, none⟩) (by simp) (.int .i64 wt)).under (a := ⟨w.heap.size + 1, 2, none⟩) (by simp) (.int .i64 gn)).under (a := ⟨w.heap.size + 1, 3, none⟩) (by simp) (.slice Am ms.length cm)).under (a := ⟨w.heap.size + 1, 4, none⟩) (by simp) (.slice At os.length ct)
          have HF5 := ownsRow_setCell_below (ownsRow_setCell_below (ownsRow_setCell_below (ownsRow_setCell_below (ownsRow_setCell_below (HF.out) (a := ⟨w.heap.size + 1, 0, none⟩) (by simp) (.int .i64 ck)) (a := ⟨w.heap.size + 1, 1, none⟩) (by simp) (.int .i64 wt)) (a := ⟨w.heap.size + 1, 2, none⟩) (by simp) (.int .i64 gn)) (a := ⟨w.heap.size + 1, 3, none⟩) (by simp) (.slice Am ms.length cm)) (a := ⟨w.heap.size + 1, 4, none⟩) (by simp) (.slice At os.length ct)
          have HL5 : Below w.heap.size w (((((wr.setCell ⟨w.heap.size + 1, 0, none⟩ (.int .i64 ck)).setCell ⟨w.heap.size + 1, 1, none⟩ (.int .i64 wt)).setCell ⟨w.heap.size + 1, 2, none⟩ (.int .i64 gn)).setCell ⟨w.heap.size + 1, 3, none⟩ (.slice Am ms.length cm)).setCell ⟨w.heap.size + 1, 4, none⟩ (.slice At os.length ct)) := (((((HBW.out).setCell (Nat.le_succ _) _).setCell (Nat.le_succ _) _).setCell (Nat.le_succ _) _).setCell (Nat.le_succ _) _).setCell (Nat.le_succ _) _
          generalize (((((wr.setCell ⟨w.heap.size + 1, 0, none⟩ (.int .i64 ck)).setCell ⟨w.heap.size + 1, 1, none⟩ (.int .i64 wt)).setCell ⟨w.heap.size + 1, 2, none⟩ (.int .i64 gn)).setCell ⟨w.heap.size + 1, 3, none⟩ (.slice Am ms.length cm)).setCell ⟨w.heap.size + 1, 4, none⟩ (.slice At os.length ct)) = W5 at *
          simp only [List.setIfInBounds_toArray, List.set_cons_succ, List.set_cons_zero] at HB5
          have y0 := HB5.cell 0
          have y1 := HB5.cell 1
          have y2 := HB5.cell 2
          have y3 := HB5.cell 3
          have y4 := HB5.cell 4
          exact bodyPost_ret (v := .agg #[.int .i64 ck, .int .i64 wt, .int .i64 gn, .slice Am ms.length cm, .slice At os.length ct]) (by simp [results, Try.results40, go_sem, y0, y1, y2, y3, y4]) rfl ⟨.slice Am ms.length cm, .slice At os.length ct, rows, rfl, HO5.more (by omega), own_base HF5 (by omega), HL5⟩

end Go.Proofs.Ytjkoceacjbhblaa
namespace Go.Proofs.Ytjkoceacjbhblaa
open Go.RowKit

theorem Txs.row {w w' : World} {A : Option Addr} {n m : Nat} {ds : List TxnD} (h : Txs w (.slice A n m) ds) (hb : Below w.heap.size w w') (i : Nat) (hi : i < ds.length) :
    ∃ b off A3 m3, A = some ⟨b, off, none⟩ ∧ b < w.heap.size ∧ w'.cell? ⟨b, off + i * 7, none⟩ = some (.string ds[i].name) ∧ w'.cell? ⟨b, off + i * 7 + 1, none⟩ = some (.int .i64 ds[i].pid) ∧ w'.cell? ⟨b, off + i * 7 + 2, none⟩ = some (.int .i64 ds[i].ver) ∧ w'.cell? ⟨b, off + i * 7 + 3, none⟩ = some (.int .i64 ds[i].state) ∧
      w'.cell? ⟨b, off + i * 7 + 4, none⟩ = some (.slice A3 ds[i].parts.length m3) ∧ w'.cell? ⟨b, off + i * 7 + 5, none⟩ = some (.int .i64 ds[i].since) ∧ w'.cell? ⟨b, off + i * 7 + 6, none⟩ = some (.int .i64 ds[i].done) ∧ Is w (.slice A3 ds[i].parts.length m3) ds[i].parts := by
  obtain ⟨A', m', hv, -, hq⟩ := h.at_
  injection hv with h1 h2 h3
  subst h1
  obtain ⟨b, off, rfl, hbl, hcell⟩ := hq (by omega)
  obtain ⟨pv, x0, x1, x2, x3, x4, x5, x6, xi, -⟩ := hcell i hi
  obtain ⟨A3, m3, rfl, -⟩ := Sl.form xi
  have k : ∀ o, w'.cell? ⟨b, o, none⟩ = w.cell? ⟨b, o, none⟩ := fun o => hb.cell (p := ⟨b, o, none⟩) hbl
  exact ⟨b, off, A3, m3, rfl, hbl, (k _).trans x0, (k _).trans x1, (k _).trans x2, (k _).trans x3, (k _).trans x4, (k _).trans x5, (k _).trans x6, xi⟩
theorem Own.row {w0 w : World} {base n : Nat} {g m : Nat} {ds : List TxnD} {rows : List (TxnD × Value)} (h : Own w0 w base (.slice (some ⟨g, 0, none⟩) n m) ds rows n) (hn : n = ds.length) (i : Nat) (hi : i < ds.length) :
    base ≤ g ∧ g < w.heap.size ∧ ∃ A3 m3, (w.cell? ⟨g, i * 7, none⟩ = some (.string ds[i].name) ∧ w.cell? ⟨g, i * 7 + 1, none⟩ = some (.int .i64 ds[i].pid) ∧ w.cell? ⟨g, i * 7 + 2, none⟩ = some (.int .i64 ds[i].ver) ∧ w.cell? ⟨g, i * 7 + 3, none⟩ = some (.int .i64 ds[i].state) ∧
      w.cell? ⟨g, i * 7 + 4, none⟩ = some (.slice A3 ds[i].parts.length m3) ∧ w.cell? ⟨g, i * 7 + 5, none⟩ = some (.int .i64 ds[i].since) ∧ w.cell? ⟨g, i * 7 + 6, none⟩ = some (.int .i64 ds[i].done)) ∧ (∀ j, j < 7 → w.frozen? ⟨g, i * 7 + j, none⟩ = false) ∧
      w.ownsRow base 3 1 (.slice A3 ds[i].parts.length m3) ds[i].parts.length (ds[i].parts.map (Value.int .i64)) := by
  subst hn
  have hl := own_rows h.fst
  have hi' : i < rows.length := by omega
  have he := fst_get h.fst hi' hi
  obtain ⟨g', m', hv, hg1, hg2, -, hcell⟩ := h.at_ (by omega)
  injection hv with h1 _ _
  injection h1 with h1
  injection h1 with h1 _ _
  subst h1
  have ho := h.parts rows[i] (List.mem_take_iff_getElem.2 ⟨i, by omega, rfl⟩)
  rw [he] at ho
  obtain ⟨A3, m3, hp, -⟩ := (Sl.of_own ho).form
  rw [hp] at ho
  have k := fun j hj => (hcell i hi' j hj).1
  have k0 := k 0 (by decide)
  have k1 := k 1 (by decide)
  have k2 := k 2 (by decide)
  have k3 := k 3 (by decide)
  have k4 := k 4 (by decide)
  have k5 := k 5 (by decide)
  have k6 := k 6 (by decide)
  simp only [tcells, List.getElem?_cons_zero, List.getElem?_cons_succ, he, hp, Nat.add_zero] at k0 k1 k2 k3 k4 k5 k6
  exact ⟨hg1, hg2, A3, m3, ⟨k0, k1, k2, k3, k4, k5, k6⟩, fun j hj => (hcell i hi' j hj).2, ho⟩
theorem upd_fits {c : CoordD} (h : CoordOk c) (i : Nat) (f : TxnD → TxnD) (hf : ∀ t, (f t).parts.length ≤ 4 ∨ (f t).parts = t.parts) : (c.upd i f).Fits := by
  have hc : c.Fits := h.fits
  have hm := h.many
  have key : ∀ t ∈ c.txns.modify i f, t.parts.length ≤ 4 := by
    intro t ht
    obtain ⟨j, hj, rfl⟩ := List.mem_iff_getElem.1 ht
    have hj' : j < c.txns.length := by simpa using hj
    have h4 := (h.all j hj' hj').1.rises.small
    rw [List.getElem_modify]
    split
    · rcases hf c.txns[j] with h1 | h1
      · exact h1
      · rw [h1]; exact h4
    · exact h4
  have hl : (c.txns.modify i f).length ≤ 8 := by simpa using hm
  refine ⟨?_, fun t ht => ?_, ?_, fun t ht => ?_⟩
  · show (c.txns.modify i f).length * 80 ≤ _; omega
  · have := key t ht; omega
  · show (c.txns.modify i f).length ≤ _; omega
  · have := key t ht; omega

def setState (x : Int) (t : TxnD) : TxnD := ⟨t.name, t.pid, t.ver, x, t.parts, t.since, t.done⟩
def setDone (x : Int) (t : TxnD) : TxnD := ⟨t.name, t.pid, t.ver, t.state, t.parts, t.since, x⟩
def wantOf (commit : Bool) : Int := bif commit then 3 else 4
def EndAt (c : CoordD) (i : Nat) (x : Int) (c' : CoordD) (code : Int) : Prop :=
  ∃ h : i < c.txns.length, (c.txns[i].state = 2 ∧ c' = c.upd i (setState x) ∧ code = 0) ∨ (c.txns[i].state = 1 ∧ (c.txns[i].done = 0 ∨ c.txns[i].done = x) ∧ c' = c.upd i (setDone x) ∧ code = 0) ∨
    (c.txns[i].state = 1 ∧ c.txns[i].done = 7 - x ∧ c' = zeroC ∧ code = 12) ∨ (c.txns[i].state = x ∧ c' = c ∧ code = 0) ∨ (c.txns[i].state = 7 - x ∧ c' = zeroC ∧ code = 12)
def EndTo (c : CoordD) (s : ByteArray) (ver : Int) (commit : Bool) (c' : CoordD) (code : Int) : Prop :=
  (KnownFault c s ver code ∧ c' = zeroC) ∨ ∃ i, Known c s ver i ∧ EndAt c i (wantOf commit) c' code
theorem EndTo.fits {c : CoordD} {s : ByteArray} {ver : Int} {commit : Bool} {c' : CoordD} {code : Int} (h : EndTo c s ver commit c' code) : c'.Fits := by
  rcases h with ⟨-, rfl⟩ | ⟨i, ⟨hk, -⟩, hl, h⟩
  · exact zero_fits
  · rcases h with ⟨-, rfl, -⟩ | ⟨-, -, rfl, -⟩ | ⟨-, -, rfl, -⟩ | ⟨-, rfl, -⟩ | ⟨-, rfl, -⟩
    · exact upd_fits hk i _ fun _ => Or.inr rfl
    · exact upd_fits hk i _ fun _ => Or.inr rfl
    · exact zero_fits
    · exact hk.fits
    · exact zero_fits

end Go.Proofs.Ytjkoceacjbhblaa
namespace Go.Proofs.Ytjkoceacjbhblaa
open Go.RowKit

/-- one cell of a row written, but for its parts -/
def setRowM (rows : List (MemD × Value)) (i : Nat) (f : MemD → MemD) : List (MemD × Value) := rows.modify i fun t => (f t.1, t.2)
theorem setRowM_fst (rows : List (MemD × Value)) (i : Nat) (f : MemD → MemD) : (setRowM rows i f).map Prod.fst = (rows.map Prod.fst).modify i f := by
  induction rows generalizing i with
  | nil => cases i <;> simp [setRowM]
  | cons t rows ih =>
    rcases i with _ | i
    · simp [setRowM]
    · have := ih i
      simp only [setRowM] at *
      simp [this]
theorem setRowM_snd (rows : List (MemD × Value)) (i : Nat) (f : MemD → MemD) : (setRowM rows i f).map Prod.snd = rows.map Prod.snd := by
  induction rows generalizing i with
  | nil => cases i <;> simp [setRowM]
  | cons t rows ih =>
    rcases i with _ | i
    · simp [setRowM]
    · have := ih i
      simp only [setRowM] at *
      simp [this]
theorem setRowM_cells : ∀ (rows : List (MemD × Value)) (i : Nat) (f : MemD → MemD) (j : Nat) (u : Value) (hi : i < rows.length) (_ : j < 3) (_ : mcells (f rows[i].1, rows[i].2) = (mcells rows[i]).set j u), (setRowM rows i f).flatMap mcells = (rows.flatMap mcells).set (i * 3 + j) u
  | [], i, f, j, u, hi, _, _ => by simp at hi
  | t :: rows, 0, f, j, u, _, hj, h => by
    have hl : (mcells t).length = 3 := rfl
    simp only [List.getElem_cons_zero] at h
    simp only [setRowM, List.modify_zero_cons, List.flatMap_cons, Nat.zero_mul, Nat.zero_add]
    rw [List.set_append_left _ _ (by omega), h]
  | t :: rows, i + 1, f, j, u, hi, hj, h => by
    have hl : (mcells t).length = 3 := rfl
    have ih := setRowM_cells rows i f j u (by simpa using hi) hj (by simpa using h)
    simp only [setRowM] at ih
    simp only [setRowM, List.modify_succ_cons, List.flatMap_cons, ih]
    rw [List.set_append_right _ _ (by rw [hl]; omega), hl, show (i + 1) * 3 + j - 3 = i * 3 + j from by omega]

theorem OwnM.put {w0 w : World} {base n : Nat} {g c : Nat} {ds : List MemD} {rows : List (MemD × Value)} (h : OwnM w0 w base (.slice (some ⟨g, 0, none⟩) n c) ds rows n) (hn : n = ds.length) (hg : w0.heap.size ≤ g) (i j : Nat) (u : Value) (f : MemD → MemD)
    (hi : i < rows.length) (hj : j < 3) (hc : mcells (f rows[i].1, rows[i].2) = (mcells rows[i]).set j u) (hp : (f rows[i].1).parts = rows[i].1.parts) :
    OwnM w0 (w.setCell ⟨g, i * 3 + j, none⟩ u) base (.slice (some ⟨g, 0, none⟩) n c) (ds.modify i f) (setRowM rows i f) n := by
  subst hn
  have hl : rows.length = ds.length := by rw [← h.fst]; simp
  have hg5 : ∃ cs fr, w.heap[g]? = some (.cells cs 79 fr) := by
    rcases h.own.2 with ⟨e, _⟩ | ⟨g', cap, cur, e, _, hh, _⟩
    · cases e
    · injection e with e1
      injection e1 with e1
      injection e1 with e1
      subst e1
      exact ⟨_, _, hh⟩
  obtain ⟨cs, fr, hg5⟩ := hg5
  have hlen : (ds.modify i f).length = ds.length := by simp
  have key : ∀ t ∈ setRowM rows i f, ∃ t' ∈ rows, t.2 = t'.2 ∧ t.1.parts = t'.1.parts := by
    intro t ht
    obtain ⟨m, hm, rfl⟩ := List.mem_iff_getElem.1 ht
    have hm' : m < rows.length := by simpa [setRowM] using hm
    refine ⟨rows[m], List.getElem_mem _, ?_⟩
    simp only [setRowM, List.getElem_modify]
    split
    · rename_i e
      subst e
      exact ⟨rfl, hp⟩
    · exact ⟨rfl, rfl⟩
  have e1 : rows.take ds.length = rows := by rw [← hl, List.take_length]
  have e2 : (setRowM rows i f).take ds.length = setRowM rows i f := by rw [← hl, ← show (setRowM rows i f).length = rows.length from by simp [setRowM], List.take_length]
  refine ⟨(setRowM_fst rows i f).trans (by rw [h.fst]), ?_, h.bel.setCell hg _, ?_, ?_, ?_⟩
  · rw [setRowM_cells rows i f j u hi hj hc, hlen]
    exact (World.ownsRow.stored h.own _ _).1
  · intro t ht
    rw [← hl, ← show (setRowM rows i f).length = rows.length from by simp [setRowM], List.drop_length] at ht
    simp at ht
  · intro t ht
    rw [e2] at ht
    obtain ⟨t', ht', h1, h2⟩ := key t ht
    rw [h1, h2]
    exact own_far (h.parts t' (by rw [e1]; exact ht')) hg5 (by decide) _ _
  · rw [e2]
    have ha := h.apart
    rw [e1] at ha
    have : ((setRowM rows i f).map Prod.snd).Pairwise fun a b => a.ownBlock = none ∨ a.ownBlock ≠ b.ownBlock := by
      rw [setRowM_snd]
      exact List.pairwise_map.2 ha
    exact List.pairwise_map.1 this

theorem ownM_rows {rows : List (MemD × Value)} {ts : List MemD} (h : rows.map Prod.fst = ts) : rows.length = ts.length := by
  rw [← h]
  simp
theorem fstM_get {rows : List (MemD × Value)} {ts : List MemD} (h : rows.map Prod.fst = ts) {i : Nat} (hi : i < rows.length) (hi' : i < ts.length) : rows[i].1 = ts[i] := by
  subst h
  simp
theorem OwnM.row {w0 w : World} {base n : Nat} {g m : Nat} {ds : List MemD} {rows : List (MemD × Value)} (h : OwnM w0 w base (.slice (some ⟨g, 0, none⟩) n m) ds rows n) (hn : n = ds.length) (i : Nat) (hi : i < ds.length) :
    base ≤ g ∧ g < w.heap.size ∧ w.cell? ⟨g, i * 3 + 1, none⟩ = some (.int .i64 ds[i].heard) ∧ w.frozen? ⟨g, i * 3 + 1, none⟩ = false := by
  subst hn
  have hl := ownM_rows h.fst
  have hi' : i < rows.length := by omega
  have he := fstM_get h.fst hi' hi
  obtain ⟨g', m', hv, hg1, hg2, -, hcell⟩ := h.at_ (by omega)
  injection hv with h1 _ _
  injection h1 with h1
  injection h1 with h1 _ _
  subst h1
  have k := hcell i hi' 1 (by decide)
  have k1 := k.1
  simp only [mcells, List.getElem?_cons_zero, List.getElem?_cons_succ, he] at k1
  exact ⟨hg1, hg2, k1, k.2⟩
theorem OwnM.alloc {w0 w : World} {base n : Nat} {v : Value} {ds : List MemD} {rows : List (MemD × Value)} (h : OwnM w0 w base v ds rows n) (o : Obj) : OwnM w0 (w.alloc o) base v ds rows n :=
  h.keep ((Below.refl _ _).alloc (Nat.le_refl _) o)
theorem OwnO.alloc {w : World} {base : Nat} {v : Value} {os : List OffD} (h : OwnO w base v os) (o : Obj) : OwnO (w.alloc o) base v os :=
  h.keep ((Below.refl _ _).alloc (Nat.le_refl _) o)
def zeroG : GroupD := ⟨0, 0, 0, [], []⟩
def GroupD.Fits (c : GroupD) : Prop := (c.mems.length ≤ 9223372036854775807 ∧ c.offs.length ≤ 9223372036854775807) ∧ ∀ t ∈ c.mems, t.parts.length ≤ 9223372036854775807
theorem zeroG_fits : zeroG.Fits := by simp [GroupD.Fits, zeroG]
theorem GroupOk.fits {c : GroupD} (h : GroupOk c) : c.Fits := ⟨⟨h.bounds.2.1, h.bounds.2.2.1⟩, h.bounds.2.2.2⟩
def GroupD.upd (c : GroupD) (i : Nat) (f : MemD → MemD) : GroupD := ⟨c.clock, c.wait, c.gen, c.mems.modify i f, c.offs⟩
theorem updG_fits {c : GroupD} (h : GroupOk c) (i : Nat) (f : MemD → MemD) (hf : ∀ t, (f t).parts = t.parts) : (c.upd i f).Fits := by
  obtain ⟨⟨h1, h2⟩, h3⟩ := h.fits
  refine ⟨⟨?_, h2⟩, fun t ht => ?_⟩
  · show (c.mems.modify i f).length ≤ _
    simpa using h1
  · obtain ⟨j, hj, rfl⟩ := List.mem_iff_getElem.1 (show t ∈ c.mems.modify i f from ht)
    have hj' : j < c.mems.length := by simpa using hj
    rw [List.getElem_modify]
    split
    · rw [hf]; exact h3 _ (List.getElem_mem _)
    · exact h3 _ (List.getElem_mem _)
/-- a group in memory of its own, and an error number -/
def GRes (c : GroupD) (n : Int) (w : World) (e : Ending) (w' : World) : Prop :=
  ∃ mv ov rows, e = .returned (.tuple #[groupV c mv ov, .int .i64 n]) ∧ OwnM w w' w.heap.size mv c.mems rows c.mems.length ∧ OwnO w' w.heap.size ov c.offs ∧ Below w.heap.size w w'
theorem GRes.zero {n : Int} {w w' : World} (hb : Below w.heap.size w w') : GRes zeroG n w (.returned (.tuple #[.agg #[.int .i64 0, .int .i64 0, .int .i64 0, .slice none 0 0, .slice none 0 0], .int .i64 n])) w' :=
  ⟨.slice none 0 0, .slice none 0 0, [], rfl, ⟨rfl, World.ownsRow_nil _ _ _ _, hb, by simp, by simp, by simp⟩, World.ownsRow_nil _ _ _ _, hb⟩
theorem OwnM.gv {w0 w : World} {base : Nat} {mv ov : Value} {c : GroupD} {rows : List (MemD × Value)} (h : OwnM w0 w base mv c.mems rows c.mems.length) (ho : OwnO w base ov c.offs) (hf : c.Fits) : Gv w (groupV c mv ov) c :=
  ⟨mv, ov, rfl, h.mems rfl hf.2, ho.offs, hf.1.1, hf.1.2⟩
theorem GRes.open_ {c : GroupD} {n : Int} {w w' : World} {e : Ending} (h : GRes c n w e w') (hf : c.Fits) : ∃ A m B k, e = .returned (.tuple #[.agg #[.int .i64 c.clock, .int .i64 c.wait, .int .i64 c.gen, .slice A c.mems.length m, .slice B c.offs.length k], .int .i64 n]) ∧ Gv w' (.agg #[.int .i64 c.clock, .int .i64 c.wait, .int .i64 c.gen, .slice A c.mems.length m, .slice B c.offs.length k]) c ∧ Below w.heap.size w w' := by
  obtain ⟨mv, ov, rows, rfl, ho, hf', hb⟩ := h
  obtain ⟨A, m, rfl, -⟩ := (Sl.of_own ho.own).form
  obtain ⟨B, k, rfl, -⟩ := (Sl.of_own hf').form
  exact ⟨A, m, B, k, rfl, ho.gv hf' hf, hb⟩
theorem CopyPostM.open_ {c : GroupD} {w w' : World} {e : Ending} (h : CopyPostM w c e w') (hf : c.Fits) : ∃ A m B k, e = .returned (.agg #[.int .i64 c.clock, .int .i64 c.wait, .int .i64 c.gen, .slice A c.mems.length m, .slice B c.offs.length k]) ∧ Gv w' (.agg #[.int .i64 c.clock, .int .i64 c.wait, .int .i64 c.gen, .slice A c.mems.length m, .slice B c.offs.length k]) c ∧ Below w.heap.size w w' := by
  obtain ⟨mv, ov, rows, rfl, ho, hf', hb⟩ := h
  have hf2 : OwnO w' w.heap.size ov c.offs := hf'
  obtain ⟨A, m, rfl, -⟩ := (Sl.of_own ho.own).form
  obtain ⟨B, k, rfl, -⟩ := (Sl.of_own hf').form
  exact ⟨A, m, B, k, rfl, ho.gv hf2 hf, hb⟩

def HereFault (g : GroupD) (s : ByteArray) (gen n : Int) : Prop := NameFaultM g s n ∨ (GroupOk g ∧ NameOk s ∧ ((idxM g.mems s = none ∧ n = 5) ∨ ∃ i, ∃ _h : i < g.mems.length, idxM g.mems s = some i ∧ g.gen ≠ gen ∧ n = 10))
def Here (g : GroupD) (s : ByteArray) (gen : Int) (i : Nat) : Prop := GroupOk g ∧ NameOk s ∧ idxM g.mems s = some i ∧ i < g.mems.length ∧ g.gen = gen
theorem HereFault.ne {g : GroupD} {s : ByteArray} {gen n : Int} (h : HereFault g s gen n) : n ≠ 0 := by
  rcases h with h | ⟨_, _, ⟨_, rfl⟩ | ⟨_, _, _, _, rfl⟩⟩
  · exact h.ne
  · decide
  · decide
def heardT (x : Int) (t : MemD) : MemD := ⟨t.name, x, t.parts⟩
def BeatTo (g : GroupD) (s : ByteArray) (gen : Int) (g' : GroupD) (n : Int) : Prop := (HereFault g s gen n ∧ g' = zeroG) ∨ ∃ i, Here g s gen i ∧ g' = g.upd i (heardT g.clock) ∧ n = 0
theorem BeatTo.fits {g : GroupD} {s : ByteArray} {gen : Int} {g' : GroupD} {n : Int} (h : BeatTo g s gen g' n) : g'.Fits := by
  rcases h with ⟨-, rfl⟩ | ⟨i, h, rfl, -⟩
  · exact zeroG_fits
  · exact updG_fits h.1 i _ fun _ => rfl

end Go.Proofs.Ytjkoceacjbhblaa
namespace Go.Proofs.Ytjkoceacjbhblaa
open Go.RowKit

/-- the world w0, but for block b -/
structure OnlyB (w0 : World) (b : Nat) (W : World) : Prop where
  os : W.os = w0.os
  tape : W.tape = w0.tape
  output : W.output = w0.output
  size : W.heap.size = w0.heap.size
  far : ∀ k, k ≠ b → W.heap[k]? = w0.heap[k]?
theorem OnlyB.refl (w : World) (b : Nat) : OnlyB w b w := ⟨rfl, rfl, rfl, rfl, fun _ _ => rfl⟩
section
variable {w0 W w : World} {b : Nat}
theorem OnlyB.set_ (h : OnlyB w0 b W) (i : Nat) (u : Value) : OnlyB w0 b (W.setCell ⟨b, i, none⟩ u) := by
  have hb := (Below.refl b W).setCell (p := ⟨b, i, none⟩) (Nat.le_refl _) u
  exact ⟨hb.os.trans h.os, hb.tape.trans h.tape, hb.output.trans h.output, by rw [← h.size]; simp, fun k hk => (Below.heap_setCell W _ _ k hk).trans (h.far k hk)⟩
theorem OnlyB.drew (h : OnlyB w0 b W) : OnlyB w0 b W.drew := ⟨h.os, h.tape, h.output, h.size, h.far⟩
theorem OnlyB.drewN (h : OnlyB w0 b W) (m : Nat) : OnlyB w0 b (W.drewN m) := ⟨h.os, h.tape, h.output, h.size, h.far⟩
theorem OnlyB.cell (h : OnlyB w0 b W) {p : Addr} (hp : p.block ≠ b) : W.cell? p = w0.cell? p := World.cell?_of_block (h.far _ hp)
theorem OnlyB.grown (h : OnlyB w0 b W) : w0.grownBy W (some b) := ⟨h.os, h.tape, h.output, by rw [h.size]; exact Nat.le_refl _, fun k _ hk => h.far k fun e => hk (by rw [e])⟩
theorem OnlyB.blk (h : OnlyB w0 b W) {g : Nat} {t : TypeId} {cs : Array Value} (k : Blk w0 g t cs) (hg : g ≠ b) : Blk W g t cs := (h.far g hg).trans k
theorem OnlyB.own (h : OnlyB w0 b W) {base n size : Nat} {e : TypeId} {v : Value} {xs : List Value} (k : w0.ownsRow base e size v n xs) (hv : v.ownBlock = none ∨ v.ownBlock ≠ some b) : W.ownsRow base e size v n xs := k.kept h.grown hv
end
/-- the members, with the parts that they are given -/
def setP (l : List Int) (t : MemD) : MemD := ⟨t.name, t.heard, l⟩
noncomputable def asgM (ms : List MemD) (P : Nat) : List MemD := ms.mapIdx fun i t => setP (pts (Lt (cmpF (ms.map MemD.name))) ms.length P i) t
theorem asgM_len (ms : List MemD) (P : Nat) : (asgM ms P).length = ms.length := by simp [asgM]
theorem asgM_parts {ms : List MemD} {P : Nat} : ∀ t ∈ asgM ms P, t.parts.length ≤ P := by
  intro t ht
  obtain ⟨i, hi, rfl⟩ := List.mem_iff_getElem.1 ht
  simp only [asgM, List.getElem_mapIdx, setP]
  unfold pts casts
  rw [List.length_map]
  exact Nat.le_trans (List.length_filter_le _ _) (by simp)
/-- the first k are given theirs -/
def rowsAt (rows : List (MemD × Value)) (ls : Nat → List Int) (vs : Nat → Value) (k : Nat) : List (MemD × Value) := rows.mapIdx fun i t => if i < k then (setP (ls i) t.1, vs i) else t
theorem rowsAt_zero (rows : List (MemD × Value)) (ls : Nat → List Int) (vs : Nat → Value) : rowsAt rows ls vs 0 = rows := by
  apply List.ext_getElem
  · simp [rowsAt]
  · intro i h1 h2
    simp [rowsAt]
theorem rowsAt_len (rows : List (MemD × Value)) (ls : Nat → List Int) (vs : Nat → Value) (k : Nat) : (rowsAt rows ls vs k).length = rows.length := by simp [rowsAt]
theorem mcells_same {l m : List (MemD × Value)} (hl : l.length = m.length) (h : ∀ i (h1 : i < l.length) (h2 : i < m.length), mcells l[i] = mcells m[i]) : l.flatMap mcells = m.flatMap mcells := by
  have e : l.map mcells = m.map mcells := by
    apply List.ext_getElem
    · simp [hl]
    · intro i h1 h2
      simp only [List.getElem_map]
      exact h i (by simpa using h1) (by simpa using h2)
  rw [List.flatMap_def, List.flatMap_def, e]
theorem rowsAt_step (rows : List (MemD × Value)) (ls : Nat → List Int) (vs : Nat → Value) (k : Nat) (hk : k < rows.length) : (rowsAt rows ls vs (k + 1)).flatMap mcells = ((rowsAt rows ls vs k).flatMap mcells).set (k * 3 + 2) (vs k) := by
  rw [← setPartsM_cells _ _ _ (by rw [rowsAt_len]; exact hk)]
  refine mcells_same (by simp [rowsAt_len, setPartsM]) fun i h1 h2 => ?_
  have hi : i < rows.length := by rw [rowsAt_len] at h1; exact h1
  by_cases e : k = i
  · subst e
    simp [setPartsM, rowsAt, mcells, setP]
  · by_cases e2 : i < k
    · have e3 : i < k + 1 := by omega
      simp [setPartsM, rowsAt, e, e2, e3]
    · have e3 : ¬ i < k + 1 := by omega
      simp [setPartsM, rowsAt, e, e2, e3]
theorem rowsAt_all (rows : List (MemD × Value)) (P : Nat) (vs : Nat → Value) : (rowsAt rows (fun i => pts (Lt (cmpF (rows.map fun t => t.1.name))) rows.length P i) vs rows.length).map Prod.fst = asgM (rows.map Prod.fst) P := by
  have e0 : (rows.map Prod.fst).map MemD.name = rows.map fun t => t.1.name := by rw [List.map_map]; rfl
  apply List.ext_getElem
  · simp [rowsAt, asgM]
  · intro i h1 h2
    have hi : i < rows.length := by simpa [rowsAt] using h1
    simp only [rowsAt, asgM, List.getElem_map, List.getElem_mapIdx, if_pos hi, List.length_map, e0]
/-- what group.assigned hands back -/
def AsgdPost (ck wt gn : Int) (gm n c : Nat) (ov : Value) (ms : List MemD) (P base : Nat) (w : World) (e : Ending) (w' : World) : Prop :=
  ∃ rows : List (MemD × Value), e = .returned (.agg #[.int .i64 ck, .int .i64 wt, .int .i64 (gn + 1), .slice (some ⟨gm, 0, none⟩) n c, ov]) ∧ rows.map Prod.fst = asgM ms P ∧
    w'.ownsRow base 79 3 (.slice (some ⟨gm, 0, none⟩) n c) n (rows.flatMap mcells) ∧ (∀ t ∈ rows, w'.ownsRow w.heap.size 3 1 t.2 t.1.parts.length (t.1.parts.map (Value.int .i64))) ∧
    (rows.Pairwise fun a b => a.2.ownBlock = none ∨ a.2.ownBlock ≠ b.2.ownBlock) ∧ w.grownBy w' (some gm)
theorem asgd_rows {W1 W2 W3 : World} {base bo n gm : Nat} {vs : Nat → Value} {ls : Nat → List Int} {rows : List (MemD × Value)} (h : Lst W1 W2 base bo n vs ls) (hb : gm < base) (k : OnlyB W2 gm W3) (hn : rows.length = n) (base0 : Nat) (hb0 : base0 ≤ base) :
    (∀ t ∈ rowsAt rows ls vs n, W3.ownsRow base0 3 1 t.2 t.1.parts.length (t.1.parts.map (Value.int .i64))) ∧ ((rowsAt rows ls vs n).Pairwise fun a b => a.2.ownBlock = none ∨ a.2.ownBlock ≠ b.2.ownBlock) := by
  have at_ : ∀ i (hi : i < (rowsAt rows ls vs n).length), i < n ∧ (rowsAt rows ls vs n)[i].1.parts = ls i ∧ (rowsAt rows ls vs n)[i].2 = vs i := by
    intro i hi
    have hi' : i < n := by rw [rowsAt_len] at hi; omega
    simp [rowsAt, hi', setP]
  constructor
  · intro t ht
    obtain ⟨i, hi, rfl⟩ := List.mem_iff_getElem.1 ht
    obtain ⟨h1, h2, h3⟩ := at_ i hi
    rw [h2, h3]
    refine own_base (k.own (h.own i h1) ?_) hb0
    cases hv : (vs i).ownBlock with
    | none => exact Or.inl rfl
    | some g =>
      right
      intro e
      injection e with e
      have := ((h.own i h1).lt g hv).1
      omega
  · rw [List.pairwise_iff_getElem]
    intro i j hi hj hij
    obtain ⟨h1, -, h3⟩ := at_ i hi
    obtain ⟨h4, -, h6⟩ := at_ j hj
    rw [h3, h6]
    exact h.apart i j h1 h4 (by omega)
end Go.Proofs.Ytjkoceacjbhblaa
