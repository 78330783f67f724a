/- tailraceref.intsCopy and tailraceref.CoordCopy: a coordinator in memory of its own. -/
import Derived.Test.YtjkoceacjbhblaaCoordP
namespace Go.Proofs.Ytjkoceacjbhblaa
open Go.RowKit

/-- the loop of intsCopy -/
def IcLp (w : World) (l : List Int) (s i : Value) (wr : World) : Prop :=
  ∃ k : Nat, k ≤ l.length ∧ i = .int .i64 k ∧ wr.ownsRow w.heap.size 3 1 s k ((l.take k).map (Value.int .i64)) ∧ Below w.heap.size w wr

set_option maxRecDepth 100000 in
set_option maxHeartbeats 1000000 in
theorem intsCopy_any (v : Value) (l : List Int) (w : World) (h : Is w v l) (hm : l.length * 8 ≤ 140737488355328) :
    Calls Try.prog 80 #[v] w fun e w' => ∃ v', e = .returned v' ∧ w'.ownsRow w.heap.size 3 1 v' l.length (l.map (Value.int .i64)) ∧ Below w.heap.size w w' := by
  obtain ⟨i0, hi0, hz0, hz1, hz2⟩ := info_parts CloneInt_info
  obtain ⟨A, c, rfl, hc, hcell⟩ := h.at_
  have HC := Lib.hid hcell
  clear h hcell
  go_enter Try.func80, Try.ntmps80
  go_wp2
  go_loopw [3, 4] (fun s i wr => IcLp w l s i wr) (fun _ i _ => l.length - (intOf i).toNat)
  case atStart => exact ⟨0, by omega, rfl, by simpa using World.ownsRow_nil _ _ _ _, Below.refl _ _⟩
  case round =>
    obtain ⟨k, hk, rfl, ho, hb⟩ := hrel
    by_cases hlt : k < l.length
    · obtain ⟨b, off, rfl, hbl, hcell⟩ := HC.out (by omega)
      have X := (hb.cell (p := ⟨b, off + k, none⟩) hbl).trans (hcell k hlt)
      have hsz := hb.size
      have k0 : (0 : Int) ≤ (k : Int) := by omega
      have k1 : (k : Int) < (l.length : Int) := by omega
      have HB := Lib.hid hb
      clear hcell hb
      go_wp2_with (at_builtin; go_must (refine wpList_append_sl _ rfl (.tmp 11) (.tmp 16) 24 rfl w.heap.size 3 i0 (.int .i64 0) 1 8 Try.underlying24 hi0 hz0 hz1 hz2 rfl (by decide) _ _ _ (by rfl) (ho.alloc _) _ 1 _ (by rfl) (Sl.lit _ _ _ 1 1 rfl) (by intro x hx; simp at hx; subst hx; rfl) (by simp only [maxLen]; omega) (by omega) (by simp; omega) ?_; intro v4 w4 ho4 hg4 ha4))
      go_light
      exact ⟨⟨k + 1, by omega, by go_num, own_eq ho4 rfl (by rw [List.take_succ_eq_append_getElem hlt, List.map_append]; rfl), own_below HB.out (Nat.le_refl _) ho _ hg4⟩, by simp [intOf]; omega⟩
    · obtain rfl : k = l.length := by omega
      go_wp2
      go_ret
      exact ⟨_, rfl, by simpa using ho, hb⟩

theorem Sl.lit' (w : World) (e : TypeId) (cs : Array Value) (size n g : Nat) (h : cs.size = n * size) (hg : g = w.heap.size) : Sl (w.alloc (.cells cs e)) size (.slice (some ⟨g, 0, none⟩) n n) n cs.toList := by
  subst hg
  exact Sl.lit w e cs size n h
/-- rows of two element types lie in two blocks -/
theorem own_apart {w : World} {b1 b2 : Nat} {e1 e2 : TypeId} {s1 s2 n1 n2 : Nat} {v1 v2 : Value} {x1 x2 : List Value} (h1 : w.ownsRow b1 e1 s1 v1 n1 x1) (h2 : w.ownsRow b2 e2 s2 v2 n2 x2) (he : e1 ≠ e2) : v1.ownBlock = none ∨ v1.ownBlock ≠ v2.ownBlock := by
  rcases h1.2 with ⟨hv, _⟩ | ⟨g1, cap1, cur1, hv, _, hh1, _⟩
  · left; rw [hv]; rfl
  · right
    rcases h2.2 with ⟨hv2, _⟩ | ⟨g2, cap2, cur2, hv2, _, hh2, _⟩
    · rw [hv, hv2]
      exact fun h => by cases h
    · rw [hv, hv2]
      intro h
      have hg : g1 = g2 := by injection h
      subst hg
      rw [hh1] at hh2
      injection hh2 with hh2
      injection hh2 with _ h3
      exact he h3
theorem Own.push {w0 w w6 w7 : World} {base k : Nat} {tv v5 v7 : Value} {ds : List TxnD} {rows : List (TxnD × Value)} {t : TxnD} {o : Obj} (h : Own w0 w base tv ds rows k) (hk : k = ds.length) (hb0 : w0.heap.size ≤ base) (hb : base ≤ w.heap.size)
    (h6 : Below w.heap.size w w6) (ho5 : w6.ownsRow w.heap.size 3 1 v5 t.parts.length (t.parts.map (Value.int .i64))) (ho7 : w7.ownsRow base 76 7 v7 (k + 1) (rows.flatMap tcells ++ tcells (t, v5))) (hg : (w6.alloc o).grownBy w7 tv.ownBlock) :
    Own w0 w7 base v7 (ds ++ [t]) (rows ++ [(t, v5)]) (k + 1) := by
  subst hk
  have hl : rows.length = ds.length := by rw [← h.fst]; simp
  have e1 : rows.take ds.length = rows := by rw [← hl, List.take_length]
  have e2 : (rows ++ [(t, v5)]).take (ds.length + 1) = rows ++ [(t, v5)] := by rw [List.take_of_length_le]; simp [hl]
  have hown6 := (own_keep h.own h6 (fun b hb => (h.own.lt b hb).2)).alloc o
  refine ⟨by simp [h.fst], own_eq ho7 (by simp) (by simp), ?_, ?_, ?_, ?_⟩
  · exact ((h.bel.trans (h6.mono h.bel.size)).alloc (Nat.le_trans h.bel.size h6.size) o).grown hg (by have := h.bel.size; have := h6.size; simp; omega) fun b hb => by have := (h.own.lt b hb).1; omega
  · intro t' ht'
    rw [List.drop_of_length_le (by simp [hl])] at ht'
    simp at ht'
  · intro t' ht'
    rw [e2] at ht'
    rcases List.mem_append.1 ht' with ht' | ht'
    · have hp := h.parts t' (by rw [e1]; exact ht')
      have hp6 := (own_keep hp h6 (fun b hb => (hp.lt b hb).2)).alloc o
      exact hp6.kept hg (own_apart hp6 hown6 (by decide))
    · simp only [List.mem_singleton] at ht'
      subst ht'
      exact own_base ((ho5.alloc o).kept hg (own_apart (ho5.alloc o) hown6 (by decide))) hb
  · rw [e2]
    have ha := h.apart
    rw [e1] at ha
    refine List.pairwise_append.2 ⟨ha, by simp, fun a ha' b hb' => ?_⟩
    simp only [List.mem_singleton] at hb'
    subst hb'
    rcases hab : a.2.ownBlock with _ | x
    · exact Or.inl rfl
    · refine Or.inr fun e => ?_
      have h1 := (h.parts a (by rw [e1]; exact ha')).lt x hab
      have h2 := ho5.lt x e.symm
      omega

/-- the loop of tailraceref.CoordCopy -/
def RcLp (w : World) (bc zc : Array Value) (ck nx wt : Int) (ts : List TxnD) (i : Value) (wr : World) : Prop :=
  ∃ (k : Nat) (rows : List (TxnD × Value)) (tv : Value), k ≤ ts.length ∧ i = .int .i64 k ∧ Own w wr (w.heap.size + 3) tv (ts.take k) rows k ∧ Blk wr w.heap.size 28 bc ∧ Blk wr (w.heap.size + 1) 28 zc ∧ Blk wr (w.heap.size + 2) 28 #[.int .i64 ck, .int .i64 nx, .int .i64 wt, tv] ∧ Below w.heap.size w wr

theorem txn_info : (Try.prog.info? 76).map (fun i => (i.zero, i.size, i.bytes)) = some (some (.agg #[.string .empty, .int .i64 0, .int .i64 0, .int .i64 0, .slice none 0 0, .int .i64 0, .int .i64 0]), 7, 80) := by kernel_rfl

set_option maxRecDepth 100000 in
set_option maxHeartbeats 4000000 in
theorem refCoordCopy_any (v : Value) (c : CoordD) (w : World) (h : Cv w v c) (hb : c.txns.length * 80 ≤ 140737488355328) (hp : ∀ t ∈ c.txns, t.parts.length * 8 ≤ 140737488355328) :
    Calls Try.prog 37 #[v] w (CopyPost w c) := by
  obtain ⟨i0, hi0, hz0, hz1, hz2'⟩ := info_parts txn_info
  obtain ⟨xt, rfl, tx, hlen⟩ := h
  obtain ⟨A, c1, rfl, hc1, hx1⟩ := tx.at_
  unfold coordV
  obtain ⟨ck, nx, wt, ts⟩ := c
  simp only at *
  have HX := Lib.hid hx1
  have HP := Lib.hid hp
  clear hx1 tx hp
  go_enter Try.func37, Try.ntmps37
  go_wp2
  have bx := ((Blk.new w 28 #[.int .i64 ck, .int .i64 nx, .int .i64 wt, .slice A ts.length c1]).alloc (.cells #[.int .i64 0, .int .i64 0, .int .i64 0, .slice none 0 0] 28)).alloc (.cells #[.int .i64 ck, .int .i64 nx, .int .i64 wt, .slice none 0 0] 28)
  have bz := (Blk.new (w.alloc (.cells #[.int .i64 ck, .int .i64 nx, .int .i64 wt, .slice A ts.length c1] 28)) 28 #[.int .i64 0, .int .i64 0, .int .i64 0, .slice none 0 0]).alloc (.cells #[.int .i64 ck, .int .i64 nx, .int .i64 wt, .slice none 0 0] 28)
  have bn := Blk.new ((w.alloc (.cells #[.int .i64 ck, .int .i64 nx, .int .i64 wt, .slice A ts.length c1] 28)).alloc (.cells #[.int .i64 0, .int .i64 0, .int .i64 0, .slice none 0 0] 28)) 28 #[.int .i64 ck, .int .i64 nx, .int .i64 wt, .slice none 0 0]
  have hbl : Below w.heap.size w (((w.alloc (.cells #[.int .i64 ck, .int .i64 nx, .int .i64 wt, .slice A ts.length c1] 28)).alloc (.cells #[.int .i64 0, .int .i64 0, .int .i64 0, .slice none 0 0] 28)).alloc (.cells #[.int .i64 ck, .int .i64 nx, .int .i64 wt, .slice none 0 0] 28)) := ((((Below.refl _ _).alloc (Nat.le_refl _) _).alloc (by simp) _).alloc (by simp; omega) _)
  have hz : (((w.alloc (.cells #[.int .i64 ck, .int .i64 nx, .int .i64 wt, .slice A ts.length c1] 28)).alloc (.cells #[.int .i64 0, .int .i64 0, .int .i64 0, .slice none 0 0] 28)).alloc (.cells #[.int .i64 ck, .int .i64 nx, .int .i64 wt, .slice none 0 0] 28)).heap.size = w.heap.size + 3 := by simp
  simp only [World.size_alloc] at bz bn
  generalize ((w.alloc (.cells #[.int .i64 ck, .int .i64 nx, .int .i64 wt, .slice A ts.length c1] 28)).alloc (.cells #[.int .i64 0, .int .i64 0, .int .i64 0, .slice none 0 0] 28)).alloc (.cells #[.int .i64 ck, .int .i64 nx, .int .i64 wt, .slice none 0 0] 28) = W0 at *
  have HBX := Lib.hid bx
  have HBZ := Lib.hid bz
  have HBN := Lib.hid bn
  have HBL := Lib.hid hbl
  clear bx bz bn hbl
  go_loopw [4] (fun i wr => RcLp w #[.int .i64 ck, .int .i64 nx, .int .i64 wt, .slice A ts.length c1] #[.int .i64 0, .int .i64 0, .int .i64 0, .slice none 0 0] ck nx wt ts i wr) (fun i _ => ts.length - (intOf i).toNat)
  case atStart => exact ⟨0, [], .slice none 0 0, by omega, rfl, ⟨by simp, by simpa using World.ownsRow_nil _ _ _ _, HBL.out, by simp, by simp, by simp⟩, HBX.out, HBZ.out, HBN.out, HBL.out⟩
  case round =>
    obtain ⟨k, rows, tv, hk, rfl, ho, hbx, hbz, hbn, hbw⟩ := hrel
    have g3 := hbx.cell 3
    have HBW := Lib.hid hbw
    have HO := Lib.hid ho
    clear hbw ho
    by_cases hlt : k < ts.length
    · obtain ⟨b, off, rfl, hbb, hcell⟩ := HX.out (by omega)
      obtain ⟨pv, x0, x1, x2, x3, x4, x5, x6, xi, xl⟩ := hcell k hlt
      have X0 := (HBW.out.cell (p := ⟨b, off + k * 7, none⟩) hbb).trans x0
      have X1 := (HBW.out.cell (p := ⟨b, off + k * 7 + 1, none⟩) hbb).trans x1
      have X2 := (HBW.out.cell (p := ⟨b, off + k * 7 + 2, none⟩) hbb).trans x2
      have X3 := (HBW.out.cell (p := ⟨b, off + k * 7 + 3, none⟩) hbb).trans x3
      have X4 := (HBW.out.cell (p := ⟨b, off + k * 7 + 4, none⟩) hbb).trans x4
      have X5 := (HBW.out.cell (p := ⟨b, off + k * 7 + 5, none⟩) hbb).trans x5
      have X6 := (HBW.out.cell (p := ⟨b, off + k * 7 + 6, none⟩) hbb).trans x6
      have i0' : (0 : Int) ≤ (k : Int) := by omega
      have i1' : (k : Int) < (ts.length : Int) := by omega
      obtain ⟨A3, c3, rfl, hc3, -⟩ := xi.at_
      have XI := Lib.hid (xi.below HBW.out)
      have hble : b < wr.heap.size := by have := HBW.out.size; omega
      have hsz : w.heap.size + 3 ≤ wr.heap.size := by have := hbn.lt; omega
      clear x0 x1 x2 x3 x4 x5 x6 hcell xi
      go_wp2_with fail
      have bt := Blk.new wr 76 #[.string ts[k].name, .int .i64 ts[k].pid, .int .i64 ts[k].ver, .int .i64 ts[k].state, .slice A3 ts[k].parts.length c3, .int .i64 ts[k].since, .int .i64 ts[k].done]
      have hal := (Below.refl wr.heap.size wr).alloc (Nat.le_refl _) (.cells #[.string ts[k].name, .int .i64 ts[k].pid, .int .i64 ts[k].ver, .int .i64 ts[k].state, .slice A3 ts[k].parts.length c3, .int .i64 ts[k].since, .int .i64 ts[k].done] 76)
      have hz2 : (wr.alloc (.cells #[.string ts[k].name, .int .i64 ts[k].pid, .int .i64 ts[k].ver, .int .i64 ts[k].state, .slice A3 ts[k].parts.length c3, .int .i64 ts[k].since, .int .i64 ts[k].done] 76)).heap.size = wr.heap.size + 1 := by simp
      generalize wr.alloc (.cells #[.string ts[k].name, .int .i64 ts[k].pid, .int .i64 ts[k].ver, .int .i64 ts[k].state, .slice A3 ts[k].parts.length c3, .int .i64 ts[k].since, .int .i64 ts[k].done] 76) = w2 at *
      refine (intsCopy_any _ ts[k].parts w2 (XI.out.below hal) (HP.out _ (List.getElem_mem _))).mono ?_
      rintro e w5 ⟨v5, rfl, ho5, hb5⟩
      obtain ⟨A5, c5, rfl, hc5⟩ := (Sl.of_own ho5).form
      have hb6 := below_then hal hb5
      have bt5 := bt.below hb5 bt.lt
      have bx5 := hbx.below hb6 hbx.lt
      have bz5 := hbz.below hb6 hbz.lt
      have bn5 := hbn.below hb6 hbn.lt
      have f4 := bt5.frozen 4
      have t4 := bt5.cell 4
      have tlt := bt5.lt
      have bt6 := bt5.set_ 4 (.slice A5 ts[k].parts.length c5)
      have bn6 := bn5.far (p := ⟨wr.heap.size, 4, none⟩) (by show w.heap.size + 2 ≠ wr.heap.size; omega) (.slice A5 ts[k].parts.length c5)
      have bx6 := bx5.far (p := ⟨wr.heap.size, 4, none⟩) (by show w.heap.size ≠ wr.heap.size; omega) (.slice A5 ts[k].parts.length c5)
      have bz6 := bz5.far (p := ⟨wr.heap.size, 4, none⟩) (by show w.heap.size + 1 ≠ wr.heap.size; omega) (.slice A5 ts[k].parts.length c5)
      have hb6' : Below wr.heap.size wr (w5.setCell ⟨wr.heap.size, 4, none⟩ (.slice A5 ts[k].parts.length c5)) := hb6.setCell (Nat.le_refl _) _
      have ho5' := own_base (ownsRow_setCell_below ho5 (a := ⟨wr.heap.size, 4, none⟩) (by rw [hz2]; exact Nat.lt_succ_self _) (.slice A5 ts[k].parts.length c5)) (show wr.heap.size ≤ w2.heap.size by omega)
      simp only [List.setIfInBounds_toArray, List.set_cons_succ, List.set_cons_zero] at bt6
      have htl : (ts.take k).length = k := by simp; omega
      have hot := own_eq (own_keep HO.out.own hb6' (fun b hb => (HO.out.own.lt b hb).2)) htl rfl
      obtain ⟨At, ct, rfl, hct⟩ := (Sl.of_own hot).form
      have y0 := bt6.cell 0
      have y1 := bt6.cell 1
      have y2 := bt6.cell 2
      have y3 := bt6.cell 3
      have y4 := bt6.cell 4
      have y5 := bt6.cell 5
      have y6 := bt6.cell 6
      have n3 : (w5.setCell ⟨wr.heap.size, 4, none⟩ (.slice A5 ts[k].parts.length c5)).cell? ⟨w.heap.size + 1 + 1, 3, none⟩ = some (.slice At k ct) := bn6.cell 3
      have hlen6 : w.heap.size + 3 ≤ (w5.setCell ⟨wr.heap.size, 4, none⟩ (.slice A5 ts[k].parts.length c5)).heap.size := Nat.le_trans hsz hb6'.size
      have hne : ∀ g, (Value.slice At k ct).ownBlock = some g → w.heap.size + 3 ≤ g := fun g hg => (hot.lt g hg).1
      have HBT := Lib.hid bt6
      have HNX := Lib.hid bx6
      have HNZ := Lib.hid bz6
      have HNN := Lib.hid bn6
      have HW6 := Lib.hid hb6'
      have HO5 := Lib.hid ho5'
      have HNE := Lib.hid hne
      clear bt bt5 bt6 bx5 bz5 bn5 bn6 bx6 bz6 hb6 hb6' ho5 ho5' hb5 hal hne hbx hbz hbn
      go_wp2_with (at_builtin; go_must (refine wpList_append_sl _ rfl (.tmp 30) (.tmp 32) 26 rfl (w.heap.size + 3) 76 i0 (.agg #[.string .empty, .int .i64 0, .int .i64 0, .int .i64 0, .slice none 0 0, .int .i64 0, .int .i64 0]) 7 80 Try.underlying26 hi0 hz0 hz1 hz2' rfl (by decide) _ _ _ (by rfl) (hot.alloc _) _ 1 _ (by rfl) (Sl.lit' _ _ _ 7 1 _ rfl (by simp)) (tcells_one [(ts[k], .slice A5 ts[k].parts.length c5)] (by intro t ht; simp only [List.mem_singleton] at ht; subst ht; rfl)) (by simp only [maxLen]; omega) (by omega) (by simp; omega) ?_; intro v7 w7 ho7 hg7 ha7; obtain ⟨A7, c7, rfl, hc7⟩ := (Sl.of_own ho7).form; have bn7 := (HNN.out.alloc _).grown hg7 (fun e => by have := HNE.out _ e.symm; omega); have c7' : w7.cell? ⟨w.heap.size + 1 + 1, 3, none⟩ = some (.slice At k ct) := bn7.cell 3; have f7 : w7.frozen? ⟨w.heap.size + 1 + 1, 3, none⟩ = false := bn7.frozen 3; have l7 : w.heap.size + 1 + 1 < w7.heap.size := bn7.lt))
      have hpush := (HO.out.push (t := ts[k]) htl.symm (Nat.le_add_right _ 3) hsz HW6.out HO5.out ho7 hg7).under (a := ⟨w.heap.size + 2, 3, none⟩) ⟨Nat.lt_succ_self _, Nat.le_add_right _ 2⟩ (.slice A7 (k + 1) c7)
      rw [← List.take_succ_eq_append_getElem hlt] at hpush
      have bx7 := ((HNX.out.alloc _).grown hg7 (fun e => by have := HNE.out _ e.symm; omega)).far (p := ⟨w.heap.size + 2, 3, none⟩) (by show w.heap.size ≠ w.heap.size + 2; omega) (.slice A7 (k + 1) c7)
      have bz7 := ((HNZ.out.alloc _).grown hg7 (fun e => by have := HNE.out _ e.symm; omega)).far (p := ⟨w.heap.size + 2, 3, none⟩) (by show w.heap.size + 1 ≠ w.heap.size + 2; omega) (.slice A7 (k + 1) c7)
      have bn8 := bn7.set_ 3 (.slice A7 (k + 1) c7)
      simp only [List.setIfInBounds_toArray, List.set_cons_succ, List.set_cons_zero] at bn8
      go_light
      exact ⟨⟨k + 1, _, _, by omega, by go_num, hpush, bx7, bz7, bn8, hpush.bel⟩, by simp [intOf]; omega⟩
    · obtain rfl : k = ts.length := by omega
      have q0 := hbn.cell 0
      have q1 := hbn.cell 1
      have q2 := hbn.cell 2
      have q3 := hbn.cell 3
      have z0 := hbz.cell 0
      have z1 := hbz.cell 1
      have z2 := hbz.cell 2
      have z3 := hbz.cell 3
      have f0 := hbz.frozen 0
      have f1 := hbz.frozen 1
      have f2 := hbz.frozen 2
      have f3 := hbz.frozen 3
      have ho := HO.out
      rw [List.take_length] at ho
      obtain ⟨At, ct, rfl, hct⟩ := (Sl.of_own ho.own).form
      have HO' := Lib.hid ho
      clear ho
      go_wp2
      have HB5 := ((((hbz.set_ 0 (.int .i64 ck)).set_ 1 (.int .i64 nx)).set_ 2 (.int .i64 wt)).set_ 3 (.slice At ts.length ct))
      have HO5 := (((HO'.out.under (a := ⟨w.heap.size + 1, 0, none⟩) (by simp) (.int .i64 ck)).under (a := ⟨w.heap.size + 1, 1, none⟩) (by simp) (.int .i64 nx)).under (a := ⟨w.heap.size + 1, 2, none⟩) (by simp) (.int .i64 wt)).under (a := ⟨w.heap.size + 1, 3, none⟩) (by simp) (.slice At ts.length ct)
      have HL5 : Below w.heap.size w ((((wr.setCell ⟨w.heap.size + 1, 0, none⟩ (.int .i64 ck)).setCell ⟨w.heap.size + 1, 1, none⟩ (.int .i64 nx)).setCell ⟨w.heap.size + 1, 2, none⟩ (.int .i64 wt)).setCell ⟨w.heap.size + 1, 3, none⟩ (.slice At ts.length ct)) := (((HBW.out.setCell (Nat.le_succ _) _).setCell (Nat.le_succ _) _).setCell (Nat.le_succ _) _).setCell (Nat.le_succ _) _
      generalize ((((wr.setCell ⟨w.heap.size + 1, 0, none⟩ (.int .i64 ck)).setCell ⟨w.heap.size + 1, 1, none⟩ (.int .i64 nx)).setCell ⟨w.heap.size + 1, 2, none⟩ (.int .i64 wt)).setCell ⟨w.heap.size + 1, 3, none⟩ (.slice At ts.length ct)) = W5 at *
      simp only [List.setIfInBounds_toArray, List.set_cons_succ, List.set_cons_zero] at HB5
      have y0 := HB5.cell 0
      have y1 := HB5.cell 1
      have y2 := HB5.cell 2
      have y3 := HB5.cell 3
      exact bodyPost_ret (v := .agg #[.int .i64 ck, .int .i64 nx, .int .i64 wt, .slice At ts.length ct]) (by simp [results, Try.results37, go_sem, y0, y1, y2, y3]) rfl ⟨.slice At ts.length ct, rows, rfl, HO5.more (by omega), HL5⟩

end Go.Proofs.Ytjkoceacjbhblaa
