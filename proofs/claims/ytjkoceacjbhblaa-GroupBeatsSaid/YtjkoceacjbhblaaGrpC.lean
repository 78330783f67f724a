/- group.Check answers whether a group may be. -/
import Derived.Test.YtjkoceacjbhblaaGroupS
import Derived.Test.YtjkoceacjbhblaaIdxMem
import Derived.Test.YtjkoceacjbhblaaCheckB
import Derived.Deep.QuietTactic
namespace Go.Proofs.Ytjkoceacjbhblaa
open Go.RowKit

theorem group_head_no (g : GroupD) (h : g.clock < 0 ∨ 1073741824 < g.clock ∨ g.wait < 1 ∨ 1000 < g.wait ∨ g.gen < 0 ∨ 1073741824 < g.gen ∨ 6 < g.mems.length ∨ 4 < g.offs.length) : ¬ GroupOk g := by
  intro hg
  have h1 := hg.clock
  have h2 := hg.wait
  have h3 := hg.gen
  have h4 := hg.many
  have h5 := hg.offs
  omega
set_option maxRecDepth 100000 in
set_option maxHeartbeats 4000000 in
theorem group_check_head (g : GroupD) (A A' : Option Addr) (m m' : Nat) (w : World)
    (hcs : g.clock < 0 ∨ (0 ≤ g.clock ∧ 1073741824 < g.clock) ∨ (0 ≤ g.clock ∧ g.clock ≤ 1073741824 ∧ g.wait < 1) ∨ (0 ≤ g.clock ∧ g.clock ≤ 1073741824 ∧ 1 ≤ g.wait ∧ 1000 < g.wait) ∨ (0 ≤ g.clock ∧ g.clock ≤ 1073741824 ∧ 1 ≤ g.wait ∧ g.wait ≤ 1000 ∧ g.gen < 0) ∨ (0 ≤ g.clock ∧ g.clock ≤ 1073741824 ∧ 1 ≤ g.wait ∧ g.wait ≤ 1000 ∧ 0 ≤ g.gen ∧ 1073741824 < g.gen) ∨
      (0 ≤ g.clock ∧ g.clock ≤ 1073741824 ∧ 1 ≤ g.wait ∧ g.wait ≤ 1000 ∧ 0 ≤ g.gen ∧ g.gen ≤ 1073741824 ∧ 6 < g.mems.length) ∨ (0 ≤ g.clock ∧ g.clock ≤ 1073741824 ∧ 1 ≤ g.wait ∧ g.wait ≤ 1000 ∧ 0 ≤ g.gen ∧ g.gen ≤ 1073741824 ∧ g.mems.length ≤ 6 ∧ 4 < g.offs.length)) :
    Calls Try.prog 31 #[groupV g (.slice A g.mems.length m) (.slice A' g.offs.length m')] w (Answers (GroupOk g) w) := by
  have hno : ¬ GroupOk g := group_head_no g (by omega)
  unfold groupV
  obtain ⟨ck, wt, gn, ms, os⟩ := g
  simp only at *
  have HN := Lib.hid hno
  clear hno
  rcases hcs with h1 | ⟨h1, h2⟩ | ⟨h1, h2, h3⟩ | ⟨h1, h2, h3, h4⟩ | ⟨h1, h2, h3, h4, h5⟩ | ⟨h1, h2, h3, h4, h5, h6⟩ | ⟨h1, h2, h3, h4, h5, h6, h7⟩ | ⟨h1, h2, h3, h4, h5, h6, h7, h8⟩
  all_goals go_enter Try.func31, Try.ntmps31
  all_goals go_wp2
  all_goals go_ret
  all_goals exact Answers.mk_no HN.out ((Below.refl _ _).alloc (Nat.le_refl _) _)

set_option maxRecDepth 100000 in
set_option maxHeartbeats 1000000 in
theorem group_named (x0 : ByteArray) (x1 : Int) (x2 : Value) (nm : ByteArray) (b : Nat) (w : World) (hlt : b < w.heap.size) (h0 : w.cell? ⟨b, 0, none⟩ = some (.string nm)) (_ho : x2.oneCell' = true) :
    Calls Try.prog 72 #[.agg #[.string x0, .int .i64 x1, x2], .pointer (some ⟨b, 0, none⟩)] w (Tells (x0 = nm) w) := by
  have hx : (x0.toList == nm.toList) = true ↔ x0 = nm := ⟨fun h => toList_inj (eq_of_beq h), fun h => by simp [h]⟩
  have HX := Lib.hid hx
  clear hx
  go_enter Try.func72, Try.ntmps72
  go_wp2
  go_ret
  exact ⟨_, rfl, HX.out, (Below.refl _ _).alloc (Nat.le_refl _) _⟩

theorem has_named (ms : List MemD) (A : Option Addr) (k m : Nat) (s : ByteArray) (bt : Nat) (w : World) (hx : Mems w (.slice A ms.length m) ms) (hk : k ≤ ms.length) (hm : ms.length ≤ 6) (hlt : bt < w.heap.size) (h0 : w.cell? ⟨bt, 0, none⟩ = some (.string s)) :
    Calls Try.prog 71 #[.slice A k m, .func (.func 72) #[] #[.pointer (some ⟨bt, 0, none⟩)]] w (Tells (∃ j, j < k ∧ NamedAt ms s j) w) := by
  obtain ⟨rows, hr, hsl, hp⟩ := hx
  refine HasMem_any _ k _ (NamedAt ms s) 72 #[.pointer (some ⟨bt, 0, none⟩)] w (hsl.front hk) (by omega) (enters_of Try.func72 (by kernel_rfl) rfl) ?_
  intro j u0 u1 u2 hj g0 g1 g2 W hW
  have hjr : j < rows.length := by
    have : rows.length = ms.length := by rw [← hr]; simp
    omega
  have key : ∀ i, i < 3 → ((rows.flatMap mcells).take (k * 3))[j * 3 + i]? = (mcells rows[j])[i]? := by
    intro i hi
    rw [List.getElem?_take, if_pos (by omega)]
    exact cells_get mcells 3 (fun _ => rfl) rows j hjr i hi
  rw [key _ (by omega)] at g0 g1 g2
  simp only [mcells, List.getElem?_cons_zero, List.getElem?_cons_succ, Option.some.injEq] at g0 g1 g2
  subst g0 g1 g2
  have hone : rows[j].2.oneCell' = true := Sl.oneCell (hp _ (List.getElem_mem _)).1
  refine (group_named _ _ _ s bt W (Nat.lt_of_lt_of_le hlt hW.size) ((hW.cell (p := ⟨bt, 0, none⟩) hlt).trans h0) hone).mono fun e w' h => h.cong ?_
  subst hr
  unfold NamedAt
  simp [hjr]

set_option maxRecDepth 100000 in
set_option maxHeartbeats 16000000 in
theorem group_check_good (g : GroupD) (A A' : Option Addr) (m m' : Nat) (w : World) (hx : Mems w (.slice A g.mems.length m) g.mems) (ho : Offs w (.slice A' g.offs.length m') g.offs)
    (h1 : 0 ≤ g.clock) (h2 : g.clock ≤ 1073741824) (h3 : 1 ≤ g.wait) (h4 : g.wait ≤ 1000) (h5 : 0 ≤ g.gen) (h6 : g.gen ≤ 1073741824) (h7 : g.mems.length ≤ 6) (h8 : g.offs.length ≤ 4) :
    Calls Try.prog 31 #[groupV g (.slice A g.mems.length m) (.slice A' g.offs.length m')] w (Answers (GroupOk g) w) := by
  have hok : MemsOk g.clock g.mems g.mems.length → OffsTo g.offs g.offs.length → GroupOk g := fun h h' => ⟨⟨h1, h2⟩, ⟨h3, h4⟩, ⟨h5, h6⟩, h7, h8, h, h'.all⟩
  obtain ⟨A1, m1, hv, hm, hcell⟩ := hx.at_
  injection hv with e1 e2 e3
  subst e1 e3
  obtain ⟨A2, m2, hv, hm', hcell'⟩ := ho.at_
  injection hv with e1 e2 e3
  subst e1 e3
  have HOK := Lib.hid hok
  have HX := Lib.hid hx
  have HC := Lib.hid hcell
  have HO := Lib.hid hcell'
  clear hok hx hcell hcell' ho
  unfold groupV
  obtain ⟨ck, wt, gn, ms, os⟩ := g
  simp only at *
  have d1 : decide (ck < 0) = false := by simp; omega
  have d2 : decide (1073741824 < ck) = false := by simp; omega
  have d3 : decide (wt < 1) = false := by simp; omega
  have d4 : decide (1000 < wt) = false := by simp; omega
  have d5 : decide (gn < 0) = false := by simp; omega
  have d6 : decide (1073741824 < gn) = false := by simp; omega
  have d7 : decide ((6 : Int) < (ms.length : Int)) = false := by simp; omega
  have d8 : decide ((4 : Int) < (os.length : Int)) = false := by simp; omega
  go_enter Try.func31, Try.ntmps31
  go_wp2
  clear d1 d2 d3 d4 d5 d6 d7 d8
  have hbl := (Below.refl w.heap.size w).alloc (Nat.le_refl _) (.cells #[.int .i64 ck, .int .i64 wt, .int .i64 gn, .slice A ms.length m, .slice A' os.length m'] 36)
  have bx := Blk.new w 36 #[.int .i64 ck, .int .i64 wt, .int .i64 gn, .slice A ms.length m, .slice A' os.length m']
  generalize w.alloc (.cells #[.int .i64 ck, .int .i64 wt, .int .i64 gn, .slice A ms.length m, .slice A' os.length m'] 36) = W0 at *
  have HBL := Lib.hid hbl
  have HB := Lib.hid bx
  clear hbl bx h1 h2 h3 h4 h5 h6
  go_loopw [52] (fun i wr => ∃ k : Nat, k ≤ ms.length ∧ i = .int .i64 k ∧ Hid (MemsOk ck ms k) ∧ Hid (Below W0.heap.size W0 wr)) (fun i _ => ms.length - (intOf i).toNat)
  case atStart => exact ⟨0, by omega, rfl, fun j _ hj => by omega, Below.refl _ _⟩
  case round =>
    obtain ⟨k, hk, rfl, HK, HW⟩ := hrel
    have hbw := below_then HBL.out HW.out
    have bw := HB.out.below HW.out HB.out.lt
    have g0 := bw.cell 0
    have g3 := bw.cell 3
    have g4 := bw.cell 4
    have glt := bw.lt
    have HBW := Lib.hid hbw
    have BW := Lib.hid bw
    clear bw hbw
    by_cases hlt : k < ms.length
    · obtain ⟨b, off, rfl, hb, hcell⟩ := HC.out (by omega)
      obtain ⟨pv, x0, x1, x2, xi, xl⟩ := hcell k hlt
      have X0 := (HBW.out.cell (p := ⟨b, off + k * 3, none⟩) hb).trans x0
      have X1 := (HBW.out.cell (p := ⟨b, off + k * 3 + 1, none⟩) hb).trans x1
      have X2 := (HBW.out.cell (p := ⟨b, off + k * 3 + 2, none⟩) hb).trans x2
      have i0 : (0 : Int) ≤ (k : Int) := by omega
      have i1 : (k : Int) < (ms.length : Int) := by omega
      obtain ⟨A3, c3, rfl, hc3, xcell⟩ := xi.at_
      have HXC := Lib.hid xcell
      have hble : b < wr.heap.size := by have := HBW.out.size; omega
      clear x0 x1 x2 hcell xi xcell
      go_wp2_with fail
      have bt := Blk.new wr 79 #[.string ms[k].name, .int .i64 ms[k].heard, .slice A3 ms[k].parts.length c3]
      have hal := (Below.refl wr.heap.size wr).alloc (Nat.le_refl _) (.cells #[.string ms[k].name, .int .i64 ms[k].heard, .slice A3 ms[k].parts.length c3] 79)
      have bw2 := BW.out.below hal BW.out.lt
      generalize wr.alloc (.cells #[.string ms[k].name, .int .i64 ms[k].heard, .slice A3 ms[k].parts.length c3] 79) = w2 at *
      refine (group_name_any _ w2).mono ?_
      rintro e w3 hT
      have h3 : Below w2.heap.size w2 w3 := by obtain ⟨_, _, _, h⟩ := hT; exact h
      have hb3 := below_then hal h3
      have bw3 := bw2.below h3 bw2.lt
      have bt3 := bt.below h3 bt.lt
      clear g0 g3 g4 glt X0 X1 X2 BW
      have g0 := bw3.cell 0
      have g3 := bw3.cell 3
      have glt := bw3.lt
      have t1 := bt3.cell 1
      have tlt := bt3.lt
      have B3 := Lib.hid hb3
      have BT3 := Lib.hid bt3
      have BW3 := Lib.hid bw3
      clear hal h3 hb3 bw2 bw3 bt bt3
      by_cases hn : NameOk ms[k].name
      · obtain ⟨rfl, -⟩ := hT.yes hn
        have HNM := Lib.hid hn
        clear hT hn
        by_cases hbad : ms[k].heard < 0 ∨ (0 ≤ ms[k].heard ∧ ck < ms[k].heard)
        · have hno : ¬ GroupOk ⟨ck, wt, gn, ms, os⟩ := not_ok_mem (g := ⟨ck, wt, gn, ms, os⟩) hlt (fun h => by have := h.heard; simp only at this; omega)
          have HN := Lib.hid hno
          clear hno
          rcases hbad with y1 | ⟨y1, y2⟩
          all_goals go_wp2_with fail
          all_goals go_ret
          all_goals exact Answers.mk_no HN.out (below_then HBW.out B3.out)
        · have y1 : 0 ≤ ms[k].heard := by omega
          have y2 : ms[k].heard ≤ ck := by omega
          have j0 : (k : Int) ≤ (m : Int) := by omega
          clear hbad
          go_wp2_with fail
          have hb4 := below_then HBW.out B3.out
          refine (has_named ms _ k m ms[k].name wr.heap.size w3 (HX.out.below hb4) (by omega) h7 tlt (BT3.out.cell 0)).mono ?_
          rintro e w4 hT
          have h4 : Below w3.heap.size w3 w4 := by obtain ⟨_, _, _, h⟩ := hT; exact h
          have h5 := below_then B3.out h4
          have bt4 := BT3.out.below h4 BT3.out.lt
          clear g0 g3 glt t1 tlt
          have t2 := bt4.cell 2
          have tlt := bt4.lt
          have H5 := Lib.hid h5
          have H6 := Lib.hid (below_then HBW.out h5)
          clear hb4 h4 h5 bt4
          by_cases hc : ∃ j, j < k ∧ NamedAt ms ms[k].name j
          · obtain ⟨rfl, -⟩ := hT.yes hc
            have hno : ¬ GroupOk ⟨ck, wt, gn, ms, os⟩ := not_ok_named (g := ⟨ck, wt, gn, ms, os⟩) hlt hc
            have HN := Lib.hid hno
            clear hT hc hno
            go_wp2_with fail
            go_ret
            exact Answers.mk_no HN.out H6.out
          · obtain ⟨rfl, -⟩ := hT.no hc
            have hstep : Rises ms[k].parts → MemsOk ck ms (k + 1) := fun hr => HK.out.step hlt ⟨HNM.out, ⟨y1, y2⟩, hr⟩ hc
            have HS := Lib.hid hstep
            clear hT hc hstep
            go_wp2_with fail
            go_loopw [84] (fun j wq => ∃ q : Nat, q ≤ ms[k].parts.length ∧ j = .int .i64 q ∧ Hid (RisesTo ms[k].parts q) ∧ ∃ n, wq = w4.drewN n) (fun j _ => ms[k].parts.length - (intOf j).toNat)
            case atStart => exact ⟨0, by omega, rfl, fun j _ hj => by omega, 0, rfl⟩
            case round =>
              obtain ⟨q, hq, rfl, HQ, n, rfl⟩ := hrel
              have hbe := below_then H6.out (below_drewN_ w4 n)
              have HBE := Lib.hid hbe
              clear hbe
              by_cases hlq : q < ms[k].parts.length
              · obtain ⟨b3, o3, rfl, hb3, hxc⟩ := HXC.out (by omega)
                have U := (H6.out.cell (p := ⟨b3, o3 + q, none⟩) hb3).trans (hxc q hlq)
                have q0 : (0 : Int) ≤ (q : Int) := by omega
                have q1 : (q : Int) < (ms[k].parts.length : Int) := by omega
                have hno : ms[k].parts[q] < 0 ∨ 3 < ms[k].parts[q] ∨ (∃ j, ∃ hj : j + 1 = q, ms[k].parts[q] ≤ ms[k].parts[j]) → ¬ GroupOk ⟨ck, wt, gn, ms, os⟩ := fun h => not_ok_mem (g := ⟨ck, wt, gn, ms, os⟩) hlt (fun h' => rises_no hlq h h'.rises)
                have HN := Lib.hid hno
                clear hno
                by_cases hp1 : ms[k].parts[q] < 0
                · clear hxc
                  go_wp2
                  go_ret
                  exact Answers.mk_no (HN.out (Or.inl hp1)) HBE.out
                · by_cases hp2 : 3 < ms[k].parts[q]
                  · clear hxc
                    go_wp2
                    go_ret
                    exact Answers.mk_no (HN.out (Or.inr (Or.inl hp2))) HBE.out
                  · have y3 : 0 ≤ ms[k].parts[q] := by omega
                    have y4 : ms[k].parts[q] ≤ 3 := by omega
                    clear hp1 hp2
                    rcases q with _ | q
                    · clear hxc
                      have U0 : w4.cell? ⟨b3, o3, none⟩ = some (.int .i64 ms[k].parts[0]) := U
                      clear U
                      go_wp2
                      go_light
                      exact ⟨⟨1, by omega, rfl, HQ.out.step hlq y3 y4 (fun j hj => by omega), _, rfl⟩, by simp [intOf]; omega⟩
                    · have hq' : q < ms[k].parts.length := by omega
                      have U2 := (H6.out.cell (p := ⟨b3, o3 + q, none⟩) hb3).trans (hxc q hq')
                      have e1 : ((q + 1 : Nat) : Int) = (q : Int) + 1 := by omega
                      clear hxc
                      by_cases hqq : ms[k].parts[q] < ms[k].parts[q + 1]
                      · go_wp2
                        go_light
                        exact ⟨⟨q + 1 + 1, by omega, by go_num, HQ.out.step hlq y3 y4 (fun j hj => by
                          obtain rfl : j = q := by omega
                          exact hqq), _, rfl⟩, by simp [intOf]; omega⟩
                      · go_wp2
                        go_ret
                        exact Answers.mk_no (HN.out (Or.inr (Or.inr ⟨q, rfl, by omega⟩))) HBE.out
              · obtain rfl : q = ms[k].parts.length := by omega
                have hr := HS.out HQ.out.all
                have HR := Lib.hid hr
                clear hr
                go_wp2
                go_light
                exact ⟨⟨k + 1, by omega, by go_num, HR.out, below_then HW.out (below_then H5.out (below_drewN_ _ _))⟩, by simp [intOf]; omega⟩
      · obtain ⟨rfl, -⟩ := hT.no hn
        have hno : ¬ GroupOk ⟨ck, wt, gn, ms, os⟩ := not_ok_mem (g := ⟨ck, wt, gn, ms, os⟩) hlt (fun h => hn h.name)
        have HN := Lib.hid hno
        clear hT hn hno
        go_wp2_with fail
        go_ret
        exact Answers.mk_no HN.out (below_then HBW.out B3.out)
    · obtain rfl : k = ms.length := by omega
      clear hlt
      obtain ⟨w9, hw9⟩ : ∃ w9, w9 = wr := ⟨_, rfl⟩
      subst hw9
      go_wp2_with fail
      go_loopw [114] (fun i wq => ∃ k : Nat, k ≤ os.length ∧ i = .int .i64 k ∧ Hid (OffsTo os k) ∧ Hid (Below w9.heap.size w9 wq)) (fun i _ => os.length - (intOf i).toNat)
      case atStart => exact ⟨0, by omega, rfl, OffsTo.zero os, Below.refl _ _⟩
      case round =>
        obtain ⟨k, hko, rfl, HQ, HV⟩ := hrel
        have hbv := below_then HBW.out HV.out
        have bv := BW.out.below HV.out BW.out.lt
        have v4 := bv.cell 4
        have vlt := bv.lt
        have HBV := Lib.hid hbv
        have BV := Lib.hid bv
        clear bv hbv g0 g3 g4 glt
        by_cases hlt : k < os.length
        · obtain ⟨b, off, rfl, hb, hcell⟩ := HO.out (by omega)
          obtain ⟨x0, x1⟩ := hcell k hlt
          have X0 := (HBV.out.cell (p := ⟨b, off + k * 2, none⟩) hb).trans x0
          have X1 := (HBV.out.cell (p := ⟨b, off + k * 2 + 1, none⟩) hb).trans x1
          have i0 : (0 : Int) ≤ (k : Int) := by omega
          have i1 : (k : Int) < (os.length : Int) := by omega
          have hble : b < wr.heap.size := by have := HBV.out.size; omega
          have hno : os[k].at_ < 0 ∨ 400 < os[k].at_ ∨ os[k].part < 0 ∨ 3 < os[k].part ∨ (∃ j, ∃ hj : j + 1 = k, os[k].part ≤ os[j].part) → ¬ GroupOk ⟨ck, wt, gn, ms, os⟩ := fun h => not_ok_off (g := ⟨ck, wt, gn, ms, os⟩) hlt h
          have HN := Lib.hid hno
          have HCC := Lib.hid hcell
          clear hno x0 x1 hcell
          go_wp2_with fail
          have bo := Blk.new wr 81 #[.int .i64 os[k].part, .int .i64 os[k].at_]
          have hal := (Below.refl wr.heap.size wr).alloc (Nat.le_refl _) (.cells #[.int .i64 os[k].part, .int .i64 os[k].at_] 81)
          have bv2 := BV.out.below hal BV.out.lt
          generalize wr.alloc (.cells #[.int .i64 os[k].part, .int .i64 os[k].at_] 81) = w2 at *
          clear v4 vlt X0 X1
          have b0 := bo.cell 0
          have b1 := bo.cell 1
          have blt := bo.lt
          have v4 := bv2.cell 4
          have vlt := bv2.lt
          have HA := Lib.hid hal
          have HBE := Lib.hid (below_then HBV.out hal)
          clear bo hal bv2
          by_cases hp1 : os[k].part < 0
          · have d1 : decide (os[k].part < 0) = true := decide_eq_true hp1
            go_quiet (fail)
            go_wp2
            go_ret
            exact Answers.mk_no (HN.out (by omega)) (below_then HBE.out (below_drewN_ _ _))
          have d1 : decide (os[k].part < 0) = false := decide_eq_false hp1
          by_cases hp2 : 4 ≤ os[k].part
          · have d2 : decide (4 ≤ os[k].part) = true := decide_eq_true hp2
            go_quiet (fail)
            go_wp2
            go_ret
            exact Answers.mk_no (HN.out (by omega)) (below_then HBE.out (below_drewN_ _ _))
          have d2 : decide (4 ≤ os[k].part) = false := decide_eq_false hp2
          have y1 : 0 ≤ os[k].part := by omega
          have y2 : os[k].part < 4 := by omega
          clear hp1 hp2
          by_cases hp1 : os[k].at_ < 0
          · have d3 : decide (os[k].at_ < 0) = true := decide_eq_true hp1
            go_quiet (fail)
            go_wp2
            go_ret
            exact Answers.mk_no (HN.out (Or.inl hp1)) (below_then HBE.out (below_drewN_ _ _))
          have d3 : decide (os[k].at_ < 0) = false := decide_eq_false hp1
          by_cases hp2 : 400 < os[k].at_
          · have d4 : decide (400 < os[k].at_) = true := decide_eq_true hp2
            go_quiet (fail)
            go_wp2
            go_ret
            exact Answers.mk_no (HN.out (Or.inr (Or.inl hp2))) (below_then HBE.out (below_drewN_ _ _))
          have d4 : decide (400 < os[k].at_) = false := decide_eq_false hp2
          have y3 : 0 ≤ os[k].at_ := by omega
          have y4 : os[k].at_ ≤ 400 := by omega
          clear hp1 hp2
          rcases k with _ | k
          · go_quiet (fail)
            go_wp2
            go_light
            exact ⟨⟨1, by omega, rfl, HQ.out.step hlt y3 y4 y1 (by omega) (fun j hj => by omega), below_then HV.out (below_then HA.out (below_drewN_ _ _))⟩, by simp [intOf]; omega⟩
          · have hk' : k < os.length := by omega
            obtain ⟨u0, -⟩ := HCC.out k hk'
            have U2 := (HBE.out.cell (p := ⟨b, off + k * 2, none⟩) hb).trans u0
            have e1 : ((k + 1 : Nat) : Int) = (k : Int) + 1 := by omega
            have d5 : decide ((0 : Int) < (k : Int) + 1) = true := decide_eq_true (by omega)
            clear u0
            by_cases hqq : os[k].part < os[k + 1].part
            · have d6 : decide (os[k + 1].part ≤ os[k].part) = false := decide_eq_false (by omega)
              go_quiet (fail)
              go_wp2
              go_light
              exact ⟨⟨k + 1 + 1, by omega, by go_num, HQ.out.step hlt y3 y4 y1 (by omega) (fun j hj => by
                obtain rfl : j = k := by omega
                exact hqq), below_then HV.out (below_then HA.out (below_drewN_ _ _))⟩, by simp [intOf]; omega⟩
            · have d6 : decide (os[k + 1].part ≤ os[k].part) = true := decide_eq_true (by omega)
              go_quiet (fail)
              go_wp2
              go_ret
              exact Answers.mk_no (HN.out (Or.inr (Or.inr (Or.inr (Or.inr ⟨k, rfl, by omega⟩))))) (below_then HBE.out (below_drewN_ _ _))
        · obtain rfl : k = os.length := by omega
          have hr := HOK.out HK.out HQ.out
          have HR := Lib.hid hr
          clear hr
          go_wp2
          go_ret
          exact Answers.mk_yes HR.out HBV.out

theorem group_check_any (v : Value) (g : GroupD) (w : World) (h : Gv w v g) : Calls Try.prog 31 #[v] w (Answers (GroupOk g) w) := by
  obtain ⟨mv, ov, rfl, hx, ho, -⟩ := h
  obtain ⟨A, m, rfl, -⟩ := hx.at_
  obtain ⟨A', m', rfl, -⟩ := ho.at_
  by_cases hb : g.clock < 0 ∨ 1073741824 < g.clock ∨ g.wait < 1 ∨ 1000 < g.wait ∨ g.gen < 0 ∨ 1073741824 < g.gen ∨ 6 < g.mems.length ∨ 4 < g.offs.length
  · exact group_check_head g A A' m m' w (by omega)
  · simp only [not_or] at hb
    exact group_check_good g A A' m m' w hx ho (by omega) (by omega) (by omega) (by omega) (by omega) (by omega) (by omega) (by omega)

end Go.Proofs.Ytjkoceacjbhblaa
