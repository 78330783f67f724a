/- tailraceref.rises, tailraceref.GroupMay: what may be. -/
import Derived.Test.YtjkoceacjbhblaaGroupS
import Derived.Test.YtjkoceacjbhblaaMayB
import Derived.Test.YtjkoceacjbhblaaCloneInt
namespace Go.Proofs.Ytjkoceacjbhblaa
open Go.RowKit

/-- tailraceref.In within a region that has drawn -/
theorem quiet_in {w : World} {a n : Nat} {x lo hi : Int} : Calls Try.prog 64 #[.int .i64 x, .int .i64 lo, .int .i64 hi] (w.drewN (a + n)) fun e w'' => e = .returned (.bool (inB x lo hi)) ∧ ∃ m, w'' = w.drewN (a + m) :=
  (In_any x lo hi _).mono fun _ _ h => ⟨h.1, n, h.2.symm⟩
set_option maxRecDepth 100000 in
set_option maxHeartbeats 4000000 in
theorem rises_any (v : Value) (l : List Int) (w : World) (h : Is w v l) (hl : l.length ≤ 9223372036854775807) : Calls Try.prog 74 #[v] w (Tells (Rises l) w) := by
  obtain ⟨A, c, rfl, hc, hcell⟩ := h.at_
  have HC := Lib.hid hcell
  clear h hcell
  go_enter Try.func74, Try.ntmps74
  go_wp2
  go_loopw [3] (fun i wr => ∃ k : Nat, k ≤ l.length ∧ i = .int .i64 k ∧ Hid (RisesTo l k) ∧ ∃ n, wr = w.drewN n) (fun i _ => l.length - (intOf i).toNat)
  case atStart => exact ⟨0, by omega, rfl, fun j _ hj => by omega, 0, rfl⟩
  case round =>
    obtain ⟨k, hk, rfl, HK, n, rfl⟩ := hrel
    have HBE := Lib.hid (below_drewN_ w n)
    by_cases hlt : k < l.length
    · obtain ⟨b, off, rfl, hb, hcell⟩ := HC.out (by omega)
      have X := hcell k hlt
      have i0 : (0 : Int) ≤ (k : Int) := by omega
      have i1 : (k : Int) < (l.length : Int) := by omega
      have HCC := Lib.hid hcell
      clear hcell
      rcases hin : inB l[k] 0 3 with _ | _
      · have hno : ¬ Rises l := rises_no hlt (by simp only [inB, Bool.and_eq_false_iff, decide_eq_false_iff_not] at hin; omega)
        have HN := Lib.hid hno
        clear hno
        go_wp2_with fail
        go_quiet ((go_at_call 64; exact quiet_in))
        go_wp2
        go_ret
        exact Tells.mk_no HN.out (below_then HBE.out (below_drewN_ _ _))
      · have hbd : 0 ≤ l[k] ∧ l[k] ≤ 3 := by simpa [inB] using hin
        rcases k with _ | k
        · have X0 : w.cell? ⟨b, off, none⟩ = some (.int .i64 l[0]) := X
          have hst := HK.out.step hlt hbd.1 hbd.2 (fun j hj => by omega)
          have HST := Lib.hid hst
          clear hst hbd X
          go_wp2_with fail
          go_quiet ((go_at_call 64; exact quiet_in))
          go_wp2
          go_light
          exact ⟨⟨1, by omega, rfl, HST.out, _, rfl⟩, by simp [intOf]; omega⟩
        · have hk' : k < l.length := by omega
          have X2 := HCC.out k hk'
          have e1 : ((k + 1 : Nat) : Int) = (k : Int) + 1 := by omega
          have HBD := Lib.hid hbd
          clear hbd
          by_cases hq : l[k] < l[k + 1]
          · have hst := HK.out.step hlt HBD.out.1 HBD.out.2 (fun j hj => by
              obtain rfl : j = k := by omega
              exact hq)
            have HST := Lib.hid hst
            clear hst
            go_wp2_with fail
            go_quiet ((go_at_call 64; exact quiet_in))
            go_wp2
            go_light
            exact ⟨⟨k + 1 + 1, by omega, by go_num, HST.out, _, rfl⟩, by simp [intOf]; omega⟩
          · have hq2 : l[k + 1] ≤ l[k] := by omega
            have hno : ¬ Rises l := rises_no hlt (Or.inr (Or.inr ⟨k, rfl, hq2⟩))
            have HN := Lib.hid hno
            clear hno
            go_wp2_with fail
            go_quiet ((go_at_call 64; exact quiet_in))
            go_wp2
            go_ret
            exact Tells.mk_no HN.out (below_then HBE.out (below_drewN_ _ _))
    · obtain rfl : k = l.length := by omega
      have hr := HK.out.all
      have HR := Lib.hid hr
      clear hr
      go_wp2
      go_ret
      exact Tells.mk_yes HR.out HBE.out

set_option maxRecDepth 100000 in
set_option maxHeartbeats 8000000 in
theorem group_may_head (g : GroupD) (A A' : Option Addr) (m m' : Nat) (w : World)
    (hcs : inB g.clock 0 1073741824 = false ∨ (inB g.clock 0 1073741824 = true ∧ inB g.wait 1 1000 = false) ∨ (inB g.clock 0 1073741824 = true ∧ inB g.wait 1 1000 = true ∧ inB g.gen 0 1073741824 = false) ∨ (inB g.clock 0 1073741824 = true ∧ inB g.wait 1 1000 = true ∧ inB g.gen 0 1073741824 = true ∧ 6 < g.mems.length) ∨
      (inB g.clock 0 1073741824 = true ∧ inB g.wait 1 1000 = true ∧ inB g.gen 0 1073741824 = true ∧ g.mems.length ≤ 6 ∧ 4 < g.offs.length)) :
    Calls Try.prog 32 #[groupV g (.slice A g.mems.length m) (.slice A' g.offs.length m')] w (Tells (GroupOk g) w) := by
  have hno : ¬ GroupOk g := by
    intro hc
    have h1 := hc.clock
    have h2 := hc.wait
    have h3 := hc.gen
    have h4 := hc.many
    have h5 := hc.offs
    simp only [inB, Bool.and_eq_false_iff, decide_eq_false_iff_not] at hcs
    omega
  unfold groupV
  obtain ⟨ck, wt, gn, ms, os⟩ := g
  simp only at *
  have HN := Lib.hid hno
  clear hno
  rcases hcs with h1 | ⟨h1, h2⟩ | ⟨h1, h2, h3⟩ | ⟨h1, h2, h3, h4⟩ | ⟨h1, h2, h3, h4, h5⟩
  all_goals go_enter Try.func32, Try.ntmps32
  all_goals go_wp2_with (go_at_call 64; refine (In_any _ _ _ _).mono ?_; rintro e w' ⟨rfl, rfl⟩)
  all_goals go_ret
  all_goals exact Tells.mk_no HN.out ((Below.refl _ _).alloc (Nat.le_refl _) _)

/-- the loop over the offsets -/
def GmLp (w : World) (os : List OffD) (s i : Value) (wr : World) : Prop :=
  ∃ k : Nat, k ≤ os.length ∧ i = .int .i64 k ∧ (∀ j (hj : j < os.length), j < k → 0 ≤ os[j].at_ ∧ os[j].at_ ≤ 400) ∧ wr.ownsRow w.heap.size 3 1 s k (((os.map OffD.part).take k).map (Value.int .i64)) ∧ Below w.heap.size w wr

set_option maxRecDepth 100000 in
set_option maxHeartbeats 16000000 in
theorem group_may_good (g : GroupD) (A A' : Option Addr) (m m' : Nat) (w : World) (hx : Mems w (.slice A g.mems.length m) g.mems) (ho : Offs w (.slice A' g.offs.length m') g.offs)
    (h1 : inB g.clock 0 1073741824 = true) (h2 : inB g.wait 1 1000 = true) (h3 : inB g.gen 0 1073741824 = true) (h7 : g.mems.length ≤ 6) (h8 : g.offs.length ≤ 4) (hnm : ∀ t ∈ g.mems, t.name.size ≤ 9223372036854775807) :
    Calls Try.prog 32 #[groupV g (.slice A g.mems.length m) (.slice A' g.offs.length m')] w (Tells (GroupOk g) w) := by
  have hok : MemsOk g.clock g.mems g.mems.length → (∀ j (hj : j < g.offs.length), j < g.offs.length → 0 ≤ g.offs[j].at_ ∧ g.offs[j].at_ ≤ 400) → Rises (g.offs.map OffD.part) → GroupOk g := fun h h' h'' => ⟨by simpa [inB] using h1, by simpa [inB] using h2, by simpa [inB] using h3, h7, h8, h, ⟨fun o ho => by
    obtain ⟨i, hi, rfl⟩ := List.mem_iff_getElem.1 ho
    exact h' i hi hi, h''⟩⟩
  obtain ⟨A1, m1, hv, hm, hcell⟩ := hx.at_
  injection hv with e1 e2 e3
  subst e1 e3
  obtain ⟨A2, m2, hv, hm', hcell'⟩ := ho.at_
  injection hv with e1 e2 e3
  subst e1 e3
  have HOK := Lib.hid hok
  have HC := Lib.hid hcell
  have HO := Lib.hid hcell'
  have HNS := Lib.hid hnm
  clear hok hx hcell hcell' ho hnm
  unfold groupV
  obtain ⟨ck, wt, gn, ms, os⟩ := g
  simp only at *
  go_enter Try.func32, Try.ntmps32
  go_wp2_with (go_at_call 64; refine (In_any _ _ _ _).mono ?_; rintro e w' ⟨rfl, rfl⟩)
  have hbl := (Below.refl w.heap.size w).alloc (Nat.le_refl _) (.cells #[.int .i64 ck, .int .i64 wt, .int .i64 gn, .slice A ms.length m, .slice A' os.length m'] 36)
  have bx := Blk.new w 36 #[.int .i64 ck, .int .i64 wt, .int .i64 gn, .slice A ms.length m, .slice A' os.length m']
  generalize w.alloc (.cells #[.int .i64 ck, .int .i64 wt, .int .i64 gn, .slice A ms.length m, .slice A' os.length m'] 36) = W0 at *
  have HBL := Lib.hid hbl
  have HB := Lib.hid bx
  clear hbl bx h1 h2 h3
  go_loopw [3] (fun i wr => ∃ k : Nat, k ≤ ms.length ∧ i = .int .i64 k ∧ Hid (MemsOk ck ms k) ∧ Hid (Below W0.heap.size W0 wr)) (fun i _ => ms.length - (intOf i).toNat)
  case atStart => exact ⟨0, by omega, rfl, fun j _ hj => by omega, Below.refl _ _⟩
  case round =>
    obtain ⟨k, hk, rfl, HK, HW⟩ := hrel
    have hbw := below_then HBL.out HW.out
    have bw := HB.out.below HW.out HB.out.lt
    have g0 := bw.cell 0
    have g3 := bw.cell 3
    have g4 := bw.cell 4
    have glt := bw.lt
    have HBW := Lib.hid hbw
    have BW := Lib.hid bw
    clear bw hbw
    by_cases hlt : k < ms.length
    · obtain ⟨b, off, rfl, hb, hcell⟩ := HC.out (by omega)
      obtain ⟨pv, x0, x1, x2, xi, xl⟩ := hcell k hlt
      have X0 := (HBW.out.cell (p := ⟨b, off + k * 3, none⟩) hb).trans x0
      have X1 := (HBW.out.cell (p := ⟨b, off + k * 3 + 1, none⟩) hb).trans x1
      have X2 := (HBW.out.cell (p := ⟨b, off + k * 3 + 2, none⟩) hb).trans x2
      have i0 : (0 : Int) ≤ (k : Int) := by omega
      have i1 : (k : Int) < (ms.length : Int) := by omega
      obtain ⟨A3, c3, rfl, hc3, -⟩ := xi.at_
      have HXI := Lib.hid xi
      have HCC := Lib.hid hcell
      have hble : b < wr.heap.size := by have := HBW.out.size; omega
      clear x0 x1 x2 hcell xi
      go_wp2_with fail
      have bt := Blk.new wr 79 #[.string ms[k].name, .int .i64 ms[k].heard, .slice A3 ms[k].parts.length c3]
      have hal := (Below.refl wr.heap.size wr).alloc (Nat.le_refl _) (.cells #[.string ms[k].name, .int .i64 ms[k].heard, .slice A3 ms[k].parts.length c3] 79)
      have bw2 := BW.out.below hal BW.out.lt
      generalize wr.alloc (.cells #[.string ms[k].name, .int .i64 ms[k].heard, .slice A3 ms[k].parts.length c3] 79) = w2 at *
      refine (nameMay_any ms[k].name w2 (HNS.out _ (List.getElem_mem _))).mono ?_
      rintro e w3 hT
      have h3 : Below w2.heap.size w2 w3 := by obtain ⟨_, _, _, h⟩ := hT; exact h
      have hb3 := below_then hal h3
      have bw3 := bw2.below h3 bw2.lt
      have bt3 := bt.below h3 bt.lt
      clear g0 g3 g4 glt X0 X1 X2 BW
      have g0 := bw3.cell 0
      have g3 := bw3.cell 3
      have glt := bw3.lt
      have t0 := bt3.cell 0
      have t1 := bt3.cell 1
      have t2 := bt3.cell 2
      have tlt := bt3.lt
      have B3 := Lib.hid hb3
      have BT3 := Lib.hid bt3
      have BW3 := Lib.hid bw3
      clear hal h3 hb3 bw2 bw3 bt bt3
      by_cases hn : NameOk ms[k].name
      · obtain ⟨rfl, -⟩ := hT.yes hn
        have HNM := Lib.hid hn
        clear hT hn
        rcases hin : inB ms[k].heard 0 ck with _ | _
        · have hno : ¬ GroupOk ⟨ck, wt, gn, ms, os⟩ := not_ok_mem (g := ⟨ck, wt, gn, ms, os⟩) hlt (fun h => by
            have := h.heard
            simp only [inB, Bool.and_eq_false_iff, decide_eq_false_iff_not] at hin this
            omega)
          have HN := Lib.hid hno
          clear hno
          go_wp2_with (go_at_call 64; refine (In_any _ _ _ _).mono ?_; rintro e w' ⟨rfl, rfl⟩)
          go_ret
          exact Tells.mk_no HN.out (below_then HBW.out B3.out)
        · have hbd : 0 ≤ ms[k].heard ∧ ms[k].heard ≤ ck := by simpa [inB] using hin
          have HBD := Lib.hid hbd
          clear hbd
          go_wp2_with (go_at_call 64; refine (In_any _ _ _ _).mono ?_; rintro e w' ⟨rfl, rfl⟩)
          refine (rises_any _ ms[k].parts w3 (HXI.out.below (below_then HBW.out B3.out)) xl).mono ?_
          rintro e w4 hT
          have h4 : Below w3.heap.size w3 w4 := by obtain ⟨_, _, _, h⟩ := hT; exact h
          have h5 := below_then B3.out h4
          have bt4 := BT3.out.below h4 BT3.out.lt
          have bw4 := BW3.out.below h4 BW3.out.lt
          clear g0 g3 glt t0 t1 t2 tlt hin
          have t0 := bt4.cell 0
          have tlt := bt4.lt
          have g3 := bw4.cell 3
          have glt := bw4.lt
          have H5 := Lib.hid h5
          have H6 := Lib.hid (below_then HBW.out h5)
          clear h4 h5 bt4 bw4
          by_cases hr : Rises ms[k].parts
          · obtain ⟨rfl, -⟩ := hT.yes hr
            have HR := Lib.hid hr
            clear hT hr
            go_wp2_with fail
            go_loopw [5] (fun j wq => ∃ p : Nat, p ≤ k ∧ j = .int .i64 p ∧ Hid (∀ j', j' < p → ¬ NamedAt ms ms[k].name j') ∧ ∃ n, wq = w4.drewN n) (fun j _ => k - (intOf j).toNat)
            case atStart => exact ⟨0, by omega, rfl, fun j' hj => by omega, 0, rfl⟩
            case round =>
              obtain ⟨p, hp, rfl, HP, n, rfl⟩ := hrel
              have hbe := below_then H6.out (below_drewN_ w4 n)
              have HBE := Lib.hid hbe
              clear hbe
              by_cases hlp : p < k
              · have hlp' : p < ms.length := by omega
                obtain ⟨-, u0, -⟩ := HCC.out p hlp'
                have U0 := (H6.out.cell (p := ⟨b, off + p * 3, none⟩) hb).trans u0
                have p0 : (0 : Int) ≤ (p : Int) := by omega
                have p1 : (p : Int) < (ms.length : Int) := by omega
                have p2 : (p : Int) < (k : Int) := by omega
                clear u0
                by_cases hnm : ms[p].name = ms[k].name
                · have m1 : (ms[p].name.toList == ms[k].name.toList) = true := by simp [hnm]
                  have hno : ¬ GroupOk ⟨ck, wt, gn, ms, os⟩ := not_ok_named (g := ⟨ck, wt, gn, ms, os⟩) hlt ⟨p, hlp, hlp', hnm⟩
                  have HN := Lib.hid hno
                  clear hno hnm
                  go_wp2
                  go_quiet (fail)
                  go_wp2
                  go_ret
                  exact Tells.mk_no HN.out (below_then HBE.out (below_drewN_ _ _))
                · have m1 : (ms[p].name.toList == ms[k].name.toList) = false := beq_eq_false_iff_ne.2 fun h => hnm (toList_inj h)
                  have hst : ∀ j', j' < p + 1 → ¬ NamedAt ms ms[k].name j' := fun j' hj' => by
                    rcases Nat.lt_succ_iff_lt_or_eq.1 hj' with h' | rfl
                    · exact HP.out j' h'
                    · exact fun ⟨_, h⟩ => hnm h
                  have HST := Lib.hid hst
                  clear hst hnm
                  go_wp2
                  go_quiet (fail)
                  go_wp2
                  go_light
                  exact ⟨⟨p + 1, by omega, by go_num, HST.out, _, rfl⟩, by simp [intOf]; omega⟩
              · obtain rfl : p = k := by omega
                have hst := HK.out.step hlt ⟨HNM.out, HBD.out, HR.out⟩ (fun ⟨j, hj, h⟩ => HP.out j hj h)
                have HST := Lib.hid hst
                clear hst
                go_wp2
                go_light
                exact ⟨⟨p + 1, by omega, by go_num, HST.out, below_then HW.out (below_then H5.out (below_drewN_ w4 n))⟩, by simp [intOf]; omega⟩
          · obtain ⟨rfl, -⟩ := hT.no hr
            have hno : ¬ GroupOk ⟨ck, wt, gn, ms, os⟩ := not_ok_mem (g := ⟨ck, wt, gn, ms, os⟩) hlt (fun h => hr h.rises)
            have HN := Lib.hid hno
            clear hT hr hno
            go_wp2_with fail
            go_ret
            exact Tells.mk_no HN.out H6.out
      · obtain ⟨rfl, -⟩ := hT.no hn
        have hno : ¬ GroupOk ⟨ck, wt, gn, ms, os⟩ := not_ok_mem (g := ⟨ck, wt, gn, ms, os⟩) hlt (fun h => hn h.name)
        have HN := Lib.hid hno
        clear hT hn hno
        go_wp2_with fail
        go_ret
        exact Tells.mk_no HN.out (below_then HBW.out B3.out)
    · obtain rfl : k = ms.length := by omega
      clear hlt
      obtain ⟨w9, hw9⟩ : ∃ w9, w9 = wr := ⟨_, rfl⟩
      subst hw9
      obtain ⟨i0, hi0, hz0, hz1, hz2⟩ := info_parts CloneInt_info
      have h9 := BW.out.lt
      go_wp2_with fail
      clear g0 g3 g4 glt
      go_loopw [6, 7] (fun s i wq => GmLp w9 os s i wq) (fun _ i _ => os.length - (intOf i).toNat)
      case atStart => exact ⟨0, by omega, rfl, fun j _ hj => by omega, by simpa using World.ownsRow_nil _ _ _ _, Below.refl _ _⟩
      case round =>
        obtain ⟨k, hko, rfl, hat, ho, hb⟩ := hrel
        have HAT := Lib.hid hat
        have hbv := below_then HBW.out hb
        have bv := BW.out.below hb BW.out.lt
        have v4 := bv.cell 4
        have vlt := bv.lt
        have hsz := hb.size
        have HBV := Lib.hid hbv
        have HB9 := Lib.hid hb
        clear bv hbv hb hat
        by_cases hlt : k < os.length
        · obtain ⟨b, off, rfl, hbb, hcell⟩ := HO.out (by omega)
          obtain ⟨x0, x1⟩ := hcell k hlt
          have X0 := (HBV.out.cell (p := ⟨b, off + k * 2, none⟩) hbb).trans x0
          have X1 := (HBV.out.cell (p := ⟨b, off + k * 2 + 1, none⟩) hbb).trans x1
          have i0' : (0 : Int) ≤ (k : Int) := by omega
          have i1' : (k : Int) < (os.length : Int) := by omega
          clear x0 x1 hcell
          rcases hin : inB os[k].at_ 0 400 with _ | _
          · have hno : ¬ GroupOk ⟨ck, wt, gn, ms, os⟩ := not_ok_off (g := ⟨ck, wt, gn, ms, os⟩) hlt (by
              simp only [inB, Bool.and_eq_false_iff, decide_eq_false_iff_not] at hin
              simp only
              omega)
            have HN := Lib.hid hno
            clear hno
            go_wp2_with (go_at_call 64; refine (In_any _ _ _ _).mono ?_; rintro e w' ⟨rfl, rfl⟩)
            go_ret
            exact Tells.mk_no HN.out HBV.out
          · have hst : ∀ j (hj : j < os.length), j < k + 1 → 0 ≤ os[j].at_ ∧ os[j].at_ ≤ 400 := fun j hj hjk => by
              rcases Nat.lt_succ_iff_lt_or_eq.1 hjk with h' | rfl
              · exact HAT.out j hj h'
              · simpa [inB] using hin
            have HST := Lib.hid hst
            clear hst
            go_wp2_with (first | (go_at_call 64; refine (In_any _ _ _ _).mono ?_; rintro e w' ⟨rfl, rfl⟩) | (at_builtin; go_must (refine wpList_append_sl _ rfl (.tmp 95) (.tmp 102) 24 rfl w9.heap.size 3 i0 (.int .i64 0) 1 8 Try.underlying24 hi0 hz0 hz1 hz2 rfl (by decide) _ _ _ (by rfl) (ho.alloc _) _ 1 _ (by rfl) (Sl.lit _ _ _ 1 1 rfl) (by intro x hx; simp at hx; subst hx; rfl) (by simp only [maxLen]; omega) (by omega) (by simp; omega) ?_; intro v4 w4 ho4 hg4 ha4)))
            go_light
            have hmk : k < (os.map OffD.part).length := by simpa using hlt
            exact ⟨⟨k + 1, by omega, by go_num, HST.out, own_eq ho4 rfl (by rw [List.take_succ_eq_append_getElem hmk, List.map_append]; simp), own_below HB9.out (Nat.le_refl _) ho _ hg4⟩, by simp [intOf]; omega⟩
        · obtain rfl : k = os.length := by omega
          obtain ⟨A8, c8, rfl, -⟩ := (Sl.of_own ho).form
          have his : Is wr (.slice A8 os.length c8) (os.map OffD.part) := by
            have := Sl.of_own ho
            rw [List.take_of_length_le (by simp)] at this
            unfold Is L1
            rw [List.length_map]
            exact this
          have HI := Lib.hid his
          have hyes : Rises (os.map OffD.part) → GroupOk ⟨ck, wt, gn, ms, os⟩ := fun hr => HOK.out HK.out HAT.out hr
          have HY := Lib.hid hyes
          clear his hyes ho
          go_wp2_with fail
          refine (rises_any _ (os.map OffD.part) wr HI.out (by simp; omega)).mono ?_
          rintro e w5 ⟨bb, rfl, hbb, hb5⟩
          have HBB := Lib.hid hbb
          have hb6 := below_then HBV.out hb5
          clear hbb hb5
          go_wp2
          go_ret
          exact ⟨bb, rfl, HBB.out.trans ⟨HY.out, fun h => h.offsOk.rises⟩, hb6⟩

theorem group_may_any (v : Value) (g : GroupD) (w : World) (h : Gv w v g) (hnm : ∀ t ∈ g.mems, t.name.size ≤ 9223372036854775807) : Calls Try.prog 32 #[v] w (Tells (GroupOk g) w) := by
  obtain ⟨mv, ov, rfl, hx, ho, -⟩ := h
  obtain ⟨A, m, rfl, -⟩ := hx.at_
  obtain ⟨A', m', rfl, -⟩ := ho.at_
  by_cases h1 : inB g.clock 0 1073741824 = true
  · by_cases h2 : inB g.wait 1 1000 = true
    · by_cases h3 : inB g.gen 0 1073741824 = true
      · by_cases h7 : g.mems.length ≤ 6
        · by_cases h8 : g.offs.length ≤ 4
          · exact group_may_good g A A' m m' w hx ho h1 h2 h3 h7 h8 hnm
          · exact group_may_head g A A' m m' w (Or.inr (Or.inr (Or.inr (Or.inr ⟨h1, h2, h3, h7, by omega⟩))))
        · exact group_may_head g A A' m m' w (Or.inr (Or.inr (Or.inr (Or.inl ⟨h1, h2, h3, by omega⟩))))
      · exact group_may_head g A A' m m' w (Or.inr (Or.inr (Or.inl ⟨h1, h2, by simpa using h3⟩)))
    · exact group_may_head g A A' m m' w (Or.inr (Or.inl ⟨h1, by simpa using h2⟩))
  · exact group_may_head g A A' m m' w (Or.inl (by simpa using h1))

end Go.Proofs.Ytjkoceacjbhblaa
