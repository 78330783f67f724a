/- tailraceref.CoordMay tells whether a coordinator may be. -/
import Derived.Test.YtjkoceacjbhblaaTxnB
import Derived.Test.YtjkoceacjbhblaaClashB
import Derived.Deep.CutRange
namespace Go.Proofs.Ytjkoceacjbhblaa
open Go.RowKit

theorem txn_head_no {ck nx : Int} {t : TxnD} (h : inB t.pid 1 (nx - 1) = false ∨ inB t.ver 0 1073741824 = false ∨ inB t.state 1 4 = false ∨ inB t.since 0 ck = false ∨ (t.done ≠ 0 ∧ t.done ≠ 3 ∧ t.done ≠ 4)) : ¬ TxnOk ck nx t := by
  intro ht
  have h1 := ht.pid
  have h2 := ht.ver
  have h3 := ht.state
  have h4 := ht.since
  have h5 := ht.done
  simp only [inB, Bool.and_eq_false_iff, decide_eq_false_iff_not] at h
  omega
theorem txn_head_yes {ck nx : Int} {t : TxnD} (h0 : NameOk t.name) (h1 : inB t.pid 1 (nx - 1) = true) (h2 : inB t.ver 0 1073741824 = true) (h3 : inB t.state 1 4 = true) (h4 : inB t.since 0 ck = true) (h5 : t.done = 0 ∨ t.done = 3 ∨ t.done = 4) (hr : Rises t.parts) (he : t.state = 1 ↔ t.parts.length = 0) : TxnOk ck nx t := by
  simp only [inB, Bool.and_eq_true, decide_eq_true_eq] at h1 h2 h3 h4
  exact ⟨h0, by omega, h2, h3, h4, h5, hr, he⟩
/-- the value that the loop over the parts keeps -/
def LastOf (l : List Int) (q : Nat) (last : Int) : Prop := (q = 0 → last = -1) ∧ ∀ p (h : p < l.length), p + 1 = q → l[p] = last
theorem last_bounds {l : List Int} {q : Nat} {last : Int} (h : RisesTo l q) (hl : LastOf l q last) (hq : q ≤ l.length) : -1 ≤ last ∧ last ≤ 3 := by
  rcases q with _ | q
  · have := hl.1 rfl
    omega
  · have h1 := hl.2 q (by omega) rfl
    have h2 := h q (by omega) (by omega)
    omega
theorem last_yes {l : List Int} {q : Nat} {last : Int} (h : RisesTo l q) (hl : LastOf l q last) (hq : q < l.length) (hb : inB l[q] (last + 1) 3 = true) : RisesTo l (q + 1) ∧ LastOf l (q + 1) l[q] := by
  simp only [inB, Bool.and_eq_true, decide_eq_true_eq] at hb
  refine ⟨h.step hq ?_ hb.2 ?_, fun h => by omega, fun p hp e => ?_⟩
  · have := (last_bounds h hl (by omega)).1
    omega
  · intro j hj
    have := hl.2 j (by omega) hj
    omega
  · obtain rfl : p = q := by omega
    rfl
theorem last_no {l : List Int} {q : Nat} {last : Int} (hl : LastOf l q last) (hq : q < l.length) (hb : inB l[q] (last + 1) 3 = false) : ¬ Rises l := by
  simp only [inB, Bool.and_eq_false_iff, decide_eq_false_iff_not] at hb
  refine rises_no hq ?_
  rcases q with _ | q
  · have := hl.1 rfl
    omega
  · have := hl.2 q (by omega) rfl
    rcases hb with hb | hb
    · exact Or.inr (Or.inr ⟨q, rfl, by omega⟩)
    · exact Or.inr (Or.inl (by omega))

set_option maxRecDepth 100000 in
set_option maxHeartbeats 8000000 in
theorem coord_may_head (c : CoordD) (A : Option Addr) (m : Nat) (w : World)
    (hcs : inB c.clock 0 1073741824 = false ∨ (inB c.clock 0 1073741824 = true ∧ inB c.next 1 1073741824 = false) ∨ (inB c.clock 0 1073741824 = true ∧ inB c.next 1 1073741824 = true ∧ inB c.wait 1 1000 = false) ∨ (inB c.clock 0 1073741824 = true ∧ inB c.next 1 1073741824 = true ∧ inB c.wait 1 1000 = true ∧ 8 < c.txns.length)) :
    Calls Try.prog 34 #[coordV c (.slice A c.txns.length m)] w (Tells (CoordOk c) w) := by
  have hno : ¬ CoordOk c := by
    intro hc
    have h1 := hc.clock
    have h2 := hc.next
    have h3 := hc.wait
    have h4 := hc.many
    simp only [inB, Bool.and_eq_false_iff, decide_eq_false_iff_not] at hcs
    omega
  unfold coordV
  obtain ⟨ck, nx, wt, ts⟩ := c
  simp only at *
  have HN := Lib.hid hno
  clear hno
  rcases hcs with h1 | ⟨h1, h2⟩ | ⟨h1, h2, h3⟩ | ⟨h1, h2, h3, h4⟩
  all_goals go_enter Try.func34, Try.ntmps34
  all_goals go_wp2_with (go_at_call 64; refine (In_any _ _ _ _).mono ?_; rintro e w' ⟨rfl, rfl⟩)
  all_goals go_ret
  all_goals exact Tells.mk_no HN.out ((Below.refl _ _).alloc (Nat.le_refl _) _)

set_option maxRecDepth 100000 in
set_option maxHeartbeats 16000000 in
theorem coord_may_good (c : CoordD) (A : Option Addr) (m : Nat) (w : World) (hx : Txs w (.slice A c.txns.length m) c.txns)
    (h1 : inB c.clock 0 1073741824 = true) (h2 : inB c.next 1 1073741824 = true) (h3 : inB c.wait 1 1000 = true) (h6 : c.txns.length ≤ 8) (hnm : ∀ t ∈ c.txns, t.name.size ≤ 9223372036854775807) :
    Calls Try.prog 34 #[coordV c (.slice A c.txns.length m)] w (Tells (CoordOk c) w) := by
  have hok : TxnsOk c.clock c.next c.txns c.txns.length → CoordOk c := fun h => ⟨by simpa [inB] using h1, by simpa [inB] using h2, by simpa [inB] using h3, h6, h⟩
  obtain ⟨A', m', hv, hm, hcell⟩ := hx.at_
  injection hv with e1 e2 e3
  subst e1 e3
  have HOK := Lib.hid hok
  have HC := Lib.hid hcell
  have HNS := Lib.hid hnm
  clear hok hx hcell hnm
  unfold coordV
  obtain ⟨ck, nx, wt, ts⟩ := c
  simp only at *
  go_enter Try.func34, Try.ntmps34
  go_wp2_with (go_at_call 64; refine (In_any _ _ _ _).mono ?_; rintro e w' ⟨rfl, rfl⟩)
  have hbl := (Below.refl w.heap.size w).alloc (Nat.le_refl _) (.cells #[.int .i64 ck, .int .i64 nx, .int .i64 wt, .slice A ts.length m] 28)
  have bx := Blk.new w 28 #[.int .i64 ck, .int .i64 nx, .int .i64 wt, .slice A ts.length m]
  generalize w.alloc (.cells #[.int .i64 ck, .int .i64 nx, .int .i64 wt, .slice A ts.length m] 28) = W0 at *
  have HBL := Lib.hid hbl
  have HB := Lib.hid bx
  have n1 : 1 ≤ nx := by simp [inB] at h2; omega
  have n2 : nx ≤ 1073741824 := by simp [inB] at h2; omega
  clear hbl bx h1 h2 h3
  go_loopw [3] (fun i wr => ∃ k : Nat, k ≤ ts.length ∧ i = .int .i64 k ∧ Hid (TxnsOk ck nx ts k) ∧ Hid (Below W0.heap.size W0 wr)) (fun i _ => ts.length - (intOf i).toNat)
  case atStart => exact ⟨0, by omega, rfl, fun j _ hj => by omega, Below.refl _ _⟩
  case round =>
    obtain ⟨k, hk, rfl, HK, HW⟩ := hrel
    have hbw := below_then HBL.out HW.out
    have bw := HB.out.below HW.out HB.out.lt
    have g0 := bw.cell 0
    have g1 := bw.cell 1
    have g2 := bw.cell 2
    have g3 := bw.cell 3
    have glt := bw.lt
    have BW := Lib.hid bw
    clear bw
    by_cases hlt : k < ts.length
    · obtain ⟨b, off, rfl, hb, hcell⟩ := HC.out (by omega)
      obtain ⟨pv, x0, x1, x2, x3, x4, x5, x6, xi, xl⟩ := hcell k hlt
      have X0 := (hbw.cell (p := ⟨b, off + k * 7, none⟩) hb).trans x0
      have X1 := (hbw.cell (p := ⟨b, off + k * 7 + 1, none⟩) hb).trans x1
      have X2 := (hbw.cell (p := ⟨b, off + k * 7 + 2, none⟩) hb).trans x2
      have X3 := (hbw.cell (p := ⟨b, off + k * 7 + 3, none⟩) hb).trans x3
      have X4 := (hbw.cell (p := ⟨b, off + k * 7 + 4, none⟩) hb).trans x4
      have X5 := (hbw.cell (p := ⟨b, off + k * 7 + 5, none⟩) hb).trans x5
      have X6 := (hbw.cell (p := ⟨b, off + k * 7 + 6, none⟩) hb).trans x6
      have i0 : (0 : Int) ≤ (k : Int) := by omega
      have i1 : (k : Int) < (ts.length : Int) := by omega
      obtain ⟨A3, c3, rfl, hc3, xcell⟩ := xi.at_
      have HXC := Lib.hid xcell
      have HBW := Lib.hid hbw
      have hble : b < wr.heap.size := by have := hbw.size; omega
      have HCC := Lib.hid hcell
      clear x0 x1 x2 x3 x4 x5 x6 hcell hbw xi xcell
      go_wp2_with fail
      have bt := Blk.new wr 76 #[.string ts[k].name, .int .i64 ts[k].pid, .int .i64 ts[k].ver, .int .i64 ts[k].state, .slice A3 ts[k].parts.length c3, .int .i64 ts[k].since, .int .i64 ts[k].done]
      have hal := (Below.refl wr.heap.size wr).alloc (Nat.le_refl _) (.cells #[.string ts[k].name, .int .i64 ts[k].pid, .int .i64 ts[k].ver, .int .i64 ts[k].state, .slice A3 ts[k].parts.length c3, .int .i64 ts[k].since, .int .i64 ts[k].done] 76)
      have bw2 := BW.out.below hal BW.out.lt
      generalize wr.alloc (.cells #[.string ts[k].name, .int .i64 ts[k].pid, .int .i64 ts[k].ver, .int .i64 ts[k].state, .slice A3 ts[k].parts.length c3, .int .i64 ts[k].since, .int .i64 ts[k].done] 76) = w2 at *
      refine (nameMay_any ts[k].name w2 (HNS.out _ (List.getElem_mem _))).mono ?_
      rintro e w3 hT
      have h3 : Below w2.heap.size w2 w3 := by obtain ⟨_, _, _, h⟩ := hT; exact h
      have hb3 := below_then hal h3
      have bw3 := bw2.below h3 bw2.lt
      have bt3 := bt.below h3 bt.lt
      clear g0 g1 g2 g3 glt X0 X1 X2 X3 X4 X5 X6 BW
      have g0 := bw3.cell 0
      have g1 := bw3.cell 1
      have g2 := bw3.cell 2
      have g3 := bw3.cell 3
      have glt := bw3.lt
      have t0 := bt3.cell 0
      have t1 := bt3.cell 1
      have t2 := bt3.cell 2
      have t3 := bt3.cell 3
      have t4 := bt3.cell 4
      have t5 := bt3.cell 5
      have t6 := bt3.cell 6
      have tlt := bt3.lt
      have B3 := Lib.hid hb3
      clear hal h3 hb3 bw2 bw3 bt bt3
      by_cases hn : NameOk ts[k].name
      · obtain ⟨rfl, -⟩ := hT.yes hn
        have HNM := Lib.hid hn
        clear hT hn
        by_cases hbad : inB ts[k].pid 1 (nx - 1) = false ∨ inB ts[k].ver 0 1073741824 = false ∨ inB ts[k].state 1 4 = false ∨ inB ts[k].since 0 ck = false ∨ (ts[k].done ≠ 0 ∧ ts[k].done ≠ 3 ∧ ts[k].done ≠ 4)
        · have hno : ¬ CoordOk ⟨ck, nx, wt, ts⟩ := not_ok_txn (c := ⟨ck, nx, wt, ts⟩) hlt (txn_head_no hbad)
          have HN := Lib.hid hno
          clear hno
          have hcs : inB ts[k].pid 1 (nx - 1) = false ∨ (inB ts[k].pid 1 (nx - 1) = true ∧ inB ts[k].ver 0 1073741824 = false) ∨ (inB ts[k].pid 1 (nx - 1) = true ∧ inB ts[k].ver 0 1073741824 = true ∧ inB ts[k].state 1 4 = false) ∨
              (inB ts[k].pid 1 (nx - 1) = true ∧ inB ts[k].ver 0 1073741824 = true ∧ inB ts[k].state 1 4 = true ∧ inB ts[k].since 0 ck = false) ∨ (inB ts[k].pid 1 (nx - 1) = true ∧ inB ts[k].ver 0 1073741824 = true ∧ inB ts[k].state 1 4 = true ∧ inB ts[k].since 0 ck = true ∧ (ts[k].done != 0) = true ∧ (ts[k].done != 3) = true ∧ (ts[k].done != 4) = true) := by
            simp only [bne_iff_ne]
            revert hbad
            cases inB ts[k].pid 1 (nx - 1) <;> cases inB ts[k].ver 0 1073741824 <;> cases inB ts[k].state 1 4 <;> cases inB ts[k].since 0 ck <;> simp
          clear hbad
          rcases hcs with y1 | ⟨y1, y2⟩ | ⟨y1, y2, y3⟩ | ⟨y1, y2, y3, y4⟩ | ⟨y1, y2, y3, y4, y5, y6, y7⟩
          all_goals go_wp2_with (go_at_call 64; refine (In_any _ _ _ _).mono ?_; rintro e w' ⟨rfl, rfl⟩)
          all_goals go_ret
          all_goals exact Tells.mk_no HN.out (below_then HBW.out B3.out)
        · obtain ⟨y1, y2, y3, y4, y5⟩ : inB ts[k].pid 1 (nx - 1) = true ∧ inB ts[k].ver 0 1073741824 = true ∧ inB ts[k].state 1 4 = true ∧ inB ts[k].since 0 ck = true ∧ (ts[k].done = 0 ∨ ts[k].done = 3 ∨ ts[k].done = 4) := by
            simp only [not_or, Bool.not_eq_false] at hbad
            exact ⟨hbad.1, hbad.2.1, hbad.2.2.1, hbad.2.2.2.1, by omega⟩
          have hyes : Rises ts[k].parts → (ts[k].state = 1 ↔ ts[k].parts.length = 0) → TxnOk ck nx ts[k] := fun hr he => txn_head_yes HNM.out y1 y2 y3 y4 y5 hr he
          have HY := Lib.hid hyes
          clear hyes hbad
          go_upto_region 9 with (go_at_call 64; refine (In_any _ _ _ _).mono ?_; rintro e w' ⟨rfl, rfl⟩)
          go_cut [87] from 30 to 153 (fun c wx => c = .bool false ∧ w3 = wx)
          case first =>
            rcases y5 with y5 | y5 | y5
            all_goals rw [y5] at t6
            all_goals go_wp2_with fail
            all_goals go_meet
            all_goals exact ⟨rfl, rfl⟩
          case rest =>
            obtain ⟨rfl, rfl⟩ := hcut
            clear y1 y2 y3 y4 y5
            go_wp2_with fail
            go_loopw [5, 6] (fun l j wq => ∃ (q : Nat) (last : Int), q ≤ ts[k].parts.length ∧ j = .int .i64 q ∧ l = .int .i64 last ∧ Hid (RisesTo ts[k].parts q) ∧ Hid (LastOf ts[k].parts q last) ∧ w3 = wq) (fun _ j _ => ts[k].parts.length - (intOf j).toNat)
            case atStart => exact ⟨0, -1, by omega, rfl, rfl, fun j _ hj => by omega, ⟨fun _ => rfl, fun p hp e => by omega⟩, rfl⟩
            case round =>
              obtain ⟨q, last, hq, rfl, rfl, HR, HL, rfl⟩ := hrel
              have hlb := last_bounds HR.out HL.out hq
              by_cases hlq : q < ts[k].parts.length
              · obtain ⟨b3, o3, rfl, hb3, hxc⟩ := HXC.out (by omega)
                have U := ((below_then HBW.out B3.out).cell (p := ⟨b3, o3 + q, none⟩) hb3).trans (hxc q hlq)
                have q0 : (0 : Int) ≤ (q : Int) := by omega
                have q1 : (q : Int) < (ts[k].parts.length : Int) := by omega
                clear hxc
                rcases hin : inB ts[k].parts[q] (last + 1) 3 with _ | _
                · have hno : ¬ CoordOk ⟨ck, nx, wt, ts⟩ := not_ok_txn (c := ⟨ck, nx, wt, ts⟩) hlt (fun h => last_no HL.out hlq hin h.rises)
                  have HN := Lib.hid hno
                  clear hno
                  go_wp2_with (go_at_call 64; refine (In_any _ _ _ _).mono ?_; rintro e w' ⟨rfl, rfl⟩)
                  go_ret
                  exact Tells.mk_no HN.out (below_then HBW.out B3.out)
                · have hst := last_yes HR.out HL.out hlq hin
                  have HST := Lib.hid hst
                  clear hst
                  go_wp2_with (go_at_call 64; refine (In_any _ _ _ _).mono ?_; rintro e w' ⟨rfl, rfl⟩)
                  go_light
                  exact ⟨⟨q + 1, _, by omega, by go_num, rfl, HST.out.1, HST.out.2, trivial⟩, by simp [intOf]; omega⟩
              · obtain rfl : q = ts[k].parts.length := by omega
                have hr := HR.out.all
                have HRI := Lib.hid hr
                clear hr hlb
                have hno' : ¬ (ts[k].state = 1 ↔ ts[k].parts.length = 0) → ¬ CoordOk ⟨ck, nx, wt, ts⟩ := fun h => not_ok_txn (c := ⟨ck, nx, wt, ts⟩) hlt (fun h' => h h'.empty)
                have HN' := Lib.hid hno'
                clear hno'
                have hcs : (ts[k].state = 1 ∧ 0 < ts[k].parts.length) ∨ (¬ ts[k].state = 1 ∧ ts[k].parts.length = 0) ∨ (ts[k].state = 1 ∧ ts[k].parts.length = 0) ∨ (¬ ts[k].state = 1 ∧ 0 < ts[k].parts.length) := by omega
                go_upto_region 18 with fail
                go_cut [6, 128] from 30 to 153 (fun _ c wx => (c = .bool false ∧ (ts[k].state = 1 ↔ ts[k].parts.length = 0) ∨ c = .bool true ∧ ¬ (ts[k].state = 1 ↔ ts[k].parts.length = 0)) ∧ w3 = wx)
                case first =>
                  rcases hcs with ⟨z1, z2⟩ | ⟨z1, z2⟩ | ⟨z1, z2⟩ | ⟨z1, z2⟩
                  · rw [z1] at t3
                    have z3 : (0 : Int) < (ts[k].parts.length : Int) := by omega
                    go_wp2_with fail
                    go_meet
                    exact ⟨Or.inr ⟨rfl, by omega⟩, rfl⟩
                  · have z3 : (ts[k].state == 1) = false := beq_eq_false_iff_ne.2 z1
                    have z4 : (ts[k].state != 1) = true := by simpa using z1
                    have z5 : ((ts[k].parts.length : Int) == 0) = true := by simp [z2]
                    have Z1 := Lib.hid z1
                    have Z2 := Lib.hid z2
                    clear z1 z2
                    go_wp2_with fail
                    go_meet
                    have z1 := Z1.out
                    have z2 := Z2.out
                    exact ⟨Or.inr ⟨rfl, by omega⟩, rfl⟩
                  · rw [z1] at t3
                    have z7 : ts[k].parts = [] := List.eq_nil_of_length_eq_zero z2
                    have z5 : ((ts[k].parts.length : Int) == 0) = true := by simp [z2]
                    have z6 : ¬ (0 : Int) < (ts[k].parts.length : Int) := by omega
                    have Z1 := Lib.hid z1
                    have Z2 := Lib.hid z2
                    clear z1 z2
                    go_wp2_with fail
                    go_meet
                    have z1 := Z1.out
                    have z2 := Z2.out
                    exact ⟨Or.inl ⟨rfl, by omega⟩, rfl⟩
                  · have z3 : (ts[k].state == 1) = false := beq_eq_false_iff_ne.2 z1
                    have z4 : (ts[k].state != 1) = true := by simpa using z1
                    have z5 : ((ts[k].parts.length : Int) == 0) = false := beq_eq_false_iff_ne.2 (by omega)
                    go_wp2_with fail
                    go_meet
                    exact ⟨Or.inl ⟨rfl, by omega⟩, rfl⟩
                case rest =>
                  obtain ⟨⟨rfl, he⟩ | ⟨rfl, he⟩, rfl⟩ := hcut
                  rotate_left
                  · have hn := HN'.out he
                    have HN := Lib.hid hn
                    clear hn
                    go_wp2_with fail
                    go_ret
                    exact Tells.mk_no HN.out (below_then HBW.out B3.out)
                  have ht := HY.out HRI.out he
                  have HT := Lib.hid ht
                  clear ht he
                  go_wp2_with fail
                  go_loopw [7] (fun j wq => ∃ p : Nat, p ≤ k ∧ j = .int .i64 p ∧ Hid (∀ j', j' < p → ¬ ClashAt ts ts[k] j') ∧ ∃ n, wq = w3.drewN n) (fun j _ => k - (intOf j).toNat)
                  case atStart => exact ⟨0, by omega, rfl, fun j' hj => by omega, 0, rfl⟩
                  case round =>
                    obtain ⟨p, hp, rfl, HP, n, rfl⟩ := hrel
                    have hbe := below_then (below_then HBW.out B3.out) (below_drewN_ w3 n)
                    have HBE := Lib.hid hbe
                    clear hbe
                    by_cases hlp : p < k
                    · have hlp' : p < ts.length := by omega
                      obtain ⟨-, u0, u1, -⟩ := HCC.out p hlp'
                      have U0 := ((below_then HBW.out B3.out).cell (p := ⟨b, off + p * 7, none⟩) hb).trans u0
                      have U1 := ((below_then HBW.out B3.out).cell (p := ⟨b, off + p * 7 + 1, none⟩) hb).trans u1
                      have p0 : (0 : Int) ≤ (p : Int) := by omega
                      have p1 : (p : Int) < (ts.length : Int) := by omega
                      have p2 : (p : Int) < (k : Int) := by omega
                      clear u0 u1
                      by_cases hnm : ts[p].name = ts[k].name
                      · have m1 : (ts[p].name.toList == ts[k].name.toList) = true := by simp [hnm]
                        have hno : ¬ CoordOk ⟨ck, nx, wt, ts⟩ := not_ok_clash (c := ⟨ck, nx, wt, ts⟩) hlt ⟨p, hlp, hlp', Or.inl hnm⟩
                        have HN := Lib.hid hno
                        clear hno hnm
                        go_wp2
                        go_quiet (fail)
                        go_wp2
                        go_ret
                        exact Tells.mk_no HN.out (below_then HBE.out (below_drewN_ _ _))
                      · have m1 : (ts[p].name.toList == ts[k].name.toList) = false := beq_eq_false_iff_ne.2 fun h => hnm (toList_inj h)
                        by_cases hpd : ts[p].pid = ts[k].pid
                        · have m2 : (ts[p].pid == ts[k].pid) = true := by simp [hpd]
                          have hno : ¬ CoordOk ⟨ck, nx, wt, ts⟩ := not_ok_clash (c := ⟨ck, nx, wt, ts⟩) hlt ⟨p, hlp, hlp', Or.inr hpd⟩
                          have HN := Lib.hid hno
                          clear hno hnm hpd
                          go_wp2
                          go_quiet (fail)
                          go_wp2
                          go_ret
                          exact Tells.mk_no HN.out (below_then HBE.out (below_drewN_ _ _))
                        · have m2 : (ts[p].pid == ts[k].pid) = false := beq_eq_false_iff_ne.2 hpd
                          have hst : ∀ j', j' < p + 1 → ¬ ClashAt ts ts[k] j' := fun j' hj' => by
                            rcases Nat.lt_succ_iff_lt_or_eq.1 hj' with h' | rfl
                            · exact HP.out j' h'
                            · exact fun ⟨_, h⟩ => h.elim hnm hpd
                          have HST := Lib.hid hst
                          clear hst hnm hpd
                          go_wp2
                          go_quiet (fail)
                          go_wp2
                          go_light
                          exact ⟨⟨p + 1, by omega, by go_num, HST.out, _, rfl⟩, by simp [intOf]; omega⟩
                    · obtain rfl : p = k := by omega
                      have hst := HK.out.step hlt HT.out (fun ⟨j, hj, h⟩ => HP.out j hj h)
                      have HST := Lib.hid hst
                      clear hst
                      go_wp2
                      go_light
                      exact ⟨⟨p + 1, by omega, by go_num, HST.out, below_then HW.out (below_then B3.out (below_drewN_ w3 n))⟩, by simp [intOf]; omega⟩
      · obtain ⟨rfl, -⟩ := hT.no hn
        have hno : ¬ CoordOk ⟨ck, nx, wt, ts⟩ := not_ok_txn (c := ⟨ck, nx, wt, ts⟩) hlt (fun h => hn h.name)
        have HN := Lib.hid hno
        clear hT hn hno
        go_wp2_with fail
        go_ret
        exact Tells.mk_no HN.out (below_then HBW.out B3.out)
    · obtain rfl : k = ts.length := by omega
      have hr := HOK.out HK.out
      have HR := Lib.hid hr
      clear hr
      go_wp2
      go_ret
      exact Tells.mk_yes HR.out hbw

theorem coord_may_any (v : Value) (c : CoordD) (w : World) (h : Cv w v c) (hnm : ∀ t ∈ c.txns, t.name.size ≤ 9223372036854775807) : Calls Try.prog 34 #[v] w (Tells (CoordOk c) w) := by
  obtain ⟨tv, rfl, hx, hlen⟩ := h
  obtain ⟨A, m, rfl, -⟩ := hx.at_
  by_cases h1 : inB c.clock 0 1073741824 = true
  · by_cases h2 : inB c.next 1 1073741824 = true
    · by_cases h3 : inB c.wait 1 1000 = true
      · by_cases h6 : c.txns.length ≤ 8
        · exact coord_may_good c A m w hx h1 h2 h3 h6 hnm
        · exact coord_may_head c A m w (Or.inr (Or.inr (Or.inr ⟨h1, h2, h3, by omega⟩)))
      · exact coord_may_head c A m w (Or.inr (Or.inr (Or.inl ⟨h1, h2, by simpa using h3⟩)))
    · exact coord_may_head c A m w (Or.inr (Or.inl ⟨h1, by simpa using h2⟩))
  · exact coord_may_head c A m w (Or.inl (by simpa using h1))

end Go.Proofs.Ytjkoceacjbhblaa
