/- part.Check answers whether a part may be: its loop; the whole. -/
import Derived.Test.YtpjjfnpdopdnkaaPartF
namespace Go.Proofs.Ytpjjfnpdopdnkaa
open Go.RowKit

theorem RepsTo.step {c : PartD} {k : Nat} (h : RepsTo c k) (hk : ∀ (h : k < c.reps.length) (h' : k < c.known.length), RepOk c.reps[k] c.known[k]) : RepsTo c (k + 1) := by
  intro i hi h1 h2
  rcases Nat.lt_succ_iff_lt_or_eq.1 hi with h' | rfl
  · exact h i h' h1 h2
  · exact hk h1 h2
theorem not_ok_rep {c : PartD} {k : Nat} (hk : k < c.reps.length) (hk' : k < c.known.length) (h : ¬ RepOk c.reps[k] c.known[k]) : ¬ PartOk c := fun hc => h (hc.reps k hk hk hk')
theorem box_alloc {w w0 : World} {g : Nat} {t : TypeId} {cs : Array Value} (h : Blk w0 g t cs) (hb : Below w0.heap.size w0 w) : Blk w g t cs := h.below hb h.lt

set_option maxRecDepth 100000 in
set_option maxHeartbeats 16000000 in
theorem partCheck_loop (v : Value) (c : PartD) (w : World) (h : Pv w v c) (hh : PartHead c) (hm : true ∈ c.isr) (hl : LedOk c) :
    Calls Try.prog 41 #[v] w (Answers (PartOk c) w) := by
  have HOK := Lib.hid (fun h3 => hh.ok hm hl h3)
  obtain ⟨xi, xk, xr, rfl, ix, kx, rx, hli, hlk, hlr⟩ := id h
  obtain ⟨A5, c5, rfl, hc5, hx2⟩ := rx.at_
  obtain ⟨A1, c1, rfl, hc1, hx1⟩ := ix.at_
  obtain ⟨A3, c3, rfl, hc3, hx3⟩ := kx.at_
  unfold partV at *
  have H := Lib.hid h
  have IX := Lib.hid ix
  have HM := Lib.hid hm
  have HC := Lib.hid hx2
  have HI := Lib.hid hx1
  have HK := Lib.hid hx3
  obtain ⟨g1, g2, g3, g4, g5, g6, g7⟩ := hh
  have HL := Lib.hid hl
  clear h ix hm hx1 hx2 hx3 hl kx rx
  obtain ⟨ep, ld, is, ks, rs, fw, ba⟩ := c
  simp only at *
  have z0 : decide ((rs.length : Int) < 1) = false := decide_eq_false (by omega)
  have z1 : decide ((5 : Int) < (rs.length : Int)) = false := decide_eq_false (by omega)
  have z2 : ((is.length : Int) != (rs.length : Int)) = false := by simp only [bne_eq_false_iff_eq]; omega
  have z3 : ((ks.length : Int) != (rs.length : Int)) = false := by simp only [bne_eq_false_iff_eq]; omega
  have z4 : decide (fw < 1) = false := decide_eq_false (by omega)
  have z5 : decide ((rs.length : Int) < fw) = false := decide_eq_false (by omega)
  have z6 : decide (ep < 0) = false := decide_eq_false (by omega)
  have z7 : decide (1073741824 < ep) = false := decide_eq_false (by omega)
  have z8 : decide (ld < -1) = false := decide_eq_false (by omega)
  have z9 : decide ((rs.length : Int) ≤ ld) = false := decide_eq_false (by omega)
  have z10 : decide (ba < 0) = false := decide_eq_false (by omega)
  have z11 : decide (400 < ba) = false := decide_eq_false (by omega)
  have G1 := Lib.hid g1
  have G2 := Lib.hid g2
  have G3 := Lib.hid g3
  have G6 := Lib.hid g6
  clear g1 g2 g3 g4 g5 g6 g7
  have hbl := (Below.refl w.heap.size w).alloc (Nat.le_refl _) (.cells #[.int .i64 ep, .int .i64 ld, .slice A1 is.length c1, .slice A3 ks.length c3, .slice A5 rs.length c5, .int .i64 fw, .int .i64 ba] 26)
  have bx := Blk.new w 26 #[.int .i64 ep, .int .i64 ld, .slice A1 is.length c1, .slice A3 ks.length c3, .slice A5 rs.length c5, .int .i64 fw, .int .i64 ba]
  have hcs : (decide (0 ≤ ld) = false ∧ ld < 0) ∨ ∃ i : Nat, ld = i ∧ i < rs.length ∧ i < is.length := by
    rcases Int.lt_or_le ld 0 with h0 | h0
    · exact Or.inl ⟨decide_eq_false (by omega), h0⟩
    · have := G6.out; have := G2.out
      exact Or.inr ⟨ld.toNat, by omega, by omega, by omega⟩
  have HNR := Lib.hid (fun (k : Nat) (h1 : k < rs.length) (h2 : k < ks.length) (hn : ¬ RepOk rs[k] ks[k]) => not_ok_rep (c := ⟨ep, ld, is, ks, rs, fw, ba⟩) h1 h2 hn)
  rcases hcs with ⟨y0, y1⟩ | ⟨i, rfl, hi, hi'⟩
  case' inl =>
    have e0 : 0 = 0 := rfl
    clear y1
    go_enter Try.func41, Try.ntmps41
    go_wp2_with fail
    refine (contains_yes (IX.out.below hbl) hli HM.out).mono ?_
    rintro e w' ⟨rfl, rfl⟩
    go_wp2_with fail
    clear y0 e0
  case' inr =>
    obtain ⟨y2, y3⟩ := HL.out i rfl hi' hi
    obtain ⟨b1, o1, rfl, hb1, q1⟩ := HI.out (Nat.lt_of_le_of_lt (Nat.zero_le _) hi')
    have X1 := q1 i hi'
    simp only at y2
    rw [y2] at X1
    obtain ⟨b, off, rfl, hb, q5⟩ := HC.out (Nat.lt_of_le_of_lt (Nat.zero_le _) hi)
    obtain ⟨pv, x0, x1, x2, x3, xb, xl⟩ := q5 i hi
    simp only at y3
    rw [y3] at x0
    have i0 : (0 : Int) ≤ (i : Int) := by omega
    have i1 : (i : Int) < (is.length : Int) := Int.ofNat_lt.2 hi'
    have i2 : (i : Int) < (rs.length : Int) := Int.ofNat_lt.2 hi
    have y0 : decide (0 ≤ (i : Int)) = true := decide_eq_true i0
    clear q1 q5 xb xl x1 x2 x3 y2 y3
    go_enter Try.func41, Try.ntmps41
    go_wp2_with fail
    refine (contains_yes (IX.out.below hbl) hli HM.out).mono ?_
    rintro e w' ⟨rfl, rfl⟩
    go_wp2_with fail
    clear X1 x0 i0 i1 i2 y0
  all_goals
    clear z0 z1 z2 z3 z4 z5 z6 z7 z8 z9 z10 z11
    generalize w.alloc (.cells #[.int .i64 ep, _, .slice _ is.length c1, .slice A3 ks.length c3, .slice _ rs.length c5, .int .i64 fw, .int .i64 ba] 26) = W0 at *
    have HBL := Lib.hid hbl
    have HB := Lib.hid bx
    clear hbl bx
    go_loopw [104] (fun i wr => ∃ k : Nat, k ≤ rs.length ∧ i = .int .i64 k ∧ Hid (RepsTo ⟨ep, 0, is, ks, rs, fw, ba⟩ k) ∧ Hid (Below W0.heap.size W0 wr)) (fun i _ => rs.length - (intOf i).toNat)
    case atStart => exact ⟨0, by omega, rfl, fun j hj => by omega, Below.refl _ _⟩
    case round =>
      obtain ⟨k, hk, rfl, HR, HW⟩ := hrel
      have hbw := below_then HBL.out HW.out
      have bw := HB.out.below HW.out HB.out.lt
      have q0 := bw.cell 0
      have q1 := bw.cell 1
      have q2 := bw.cell 2
      have q3 := bw.cell 3
      have q4 := bw.cell 4
      have q5 := bw.cell 5
      have q6 := bw.cell 6
      have ql := bw.lt
      have HBW := Lib.hid hbw
      have BW := Lib.hid bw
      clear bw hbw
      by_cases hlt : k < rs.length
      · have hltk : k < ks.length := by have := G3.out; omega
        obtain ⟨b, off, he5, hb, hcell⟩ := HC.out (Nat.lt_of_le_of_lt (Nat.zero_le _) hlt)
        cases he5
        obtain ⟨pv, x0, x1, x2, x3, xb, xl⟩ := hcell k hlt
        obtain ⟨b3, o3, rfl, hb3, hcell3⟩ := HK.out (Nat.lt_of_le_of_lt (Nat.zero_le _) hltk)
        have k0 := hcell3 k hltk
        obtain ⟨A7, c7, rfl, hc7, -⟩ := xb.at_
        have X0 := (HBW.out.cell (p := ⟨b, off + k * 4, none⟩) hb).trans x0
        have X1 := (HBW.out.cell (p := ⟨b, off + k * 4 + 1, none⟩) hb).trans x1
        have X2 := (HBW.out.cell (p := ⟨b, off + k * 4 + 2, none⟩) hb).trans x2
        have X3 := (HBW.out.cell (p := ⟨b, off + k * 4 + 3, none⟩) hb).trans x3
        have i0 : (0 : Int) ≤ (k : Int) := by omega
        have i1 : (k : Int) < (rs.length : Int) := Int.ofNat_lt.2 hlt
        have i2 : (k : Int) < (ks.length : Int) := Int.ofNat_lt.2 hltk
        have XB := Lib.hid xb
        have XL := Lib.hid xl
        have K0 := Lib.hid k0
        clear x0 x1 x2 x3 hcell hcell3 xb xl k0
        go_wp2_with fail
        have hal := (Below.refl wr.heap.size wr).alloc (Nat.le_refl _) (.cells #[.bool rs[k].up, .slice A7 rs[k].bytes.length c7, .int .i64 rs[k].synced, .int .i64 rs[k].high] 71)
        have bt := Blk.new wr 71 #[.bool rs[k].up, .slice A7 rs[k].bytes.length c7, .int .i64 rs[k].synced, .int .i64 rs[k].high]
        have bw2 := BW.out.below hal BW.out.lt
        generalize wr.alloc (.cells #[.bool rs[k].up, .slice A7 rs[k].bytes.length c7, .int .i64 rs[k].synced, .int .i64 rs[k].high] 71) = w2 at *
        have hbw2 := below_then HBW.out hal
        have HW2 := Lib.hid (below_then HW.out hal)
        have BW2 := Lib.hid bw2
        have BT := Lib.hid bt
        have HBW2 := Lib.hid hbw2
        clear q0 q1 q2 q3 q4 q5 q6 ql X0 X1 X2 X3 BW bw2 bt hbw2 hal
        rcases logFault_cases rs[k].log with hf | ⟨es, j, hlog⟩
        · have HNO := Lib.hid (HNR.out k hlt hltk (fun h => hf h.1))
          refine (ends_bad _ _ k _ (H.out.below HBW2.out) hlt hf).mono ?_
          rintro e w3 ⟨rfl, hb3'⟩
          have hbw3 := below_then HBW2.out hb3'
          have bt3 := BT.out.below hb3' BT.out.lt
          have t1 := bt3.cell 1
          have t2 := bt3.cell 2
          have tl := bt3.lt
          have hq := segCheck_any _ rs[k].bytes rs[k].synced _ (XB.out.below hbw3) XL.out
          have HBW3 := Lib.hid hbw3
          unfold RepD.log at hf
          generalize logFault ⟨rs[k].bytes, rs[k].synced⟩ = x at *
          have zx : (x != 0) = true := by simp only [bne_iff_ne]; exact hf
          have HQ := Lib.hid hq
          clear hb3' bt3 hbw3 hf hq
          go_wp2_with fail
          refine HQ.out.mono ?_
          rintro e w4 ⟨rfl, hb4⟩
          have hbw4 := below_then HBW3.out hb4
          clear t1 t2 tl
          go_wp2
          go_ret
          exact Answers.mk_no HNO.out hbw4
        · refine (ends_ok _ _ k _ (H.out.below HBW2.out) hlt hlog).mono ?_
          rintro e w3 ⟨rfl, hb3'⟩
          have hbw3 := below_then HBW2.out hb3'
          have HW3 := Lib.hid (below_then HW2.out hb3')
          have bt3 := BT.out.below hb3' BT.out.lt
          have bw3 := BW2.out.below hb3' BW2.out.lt
          have t1 := bt3.cell 1
          have t2 := bt3.cell 2
          have tl := bt3.lt
          have hq := segCheck_any _ rs[k].bytes rs[k].synced _ (XB.out.below hbw3) XL.out
          have HBW3 := Lib.hid hbw3
          have BT3 := Lib.hid bt3
          have BW3 := Lib.hid bw3
          have hf := hlog.fault
          have HA := Lib.hid (RepD.ents hlog).1
          have HF := Lib.hid hf
          unfold RepD.log at hf
          rw [hf] at hq
          have HQ := Lib.hid hq
          clear hb3' bt3 bw3 hbw3 hq hf hlog
          go_wp2_with fail
          refine HQ.out.mono ?_
          rintro e w4 ⟨rfl, hb4⟩
          have hbw4 := below_then HBW3.out hb4
          have HW4 := Lib.hid (below_then HW3.out hb4)
          have bt4 := BT3.out.below hb4 BT3.out.lt
          have bw4 := BW3.out.below hb4 BW3.out.lt
          clear t1 t2 tl
          have t2 := bt4.cell 2
          have t3 := bt4.cell 3
          have tl := bt4.lt
          have q3 := bw4.cell 3
          have ql := bw4.lt
          have K4 := (hbw4.cell (p := ⟨b3, o3 + k, none⟩) hb3).trans K0.out
          have HBW4 := Lib.hid hbw4
          clear bt4 bw4 hb4 hbw4
          by_cases a1 : rs[k].high < 0
          · have HNO := Lib.hid (HNR.out k hlt hltk (fun h => by have := h.2.1; omega))
            have d1 : decide (rs[k].high < 0) = true := decide_eq_true a1
            clear a1
            go_wp2
            go_ret
            exact Answers.mk_no HNO.out HBW4.out
          · have d1 : decide (rs[k].high < 0) = false := decide_eq_false a1
            by_cases a2 : (es.length : Int) < rs[k].high
            · have HNO := Lib.hid (HNR.out k hlt hltk (fun h => by have := h.2.2.1; rw [HA.out] at this; omega))
              have d2 : decide ((es.length : Int) < rs[k].high) = true := decide_eq_true a2
              clear a1 a2
              go_wp2
              go_ret
              exact Answers.mk_no HNO.out HBW4.out
            · have d2 : decide ((es.length : Int) < rs[k].high) = false := decide_eq_false a2
              by_cases a3 : ks[k] < 0
              · have HNO := Lib.hid (HNR.out k hlt hltk (fun h => by have := h.2.2.2.1; omega))
                have d3 : decide (ks[k] < 0) = true := decide_eq_true a3
                clear a1 a2 a3
                go_wp2
                go_ret
                exact Answers.mk_no HNO.out HBW4.out
              · have d3 : decide (ks[k] < 0) = false := decide_eq_false a3
                by_cases a4 : 400 < ks[k]
                · have HNO := Lib.hid (HNR.out k hlt hltk (fun h => by have := h.2.2.2.2; omega))
                  have d4 : decide (400 < ks[k]) = true := decide_eq_true a4
                  clear a1 a2 a3 a4
                  go_wp2
                  go_ret
                  exact Answers.mk_no HNO.out HBW4.out
                · have d4 : decide (400 < ks[k]) = false := decide_eq_false a4
                  have HR' := Lib.hid (HR.out.step (fun _ _ => ⟨HF.out, by simp only; omega, by simp only; rw [HA.out]; omega, by simp only; omega, by simp only; omega⟩))
                  clear a1 a2 a3 a4
                  go_wp2
                  go_light
                  refine ⟨⟨k + 1, by omega, by go_num, HR'.out, HW4.out⟩, by simp [intOf]; omega⟩
      · obtain rfl : k = rs.length := by omega
        have HRO := Lib.hid (HOK.out HR.out)
        clear hlt
        go_wp2
        go_ret
        exact Answers.mk_yes HRO.out HBW.out

set_option maxRecDepth 100000 in
set_option maxHeartbeats 4000000 in
theorem partCheck_mid (v : Value) (c : PartD) (w : World) (h : Pv w v c) (hh : PartHead c) (hm : ¬ (true ∈ c.isr ∧ LedOk c)) :
    Calls Try.prog 41 #[v] w (Answers (PartOk c) w) := by
  have HNO := Lib.hid (show ¬ PartOk c from fun h => hm ⟨h.some_, h.led⟩)
  obtain ⟨xi, xk, xr, rfl, ix, kx, rx, hli, hlk, hlr⟩ := id h
  obtain ⟨A5, c5, rfl, hc5, hx2⟩ := rx.at_
  obtain ⟨A1, c1, rfl, hc1, hx1⟩ := ix.at_
  obtain ⟨A3, c3, rfl, hc3, hx3⟩ := kx.at_
  unfold partV at *
  have IX := Lib.hid ix
  have HM := Lib.hid hm
  have HC := Lib.hid hx2
  have HI := Lib.hid hx1
  obtain ⟨g1, g2, g3, g4, g5, g6, g7⟩ := hh
  clear h ix hm hx1 hx2 hx3 kx rx
  obtain ⟨ep, ld, is, ks, rs, fw, ba⟩ := c
  simp only at *
  have z0 : decide ((rs.length : Int) < 1) = false := decide_eq_false (by omega)
  have z1 : decide ((5 : Int) < (rs.length : Int)) = false := decide_eq_false (by omega)
  have z2 : ((is.length : Int) != (rs.length : Int)) = false := by simp only [bne_eq_false_iff_eq]; omega
  have z3 : ((ks.length : Int) != (rs.length : Int)) = false := by simp only [bne_eq_false_iff_eq]; omega
  have z4 : decide (fw < 1) = false := decide_eq_false (by omega)
  have z5 : decide ((rs.length : Int) < fw) = false := decide_eq_false (by omega)
  have z6 : decide (ep < 0) = false := decide_eq_false (by omega)
  have z7 : decide (1073741824 < ep) = false := decide_eq_false (by omega)
  have z8 : decide (ld < -1) = false := decide_eq_false (by omega)
  have z9 : decide ((rs.length : Int) ≤ ld) = false := decide_eq_false (by omega)
  have z10 : decide (ba < 0) = false := decide_eq_false (by omega)
  have z11 : decide (400 < ba) = false := decide_eq_false (by omega)
  have hbl := (Below.refl w.heap.size w).alloc (Nat.le_refl _) (.cells #[.int .i64 ep, .int .i64 ld, .slice A1 is.length c1, .slice A3 ks.length c3, .slice A5 rs.length c5, .int .i64 fw, .int .i64 ba] 26)
  have hcs : ¬ true ∈ is ∨ true ∈ is ∧ ∃ i : Nat, ld = i ∧ ∃ (hi : i < rs.length) (hi' : i < is.length), is[i] = false ∨ is[i] = true ∧ rs[i].up = false := by
    by_cases hm : true ∈ is
    · refine Or.inr ⟨hm, Classical.byContradiction fun hn => HM.out ⟨hm, fun i he h1 h2 => Classical.byContradiction fun hn' => hn ⟨i, he, h2, h1, ?_⟩⟩⟩
      simp only at hn' ⊢
      rcases h3 : is[i] with _ | _
      · exact Or.inl rfl
      · refine Or.inr ⟨rfl, ?_⟩
        rcases h4 : rs[i].up with _ | _
        · rfl
        · exact absurd ⟨h3, h4⟩ hn'
    · exact Or.inl hm
  clear g1 g2 g3 g4 g5 g6 g7 HM
  rcases hcs with hm | ⟨hm, i, rfl, hi, hi', hcs⟩
  · have HM := Lib.hid hm
    clear hm
    go_enter Try.func41, Try.ntmps41
    go_wp2_with fail
    refine (contains_no (IX.out.below hbl) hli HM.out).mono ?_
    rintro e w' ⟨rfl, rfl⟩
    go_wp2
    go_ret
    exact Answers.mk_no HNO.out hbl
  · obtain ⟨b1, o1, rfl, hb1, q1⟩ := HI.out (Nat.lt_of_le_of_lt (Nat.zero_le _) hi')
    have X1 := q1 i hi'
    have i0 : (0 : Int) ≤ (i : Int) := by omega
    have i1 : (i : Int) < (is.length : Int) := Int.ofNat_lt.2 hi'
    have i2 : (i : Int) < (rs.length : Int) := Int.ofNat_lt.2 hi
    have y0 : decide (0 ≤ (i : Int)) = true := decide_eq_true i0
    have HM := Lib.hid hm
    clear q1 hm
    rcases hcs with y2 | ⟨y2, y3⟩
    · rw [y2] at X1
      clear y2
      go_enter Try.func41, Try.ntmps41
      go_wp2_with fail
      refine (contains_yes (IX.out.below hbl) hli HM.out).mono ?_
      rintro e w' ⟨rfl, rfl⟩
      go_wp2
      go_ret
      exact Answers.mk_no HNO.out hbl
    · rw [y2] at X1
      obtain ⟨b, off, rfl, hb, q5⟩ := HC.out (Nat.lt_of_le_of_lt (Nat.zero_le _) hi)
      obtain ⟨pv, x0, x1, x2, x3, xb, xl⟩ := q5 i hi
      rw [y3] at x0
      clear q5 xb xl x1 x2 x3 y2 y3
      go_enter Try.func41, Try.ntmps41
      go_wp2_with fail
      refine (contains_yes (IX.out.below hbl) hli HM.out).mono ?_
      rintro e w' ⟨rfl, rfl⟩
      go_wp2
      go_ret
      exact Answers.mk_no HNO.out hbl

theorem partCheck_any (v : Value) (c : PartD) (w : World) (h : Pv w v c) : Calls Try.prog 41 #[v] w (Answers (PartOk c) w) := by
  rcases head_cases c with hh | ⟨hn, hcs⟩
  · by_cases hm : true ∈ c.isr ∧ LedOk c
    · exact partCheck_loop v c w h hh hm.1 hm.2
    · exact partCheck_mid v c w h hh hm
  · exact partCheck_head v c w h hn hcs
end Go.Proofs.Ytpjjfnpdopdnkaa
