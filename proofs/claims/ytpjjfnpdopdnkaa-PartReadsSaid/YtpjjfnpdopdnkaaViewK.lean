/- tailraceref.ReadOf, tailracelaw.sameTexts. -/
import Derived.Test.YtpjjfnpdopdnkaaViewJ
namespace Go.Proofs.Ytpjjfnpdopdnkaa
open Go.RowKit

set_option maxRecDepth 100000 in
set_option maxHeartbeats 4000000 in
theorem readOf_high (v : Value) (es : List Ent) (hi frm most : Int) (w : World) (h : Es w v es) (hr : hi < 0 ∨ (es.length : Int) < hi) (hl : es.length ≤ 9223372036854775806) :
    Calls Try.prog 94 #[v, .int .i64 hi, .int .i64 frm, .int .i64 most] w (ReadBad w) := by
  obtain ⟨A, c, rfl, hc, hx⟩ := h.at_
  have H := Lib.hid h
  have HR := Lib.hid hr
  clear h hx hr
  go_enter Try.func94, Try.ntmps94
  go_wp2_with fail
  refine (stableOf_bad _ es hi _ H.out HR.out hl).mono ?_
  rintro e W1 ⟨rfl, hb⟩
  have HB1 := Lib.hid hb
  clear hb
  go_wp2
  exact bodyPost_ret (v := .tuple #[.slice none 0 0, .int .i64 0, .int .i64 2]) (by simp [results, Try.results94, go_sem]) rfl ⟨rfl, HB1.out⟩
set_option maxRecDepth 100000 in
set_option maxHeartbeats 4000000 in
theorem readOf_range (v : Value) (es : List Ent) (hi frm most : Int) (w : World) (h : Es w v es) (n : Nat) (hn : hi = n) (hle : n ≤ es.length) (hp : PlainE es) (hr : frm < 0 ∨ (es.length : Int) < frm ∨ most < 1 ∨ 20 < most) (hl : es.length ≤ 9223372036854775806) :
    Calls Try.prog 94 #[v, .int .i64 hi, .int .i64 frm, .int .i64 most] w (ReadBad w) := by
  obtain ⟨A, c, rfl, hc, hx⟩ := h.at_
  have H := Lib.hid h
  have HP := Lib.hid hp
  subst hn
  clear h hx hp
  by_cases h0 : frm < 0 ∨ (es.length : Int) < frm
  · have z1 : inB frm 0 (es.length : Int) = false := by
      unfold inB
      simp only [Bool.and_eq_false_iff, decide_eq_false_iff_not]
      omega
    have Z1 := Lib.hid z1
    have Z2 := Z1
    clear hr h0 z1
    go_enter Try.func94, Try.ntmps94
    go_wp2_with fail
    refine (stableOf_ok _ es n _ H.out n rfl hle HP.out hl).mono ?_
    rintro e W1 ⟨r, rfl, -, hb⟩
    have HB1 := Lib.hid hb
    clear hb
    go_wp2_with (go_at_call 69; refine (In_any _ _ _ _).mono ?_; rintro e w9 ⟨rfl, rfl⟩; first | rw [Z1.out] | rw [Z2.out])
    exact bodyPost_ret (v := .tuple #[.slice none 0 0, .int .i64 0, .int .i64 2]) (by simp [results, Try.results94, go_sem]) rfl ⟨rfl, HB1.out⟩
  · have z1 : inB frm 0 (es.length : Int) = true := by
      unfold inB
      simp only [Bool.and_eq_true, decide_eq_true_eq]
      omega
    have z2 : inB most 1 20 = false := by
      unfold inB
      simp only [Bool.and_eq_false_iff, decide_eq_false_iff_not]
      omega
    have Z1 := Lib.hid z1
    have Z2 := Lib.hid z2
    clear hr h0 z1 z2
    go_enter Try.func94, Try.ntmps94
    go_wp2_with fail
    refine (stableOf_ok _ es n _ H.out n rfl hle HP.out hl).mono ?_
    rintro e W1 ⟨r, rfl, -, hb⟩
    have HB1 := Lib.hid hb
    clear hb
    go_wp2_with (go_at_call 69; refine (In_any _ _ _ _).mono ?_; rintro e w9 ⟨rfl, rfl⟩; first | rw [Z1.out] | rw [Z2.out])
    exact bodyPost_ret (v := .tuple #[.slice none 0 0, .int .i64 0, .int .i64 2]) (by simp [results, Try.results94, go_sem]) rfl ⟨rfl, HB1.out⟩
set_option maxRecDepth 100000 in
set_option maxHeartbeats 4000000 in
theorem readOf_ok (v : Value) (es : List Ent) (hi frm most : Int) (w : World) (h : Es w v es) (n : Nat) (hn : hi = n) (hle : n ≤ es.length) (hp : PlainE es) (f : Nat) (hf : frm = f) (hfl : f ≤ es.length) (hm1 : 1 ≤ most) (hm2 : most ≤ 20) {r : Int} (hr : StabIs es n r) (hl : es.length ≤ 9223372036854775806) :
    Calls Try.prog 94 #[v, .int .i64 hi, .int .i64 frm, .int .i64 most] w (ReadPost es n f r most w) := by
  obtain ⟨A, c, rfl, hc, hx⟩ := h.at_
  have H := Lib.hid h
  have HP := Lib.hid hp
  have HX := Lib.hid hx
  subst hn hf
  have z1 : decide ((f : Int) < 0) = false := decide_eq_false (by omega)
  have z2 : decide ((es.length : Int) < (f : Int)) = false := decide_eq_false (by omega)
  have z2n : decide (es.length < f) = false := decide_eq_false (by omega)
  have z3 : decide (most < 1) = false := decide_eq_false (by omega)
  have z4 : decide (20 < most) = false := decide_eq_false (by omega)
  have y6 : inB (f : Int) 0 (es.length : Int) = true := by
    unfold inB
    simp only [Bool.and_eq_true, decide_eq_true_eq]
    omega
  have y7 : inB most 1 20 = true := by
    unfold inB
    simp only [Bool.and_eq_true, decide_eq_true_eq]
    omega
  have Z1 := Lib.hid y6
  have Z2 := Lib.hid y7
  clear y6 y7
  have n0 : (0 : Int) ≤ (n : Int) := by omega
  have n1 : (n : Int) ≤ (c : Int) := by omega
  obtain ⟨i0, j0, j1, j2, j3⟩ := info_parts str_info
  clear h hx hp
  go_enter Try.func94, Try.ntmps94
  go_wp2_with fail
  refine (stableOf_ok _ es n _ H.out n rfl hle HP.out hl).mono ?_
  rintro e W1 ⟨r', rfl, hs, hb⟩
  obtain rfl := hs.unique hr
  have hrn : r' ≤ n := hr.1
  have HB1 := Lib.hid hb
  clear hs hb hr
  go_wp2_with (go_at_call 69; refine (In_any _ _ _ _).mono ?_; rintro e w9 ⟨rfl, rfl⟩; first | rw [Z1.out] | rw [Z2.out])
  clear Z1 Z2
  go_loopw [13, 14] (fun o x wr => ∃ (k a : Nat), Hid (a = f + k) ∧ x = .int .i64 a ∧ f ≤ a ∧ a ≤ es.length ∧ wr.ownsRow w.heap.size 9 1 o (textsTo es n f k).length (strs (textsTo es n f k)) ∧ Hid (∀ m : Nat, m < k → ((f + m : Nat) : Int) < r' ∧ ((textsTo es n f m).length : Int) < most) ∧ Hid (Below w.heap.size w wr)) (fun _ x _ => es.length - (intOf x).toNat)
  case atStart => exact ⟨0, f, Lib.hid rfl, rfl, Nat.le_refl _, hfl, World.ownsRow_nil _ _ _ _, Lib.hid (fun m h => by omega), HB1⟩
  case round =>
    clear HB1
    obtain ⟨k, a, HA, rfl, hfa, hal, ho, HM, HB⟩ := hrel
    obtain ⟨A7, c7, rfl, hc7⟩ := (Sl.of_own ho).form
    have hstop : ¬ ((a : Int) < r' ∧ ((textsTo es n f k).length : Int) < most) → StopsAt es n f r' most k := fun h => ⟨HM.out, by rw [← HA.out]; exact h⟩
    have hmore : (a : Int) < r' ∧ ((textsTo es n f k).length : Int) < most → ∀ m : Nat, m < k + 1 → ((f + m : Nat) : Int) < r' ∧ ((textsTo es n f m).length : Int) < most := fun h m hm => by
      rcases Nat.lt_succ_iff_lt_or_eq.1 hm with h' | rfl
      · exact HM.out m h'
      · rw [← HA.out]; exact h
    have HSTOP := Lib.hid hstop
    have HMORE := Lib.hid hmore
    have HTY := Lib.hid (fun (hi : a < es.length) (hk : es[a].kind = 1) (hb : KeptIs es n es[a] a true) => show textsTo es n f (k + 1) = textsTo es n f k ++ [es[a].text] by have e := HA.out; subst e; exact textsTo_yes hi hk hb)
    have HTN := Lib.hid (fun (hi : a < es.length) (hb : ¬ (es[a].kind = 1 ∧ KeptIs es n es[a] a true)) => show textsTo es n f (k + 1) = textsTo es n f k by have e := HA.out; subst e; exact textsTo_no hi hb)
    have HA2 := Lib.hid (show a + 1 = f + (k + 1) by have := HA.out; omega)
    clear hstop hmore
    have HFIN := Lib.hid (show ∀ hs : StopsAt es n f r' most k, ∀ (h1 : Below w.heap.size w wr), ReadPost es n f r' most w (.returned (.tuple #[.slice A7 (textsTo es n f k).length c7, .int .i64 a, .int .i64 0])) wr from fun hs h1 => ⟨_, k, a, HA.out, rfl, ho, hs, h1⟩)
    have HO := Lib.hid ho
    clear ho
    by_cases ha : (a : Int) < r'
    · have y1 : decide ((a : Int) < r') = true := decide_eq_true ha
      by_cases hlen : ((textsTo es n f k).length : Int) < most
      · have y2 : decide (((textsTo es n f k).length : Int) < most) = true := decide_eq_true hlen
        have HMO := Lib.hid (HMORE.out ⟨ha, hlen⟩)
        have han : a < n := by omega
        have hae : a < es.length := by omega
        clear HMORE HSTOP HFIN
        obtain ⟨b1, o1, rfl, hb1, hcell⟩ := HX.out (by omega)
        obtain ⟨q0, q1, q2, q3, q4, q5, q6⟩ := hcell a hae
        have X0 := (HB.out.cell (p := ⟨b1, o1 + a * 7, none⟩) hb1).trans q0
        have X1 := (HB.out.cell (p := ⟨b1, o1 + a * 7 + 1, none⟩) hb1).trans q1
        have X2 := (HB.out.cell (p := ⟨b1, o1 + a * 7 + 2, none⟩) hb1).trans q2
        have X3 := (HB.out.cell (p := ⟨b1, o1 + a * 7 + 3, none⟩) hb1).trans q3
        have X4 := (HB.out.cell (p := ⟨b1, o1 + a * 7 + 4, none⟩) hb1).trans q4
        have X5 := (HB.out.cell (p := ⟨b1, o1 + a * 7 + 5, none⟩) hb1).trans q5
        have X6 := (HB.out.cell (p := ⟨b1, o1 + a * 7 + 6, none⟩) hb1).trans q6
        have yl := Nat.lt_of_lt_of_le hb1 HB.out.size
        have a0 : (0 : Int) ≤ (a : Int) := by omega
        have a1 : (a : Int) < (es.length : Int) := by omega
        have HTY2 := Lib.hid (HTY.out hae)
        have HTN2 := Lib.hid (HTN.out hae)
        have HC := Lib.hid hcell
        clear hcell q0 q1 q2 q3 q4 q5 q6 HTY HTN
        generalize es[a] = y at *
        obtain ⟨yep, ypid, yver, yseq, ykind, ytxn, ytext⟩ := y
        simp only at *
        by_cases hk : ykind = 1
        · have y3 : (ykind == 1) = true := beq_iff_eq.2 hk
          have HK := Lib.hid hk
          clear hk
          rcases ytxn with _ | _
          · skip
            have hal := (Below.refl wr.heap.size wr).alloc (Nat.le_refl _) (.cells #[.int .i64 yep, .int .i64 ypid, .int .i64 yver, .int .i64 yseq, .int .i64 ykind, .bool false, .string ytext] 55)
            have HB2 := Lib.hid (below_then HB.out hal)
            have HO2 := Lib.hid (own_keep HO.out hal (fun b hb => (HO.out.lt b hb).2))
            have hbe := Blk.new wr 55 #[.int .i64 yep, .int .i64 ypid, .int .i64 yver, .int .i64 yseq, .int .i64 ykind, .bool false, .string ytext]
            have HBE := Lib.hid hbe
            clear hal hbe
            go_upto_region 10 with fail
            generalize wr.alloc (.cells #[.int .i64 yep, .int .i64 ypid, .int .i64 yver, .int .i64 yseq, .int .i64 ykind, .bool false, .string ytext] 55) = W2 at *
            have g4 := HBE.out.cell 4
            have g5 := HBE.out.cell 5
            have g6 := HBE.out.cell 6
            have gl := HBE.out.lt
            have HT := Lib.hid (HTY2.out HK.out (Or.inl ⟨rfl, rfl⟩))
            clear HTY2 HTN2
            have HNE := Lib.hid (show ∀ g, (Value.slice A7 (textsTo es n f k).length c7).ownBlock = some g → w.heap.size ≤ g from fun g hg => (HO2.out.lt g hg).1)
            have hws := HB2.out.size
            go_wp2_with (at_builtin; go_must (refine wpList_append_sl _ rfl (.tmp 100) (.tmp 103) 62 rfl w.heap.size 9 i0 (.string .empty) 1 16 Try.underlying62 j0 j1 j2 j3 rfl (by decide) _ _ _ (by rfl) (HO2.out.alloc _) _ 1 _ (by rfl) (lit_w _ _ _ 1 1 _ rfl (by simp)) (strs_one [ytext]) (by simp only [maxLen]; omega) (by omega) (by simp; omega) ?_; intro v7 w7 ho7 hg7 ha7; obtain ⟨A8, c8, rfl, hc8⟩ := (Sl.of_own ho7).form))
            have hb7 : Below w.heap.size w w7 := (HB2.out.alloc (by omega) _).grown hg7 (by simp; omega) (fun b hb => HNE.out b hb)
            have ho8 := own_eq ho7 (show (textsTo es n f k).length + 1 = (textsTo es n f (k + 1)).length by rw [HT.out]; simp) (show strs (textsTo es n f k) ++ _ = strs (textsTo es n f (k + 1)) by rw [HT.out]; simp [strs])
            go_light
            exact ⟨⟨k + 1, a + 1, HA2, by go_num, by omega, by omega, ho8, HMO, Lib.hid hb7⟩, by simp [intOf]; omega⟩
          · skip
            have hal := (Below.refl wr.heap.size wr).alloc (Nat.le_refl _) (.cells #[.int .i64 yep, .int .i64 ypid, .int .i64 yver, .int .i64 yseq, .int .i64 ykind, .bool true, .string ytext] 55)
            have HB2 := Lib.hid (below_then HB.out hal)
            have HO2 := Lib.hid (own_keep HO.out hal (fun b hb => (HO.out.lt b hb).2))
            have hbe := Blk.new wr 55 #[.int .i64 yep, .int .i64 ypid, .int .i64 yver, .int .i64 yseq, .int .i64 ykind, .bool true, .string ytext]
            have HBE := Lib.hid hbe
            clear hal hbe
            go_upto_region 10 with fail
            generalize wr.alloc (.cells #[.int .i64 yep, .int .i64 ypid, .int .i64 yver, .int .i64 yseq, .int .i64 ykind, .bool true, .string ytext] 55) = W2 at *
            have g4 := HBE.out.cell 4
            have g5 := HBE.out.cell 5
            have gl := HBE.out.lt
            obtain ⟨E, hE⟩ : ∃ E, E = wr.heap.size := ⟨_, rfl⟩
            rw [← hE] at HBE g4 g5 gl
            rw [← hE]
            clear hE
            go_wp2_with fail
            clear g4 g5 gl X0 X1 X2 X3 X4 X5 X6 yl
            go_loopw [16, 17] (fun s x w2 => ∃ kk : Nat, s = .bool false ∧ a + 1 ≤ kk ∧ kk ≤ n ∧ x = .int .i64 kk ∧ Hid (Below W2.heap.size W2 w2) ∧ Hid (∀ j : Nat, a < j → j < kk → ¬ EndAt es ypid j)) (fun _ x _ => n - (intOf x).toNat)
            case atStart => exact ⟨a + 1, rfl, Nat.le_refl _, by omega, by go_num, Lib.hid (Below.refl _ _), Lib.hid (fun j j1 j2 => by omega)⟩
            case round =>
              obtain ⟨kk, rfl, ka, kn, rfl, HW, HNE_⟩ := hrel
              have HB3 := Lib.hid (below_then HB2.out HW.out)
              have HO3 := Lib.hid (own_keep HO2.out HW.out (fun b hb => (HO2.out.lt b hb).2))
              have HBE3 := Lib.hid (HBE.out.below HW.out HBE.out.lt)
              have g1 := HBE3.out.cell 1
              have g6 := HBE3.out.cell 6
              have gl := HBE3.out.lt
              by_cases hkn : kk < n
              · have hkl : kk < es.length := by omega
                obtain ⟨-, u1, -, -, u4, -, -⟩ := HC.out kk hkl
                have hnext : ¬ EndAt es ypid kk → ∀ j : Nat, a < j → j < kk + 1 → ¬ EndAt es ypid j := fun hn j j1 j2 => by
                  rcases Nat.lt_succ_iff_lt_or_eq.1 j2 with h' | rfl
                  · exact HNE_.out j j1 h'
                  · exact hn
                have HNX := Lib.hid hnext
                have HAT := Lib.hid (show EndAt es ypid kk ↔ es[kk].pid = ypid ∧ es[kk].kind ≠ 1 from ⟨fun ⟨_, h⟩ => h, fun h => ⟨hkl, h⟩⟩)
                have HKP := Lib.hid (show ∀ b, EndAt es ypid kk → b = decide (es[kk].kind = 2) → KeptIs es n ⟨yep, ypid, yver, yseq, ykind, true, ytext⟩ a b from fun b h1 h2 => Or.inr ⟨rfl, Or.inl ⟨kk, hkl, by omega, hkn, h1, fun j j1 j2 => HNE_.out j j1 j2, h2⟩⟩)
                clear hnext
                generalize es[kk] = z at *
                obtain ⟨e0, e1, e2, e3, e4, e5, e6⟩ := z
                simp only at *
                have U1 := (HB3.out.cell (p := ⟨b1, o1 + kk * 7 + 1, none⟩) hb1).trans u1
                have U4 := (HB3.out.cell (p := ⟨b1, o1 + kk * 7 + 4, none⟩) hb1).trans u4
                have ul := Nat.lt_of_lt_of_le hb1 HB3.out.size
                have kk0 : (0 : Int) ≤ (kk : Int) := by omega
                have kk1 : (kk : Int) < (es.length : Int) := by omega
                have kk2 : (kk : Int) < (n : Int) := by omega
                clear u1 u4
                by_cases p0 : e1 = ypid
                · have v0 : (e1 == ypid) = true := beq_iff_eq.2 p0
                  by_cases p1 : e4 = 1
                  · have v1 : (e4 != 1) = false := by simpa using p1
                    have H2 := Lib.hid (HNX.out (fun h => (HAT.out.1 h).2 p1))
                    clear HNX HAT HKP p0 p1
                    go_wp2
                    go_quiet (fail)
                    go_wp2
                    go_light
                    exact ⟨⟨kk + 1, rfl, by omega, by omega, by go_num, Lib.hid (below_then HW.out (below_dn _ _)), H2⟩, by simp [intOf]; omega⟩
                  · have v1 : (e4 != 1) = true := by simpa using p1
                    by_cases p2 : e4 = 2
                    · have v2 : (e4 == 2) = true := beq_iff_eq.2 p2
                      have HKE := Lib.hid (HKP.out true (HAT.out.2 ⟨p0, p1⟩) (decide_eq_true p2).symm)
                      clear HNX HAT HKP p0 p1 p2
                      go_wp2
                      go_quiet (fail)
                      generalize hd : World.drewN _ _ = W4 at *
                      have hb : Below wr.heap.size wr W4 := by rw [← hd]; exact below_dn _ _
                      have HB4 := Lib.hid (below_then HB3.out hb)
                      have HO4 := Lib.hid (own_keep HO3.out hb (fun b hb => (HO3.out.lt b hb).2))
                      have hbe4 := HBE3.out.below hb HBE3.out.lt
                      have h6 := hbe4.cell 6
                      have hl4 := hbe4.lt
                      have UU4 := (HB4.out.cell (p := ⟨b1, o1 + kk * 7 + 4, none⟩) hb1).trans ((HB3.out.cell (p := ⟨b1, o1 + kk * 7 + 4, none⟩) hb1).symm.trans U4)
                      have ul4 := Nat.lt_of_lt_of_le hb1 HB4.out.size
                      clear hd hb hbe4 g1 g6 gl U1 U4 ul
                      go_upto_region 18 with fail
                      have HT := Lib.hid (HTY2.out HK.out (HKE.out))
                      clear HTY2 HTN2
                      have HNE := Lib.hid (show ∀ g, (Value.slice A7 (textsTo es n f k).length c7).ownBlock = some g → w.heap.size ≤ g from fun g hg => (HO4.out.lt g hg).1)
                      have hws := HB4.out.size
                      go_wp2_with (at_builtin; go_must (refine wpList_append_sl _ rfl (.tmp 100) (.tmp 103) 62 rfl w.heap.size 9 i0 (.string .empty) 1 16 Try.underlying62 j0 j1 j2 j3 rfl (by decide) _ _ _ (by rfl) (HO4.out.alloc _) _ 1 _ (by rfl) (lit_w _ _ _ 1 1 _ rfl (by simp)) (strs_one [ytext]) (by simp only [maxLen]; omega) (by omega) (by simp; omega) ?_; intro v7 w7 ho7 hg7 ha7; obtain ⟨A8, c8, rfl, hc8⟩ := (Sl.of_own ho7).form))
                      have hb7 : Below w.heap.size w w7 := (HB4.out.alloc (by omega) _).grown hg7 (by simp; omega) (fun b hb => HNE.out b hb)
                      have ho8 := own_eq ho7 (show (textsTo es n f k).length + 1 = (textsTo es n f (k + 1)).length by rw [HT.out]; simp) (show strs (textsTo es n f k) ++ _ = strs (textsTo es n f (k + 1)) by rw [HT.out]; simp [strs])
                      go_light
                      exact ⟨⟨k + 1, a + 1, HA2, by go_num, by omega, by omega, ho8, HMO, Lib.hid hb7⟩, by simp [intOf]; omega⟩
                    · have v2 : (e4 == 2) = false := beq_eq_false_iff_ne.2 p2
                      have HKE := Lib.hid (HKP.out false (HAT.out.2 ⟨p0, p1⟩) (decide_eq_false p2).symm)
                      clear HNX HAT HKP p0 p1 p2
                      go_wp2
                      go_quiet (fail)
                      generalize hd : World.drewN _ _ = W4 at *
                      have hb : Below wr.heap.size wr W4 := by rw [← hd]; exact below_dn _ _
                      have HB4 := Lib.hid (below_then HB3.out hb)
                      have HO4 := Lib.hid (own_keep HO3.out hb (fun b hb => (HO3.out.lt b hb).2))
                      have hbe4 := HBE3.out.below hb HBE3.out.lt
                      have h6 := hbe4.cell 6
                      have hl4 := hbe4.lt
                      have UU4 := (HB4.out.cell (p := ⟨b1, o1 + kk * 7 + 4, none⟩) hb1).trans ((HB3.out.cell (p := ⟨b1, o1 + kk * 7 + 4, none⟩) hb1).symm.trans U4)
                      have ul4 := Nat.lt_of_lt_of_le hb1 HB4.out.size
                      clear hd hb hbe4 g1 g6 gl U1 U4 ul
                      have HT := Lib.hid (HTN2.out (fun h => by have := HKE.out.unique h.2; cases this))
                      clear HTY2 HTN2
                      go_wp2
                      go_light
                      exact ⟨⟨k + 1, a + 1, HA2, by go_num, by omega, by omega, by rw [HT.out]; exact HO4.out, HMO, HB4⟩, by simp [intOf]; omega⟩
                · have v0 : (e1 == ypid) = false := beq_eq_false_iff_ne.2 p0
                  have H2 := Lib.hid (HNX.out (fun h => p0 (HAT.out.1 h).1))
                  clear HNX HAT HKP p0
                  go_wp2
                  go_quiet (fail)
                  go_wp2
                  go_light
                  exact ⟨⟨kk + 1, rfl, by omega, by omega, by go_num, Lib.hid (below_then HW.out (below_dn _ _)), H2⟩, by simp [intOf]; omega⟩
              · obtain rfl : kk = n := by omega
                have HKE := Lib.hid (show KeptIs es kk ⟨yep, ypid, yver, yseq, ykind, true, ytext⟩ a false from Or.inr ⟨rfl, Or.inr ⟨fun j j1 j2 => HNE_.out j j1 j2, rfl⟩⟩)
                have HT := Lib.hid (HTN2.out (fun h => by have := HKE.out.unique h.2; cases this))
                clear HTY2 HTN2
                go_wp2
                go_light
                exact ⟨⟨k + 1, a + 1, HA2, by go_num, by omega, by omega, by rw [HT.out]; exact HO3.out, HMO, HB3⟩, by simp [intOf]; omega⟩
        · have y3 : (ykind == 1) = false := beq_eq_false_iff_ne.2 hk
          have hal := (Below.refl wr.heap.size wr).alloc (Nat.le_refl _) (.cells #[.int .i64 yep, .int .i64 ypid, .int .i64 yver, .int .i64 yseq, .int .i64 ykind, .bool ytxn, .string ytext] 55)
          have HB2 := Lib.hid (below_then HB.out hal)
          have HO2 := Lib.hid (own_keep HO.out hal (fun b hb => (HO.out.lt b hb).2))
          have hbe := Blk.new wr 55 #[.int .i64 yep, .int .i64 ypid, .int .i64 yver, .int .i64 yseq, .int .i64 ykind, .bool ytxn, .string ytext]
          have HBE := Lib.hid hbe
          clear hal hbe
          go_upto_region 10 with fail
          generalize wr.alloc (.cells #[.int .i64 yep, .int .i64 ypid, .int .i64 yver, .int .i64 yseq, .int .i64 ykind, .bool ytxn, .string ytext] 55) = W2 at *
          have g4 := HBE.out.cell 4
          have gl := HBE.out.lt
          have HT := Lib.hid (HTN2.out (fun h => hk h.1))
          clear HTY2 HTN2
          go_wp2
          go_light
          exact ⟨⟨k + 1, a + 1, HA2, by go_num, by omega, by omega, by rw [HT.out]; exact HO2.out, HMO, HB2⟩, by simp [intOf]; omega⟩
      · have y2 : decide (((textsTo es n f k).length : Int) < most) = false := decide_eq_false hlen
        have HS := Lib.hid (HFIN.out (HSTOP.out (fun h => hlen h.2)) HB.out)
        clear HTY HTN
        go_wp2
        exact bodyPost_ret (v := .tuple #[.slice A7 (textsTo es n f k).length c7, .int .i64 a, .int .i64 0]) (by simp [results, Try.results94, go_sem]) rfl HS.out
    · have y1 : decide ((a : Int) < r') = false := decide_eq_false ha
      have HS := Lib.hid (HFIN.out (HSTOP.out (fun h => ha h.1)) HB.out)
      clear HTY HTN
      go_wp2
      exact bodyPost_ret (v := .tuple #[.slice A7 (textsTo es n f k).length c7, .int .i64 a, .int .i64 0]) (by simp [results, Try.results94, go_sem]) rfl HS.out
set_option maxRecDepth 100000 in
set_option maxHeartbeats 4000000 in
theorem sameTexts_same (u v : Value) (l : List ByteArray) (w : World) (hu : Sl w 1 u l.length (strs l)) (hv : Sl w 1 v l.length (strs l)) (hl : l.length ≤ 9223372036854775806) :
    Calls Try.prog 64 #[u, v] w fun e w' => e = .returned (.bool true) ∧ Below w.heap.size w w' := by
  obtain ⟨_, A1, c1, rfl, hc1, hx1⟩ := hu
  obtain ⟨_, A2, c2, rfl, hc2, hy1⟩ := hv
  have HX := Lib.hid hx1
  have HY := Lib.hid hy1
  clear hx1 hy1
  go_enter Try.func64, Try.ntmps64
  go_wp2
  go_loopw [5] (fun i wr => ∃ k : Nat, k ≤ l.length ∧ i = .int .i64 k ∧ Hid (Below w.heap.size w wr)) (fun i _ => l.length - (intOf i).toNat)
  case atStart => exact ⟨0, by omega, rfl, Below.refl _ _⟩
  case round =>
    obtain ⟨k, hk, rfl, hbw⟩ := hrel
    by_cases hlt : k < l.length
    · obtain ⟨b1, o1, rfl, hbb1, q1⟩ := HX.out (by omega)
      obtain ⟨b2, o2, rfl, hbb2, q2⟩ := HY.out (by omega)
      have x0 := (hbw.out.cell (p := ⟨b1, o1 + k, none⟩) hbb1).trans (q1 k (.string l[k]) (by simp [strs, hlt]))
      have y0 := (hbw.out.cell (p := ⟨b2, o2 + k, none⟩) hbb2).trans (q2 k (.string l[k]) (by simp [strs, hlt]))
      have l1 := Nat.lt_of_lt_of_le hbb1 hbw.out.size
      have l2 := Nat.lt_of_lt_of_le hbb2 hbw.out.size
      have hj0 : (0 : Int) ≤ (k : Int) := by omega
      have hj1 : (k : Int) < (l.length : Int) := by omega
      generalize l[k] = s at *
      clear q1 q2
      go_wp2
      go_quiet (fail)
      go_wp2
      go_light
      exact ⟨⟨k + 1, by omega, by go_num, Lib.hid (below_then hbw.out (below_dn _ _))⟩, by simp [intOf]; omega⟩
    · obtain rfl : k = l.length := by omega
      go_wp2
      go_ret
      exact ⟨rfl, hbw.out⟩
end Go.Proofs.Ytpjjfnpdopdnkaa
