/- slices.symMergeCmpFunc at int: one element merged in from the right. -/
import Derived.Test.YtjkoceacjbhblaaSrtE
namespace Go.Proofs.Ytjkoceacjbhblaa
open Go.RowKit

set_option maxRecDepth 100000 in
set_option maxHeartbeats 4000000 in
theorem sym_right (cap b n a m e p : Nat) (f : Nat → Nat) (cf : Nat → Nat → Int) (w0 W : World) (hc : CmpA p w0 b n cf) (o : Ordr (Lt cf)) (h : Ord w0 b n f W) (hp : Plc n f) (hm : MPre (Lt cf) f a m e) (ham : a + 1 < m) (hme : e = m + 1) (hen : e ≤ n) (hn : n < 8796093022208) :
    Calls Try.prog 128 #[.slice (some ⟨b, 0, none⟩) n cap, .int .i64 a, .int .i64 m, .int .i64 e, cmpV p] W (SymPost b n a e cf f w0) := by
  have H := Lib.hid h
  have HC := Lib.hid hc
  have HP := Lib.hid hp
  have HO := Lib.hid o
  have HM := Lib.hid hm
  have z1 : ((m : Int) - (a : Int) == 1) = false := by simp; omega
  have z2 : ¬ (m : Int) - (a : Int) = 1 := by omega
  have z3 : ((e : Int) - (m : Int) == 1) = true := by simp; omega
  have z4 : (e : Int) - (m : Int) = 1 := by omega
  have hme' : m < e := by omega
  have HA := Lib.hid hme
  clear h hc hp o hm hme
  unfold cmpV
  go_enter Try.func128, Try.ntmps128
  go_wp2
  clear z1 z2 z3 z4
  go_loopw [14, 15] (fun x y wr => ∃ i j : Nat, a ≤ i ∧ i ≤ j ∧ j ≤ m ∧ x = .int .i64 i ∧ y = .int .i64 j ∧ Hid (Ord w0 b n f wr) ∧ Hid (i = a ∨ ¬ Lt cf (f m) (f (i - 1))) ∧ Hid (j = m ∨ Lt cf (f m) (f j))) (fun x y _ => (intOf y).toNat - (intOf x).toNat)
  case atStart => exact ⟨a, m, Nat.le_refl _, by omega, Nat.le_refl _, rfl, rfl, H.out, Or.inl rfl, Or.inl rfl⟩
  case round =>
    obtain ⟨i, j, hai, hij, hjm, rfl, rfl, HW, HL, HR⟩ := hrel
    clear H
    by_cases hlt : i < j
    · have cj := HW.out.cell (i := (i + j) / 2) (by omega)
      have ca := HW.out.cell (i := m) (by omega)
      have hc := fun nn => HC.out.at_ HW.out (HP.out m (by omega)) (HP.out ((i + j) / 2) (by omega)) nn
      obtain ⟨x, hx⟩ : ∃ x, x = f ((i + j) / 2) := ⟨_, rfl⟩
      obtain ⟨y, hy⟩ : ∃ y, y = f m := ⟨_, rfl⟩
      rw [← hx] at cj
      rw [← hy] at ca
      rw [← hx, ← hy] at hc
      have HX := Lib.hid hx
      have HY := Lib.hid hy
      have HC2 := Lib.hid hc
      clear hc hx hy
      by_cases hlv : cf y x < 0
      · have hd : decide (cf y x < 0) = true := decide_eq_true hlv
        have S : Lt cf (f m) (f ((i + j) / 2)) := by rw [← HX.out, ← HY.out]; exact hlv
        have HS := Lib.hid S
        clear S hlv
        go_wp2_with fail
        go_quiet (first | (go_at_call 96; refine Calls.quiet_of (HC2.out _)))
        go_wp2
        go_light
        exact ⟨⟨i, (i + j) / 2, hai, by omega, by omega, rfl, by rw [show ((i : Int) + (j : Int)) / 2 = (((i + j) / 2 : Nat) : Int) by omega], HW.out.drewN _, HL.out, Or.inr HS.out⟩, by simp [intOf]; omega⟩
      · have hd : decide (cf y x < 0) = false := decide_eq_false hlv
        have S : ¬ Lt cf (f m) (f ((i + j) / 2)) := by rw [← HX.out, ← HY.out]; exact hlv
        have HS := Lib.hid S
        clear S hlv
        go_wp2_with fail
        go_quiet (first | (go_at_call 96; refine Calls.quiet_of (HC2.out _)))
        go_wp2
        go_light
        exact ⟨⟨(i + j) / 2 + 1, j, by omega, by omega, hjm, by rw [show ((i : Int) + (j : Int)) / 2 + 1 = (((i + j) / 2 + 1 : Nat) : Int) by omega], rfl, HW.out.drewN _, Or.inr HS.out, HR.out⟩, by simp [intOf]; omega⟩
    · obtain rfl : i = j := by omega
      go_wp2
      go_loopw [17] (fun x wr2 => ∃ k : Nat, i ≤ k ∧ k ≤ m ∧ x = .int .i64 k ∧ Hid (Ord w0 b n (downTo f k m) wr2)) (fun x _ => (intOf x).toNat)
      case atStart => exact ⟨m, by omega, Nat.le_refl _, rfl, by rw [downTo_self]; exact HW.out⟩
      case round =>
        obtain ⟨k, hik, hkm, rfl, HV⟩ := hrel
        clear HW
        by_cases hk : i < k
        · obtain ⟨q, rfl⟩ : ∃ q, k = q + 1 := ⟨k - 1, by omega⟩
          have hz : (i : Int) < (q : Int) + 1 := by omega
          have ck := HV.out.cell (i := q + 1) (by omega)
          have cl := HV.out.cell (i := q) (by omega)
          have fk := HV.out.frozen (q + 1)
          have fl := HV.out.frozen q
          rw [downTo_at] at ck
          rw [downTo_lo] at cl
          have S := HV.out.swap (q + 1) q
          rw [downTo_step (by omega), downTo_at, downTo_lo] at S
          obtain ⟨u, cu⟩ := HV.out.c2 (i := q + 1) (j := q) (by omega) (f q)
          obtain ⟨x, hx⟩ : ∃ x, x = f m := ⟨_, rfl⟩
          obtain ⟨y, hy⟩ : ∃ y, y = f q := ⟨_, rfl⟩
          rw [← hx] at ck
          rw [← hy] at cl cu
          rw [← hx, ← hy] at S
          have b1 : (q : Int) + 1 < (n : Int) := by omega
          have b0 : (q : Int) < (n : Int) := by omega
          have p1 : (0 : Int) ≤ (q : Int) + 1 := by omega
          have w1 : IntKind.i64.wrap (q : Int) = (q : Int) := by rw [IntKind.wrap_i64]; omega
          have e1 : ((q : Int) + 1).toNat = q + 1 := by omega
          have HS := Lib.hid S
          clear S hx hy HV
          go_wp2_with fail
          go_big_region
          all_goals go_wp2
          all_goals go_light
          all_goals exact ⟨⟨q, by omega, by omega, by first | rfl | go_num, HS.out.drew⟩, by simp [intOf]⟩
        · obtain rfl : k = i := by omega
          have hz : ¬ (k : Int) < (k : Int) := by omega
          go_wp2
          go_end0
          have hme := HA.out
          subst hme
          refine ⟨rfl, _, HV.out, Sub.downTo hai hkm (Nat.lt_succ_self _), ?_⟩
          exact one_right HO.out HM.out.left (fun k k1 k2 => HM.out.under k m k1 k2 (Nat.le_refl _) (Nat.lt_succ_self _)) hai hjm HL.out HR.out
end Go.Proofs.Ytjkoceacjbhblaa
