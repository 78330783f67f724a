/- slices.symMergeCmpFunc at int: one element merged in from the left, from the right. -/
import Derived.Test.YtjkoceacjbhblaaSrtD
namespace Go.Proofs.Ytjkoceacjbhblaa
open Go.RowKit

def SymPost (b n a e : Nat) (cf : Nat → Nat → Int) (f : Nat → Nat) (w0 : World) (e' : Ending) (w' : World) : Prop := e' = .returned (.tuple #[]) ∧ ∃ g, Ord w0 b n g w' ∧ Sub a e f g ∧ Srt (Lt cf) g a e
theorem upTo_at {f : Nat → Nat} {a k : Nat} : upTo f a k k = f a := by
  unfold upTo
  rw [if_neg (by omega), if_pos rfl]
theorem upTo_hi {f : Nat → Nat} {a k : Nat} : upTo f a k (k + 1) = f (k + 1) := by
  unfold upTo
  rw [if_neg (by omega), if_neg (by omega)]

set_option maxRecDepth 100000 in
set_option maxHeartbeats 4000000 in
theorem sym_left (cap b n a m e p : Nat) (f : Nat → Nat) (cf : Nat → Nat → Int) (w0 W : World) (hc : CmpA p w0 b n cf) (o : Ordr (Lt cf)) (h : Ord w0 b n f W) (hp : Plc n f) (hm : MPre (Lt cf) f a m e) (ham : m = a + 1) (hme : m < e) (hen : e ≤ n) (hn : n < 8796093022208) :
    Calls Try.prog 128 #[.slice (some ⟨b, 0, none⟩) n cap, .int .i64 a, .int .i64 m, .int .i64 e, cmpV p] W (SymPost b n a e cf f w0) := by
  have H := Lib.hid h
  have HC := Lib.hid hc
  have HP := Lib.hid hp
  have HO := Lib.hid o
  have HM := Lib.hid hm
  have z1 : ((m : Int) - (a : Int) == 1) = true := by simp; omega
  have z2 : (m : Int) - (a : Int) = 1 := by omega
  have ham' : a < m := by omega
  have HA := Lib.hid ham
  clear h hc hp o hm ham
  unfold cmpV
  go_enter Try.func128, Try.ntmps128
  go_wp2
  clear z1 z2
  go_loopw [10, 11] (fun x y wr => ∃ i j : Nat, m ≤ i ∧ i ≤ j ∧ j ≤ e ∧ x = .int .i64 i ∧ y = .int .i64 j ∧ Hid (Ord w0 b n f wr) ∧ Hid (i = m ∨ Lt cf (f (i - 1)) (f a)) ∧ Hid (j = e ∨ ¬ Lt cf (f j) (f a))) (fun x y _ => (intOf y).toNat - (intOf x).toNat)
  case atStart => exact ⟨m, e, Nat.le_refl _, by omega, Nat.le_refl _, rfl, rfl, H.out, Or.inl rfl, Or.inl rfl⟩
  case round =>
    obtain ⟨i, j, hmi, hij, hje, rfl, rfl, HW, HL, HR⟩ := hrel
    clear H
    by_cases hlt : i < j
    · have cj := HW.out.cell (i := (i + j) / 2) (by omega)
      have ca := HW.out.cell (i := a) (by omega)
      have hc := fun m => HC.out.at_ HW.out (HP.out ((i + j) / 2) (by omega)) (HP.out a (by omega)) m
      obtain ⟨x, hx⟩ : ∃ x, x = f ((i + j) / 2) := ⟨_, rfl⟩
      obtain ⟨y, hy⟩ : ∃ y, y = f a := ⟨_, rfl⟩
      rw [← hx] at cj
      rw [← hy] at ca
      rw [← hx, ← hy] at hc
      have HX := Lib.hid hx
      have HY := Lib.hid hy
      have HC2 := Lib.hid hc
      clear hc hx hy
      by_cases hlv : cf x y < 0
      · have hd : decide (cf x y < 0) = true := decide_eq_true hlv
        have S : Lt cf (f ((i + j) / 2)) (f a) := by rw [← HX.out, ← HY.out]; exact hlv
        have HS := Lib.hid S
        clear S hlv
        go_wp2_with fail
        go_quiet (first | (go_at_call 96; refine Calls.quiet_of (HC2.out _)))
        go_wp2
        go_light
        exact ⟨⟨(i + j) / 2 + 1, j, by omega, by omega, hje, by rw [show ((i : Int) + (j : Int)) / 2 + 1 = (((i + j) / 2 + 1 : Nat) : Int) by omega], rfl, HW.out.drewN _, Or.inr HS.out, HR.out⟩, by simp [intOf]; omega⟩
      · have hd : decide (cf x y < 0) = false := decide_eq_false hlv
        have S : ¬ Lt cf (f ((i + j) / 2)) (f a) := by rw [← HX.out, ← HY.out]; exact hlv
        have HS := Lib.hid S
        clear S hlv
        go_wp2_with fail
        go_quiet (first | (go_at_call 96; refine Calls.quiet_of (HC2.out _)))
        go_wp2
        go_light
        exact ⟨⟨i, (i + j) / 2, by omega, by omega, by omega, rfl, by rw [show ((i : Int) + (j : Int)) / 2 = (((i + j) / 2 : Nat) : Int) by omega], HW.out.drewN _, HL.out, Or.inr HS.out⟩, by simp [intOf]; omega⟩
    · obtain rfl : i = j := by omega
      obtain ⟨q, rfl⟩ : ∃ q, i = q + 1 := ⟨i - 1, by omega⟩
      go_wp2
      go_loopw [13] (fun x wr2 => ∃ k : Nat, a ≤ k ∧ k ≤ q ∧ x = .int .i64 k ∧ Hid (Ord w0 b n (upTo f a k) wr2)) (fun x _ => q - (intOf x).toNat)
      case atStart => exact ⟨a, Nat.le_refl _, by omega, rfl, by rw [upTo_self]; exact HW.out⟩
      case round =>
        obtain ⟨k, hak, hkq, rfl, HV⟩ := hrel
        clear HW
        by_cases hk : k < q
        · have hz : (k : Int) < (q : Int) := by omega
          have ck := HV.out.cell (i := k) (by omega)
          have cl := HV.out.cell (i := k + 1) (by omega)
          have fk := HV.out.frozen k
          have fl := HV.out.frozen (k + 1)
          rw [upTo_at] at ck
          rw [upTo_hi] at cl
          have S := HV.out.swap k (k + 1)
          rw [upTo_step hak, upTo_at, upTo_hi] at S
          obtain ⟨u, cu⟩ := HV.out.c2 (i := k) (j := k + 1) (by omega) (f (k + 1))
          obtain ⟨x, hx⟩ : ∃ x, x = f a := ⟨_, rfl⟩
          obtain ⟨y, hy⟩ : ∃ y, y = f (k + 1) := ⟨_, rfl⟩
          rw [← hx] at ck
          rw [← hy] at cl cu
          rw [← hx, ← hy] at S
          have b1 : (k : Int) + 1 < (n : Int) := by omega
          have b0 : (k : Int) < (n : Int) := by omega
          have p1 : (0 : Int) ≤ (k : Int) + 1 := by omega
          have w1 : IntKind.i64.wrap ((k : Int) + 1) = (k : Int) + 1 := by rw [IntKind.wrap_i64]; omega
          have HS := Lib.hid S
          clear S hx hy HV
          go_wp2_with fail
          go_big_region
          all_goals go_wp2
          all_goals go_light
          all_goals exact ⟨⟨k + 1, by omega, by omega, by go_num, HS.out.drew⟩, by simp [intOf]; omega⟩
        · obtain rfl : k = q := by omega
          have hz : ¬ (k : Int) < (k : Int) := by omega
          go_wp2
          go_end0
          have ham := HA.out
          subst ham
          refine ⟨rfl, _, HV.out, Sub.upTo (by omega) hak, ?_⟩
          exact one_left HO.out HM.out hmi hje HL.out HR.out
end Go.Proofs.Ytjkoceacjbhblaa
