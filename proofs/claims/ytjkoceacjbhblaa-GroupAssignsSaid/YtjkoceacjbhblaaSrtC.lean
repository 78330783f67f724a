/- slices.swapRangeCmpFunc, rotateCmpFunc at int. -/
import Derived.Test.YtjkoceacjbhblaaSrtB
import Derived.BigRegion
namespace Go.Proofs.Ytjkoceacjbhblaa
open Go.RowKit

set_option maxRecDepth 100000 in
set_option maxHeartbeats 4000000 in
theorem swapRange_any (cap b n a c k : Nat) (f : Nat → Nat) (cv : Value) (w0 W : World) (h : Ord w0 b n f W) (hac : a + k ≤ c) (hcn : c + k ≤ n) (hn : n < 8796093022208) :
    Calls Try.prog 134 #[.slice (some ⟨b, 0, none⟩) n cap, .int .i64 a, .int .i64 c, .int .i64 k, cv] W fun e w' => e = .returned (.tuple #[]) ∧ Ord w0 b n (swr f a c k) w' := by
  have H := Lib.hid h
  clear h
  go_enter Try.func134, Try.ntmps134
  go_wp2
  go_loopw [10] (fun i wr => ∃ j : Nat, j ≤ k ∧ i = .int .i64 j ∧ Hid (Ord w0 b n (swr f a c j) wr)) (fun i _ => k - (intOf i).toNat)
  case atStart => exact ⟨0, by omega, rfl, by rw [swr_zero]; exact H.out⟩
  case round =>
    obtain ⟨j, hj, rfl, HW⟩ := hrel
    clear H
    by_cases hlt : j < k
    · have hz : (j : Int) < (k : Int) := by omega
      have ep : ((a : Int) + (j : Int)).toNat = a + j := by omega
      have eq : ((c : Int) + (j : Int)).toNat = c + j := by omega
      have bp : (a : Int) + (j : Int) < (n : Int) := by omega
      have bq : (c : Int) + (j : Int) < (n : Int) := by omega
      have pp : (0 : Int) ≤ (a : Int) + (j : Int) := by omega
      have pq : (0 : Int) ≤ (c : Int) + (j : Int) := by omega
      have rp : IntKind.i64.wrap ((a : Int) + (j : Int)) = (a : Int) + (j : Int) := by rw [IntKind.wrap_i64]; omega
      have rq : IntKind.i64.wrap ((c : Int) + (j : Int)) = (c : Int) + (j : Int) := by rw [IntKind.wrap_i64]; omega
      obtain ⟨x, hx⟩ : ∃ x, x = swr f a c j (a + j) := ⟨_, rfl⟩
      obtain ⟨y, hy⟩ : ∃ x, x = swr f a c j (c + j) := ⟨_, rfl⟩
      have cp := HW.out.cell (i := a + j) (by omega)
      have cq := HW.out.cell (i := c + j) (by omega)
      have fp := HW.out.frozen (a + j)
      have fq := HW.out.frozen (c + j)
      obtain ⟨u, cu⟩ := HW.out.c2 (i := a + j) (j := c + j) (by omega) y
      have S := HW.out.swap (a + j) (c + j)
      rw [swr_step (by omega), ← hx, ← hy] at S
      rw [← hx] at cp
      rw [← hy] at cq
      have HS := Lib.hid S
      clear S hx hy HW ep eq
      go_wp2_with fail
      go_big_region
      all_goals go_wp2
      all_goals go_light
      all_goals exact ⟨⟨j + 1, by omega, by go_num, HS.out.drew⟩, by simp [intOf]; omega⟩
    · obtain rfl : j = k := by omega
      go_wp2
      go_end0
      exact ⟨rfl, HW.out⟩
theorem swapRange_at {cap b n a c k : Nat} {f : Nat → Nat} {cv : Value} {w0 W : World} {x y z : Int} (h : Ord w0 b n f W) (hx : x = (a : Int)) (hy : y = (c : Int)) (hz : z = (k : Int)) (hac : a + k ≤ c) (hcn : c + k ≤ n) (hn : n < 8796093022208) :
    Calls Try.prog 134 #[.slice (some ⟨b, 0, none⟩) n cap, .int .i64 x, .int .i64 y, .int .i64 z, cv] W fun e w' => e = .returned (.tuple #[]) ∧ Ord w0 b n (swr f a c k) w' := by
  subst hx hy hz
  exact swapRange_any cap b n a c k f cv w0 W h hac hcn hn

set_option maxRecDepth 100000 in
set_option maxHeartbeats 4000000 in
theorem rotate_any (cap b n a m e : Nat) (f : Nat → Nat) (cv : Value) (w0 W : World) (h : Ord w0 b n f W) (ham : a < m) (hme : m < e) (hen : e ≤ n) (hn : n < 8796093022208) :
    Calls Try.prog 131 #[.slice (some ⟨b, 0, none⟩) n cap, .int .i64 a, .int .i64 m, .int .i64 e, cv] W fun e' w' => e' = .returned (.tuple #[]) ∧ Ord w0 b n (rot f a m e) w' := by
  have H := Lib.hid h
  clear h
  go_enter Try.func131, Try.ntmps131
  go_wp2
  go_loopw [10, 11] (fun x y wr => ∃ (i j : Nat) (g : Nat → Nat), 0 < i ∧ i ≤ m ∧ a + i ≤ m ∧ 0 < j ∧ m + j ≤ e ∧ x = .int .i64 i ∧ y = .int .i64 j ∧ Hid (Ord w0 b n g wr) ∧ Hid (rot g (m - i) m (m + j) = rot f a m e)) (fun x y _ => (intOf x).toNat + (intOf y).toNat)
  case atStart =>
    have e1 : m - (m - a) = a := by omega
    have e2 : m + (e - m) = e := by omega
    exact ⟨m - a, e - m, f, by omega, by omega, by omega, by omega, by omega, by go_num, by go_num, H.out, by rw [e1, e2]; rfl⟩
  case round =>
    obtain ⟨i, j, g, hi0, him, hai, hj0, hje, rfl, rfl, HW, HR⟩ := hrel
    clear H
    rcases Nat.lt_trichotomy i j with hlt | heq | hlt
    · have z1 : ((i : Int) == (j : Int)) = false := by simp; omega
      have z2 : ¬ (j : Int) < (i : Int) := by omega
      go_wp2_with (go_at_call 134; refine (swapRange_at (a := m - i) (c := m + j - i) (k := i) HW.out (by omega) (by omega) (by omega) (by omega) (by omega) hn).mono ?_; rintro e' w' ⟨rfl, S⟩; have HS := Lib.hid S; clear S)
      go_light
      refine ⟨⟨i, j - i, swr g (m - i) (m + j - i) i, hi0, him, hai, by omega, by omega, rfl, by go_num, HS.out, ?_⟩, by simp [intOf]; omega⟩
      show _ = _
      rw [← HR.out, rot_right him hlt]
    · subst heq
      go_wp2_with (go_at_call 134; refine (swapRange_at (a := m - i) (c := m) (k := i) HW.out (by omega) (by omega) (by omega) (by omega) (by omega) hn).mono ?_; rintro e' w' ⟨rfl, S⟩; have HS := Lib.hid S; clear S)
      go_end0
      refine ⟨rfl, ?_⟩
      rw [← HR.out, ← rot_end him]
      exact HS.out
    · have z1 : ((i : Int) == (j : Int)) = false := by simp; omega
      have z2 : (j : Int) < (i : Int) := by omega
      go_wp2_with (go_at_call 134; refine (swapRange_at (a := m - i) (c := m) (k := j) HW.out (by omega) (by omega) (by omega) (by omega) (by omega) hn).mono ?_; rintro e' w' ⟨rfl, S⟩; have HS := Lib.hid S; clear S)
      go_light
      refine ⟨⟨i - j, j, swr g (m - i) m j, by omega, by omega, by omega, hj0, hje, by go_num, rfl, HS.out, ?_⟩, by simp [intOf]; omega⟩
      show _ = _
      rw [← HR.out, rot_left him hlt]
end Go.Proofs.Ytjkoceacjbhblaa
