/- wire.sum, tailraceref.sumOf. -/
import Derived.Test.YtpjjfnpdopdnkaaMem
namespace Go.Proofs.Ytpjjfnpdopdnkaa
open Go.RowKit

def wsum (l : List UInt8) : Nat → Nat
  | 0 => 0
  | k + 1 => wsum l k + (k + 1) * (l.getD k 0).toNat
theorem wsum_le (l : List UInt8) : ∀ k, wsum l k ≤ k * (k * 255)
  | 0 => by simp [wsum]
  | k + 1 => by
    have ih := wsum_le l k
    have hb : (l.getD k 0).toNat ≤ 255 := by have := (l.getD k 0).toNat_lt; omega
    have h2 : (k + 1) * (l.getD k 0).toNat ≤ (k + 1) * 255 := Nat.mul_le_mul_left _ hb
    have h3 : k * (k * 255) ≤ k * ((k + 1) * 255) := Nat.mul_le_mul_left _ (by omega)
    have h4 : (k + 1) * ((k + 1) * 255) = k * ((k + 1) * 255) + (k + 1) * 255 := by rw [Nat.add_mul]; omega
    simp only [wsum]
    omega

theorem wsum_step (l : List UInt8) (k : Nat) (h : k < l.length) : (wsum l k : Int) + ((k : Int) + 1) * (l[k].toNat : Int) = (wsum l (k + 1) : Int) := by
  have e : l.getD k 0 = l[k] := by simp [List.getD, List.getElem?_eq_getElem h]
  simp only [wsum, e]
  push_cast
  rfl
theorem wsum_step' (l : List UInt8) (k : Nat) (h : k < l.length) : ((wsum l k : Int) % 65521 + ((k : Int) + 1) * (l[k].toNat : Int)) % 65521 = ((wsum l (k + 1) % 65521 : Nat) : Int) := by
  have := wsum_step l k h
  omega

set_option maxHeartbeats 1000000 in
theorem sum_any (v : Value) (l : List UInt8) (w : World) (h : By w v l) (hl : l.length ≤ 65536) :
    Calls Try.prog 75 #[v] w fun e w' => e = .returned (.int .i64 ((wsum l l.length % 65521 : Nat) : Int)) ∧ w = w' := by
  obtain ⟨A, c, rfl, hc, hcell⟩ := h.at_
  go_enter Try.func75, Try.ntmps75
  go_wp2
  go_loop [3, 8] (fun s i => ∃ k : Nat, k ≤ l.length ∧ i = .int .i64 k ∧ s = .int .i64 ((wsum l k % 65521 : Nat) : Int)) (fun _ i => l.length - (intOf i).toNat)
  case atStart => exact ⟨0, by omega, rfl, rfl⟩
  case round =>
    obtain ⟨k, hk, rfl, rfl⟩ := hrel
    by_cases hlt : k < l.length
    · obtain ⟨b, off, rfl, hb, hcs⟩ := hcell (by omega)
      have h1 := hcs k hlt
      have hu : l[k].toNat < 256 := l[k].toNat_lt
      have hs : wsum l k % 65521 < 65521 := Nat.mod_lt _ (by omega)
      have hp0 : (0 : Int) ≤ ((k : Int) + 1) * (l[k].toNat : Int) := Int.mul_nonneg (by omega) (by omega)
      have hp1 : ((k : Int) + 1) * (l[k].toNat : Int) ≤ 65537 * 256 := Int.mul_le_mul (by omega) (by omega) (by omega) (by omega)
      go_wp2
      go_light
      exact ⟨⟨k + 1, by omega, by go_num, by rw [wsum_step' l k hlt]⟩, by simp [intOf]; omega⟩
    · have hk' : k = l.length := by omega
      subst hk'
      go_wp2
      go_ret
      exact ⟨ret_int (by simp), rfl⟩

set_option maxHeartbeats 1000000 in
theorem sumOf_any (v : Value) (l : List UInt8) (w : World) (h : By w v l) (hl : l.length ≤ 65536) :
    Calls Try.prog 78 #[v] w fun e w' => e = .returned (.int .i64 ((wsum l l.length % 65521 : Nat) : Int)) ∧ w = w' := by
  obtain ⟨A, c, rfl, hc, hcell⟩ := h.at_
  go_enter Try.func78, Try.ntmps78
  go_wp2
  go_loop [3, 4] (fun s i => ∃ k : Nat, k ≤ l.length ∧ i = .int .i64 k ∧ s = .int .i64 ((wsum l k : Nat) : Int)) (fun _ i => l.length - (intOf i).toNat)
  case atStart => exact ⟨0, by omega, rfl, rfl⟩
  case round =>
    obtain ⟨k, hk, rfl, rfl⟩ := hrel
    have hs := wsum_le l k
    have hs2 : k * (k * 255) ≤ 65536 * (65536 * 255) := Nat.mul_le_mul (by omega) (Nat.mul_le_mul_right _ (by omega))
    have hs3 : wsum l k ≤ 65536 * (65536 * 255) := Nat.le_trans hs hs2
    clear hs hs2
    by_cases hlt : k < l.length
    · obtain ⟨b, off, rfl, hb, hcs⟩ := hcell (by omega)
      have h1 := hcs k hlt
      have hu : l[k].toNat < 256 := l[k].toNat_lt
      have hp0 : (0 : Int) ≤ ((k : Int) + 1) * (l[k].toNat : Int) := Int.mul_nonneg (by omega) (by omega)
      have hp1 : ((k : Int) + 1) * (l[k].toNat : Int) ≤ 65537 * 256 := Int.mul_le_mul (by omega) (by omega) (by omega) (by omega)
      go_wp2
      go_light
      exact ⟨⟨k + 1, by omega, by go_num, by rw [wsum_step l k hlt]⟩, by simp [intOf]; omega⟩
    · have hk' : k = l.length := by omega
      subst hk'
      go_wp2
      go_ret
      exact ⟨ret_int (by simp), rfl⟩

/-! numbers in bytes of seven bits -/
def sv (n : Nat) : List UInt8 := if n < 128 then [n.toUInt8] else (128 + n % 128).toUInt8 :: sv (n / 128)
termination_by n
decreasing_by omega
theorem sv_small {n : Nat} (h : n < 128) : sv n = [n.toUInt8] := by rw [sv, if_pos h]
theorem sv_big {n : Nat} (h : 128 ≤ n) : sv n = (128 + n % 128).toUInt8 :: sv (n / 128) := by rw [sv, if_neg (by omega)]
theorem sv_len : ∀ (f n : Nat), n < 128 ^ (f + 1) → (sv n).length ≤ f + 1
  | 0, n, h => by rw [sv_small (by simpa using h)]; simp
  | f + 1, n, h => by
    by_cases h1 : n < 128
    · rw [sv_small h1]; simp
    · rw [sv_big (by omega)]
      have := sv_len f (n / 128) (by rw [Nat.div_lt_iff_lt_mul (by omega)]; rw [Nat.pow_succ] at h; exact h)
      simp only [List.length_cons]
      omega

theorem u8info : (Try.prog.info? 5).map (fun i => (i.zero, i.size, i.bytes)) = some (some (.int .u8 0), 1, 1) := by kernel_rfl

set_option maxRecDepth 100000 in
set_option maxHeartbeats 1000000 in
theorem number_any (n : Nat) (hn : n ≤ 1073741824) (B : Nat) (v : Value) (l : List UInt8) (w : World) (hl : l.length ≤ 65536) (hB : B ≤ w.heap.size)
    (hown : w.ownsRow B 5 1 v l.length (bvs l)) :
    Calls Try.prog 102 #[v, .int .i64 n] w fun e w' => ∃ v', e = .returned v' ∧ w'.ownsRow B 5 1 v' (l ++ sv n).length (bvs (l ++ sv n)) ∧ OwnStep w w' v v' := by
  obtain ⟨i0, hi0, hz0, hz1, hz2⟩ := info_parts u8info
  go_enter Try.func102, Try.ntmps102
  go_wp2
  go_loopw [0, 1] (fun s i wr => ∃ (m : Nat) (pre : List UInt8), m ≤ 1073741824 ∧ i = .int .i64 m ∧ wr.ownsRow B 5 1 s (l ++ pre).length (bvs (l ++ pre)) ∧ Hid (OwnStep w wr v s) ∧ Hid (pre ++ sv m = sv n)) (fun _ i _ => (intOf i).toNat)
  case atStart => exact ⟨n, [], hn, rfl, by simpa using hown, OwnStep.refl _ _, rfl⟩
  case round =>
    obtain ⟨m, pre, hm, rfl, ho, hb, hp⟩ := hrel
    have hs := hb.out.size
    have hpl : pre.length ≤ 5 := by
      have h1 := congrArg List.length hp.out
      have h2 := sv_len 4 n (by omega)
      rw [List.length_append] at h1
      omega
    have hlt0 := fun k hk => (ho.lt k hk).2
    have HL := Lib.hid hlt0
    clear hlt0
    by_cases hlt : 127 < m
    · have hsb := seven_bits m
      have h128 : (128 + m % 128) % 256 = 128 + m % 128 := by omega
      have hL : (l ++ pre).length ≤ 65541 := by rw [List.length_append]; omega
      go_wp2_with (at_builtin; go_must (refine wpList_append_sl _ rfl (.tmp 7) (.tmp 12) 34 rfl B 5 i0 (.int .u8 0) 1 1 Try.underlying34 hi0 hz0 hz1 hz2 rfl (by decide) _ _ _ (by rfl) (ho.alloc _) _ 1 _ (by rfl) (Sl.lit _ _ _ 1 1 rfl) (by intro x hx; simp at hx; subst hx; rfl) (by simp only [maxLen]; omega) (by omega) (by simp; omega) ?_); intro v1 w1 hown1 hg1 hat1)
      go_light
      refine ⟨⟨m / 128, pre ++ [(128 + m % 128).toUInt8], by omega, by go_num, own_eq hown1 (by simp; omega) ?_, OwnStep.trans hb.out (OwnStep.of_append HL.out hg1 hat1), ?_⟩, by simp [intOf]; omega⟩
      · rw [← List.append_assoc, bvs_snoc]
        have : ((128 + m % 128).toUInt8).toNat = 128 + m % 128 := by simp; omega
        rw [this]
        simp
      · have h1 := hp.out
        rw [sv_big (by omega)] at h1
        show _ = _
        rw [← h1]
        simp
    · have hL : (l ++ pre).length ≤ 65541 := by rw [List.length_append]; omega
      have h256 : m % 256 = m := by omega
      go_wp2_with (at_builtin; go_must (refine wpList_append_sl _ rfl (.tmp 16) (.tmp 19) 34 rfl B 5 i0 (.int .u8 0) 1 1 Try.underlying34 hi0 hz0 hz1 hz2 rfl (by decide) _ _ _ (by rfl) (ho.alloc _) _ 1 _ (by rfl) (Sl.lit _ _ _ 1 1 rfl) (by intro x hx; simp at hx; subst hx; rfl) (by simp only [maxLen]; omega) (by omega) (by simp; omega) ?_); intro v1 w1 hown1 hg1 hat1)
      go_ret
      refine ⟨v1, rfl, own_eq hown1 ?_ ?_, OwnStep.trans hb.out (OwnStep.of_append HL.out hg1 hat1)⟩
      · have h1 := hp.out
        rw [sv_small (by omega)] at h1
        rw [← h1]
        simp; omega
      · have h1 := hp.out
        rw [sv_small (by omega)] at h1
        rw [← h1, ← List.append_assoc, bvs_snoc]
        have : (m.toUInt8).toNat = m := by simp; omega
        rw [this]

set_option maxRecDepth 100000 in
set_option maxHeartbeats 1000000 in
theorem sevens_any : ∀ (f n : Nat) (w : World), n < 128 ^ (f + 1) → n ≤ 1073741824 →
    Calls Try.prog 113 #[.int .i64 n] w fun e w' => ∃ v', e = .returned v' ∧ w'.ownsRow w.heap.size 5 1 v' (sv n).length (bvs (sv n)) ∧ Below w.heap.size w w'
  | 0, n, w, h, hn => by
    have h128 : n < 128 := by simpa using h
    have h256 : n % 256 = n := by omega
    clear h
    go_enter Try.func113, Try.ntmps113
    go_wp2
    go_ret
    refine ⟨_, rfl, own_eq (own_lit w 5 _ 1 1 (Nat.le_refl _) (by simp [maxLen]) rfl) (by rw [sv_small h128]; rfl) ?_, (Below.refl _ _).alloc (Nat.le_refl _) _⟩
    rw [sv_small h128]
    simp [bvs]; omega
  | f + 1, n, w, h, hn => by
    by_cases h128 : n < 128
    · have h256 : n % 256 = n := by omega
      clear h
      go_enter Try.func113, Try.ntmps113
      go_wp2
      go_ret
      refine ⟨_, rfl, own_eq (own_lit w 5 _ 1 1 (Nat.le_refl _) (by simp [maxLen]) rfl) (by rw [sv_small h128]; rfl) ?_, (Below.refl _ _).alloc (Nat.le_refl _) _⟩
      rw [sv_small h128]
      simp [bvs]; omega
    · have hd : n / 128 < 128 ^ (f + 1) := by rw [Nat.div_lt_iff_lt_mul (by omega)]; rw [Nat.pow_succ] at h; exact h
      have hc := fun W => sevens_any f (n / 128) W hd (by omega)
      have HC := Lib.hid hc
      clear hc hd h
      have hl5 : (sv (n / 128)).length ≤ 5 := sv_len 4 (n / 128) (by omega)
      have h256 : (128 + n % 128) % 256 = 128 + n % 128 := by omega
      obtain ⟨i0, hi0, hz0, hz1, hz2⟩ := info_parts u8info
      go_enter Try.func113, Try.ntmps113
      go_wp2_with fail
      rw [show ((n : Int) / 128) = ((n / 128 : Nat) : Int) from by omega]
      refine (HC.out _).mono ?_
      rintro e w1 ⟨v1, rfl, ho1, hb1⟩
      simp only [World.size_alloc] at ho1 hb1
      have hs1 := hb1.size
      simp only [World.size_alloc] at hs1
      have hd1 : w1.ownsRow w.heap.size 5 1 (.slice (some ⟨w.heap.size, 0, none⟩) 1 1) 1 #[Value.int .u8 (128 + (n : Int) % 128)].toList :=
        own_keep (own_lit w 5 _ 1 1 (Nat.le_refl _) (by simp [maxLen]) rfl) hb1 (by intro k hk; simp [Value.ownBlock] at hk; omega)
      go_wp2_with (at_builtin; go_must (refine wpList_append_sl _ rfl (.tmp 12) (.tmp 15) 34 rfl w.heap.size 5 i0 (.int .u8 0) 1 1 Try.underlying34 hi0 hz0 hz1 hz2 rfl (by decide) _ _ _ (by rfl) hd1 _ _ _ (by rfl) (Sl.of_own ho1) (bvs_one _) (by simp only [maxLen]; omega) (by omega) (by omega) ?_); intro v2 w2 hown2 hg2 hat2)
      go_ret
      have hbb := hb1.mono (B' := w.heap.size) (by omega)
      refine ⟨v2, rfl, own_eq hown2 ?_ ?_, own_below' (((Below.refl _ _).alloc (Nat.le_refl _) _).trans hbb) (Nat.le_refl _) hd1 hg2⟩
      · rw [sv_big (n := n) (by omega)]
        simp; omega
      · rw [sv_big (n := n) (by omega)]
        simp [bvs]
        omega
end Go.Proofs.Ytpjjfnpdopdnkaa
