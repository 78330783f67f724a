/- tailraceref.verOf, seqOf, markOf, openOf. -/
import Derived.Test.YtpjjfnpdopdnkaaViewC
namespace Go.Proofs.Ytpjjfnpdopdnkaa
open Go.RowKit

set_option maxRecDepth 100000 in
set_option maxHeartbeats 4000000 in
theorem verOf_any (v : Value) (es : List Ent) (pid : Int) (w : World) (h : Es w v es) (hl : es.length ≤ 9223372036854775806) :
    Calls Try.prog 109 #[v, .int .i64 pid] w fun e w' => e = .returned (.int .i64 (verTo es pid es.length)) ∧ w' = w := by
  obtain ⟨A, c, rfl, hc, hx⟩ := h.at_
  have HX := Lib.hid hx
  clear h hx
  go_enter Try.func109, Try.ntmps109
  go_wp2
  go_loop [5, 6] (fun s x => ∃ k : Nat, k ≤ es.length ∧ s = .int .i64 (verTo es pid k) ∧ x = .int .i64 k) (fun _ x => es.length - (intOf x).toNat)
  case atStart => exact ⟨0, Nat.zero_le _, rfl, rfl⟩
  case round =>
    obtain ⟨k, hk, rfl, rfl⟩ := hrel
    by_cases hlt : k < es.length
    · obtain ⟨b1, o1, rfl, hb1, hcell⟩ := HX.out (Nat.lt_of_le_of_lt (Nat.zero_le _) hlt)
      obtain ⟨-, x1, x2, x3, x4, x5, -⟩ := hcell k hlt
      have k0 : (0 : Int) ≤ (k : Int) := by omega
      have k1 : (k : Int) < (es.length : Int) := by omega
      clear hcell
      have HT := Lib.hid (fun h => verTo_hit (es := es) (pid := pid) (k := k) hlt h)
      have HM := Lib.hid (fun h => verTo_miss (es := es) (pid := pid) (k := k) hlt h)
      generalize verTo es pid k = vk at *
      generalize es[k] = y at *
      obtain ⟨ep, ypid, ver, seq, kind, txn, text⟩ := y
      simp only at *
      by_cases hp : ypid = pid
      · have z1 : (ypid == pid) = true := beq_iff_eq.2 hp
        have H2 := Lib.hid (HT.out hp)
        clear HT HM hp
        go_wp2
        go_round
        case rel => exact ⟨k + 1, by omega, by rw [H2.out], by go_num⟩
        case measure => simp [intOf]; omega
      · have z1 : (ypid == pid) = false := beq_eq_false_iff_ne.2 hp
        have H2 := Lib.hid (HM.out hp)
        clear HT HM hp
        go_wp2
        go_round
        case rel => exact ⟨k + 1, by omega, by rw [H2.out], by go_num⟩
        case measure => simp [intOf]; omega
    · obtain rfl : k = es.length := by omega
      go_wp2
      go_ret
      exact ⟨rfl, rfl⟩

set_option maxRecDepth 100000 in
set_option maxHeartbeats 4000000 in
theorem markOf_any (v : Value) (es : List Ent) (pid : Int) (w : World) (h : Es w v es) (hl : es.length ≤ 9223372036854775806) :
    Calls Try.prog 110 #[v, .int .i64 pid] w fun e w' => e = .returned (.int .i64 (markTo es pid es.length)) ∧ w' = w := by
  obtain ⟨A, c, rfl, hc, hx⟩ := h.at_
  have HX := Lib.hid hx
  clear h hx
  go_enter Try.func110, Try.ntmps110
  go_wp2
  go_loop [5, 6] (fun s x => ∃ k : Nat, k ≤ es.length ∧ s = .int .i64 (markTo es pid k) ∧ x = .int .i64 k) (fun _ x => es.length - (intOf x).toNat)
  case atStart => exact ⟨0, Nat.zero_le _, rfl, rfl⟩
  case round =>
    obtain ⟨k, hk, rfl, rfl⟩ := hrel
    by_cases hlt : k < es.length
    · obtain ⟨b1, o1, rfl, hb1, hcell⟩ := HX.out (Nat.lt_of_le_of_lt (Nat.zero_le _) hlt)
      obtain ⟨-, x1, x2, x3, x4, x5, -⟩ := hcell k hlt
      have k0 : (0 : Int) ≤ (k : Int) := by omega
      have k1 : (k : Int) < (es.length : Int) := by omega
      clear hcell
      have HT := Lib.hid (fun h h' => markTo_hit (es := es) (pid := pid) (k := k) hlt h h')
      have HM := Lib.hid (fun h => markTo_miss (es := es) (pid := pid) (k := k) hlt h)
      generalize markTo es pid k = vk at *
      generalize es[k] = y at *
      obtain ⟨ep, ypid, ver, seq, kind, txn, text⟩ := y
      simp only at *
      by_cases hp : ypid = pid
      · have z1 : (ypid == pid) = true := beq_iff_eq.2 hp
        by_cases hk : kind = 1
        · have z2 : (kind != 1) = false := by simpa using hk
          have H2 := Lib.hid (HM.out (fun h => h.2 hk))
          clear HT HM hp hk
          go_wp2
          go_round
          case rel => exact ⟨k + 1, by omega, by rw [H2.out], by go_num⟩
          case measure => simp [intOf]; omega
        · have z2 : (kind != 1) = true := by simpa using hk
          have H2 := Lib.hid (HT.out hp hk)
          clear HT HM hp hk
          go_wp2
          go_round
          case rel => exact ⟨k + 1, by omega, by rw [H2.out], by go_num⟩
          case measure => simp [intOf]; omega
      · have z1 : (ypid == pid) = false := beq_eq_false_iff_ne.2 hp
        have H2 := Lib.hid (HM.out (fun h => hp h.1))
        clear HT HM hp
        go_wp2
        go_round
        case rel => exact ⟨k + 1, by omega, by rw [H2.out], by go_num⟩
        case measure => simp [intOf]; omega
    · obtain rfl : k = es.length := by omega
      go_wp2
      go_ret
      exact ⟨rfl, rfl⟩

set_option maxRecDepth 100000 in
set_option maxHeartbeats 4000000 in
theorem seqOf_any (v : Value) (es : List Ent) (pid : Int) (w : World) (h : Es w v es) (hl : es.length ≤ 9223372036854775806) :
    Calls Try.prog 112 #[v, .int .i64 pid] w fun e w' => e = .returned (.int .i64 ((seqTo es pid es.length).1)) ∧ w' = w := by
  obtain ⟨A, c, rfl, hc, hx⟩ := h.at_
  have HX := Lib.hid hx
  clear h hx
  go_enter Try.func112, Try.ntmps112
  go_wp2
  go_loop [5, 6, 7] (fun s v x => ∃ k : Nat, k ≤ es.length ∧ s = .int .i64 (seqTo es pid k).1 ∧ v = .int .i64 (seqTo es pid k).2 ∧ x = .int .i64 k) (fun _ _ x => es.length - (intOf x).toNat)
  case atStart => exact ⟨0, Nat.zero_le _, rfl, rfl, rfl⟩
  case round =>
    obtain ⟨k, hk, rfl, rfl, rfl⟩ := hrel
    by_cases hlt : k < es.length
    · obtain ⟨b1, o1, rfl, hb1, hcell⟩ := HX.out (Nat.lt_of_le_of_lt (Nat.zero_le _) hlt)
      obtain ⟨-, x1, x2, x3, x4, x5, -⟩ := hcell k hlt
      have k0 : (0 : Int) ≤ (k : Int) := by omega
      have k1 : (k : Int) < (es.length : Int) := by omega
      clear hcell
      have HT := Lib.hid (fun h => seqTo_hit (es := es) (pid := pid) (k := k) hlt h)
      have HM := Lib.hid (fun h => seqTo_miss (es := es) (pid := pid) (k := k) hlt h)
      generalize seqTo es pid k = sk at *
      obtain ⟨sk, vk⟩ := sk
      generalize es[k] = y at *
      obtain ⟨ep, ypid, ver, seq, kind, txn, text⟩ := y
      simp only at *
      by_cases hp : ypid = pid
      · have z1 : (ypid != pid) = false := by simpa using hp
        have ht := HT.out hp
        by_cases hk : kind = 1
        · have z2 : (kind == 1) = true := beq_iff_eq.2 hk
          rw [if_pos hk] at ht
          have H2 := Lib.hid ht
          clear HT HM hp hk ht
          by_cases hv : ver = vk
          · have z3 : (ver != vk) = false := by simpa using hv
            have HV := Lib.hid hv
            clear hv
            go_wp2
            go_round
            case rel => exact ⟨k + 1, by omega, by rw [H2.out], by rw [H2.out]; (first | rfl | exact congrArg _ HV.out.symm), by go_num⟩
            case measure => simp [intOf]; omega
          · have z3 : (ver != vk) = true := by simpa using hv
            clear hv
            go_wp2
            go_round
            case rel => exact ⟨k + 1, by omega, by rw [H2.out], by rw [H2.out], by go_num⟩
            case measure => simp [intOf]; omega
        · have z2 : (kind == 1) = false := beq_eq_false_iff_ne.2 hk
          rw [if_neg hk] at ht
          clear HT HM hp hk
          by_cases hv : ver = vk
          · have z3 : (ver != vk) = false := by simpa using hv
            rw [if_pos hv] at ht
            have HV := Lib.hid hv
            have H2 := Lib.hid ht
            clear hv ht
            go_wp2
            go_round
            case rel => exact ⟨k + 1, by omega, by rw [H2.out], by rw [H2.out]; (first | rfl | exact congrArg _ HV.out.symm), by go_num⟩
            case measure => simp [intOf]; omega
          · have z3 : (ver != vk) = true := by simpa using hv
            rw [if_neg hv] at ht
            have H2 := Lib.hid ht
            clear hv ht
            go_wp2
            go_round
            case rel => exact ⟨k + 1, by omega, by rw [H2.out], by rw [H2.out], by go_num⟩
            case measure => simp [intOf]; omega
      · have z1 : (ypid != pid) = true := by simpa using hp
        have H2 := Lib.hid (HM.out hp)
        clear HT HM hp
        go_wp2
        go_round
        case rel => exact ⟨k + 1, by omega, by rw [H2.out], by rw [H2.out], by go_num⟩
        case measure => simp [intOf]; omega
    · obtain rfl : k = es.length := by omega
      go_wp2
      go_ret
      exact ⟨rfl, rfl⟩

set_option maxRecDepth 100000 in
set_option maxHeartbeats 4000000 in
theorem openOf_any (v : Value) (es : List Ent) (pid : Int) (w : World) (h : Es w v es) (hl : es.length ≤ 9223372036854775806) :
    Calls Try.prog 111 #[v, .int .i64 pid] w fun e w' => e = .returned (.int .i64 (openTo es pid es.length)) ∧ w' = w := by
  obtain ⟨A, c, rfl, hc, hx⟩ := h.at_
  have HX := Lib.hid hx
  have hmark := markOf_any _ es pid w h hl
  have hb := markTo_bound (es := es) (pid := pid) es.length (Nat.le_refl _)
  have HF := Lib.hid (openTo_first (es := es) (pid := pid) es.length (Nat.le_refl _))
  generalize markTo es pid es.length = m at *
  obtain ⟨m0, m1⟩ := hb
  have HMK := Lib.hid hmark
  clear h hx hmark
  go_enter Try.func111, Try.ntmps111
  go_wp2_with fail
  refine HMK.out.mono ?_
  rintro e w' ⟨rfl, rfl⟩
  go_wp2
  go_loop [5] (fun x => ∃ k : Nat, k ≤ es.length ∧ x = .int .i64 k ∧ m < k ∧ Hid (∀ i : Nat, m < i → i < k → ¬ Hit es pid i)) (fun x => es.length - (intOf x).toNat)
  case atStart => exact ⟨(m + 1).toNat, by omega, by (first | (congr 1; omega) | (simp; omega)), by omega, Lib.hid (fun i h1 h2 => by omega)⟩
  case round =>
    obtain ⟨k, hk, rfl, hmk, HN⟩ := hrel
    by_cases hlt : k < es.length
    · obtain ⟨b1, o1, rfl, hb1, hcell⟩ := HX.out (Nat.lt_of_le_of_lt (Nat.zero_le _) hlt)
      obtain ⟨-, x1, x2, x3, x4, x5, -⟩ := hcell k hlt
      have k0 : (0 : Int) ≤ (k : Int) := by omega
      have k1 : (k : Int) < (es.length : Int) := by omega
      clear hcell
      have hnext : ¬ Hit es pid k → ∀ i : Nat, m < i → i < k + 1 → ¬ Hit es pid i := fun hn i h1 h2 => by
        rcases Nat.lt_succ_iff_lt_or_eq.1 h2 with h' | rfl
        · exact HN.out i h1 h'
        · exact hn
      have HNX := Lib.hid hnext
      have HHIT := Lib.hid (show Hit es pid k ↔ es[k].pid = pid ∧ es[k].txn = true ∧ es[k].kind = 1 from ⟨fun ⟨_, h⟩ => h, fun h => ⟨hlt, h⟩⟩)
      clear hnext
      generalize es[k] = y at *
      obtain ⟨ep, ypid, ver, seq, kind, txn, text⟩ := y
      simp only at *
      by_cases hp : ypid = pid
      · have z1 : (ypid == pid) = true := beq_iff_eq.2 hp
        rcases txn with _ | _
        · have H2 := Lib.hid (HNX.out (fun h => by have := (HHIT.out.1 h).2.1; simp at this))
          clear hp
          go_wp2
          go_round
          case rel => exact ⟨k + 1, by omega, by go_num, by omega, H2⟩
          case measure => simp [intOf]; omega
        · by_cases hk : kind = 1
          · have z2 : (kind == 1) = true := beq_iff_eq.2 hk
            have hh := HHIT.out.2 ⟨hp, rfl, hk⟩
            have he : openTo es pid es.length = k := HF.out.unique (Or.inr ⟨k, rfl, hmk, hlt, hh, HN.out⟩)
            have HE := Lib.hid he
            clear hp hk hh he
            go_wp2
            go_ret
            exact ⟨by rw [HE.out]; rfl, rfl⟩
          · have z2 : (kind == 1) = false := beq_eq_false_iff_ne.2 hk
            have H2 := Lib.hid (HNX.out (fun h => hk (HHIT.out.1 h).2.2))
            clear hp hk
            go_wp2
            go_round
            case rel => exact ⟨k + 1, by omega, by go_num, by omega, H2⟩
            case measure => simp [intOf]; omega
      · have z1 : (ypid == pid) = false := beq_eq_false_iff_ne.2 hp
        have H2 := Lib.hid (HNX.out (fun h => hp (HHIT.out.1 h).1))
        clear hp
        go_wp2
        go_round
        case rel => exact ⟨k + 1, by omega, by go_num, by omega, H2⟩
        case measure => simp [intOf]; omega
    · obtain rfl : k = es.length := by omega
      have he : openTo es pid es.length = -1 := HF.out.unique (Or.inl ⟨rfl, HN.out⟩)
      have HE := Lib.hid he
      clear he
      go_wp2
      go_ret
      exact ⟨by rw [HE.out]; rfl, rfl⟩
end Go.Proofs.Ytpjjfnpdopdnkaa
