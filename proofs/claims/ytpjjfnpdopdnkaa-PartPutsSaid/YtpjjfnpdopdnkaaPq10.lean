/- Parts of a proof, merged: ViewD, ViewI, ViewL, ConcB, SegJ. No condition. -/
import Derived.Test.YtpjjfnpdopdnkaaPq7
import Derived.Test.YtpjjfnpdopdnkaaPq8
import Derived.Test.YtpjjfnpdopdnkaaPq9
import Derived.Test.YtpjjfnpdopdnkaaPq4
import Derived.Lib.AppendZerosOnto
import Derived.Lib.SliceRun
import Derived.Test.YtpjjfnpdopdnkaaPq6
namespace Go.Proofs.Ytpjjfnpdopdnkaa
open Go.RowKit

set_option maxRecDepth 100000 in
set_option maxHeartbeats 4000000 in
theorem verOf_any (v : Value) (es : List Ent) (pid : Int) (w : World) (h : Es w v es) (hl : es.length ≤ 9223372036854775806) :
    Calls Try.prog 109 #[v, .int .i64 pid] w fun e w' => e = .returned (.int .i64 (verTo es pid es.length)) ∧ w' = w := by
  obtain ⟨A, c, rfl, hc, hx⟩ := h.at_
  have HX := Lib.hid hx
  clear h hx
  go_enter Try.func109, Try.ntmps109
  go_wp2
  go_loop [5, 6] (fun s x => ∃ k : Nat, k ≤ es.length ∧ s = .int .i64 (verTo es pid k) ∧ x = .int .i64 k) (fun _ x => es.length - (intOf x).toNat)
  case atStart => exact ⟨0, Nat.zero_le _, rfl, rfl⟩
  case round =>
    obtain ⟨k, hk, rfl, rfl⟩ := hrel
    by_cases hlt : k < es.length
    · obtain ⟨b1, o1, rfl, hb1, hcell⟩ := HX.out (Nat.lt_of_le_of_lt (Nat.zero_le _) hlt)
      obtain ⟨-, x1, x2, x3, x4, x5, -⟩ := hcell k hlt
      have k0 : (0 : Int) ≤ (k : Int) := by omega
      have k1 : (k : Int) < (es.length : Int) := by omega
      clear hcell
      have HT := Lib.hid (fun h => verTo_hit (es := es) (pid := pid) (k := k) hlt h)
      have HM := Lib.hid (fun h => verTo_miss (es := es) (pid := pid) (k := k) hlt h)
      generalize verTo es pid k = vk at *
      generalize es[k] = y at *
      obtain ⟨ep, ypid, ver, seq, kind, txn, text⟩ := y
      simp only at *
      by_cases hp : ypid = pid
      · have z1 : (ypid == pid) = true := beq_iff_eq.2 hp
        have H2 := Lib.hid (HT.out hp)
        clear HT HM hp
        go_wp2
        go_round
        case rel => exact ⟨k + 1, by omega, by rw [H2.out], by go_num⟩
        case measure => simp [intOf]; omega
      · have z1 : (ypid == pid) = false := beq_eq_false_iff_ne.2 hp
        have H2 := Lib.hid (HM.out hp)
        clear HT HM hp
        go_wp2
        go_round
        case rel => exact ⟨k + 1, by omega, by rw [H2.out], by go_num⟩
        case measure => simp [intOf]; omega
    · obtain rfl : k = es.length := by omega
      go_wp2
      go_ret
      exact ⟨rfl, rfl⟩

set_option maxRecDepth 100000 in
set_option maxHeartbeats 4000000 in
theorem markOf_any (v : Value) (es : List Ent) (pid : Int) (w : World) (h : Es w v es) (hl : es.length ≤ 9223372036854775806) :
    Calls Try.prog 110 #[v, .int .i64 pid] w fun e w' => e = .returned (.int .i64 (markTo es pid es.length)) ∧ w' = w := by
  obtain ⟨A, c, rfl, hc, hx⟩ := h.at_
  have HX := Lib.hid hx
  clear h hx
  go_enter Try.func110, Try.ntmps110
  go_wp2
  go_loop [5, 6] (fun s x => ∃ k : Nat, k ≤ es.length ∧ s = .int .i64 (markTo es pid k) ∧ x = .int .i64 k) (fun _ x => es.length - (intOf x).toNat)
  case atStart => exact ⟨0, Nat.zero_le _, rfl, rfl⟩
  case round =>
    obtain ⟨k, hk, rfl, rfl⟩ := hrel
    by_cases hlt : k < es.length
    · obtain ⟨b1, o1, rfl, hb1, hcell⟩ := HX.out (Nat.lt_of_le_of_lt (Nat.zero_le _) hlt)
      obtain ⟨-, x1, x2, x3, x4, x5, -⟩ := hcell k hlt
      have k0 : (0 : Int) ≤ (k : Int) := by omega
      have k1 : (k : Int) < (es.length : Int) := by omega
      clear hcell
      have HT := Lib.hid (fun h h' => markTo_hit (es := es) (pid := pid) (k := k) hlt h h')
      have HM := Lib.hid (fun h => markTo_miss (es := es) (pid := pid) (k := k) hlt h)
      generalize markTo es pid k = vk at *
      generalize es[k] = y at *
      obtain ⟨ep, ypid, ver, seq, kind, txn, text⟩ := y
      simp only at *
      by_cases hp : ypid = pid
      · have z1 : (ypid == pid) = true := beq_iff_eq.2 hp
        by_cases hk : kind = 1
        · have z2 : (kind != 1) = false := by simpa using hk
          have H2 := Lib.hid (HM.out (fun h => h.2 hk))
          clear HT HM hp hk
          go_wp2
          go_round
          case rel => exact ⟨k + 1, by omega, by rw [H2.out], by go_num⟩
          case measure => simp [intOf]; omega
        · have z2 : (kind != 1) = true := by simpa using hk
          have H2 := Lib.hid (HT.out hp hk)
          clear HT HM hp hk
          go_wp2
          go_round
          case rel => exact ⟨k + 1, by omega, by rw [H2.out], by go_num⟩
          case measure => simp [intOf]; omega
      · have z1 : (ypid == pid) = false := beq_eq_false_iff_ne.2 hp
        have H2 := Lib.hid (HM.out (fun h => hp h.1))
        clear HT HM hp
        go_wp2
        go_round
        case rel => exact ⟨k + 1, by omega, by rw [H2.out], by go_num⟩
        case measure => simp [intOf]; omega
    · obtain rfl : k = es.length := by omega
      go_wp2
      go_ret
      exact ⟨rfl, rfl⟩

set_option maxRecDepth 100000 in
set_option maxHeartbeats 4000000 in
theorem seqOf_any (v : Value) (es : List Ent) (pid : Int) (w : World) (h : Es w v es) (hl : es.length ≤ 9223372036854775806) :
    Calls Try.prog 112 #[v, .int .i64 pid] w fun e w' => e = .returned (.int .i64 ((seqTo es pid es.length).1)) ∧ w' = w := by
  obtain ⟨A, c, rfl, hc, hx⟩ := h.at_
  have HX := Lib.hid hx
  clear h hx
  go_enter Try.func112, Try.ntmps112
  go_wp2
  go_loop [5, 6, 7] (fun s v x => ∃ k : Nat, k ≤ es.length ∧ s = .int .i64 (seqTo es pid k).1 ∧ v = .int .i64 (seqTo es pid k).2 ∧ x = .int .i64 k) (fun _ _ x => es.length - (intOf x).toNat)
  case atStart => exact ⟨0, Nat.zero_le _, rfl, rfl, rfl⟩
  case round =>
    obtain ⟨k, hk, rfl, rfl, rfl⟩ := hrel
    by_cases hlt : k < es.length
    · obtain ⟨b1, o1, rfl, hb1, hcell⟩ := HX.out (Nat.lt_of_le_of_lt (Nat.zero_le _) hlt)
      obtain ⟨-, x1, x2, x3, x4, x5, -⟩ := hcell k hlt
      have k0 : (0 : Int) ≤ (k : Int) := by omega
      have k1 : (k : Int) < (es.length : Int) := by omega
      clear hcell
      have HT := Lib.hid (fun h => seqTo_hit (es := es) (pid := pid) (k := k) hlt h)
      have HM := Lib.hid (fun h => seqTo_miss (es := es) (pid := pid) (k := k) hlt h)
      generalize seqTo es pid k = sk at *
      obtain ⟨sk, vk⟩ := sk
      generalize es[k] = y at *
      obtain ⟨ep, ypid, ver, seq, kind, txn, text⟩ := y
      simp only at *
      by_cases hp : ypid = pid
      · have z1 : (ypid != pid) = false := by simpa using hp
        have ht := HT.out hp
        by_cases hk : kind = 1
        · have z2 : (kind == 1) = true := beq_iff_eq.2 hk
          rw [if_pos hk] at ht
          have H2 := Lib.hid ht
          clear HT HM hp hk ht
          by_cases hv : ver = vk
          · have z3 : (ver != vk) = false := by simpa using hv
            have HV := Lib.hid hv
            clear hv
            go_wp2
            go_round
            case rel => exact ⟨k + 1, by omega, by rw [H2.out], by rw [H2.out]; (first | rfl | exact congrArg _ HV.out.symm), by go_num⟩
            case measure => simp [intOf]; omega
          · have z3 : (ver != vk) = true := by simpa using hv
            clear hv
            go_wp2
            go_round
            case rel => exact ⟨k + 1, by omega, by rw [H2.out], by rw [H2.out], by go_num⟩
            case measure => simp [intOf]; omega
        · have z2 : (kind == 1) = false := beq_eq_false_iff_ne.2 hk
          rw [if_neg hk] at ht
          clear HT HM hp hk
          by_cases hv : ver = vk
          · have z3 : (ver != vk) = false := by simpa using hv
            rw [if_pos hv] at ht
            have HV := Lib.hid hv
            have H2 := Lib.hid ht
            clear hv ht
            go_wp2
            go_round
            case rel => exact ⟨k + 1, by omega, by rw [H2.out], by rw [H2.out]; (first | rfl | exact congrArg _ HV.out.symm), by go_num⟩
            case measure => simp [intOf]; omega
          · have z3 : (ver != vk) = true := by simpa using hv
            rw [if_neg hv] at ht
            have H2 := Lib.hid ht
            clear hv ht
            go_wp2
            go_round
            case rel => exact ⟨k + 1, by omega, by rw [H2.out], by rw [H2.out], by go_num⟩
            case measure => simp [intOf]; omega
      · have z1 : (ypid != pid) = true := by simpa using hp
        have H2 := Lib.hid (HM.out hp)
        clear HT HM hp
        go_wp2
        go_round
        case rel => exact ⟨k + 1, by omega, by rw [H2.out], by rw [H2.out], by go_num⟩
        case measure => simp [intOf]; omega
    · obtain rfl : k = es.length := by omega
      go_wp2
      go_ret
      exact ⟨rfl, rfl⟩

set_option maxRecDepth 100000 in
set_option maxHeartbeats 4000000 in
theorem openOf_any (v : Value) (es : List Ent) (pid : Int) (w : World) (h : Es w v es) (hl : es.length ≤ 9223372036854775806) :
    Calls Try.prog 111 #[v, .int .i64 pid] w fun e w' => e = .returned (.int .i64 (openTo es pid es.length)) ∧ w' = w := by
  obtain ⟨A, c, rfl, hc, hx⟩ := h.at_
  have HX := Lib.hid hx
  have hmark := markOf_any _ es pid w h hl
  have hb := markTo_bound (es := es) (pid := pid) es.length (Nat.le_refl _)
  have HF := Lib.hid (openTo_first (es := es) (pid := pid) es.length (Nat.le_refl _))
  generalize markTo es pid es.length = m at *
  obtain ⟨m0, m1⟩ := hb
  have HMK := Lib.hid hmark
  clear h hx hmark
  go_enter Try.func111, Try.ntmps111
  go_wp2_with fail
  refine HMK.out.mono ?_
  rintro e w' ⟨rfl, rfl⟩
  go_wp2
  go_loop [5] (fun x => ∃ k : Nat, k ≤ es.length ∧ x = .int .i64 k ∧ m < k ∧ Hid (∀ i : Nat, m < i → i < k → ¬ Hit es pid i)) (fun x => es.length - (intOf x).toNat)
  case atStart => exact ⟨(m + 1).toNat, by omega, by (first | (congr 1; omega) | (simp; omega)), by omega, Lib.hid (fun i h1 h2 => by omega)⟩
  case round =>
    obtain ⟨k, hk, rfl, hmk, HN⟩ := hrel
    by_cases hlt : k < es.length
    · obtain ⟨b1, o1, rfl, hb1, hcell⟩ := HX.out (Nat.lt_of_le_of_lt (Nat.zero_le _) hlt)
      obtain ⟨-, x1, x2, x3, x4, x5, -⟩ := hcell k hlt
      have k0 : (0 : Int) ≤ (k : Int) := by omega
      have k1 : (k : Int) < (es.length : Int) := by omega
      clear hcell
      have hnext : ¬ Hit es pid k → ∀ i : Nat, m < i → i < k + 1 → ¬ Hit es pid i := fun hn i h1 h2 => by
        rcases Nat.lt_succ_iff_lt_or_eq.1 h2 with h' | rfl
        · exact HN.out i h1 h'
        · exact hn
      have HNX := Lib.hid hnext
      have HHIT := Lib.hid (show Hit es pid k ↔ es[k].pid = pid ∧ es[k].txn = true ∧ es[k].kind = 1 from ⟨fun ⟨_, h⟩ => h, fun h => ⟨hlt, h⟩⟩)
      clear hnext
      generalize es[k] = y at *
      obtain ⟨ep, ypid, ver, seq, kind, txn, text⟩ := y
      simp only at *
      by_cases hp : ypid = pid
      · have z1 : (ypid == pid) = true := beq_iff_eq.2 hp
        rcases txn with _ | _
        · have H2 := Lib.hid (HNX.out (fun h => by have := (HHIT.out.1 h).2.1; simp at this))
          clear hp
          go_wp2
          go_round
          case rel => exact ⟨k + 1, by omega, by go_num, by omega, H2⟩
          case measure => simp [intOf]; omega
        · by_cases hk : kind = 1
          · have z2 : (kind == 1) = true := beq_iff_eq.2 hk
            have hh := HHIT.out.2 ⟨hp, rfl, hk⟩
            have he : openTo es pid es.length = k := HF.out.unique (Or.inr ⟨k, rfl, hmk, hlt, hh, HN.out⟩)
            have HE := Lib.hid he
            clear hp hk hh he
            go_wp2
            go_ret
            exact ⟨by rw [HE.out]; rfl, rfl⟩
          · have z2 : (kind == 1) = false := beq_eq_false_iff_ne.2 hk
            have H2 := Lib.hid (HNX.out (fun h => hk (HHIT.out.1 h).2.2))
            clear hp hk
            go_wp2
            go_round
            case rel => exact ⟨k + 1, by omega, by go_num, by omega, H2⟩
            case measure => simp [intOf]; omega
      · have z1 : (ypid == pid) = false := beq_eq_false_iff_ne.2 hp
        have H2 := Lib.hid (HNX.out (fun h => hp (HHIT.out.1 h).1))
        clear hp
        go_wp2
        go_round
        case rel => exact ⟨k + 1, by omega, by go_num, by omega, H2⟩
        case measure => simp [intOf]; omega
    · obtain rfl : k = es.length := by omega
      have he : openTo es pid es.length = -1 := HF.out.unique (Or.inl ⟨rfl, HN.out⟩)
      have HE := Lib.hid he
      clear he
      go_wp2
      go_ret
      exact ⟨by rw [HE.out]; rfl, rfl⟩
end Go.Proofs.Ytpjjfnpdopdnkaa
namespace Go.Proofs.Ytpjjfnpdopdnkaa
open Go.RowKit

theorem seqTo_bnd {es : List Ent} {pid : Int} (hp : PlainE es) : ∀ k : Nat, k ≤ es.length → -1 ≤ (seqTo es pid k).1 ∧ (seqTo es pid k).1 ≤ 1073741824
  | 0, _ => by simp [seqTo]
  | k + 1, h => by
    have ih := seqTo_bnd (pid := pid) hp k (by omega)
    have hlt : k < es.length := by omega
    have hk := hp k hlt
    by_cases hq : es[k].pid = pid
    · rw [seqTo_hit hlt hq]
      simp only
      split
      · omega
      · split <;> omega
    · rw [seqTo_miss hlt hq]; exact ih
/-- what the four loops answer, beside what is known of the producer -/
structure RefQ (es : List Ent) (x : Ent) (q : PrD) (vT mT oT sT : Int) : Prop where
  ver : verTo es x.pid es.length = vT
  mark : markTo es x.pid es.length = mT
  opn : openTo es x.pid es.length = oT
  seq : (seqTo es x.pid es.length).1 = sT
  fence : x.ver < vT ↔ x.ver < q.ver
  mk_ : mT = q.mark
  on_ : oT = q.opn
  bd : -1 ≤ mT ∧ mT < es.length ∧ -1 ≤ sT ∧ sT ≤ 1073741824
  new_ : ¬ x.ver < q.ver → q.ver < x.ver → x.ver ≠ vT
  old : ¬ x.ver < q.ver → ¬ q.ver < x.ver → (x.ver = vT ∧ sT = q.seq) ∨ (x.ver ≠ vT ∧ q.seq = -1)
theorem refQ_ex {es : List Ent} (hp : PlainE es) (x : Ent) (hx : 0 ≤ x.ver) : ∃ vT mT oT sT, RefQ es x (prOf es x) vT mT oT sT := by
  have h1 := prTo_says (pid := x.pid) hp.ver es.length (Nat.le_refl _)
  have h2 := markTo_bound (es := es) (pid := x.pid) es.length (Nat.le_refl _)
  have h3 := seqTo_bnd (pid := x.pid) hp es.length (Nat.le_refl _)
  refine ⟨_, _, _, _, rfl, rfl, rfl, rfl, ?_, ?_, ?_, ⟨h2.1, h2.2, h3.1, h3.2⟩, ?_, ?_⟩
  all_goals
    unfold prOf
    cases hq : prTo es x.pid es.length with
    | none =>
      rw [hq] at h1
      obtain ⟨a1, a2, a3, a4⟩ := h1
      simp only [Option.getD_none]
      first
        | (rw [a1]; constructor <;> intro h <;> omega)
        | (rw [a3])
        | (rw [a4])
        | (rw [a1]; intro _ _; omega)
        | (rw [a1]; intro _ _; right; exact ⟨by omega, by first | rfl | trivial⟩)
    | some q =>
      rw [hq] at h1
      obtain ⟨a1, a2, a3, a4, a5⟩ := h1
      simp only [Option.getD_some]
      first
        | (rw [a1]; done)
        | (rw [a3]; done)
        | (rw [a4]; done)
        | (rw [a1]; intro _ _; omega)
        | (rw [a1, a2]; intro h1 h2; left; exact ⟨by omega, rfl⟩)
set_option maxRecDepth 100000 in
set_option maxHeartbeats 4000000 in
theorem checkedOf_zero (v : Value) (es : List Ent) (x : Ent) (w : World) (h : Es w v es) (_hl : es.length ≤ 9223372036854775806) (h0 : x.pid = 0) :
    Calls Try.prog 98 #[v, .agg #[.int .i64 x.ep, .int .i64 x.pid, .int .i64 x.ver, .int .i64 x.seq, .int .i64 x.kind, .bool x.txn, .string x.text]] w fun e w' => e = .returned (.tuple #[.int .i64 (-1), .int .i64 0]) ∧ Below w.heap.size w w' := by
  obtain ⟨A, c, rfl, hc, -⟩ := h.at_
  have z1 : (x.pid == 0) = true := beq_iff_eq.2 h0
  clear h h0
  obtain ⟨ep, pid, ver, seq, kind, txn, text⟩ := x
  simp only at *
  go_enter Try.func98, Try.ntmps98
  go_wp2
  go_ret2
  exact ⟨rfl, (Below.refl _ _).alloc (Nat.le_refl _) _⟩
set_option maxRecDepth 100000 in
set_option maxHeartbeats 4000000 in
theorem checkedOf_fence (v : Value) (es : List Ent) (x : Ent) (w : World) (h : Es w v es) (hl : es.length ≤ 9223372036854775806) (hx : 0 ≤ x.ver ∧ x.ver ≤ 1073741824 ∧ 0 ≤ x.seq ∧ x.seq ≤ 1073741824 ∧ 0 ≤ x.pid ∧ x.pid ≤ 1073741824) (h0 : x.pid ≠ 0) (q : PrD) {vT mT oT sT : Int} (hr : RefQ es x q vT mT oT sT) (hf : x.ver < q.ver) :
    Calls Try.prog 98 #[v, .agg #[.int .i64 x.ep, .int .i64 x.pid, .int .i64 x.ver, .int .i64 x.seq, .int .i64 x.kind, .bool x.txn, .string x.text]] w fun e w' => e = .returned (.tuple #[.int .i64 0, .int .i64 10]) ∧ Below w.heap.size w w' := by
  obtain ⟨A, c, rfl, hc, hx1⟩ := h.at_
  have HX := Lib.hid hx1
  have H := Lib.hid h
  obtain ⟨x0, x1, x2, x3, x4, x5⟩ := hx
  obtain ⟨hv_, hm_, ho_, hs_, hfe, hmk, hon, ⟨b1_, b2_, b3_, b4_⟩, hnew, hold⟩ := hr
  have z1 : (x.pid == 0) = false := beq_eq_false_iff_ne.2 h0
  have HVT := Lib.hid hv_
  have HMT := Lib.hid hm_
  have HOT := Lib.hid ho_
  have HST := Lib.hid hs_
  clear h hx1 h0 hv_ hm_ ho_ hs_
  have z2 : decide (x.ver < vT) = true := decide_eq_true (hfe.2 hf)
  clear hf
  clear hfe hmk hon hnew hold
  obtain ⟨ep, pid, ver, seq, kind, txn, text⟩ := x
  obtain ⟨qv, qs, qo, qm⟩ := q
  simp only at *
  go_enter Try.func98, Try.ntmps98
  go_wp2_with fail
  have hb1 : Below w.heap.size w (w.alloc (.cells #[.int .i64 ep, .int .i64 pid, .int .i64 ver, .int .i64 seq, .int .i64 kind, .bool txn, .string text] 55)) := (Below.refl _ _).alloc (by first | omega | (simp; done) | (simp; omega)) _
  have hal1 : Below w.heap.size w (w.alloc (.cells #[.int .i64 ep, .int .i64 pid, .int .i64 ver, .int .i64 seq, .int .i64 kind, .bool txn, .string text] 55)) := (Below.refl _ _).alloc (by first | omega | (simp; done) | (simp; omega)) _
  have b_bx1 : Blk (w.alloc (.cells #[.int .i64 ep, .int .i64 pid, .int .i64 ver, .int .i64 seq, .int .i64 kind, .bool txn, .string text] 55)) (w.heap.size) 55 #[.int .i64 ep, .int .i64 pid, .int .i64 ver, .int .i64 seq, .int .i64 kind, .bool txn, .string text] := Blk.new_ _ 55 #[.int .i64 ep, .int .i64 pid, .int .i64 ver, .int .i64 seq, .int .i64 kind, .bool txn, .string text] (by first | rfl | (simp; done) | (simp; omega))
  have hz1 : w.heap.size + 1 ≤ (w.alloc (.cells #[.int .i64 ep, .int .i64 pid, .int .i64 ver, .int .i64 seq, .int .i64 kind, .bool txn, .string text] 55)).heap.size := by first | omega | (simp; done) | (simp; omega)
  generalize w.alloc (.cells #[.int .i64 ep, .int .i64 pid, .int .i64 ver, .int .i64 seq, .int .i64 kind, .bool txn, .string text] 55) = W1 at *
  have HB1 := Lib.hid hb1
  have B1_bx := Lib.hid b_bx1
  clear hb1 b_bx1
  have c_bx0 := B1_bx.out.cell 0
  have c_bx1 := B1_bx.out.cell 1
  have c_bx2 := B1_bx.out.cell 2
  have c_bx3 := B1_bx.out.cell 3
  have c_bx4 := B1_bx.out.cell 4
  have c_bx5 := B1_bx.out.cell 5
  have c_bx6 := B1_bx.out.cell 6
  have l_bx := B1_bx.out.lt
  go_wp2_with fail
  refine (verOf_any _ es pid _ (H.out.below HB1.out) hl).mono ?_
  rintro e w9 ⟨rfl, he9⟩
  obtain rfl := he9.symm
  clear he9
  rw [HVT.out]
  go_wp2
  go_ret2
  exact ⟨rfl, HB1.out⟩
set_option maxRecDepth 100000 in
set_option maxHeartbeats 4000000 in
theorem checkedOf_open (v : Value) (es : List Ent) (x : Ent) (w : World) (h : Es w v es) (hl : es.length ≤ 9223372036854775806) (hx : 0 ≤ x.ver ∧ x.ver ≤ 1073741824 ∧ 0 ≤ x.seq ∧ x.seq ≤ 1073741824 ∧ 0 ≤ x.pid ∧ x.pid ≤ 1073741824) (h0 : x.pid ≠ 0) (q : PrD) {vT mT oT sT : Int} (hr : RefQ es x q vT mT oT sT) (hf : ¬ x.ver < q.ver) (hk : x.kind ≠ 1) (ho : ¬ q.opn < 0) (hm : 0 ≤ q.mark) :
    Calls Try.prog 98 #[v, .agg #[.int .i64 x.ep, .int .i64 x.pid, .int .i64 x.ver, .int .i64 x.seq, .int .i64 x.kind, .bool x.txn, .string x.text]] w fun e w' => e = .returned (.tuple #[.int .i64 (-1), .int .i64 0]) ∧ Below w.heap.size w w' := by
  obtain ⟨A, c, rfl, hc, hx1⟩ := h.at_
  have HX := Lib.hid hx1
  have H := Lib.hid h
  obtain ⟨x0, x1, x2, x3, x4, x5⟩ := hx
  obtain ⟨hv_, hm_, ho_, hs_, hfe, hmk, hon, ⟨b1_, b2_, b3_, b4_⟩, hnew, hold⟩ := hr
  have z1 : (x.pid == 0) = false := beq_eq_false_iff_ne.2 h0
  have HVT := Lib.hid hv_
  have HMT := Lib.hid hm_
  have HOT := Lib.hid ho_
  have HST := Lib.hid hs_
  clear h hx1 h0 hv_ hm_ ho_ hs_
  have z2 : decide (x.ver < vT) = false := decide_eq_false (fun h => hf (hfe.1 h))
  have z3 : (x.kind != 1) = true := by simpa using hk
  clear hk
  have z4 : decide (0 ≤ mT) = true := decide_eq_true (by omega)
  have z5 : decide (oT < 0) = false := decide_eq_false (by omega)
  clear ho hm
  clear hf
  clear hfe hmk hon hnew hold
  obtain ⟨ep, pid, ver, seq, kind, txn, text⟩ := x
  obtain ⟨qv, qs, qo, qm⟩ := q
  simp only at *
  go_enter Try.func98, Try.ntmps98
  go_wp2_with fail
  have hb1 : Below w.heap.size w (w.alloc (.cells #[.int .i64 ep, .int .i64 pid, .int .i64 ver, .int .i64 seq, .int .i64 kind, .bool txn, .string text] 55)) := (Below.refl _ _).alloc (by first | omega | (simp; done) | (simp; omega)) _
  have hal1 : Below w.heap.size w (w.alloc (.cells #[.int .i64 ep, .int .i64 pid, .int .i64 ver, .int .i64 seq, .int .i64 kind, .bool txn, .string text] 55)) := (Below.refl _ _).alloc (by first | omega | (simp; done) | (simp; omega)) _
  have b_bx1 : Blk (w.alloc (.cells #[.int .i64 ep, .int .i64 pid, .int .i64 ver, .int .i64 seq, .int .i64 kind, .bool txn, .string text] 55)) (w.heap.size) 55 #[.int .i64 ep, .int .i64 pid, .int .i64 ver, .int .i64 seq, .int .i64 kind, .bool txn, .string text] := Blk.new_ _ 55 #[.int .i64 ep, .int .i64 pid, .int .i64 ver, .int .i64 seq, .int .i64 kind, .bool txn, .string text] (by first | rfl | (simp; done) | (simp; omega))
  have hz1 : w.heap.size + 1 ≤ (w.alloc (.cells #[.int .i64 ep, .int .i64 pid, .int .i64 ver, .int .i64 seq, .int .i64 kind, .bool txn, .string text] 55)).heap.size := by first | omega | (simp; done) | (simp; omega)
  generalize w.alloc (.cells #[.int .i64 ep, .int .i64 pid, .int .i64 ver, .int .i64 seq, .int .i64 kind, .bool txn, .string text] 55) = W1 at *
  have HB1 := Lib.hid hb1
  have B1_bx := Lib.hid b_bx1
  clear hb1 b_bx1
  have c_bx0 := B1_bx.out.cell 0
  have c_bx1 := B1_bx.out.cell 1
  have c_bx2 := B1_bx.out.cell 2
  have c_bx3 := B1_bx.out.cell 3
  have c_bx4 := B1_bx.out.cell 4
  have c_bx5 := B1_bx.out.cell 5
  have c_bx6 := B1_bx.out.cell 6
  have l_bx := B1_bx.out.lt
  go_wp2_with fail
  refine (verOf_any _ es pid _ (H.out.below HB1.out) hl).mono ?_
  rintro e w9 ⟨rfl, he9⟩
  obtain rfl := he9.symm
  clear he9
  rw [HVT.out]
  go_wp2_with fail
  refine (markOf_any _ es pid _ (H.out.below HB1.out) hl).mono ?_
  rintro e w9 ⟨rfl, he9⟩
  obtain rfl := he9.symm
  clear he9
  rw [HMT.out]
  have hq : ∀ m, Calls Try.prog 111 #[.slice A es.length c, .int .i64 pid] (W1.drewN m) fun e w'' => e = .returned (.int .i64 oT) ∧ ∃ m', w'' = W1.drewN m' := fun m => Calls.quiet_of_same (by
    have h := openOf_any _ es pid (W1.drewN m) (H.out.below (below_then HB1.out (below_dn _ _))) hl
    rw [HOT.out] at h
    exact h)
  have HQ := Lib.hid hq
  clear hq
  go_wp2_with fail
  go_quiet ((go_at_call 111; exact HQ.out _))
  clear c_bx0 c_bx1 c_bx2 c_bx3 c_bx4 c_bx5 c_bx6 l_bx
  generalize hd : World.drewN W1 _ = W2 at *
  have hb : Below W1.heap.size W1 W2 := by rw [← hd]; exact below_dn _ _
  have hb2 : Below w.heap.size w W2 := below_then HB1.out hb
  have b_bx2 := B1_bx.out.below hb B1_bx.out.lt
  have hz2 := hb.size
  have HB2 := Lib.hid hb2
  have B2_bx := Lib.hid b_bx2
  clear hb2 b_bx2
  clear B1_bx HB1
  clear hd hb
  go_wp2
  go_ret2
  exact ⟨rfl, HB2.out⟩
set_option maxRecDepth 100000 in
set_option maxHeartbeats 4000000 in
theorem checkedOf_nomark (v : Value) (es : List Ent) (x : Ent) (w : World) (h : Es w v es) (hl : es.length ≤ 9223372036854775806) (hx : 0 ≤ x.ver ∧ x.ver ≤ 1073741824 ∧ 0 ≤ x.seq ∧ x.seq ≤ 1073741824 ∧ 0 ≤ x.pid ∧ x.pid ≤ 1073741824) (h0 : x.pid ≠ 0) (q : PrD) {vT mT oT sT : Int} (hr : RefQ es x q vT mT oT sT) (hf : ¬ x.ver < q.ver) (hk : x.kind ≠ 1) (hm : ¬ 0 ≤ q.mark) :
    Calls Try.prog 98 #[v, .agg #[.int .i64 x.ep, .int .i64 x.pid, .int .i64 x.ver, .int .i64 x.seq, .int .i64 x.kind, .bool x.txn, .string x.text]] w fun e w' => e = .returned (.tuple #[.int .i64 (-1), .int .i64 0]) ∧ Below w.heap.size w w' := by
  obtain ⟨A, c, rfl, hc, hx1⟩ := h.at_
  have HX := Lib.hid hx1
  have H := Lib.hid h
  obtain ⟨x0, x1, x2, x3, x4, x5⟩ := hx
  obtain ⟨hv_, hm_, ho_, hs_, hfe, hmk, hon, ⟨b1_, b2_, b3_, b4_⟩, hnew, hold⟩ := hr
  have z1 : (x.pid == 0) = false := beq_eq_false_iff_ne.2 h0
  have HVT := Lib.hid hv_
  have HMT := Lib.hid hm_
  have HOT := Lib.hid ho_
  have HST := Lib.hid hs_
  clear h hx1 h0 hv_ hm_ ho_ hs_
  have z2 : decide (x.ver < vT) = false := decide_eq_false (fun h => hf (hfe.1 h))
  have z3 : (x.kind != 1) = true := by simpa using hk
  clear hk
  have z4 : decide (0 ≤ mT) = false := decide_eq_false (by omega)
  clear hm
  clear hf
  clear hfe hmk hon hnew hold
  obtain ⟨ep, pid, ver, seq, kind, txn, text⟩ := x
  obtain ⟨qv, qs, qo, qm⟩ := q
  simp only at *
  go_enter Try.func98, Try.ntmps98
  go_wp2_with fail
  have hb1 : Below w.heap.size w (w.alloc (.cells #[.int .i64 ep, .int .i64 pid, .int .i64 ver, .int .i64 seq, .int .i64 kind, .bool txn, .string text] 55)) := (Below.refl _ _).alloc (by first | omega | (simp; done) | (simp; omega)) _
  have hal1 : Below w.heap.size w (w.alloc (.cells #[.int .i64 ep, .int .i64 pid, .int .i64 ver, .int .i64 seq, .int .i64 kind, .bool txn, .string text] 55)) := (Below.refl _ _).alloc (by first | omega | (simp; done) | (simp; omega)) _
  have b_bx1 : Blk (w.alloc (.cells #[.int .i64 ep, .int .i64 pid, .int .i64 ver, .int .i64 seq, .int .i64 kind, .bool txn, .string text] 55)) (w.heap.size) 55 #[.int .i64 ep, .int .i64 pid, .int .i64 ver, .int .i64 seq, .int .i64 kind, .bool txn, .string text] := Blk.new_ _ 55 #[.int .i64 ep, .int .i64 pid, .int .i64 ver, .int .i64 seq, .int .i64 kind, .bool txn, .string text] (by first | rfl | (simp; done) | (simp; omega))
  have hz1 : w.heap.size + 1 ≤ (w.alloc (.cells #[.int .i64 ep, .int .i64 pid, .int .i64 ver, .int .i64 seq, .int .i64 kind, .bool txn, .string text] 55)).heap.size := by first | omega | (simp; done) | (simp; omega)
  generalize w.alloc (.cells #[.int .i64 ep, .int .i64 pid, .int .i64 ver, .int .i64 seq, .int .i64 kind, .bool txn, .string text] 55) = W1 at *
  have HB1 := Lib.hid hb1
  have B1_bx := Lib.hid b_bx1
  clear hb1 b_bx1
  have c_bx0 := B1_bx.out.cell 0
  have c_bx1 := B1_bx.out.cell 1
  have c_bx2 := B1_bx.out.cell 2
  have c_bx3 := B1_bx.out.cell 3
  have c_bx4 := B1_bx.out.cell 4
  have c_bx5 := B1_bx.out.cell 5
  have c_bx6 := B1_bx.out.cell 6
  have l_bx := B1_bx.out.lt
  go_wp2_with fail
  refine (verOf_any _ es pid _ (H.out.below HB1.out) hl).mono ?_
  rintro e w9 ⟨rfl, he9⟩
  obtain rfl := he9.symm
  clear he9
  rw [HVT.out]
  go_wp2_with fail
  refine (markOf_any _ es pid _ (H.out.below HB1.out) hl).mono ?_
  rintro e w9 ⟨rfl, he9⟩
  obtain rfl := he9.symm
  clear he9
  rw [HMT.out]
  go_wp2_with fail
  go_quiet (fail)
  clear c_bx0 c_bx1 c_bx2 c_bx3 c_bx4 c_bx5 c_bx6 l_bx
  generalize hd : World.drewN W1 _ = W2 at *
  have hb : Below W1.heap.size W1 W2 := by rw [← hd]; exact below_dn _ _
  have hb2 : Below w.heap.size w W2 := below_then HB1.out hb
  have b_bx2 := B1_bx.out.below hb B1_bx.out.lt
  have hz2 := hb.size
  have HB2 := Lib.hid hb2
  have B2_bx := Lib.hid b_bx2
  clear hb2 b_bx2
  clear B1_bx HB1
  clear hd hb
  go_wp2
  go_ret2
  exact ⟨rfl, HB2.out⟩
set_option maxRecDepth 100000 in
set_option maxHeartbeats 4000000 in
theorem checkedOf_mkind (v : Value) (es : List Ent) (x : Ent) (w : World) (h : Es w v es) (hl : es.length ≤ 9223372036854775806) (hx : 0 ≤ x.ver ∧ x.ver ≤ 1073741824 ∧ 0 ≤ x.seq ∧ x.seq ≤ 1073741824 ∧ 0 ≤ x.pid ∧ x.pid ≤ 1073741824) (h0 : x.pid ≠ 0) (q : PrD) {vT mT oT sT : Int} (hr : RefQ es x q vT mT oT sT) (hf : ¬ x.ver < q.ver) (hk : x.kind ≠ 1) (ho : q.opn < 0) (m : Nat) (hm : q.mark = m ∧ m < es.length) (h1 : ∀ hm : m < es.length, es[m].kind ≠ x.kind) :
    Calls Try.prog 98 #[v, .agg #[.int .i64 x.ep, .int .i64 x.pid, .int .i64 x.ver, .int .i64 x.seq, .int .i64 x.kind, .bool x.txn, .string x.text]] w fun e w' => e = .returned (.tuple #[.int .i64 (-1), .int .i64 0]) ∧ Below w.heap.size w w' := by
  obtain ⟨A, c, rfl, hc, hx1⟩ := h.at_
  have HX := Lib.hid hx1
  have H := Lib.hid h
  obtain ⟨x0, x1, x2, x3, x4, x5⟩ := hx
  obtain ⟨hv_, hm_, ho_, hs_, hfe, hmk, hon, ⟨b1_, b2_, b3_, b4_⟩, hnew, hold⟩ := hr
  have z1 : (x.pid == 0) = false := beq_eq_false_iff_ne.2 h0
  have HVT := Lib.hid hv_
  have HMT := Lib.hid hm_
  have HOT := Lib.hid ho_
  have HST := Lib.hid hs_
  clear h hx1 h0 hv_ hm_ ho_ hs_
  have z2 : decide (x.ver < vT) = false := decide_eq_false (fun h => hf (hfe.1 h))
  have z3 : (x.kind != 1) = true := by simpa using hk
  clear hk
  have z5 : decide (oT < 0) = true := decide_eq_true (by omega)
  clear ho
  obtain ⟨hm1, hml⟩ := hm
  have m0 : (0 : Int) ≤ (m : Int) := by omega
  have m1 : (m : Int) < (es.length : Int) := by omega
  have hmT : mT = (m : Int) := by omega
  obtain ⟨b1, o1, rfl, hb1, hcell⟩ := HX.out (by omega)
  obtain ⟨-, -, y2, -, y4, -, -⟩ := hcell m hml
  have XC := Lib.hid (And.intro y2 y4)
  clear hcell y2 y4 HX
  have z4 : decide (0 ≤ mT) = true := decide_eq_true (by omega)
  have z6 : (es[m].kind == x.kind) = false := beq_eq_false_iff_ne.2 (h1 hml)
  clear h1
  clear hf
  clear hfe hmk hon hnew hold
  obtain ⟨ep, pid, ver, seq, kind, txn, text⟩ := x
  obtain ⟨qv, qs, qo, qm⟩ := q
  simp only at *
  subst hmT
  clear hm1
  generalize es[m].kind = mk at *
  generalize es[m].ver = mv at *
  go_enter Try.func98, Try.ntmps98
  go_wp2_with fail
  have hb1 : Below w.heap.size w (w.alloc (.cells #[.int .i64 ep, .int .i64 pid, .int .i64 ver, .int .i64 seq, .int .i64 kind, .bool txn, .string text] 55)) := (Below.refl _ _).alloc (by first | omega | (simp; done) | (simp; omega)) _
  have hal1 : Below w.heap.size w (w.alloc (.cells #[.int .i64 ep, .int .i64 pid, .int .i64 ver, .int .i64 seq, .int .i64 kind, .bool txn, .string text] 55)) := (Below.refl _ _).alloc (by first | omega | (simp; done) | (simp; omega)) _
  have b_bx1 : Blk (w.alloc (.cells #[.int .i64 ep, .int .i64 pid, .int .i64 ver, .int .i64 seq, .int .i64 kind, .bool txn, .string text] 55)) (w.heap.size) 55 #[.int .i64 ep, .int .i64 pid, .int .i64 ver, .int .i64 seq, .int .i64 kind, .bool txn, .string text] := Blk.new_ _ 55 #[.int .i64 ep, .int .i64 pid, .int .i64 ver, .int .i64 seq, .int .i64 kind, .bool txn, .string text] (by first | rfl | (simp; done) | (simp; omega))
  have hz1 : w.heap.size + 1 ≤ (w.alloc (.cells #[.int .i64 ep, .int .i64 pid, .int .i64 ver, .int .i64 seq, .int .i64 kind, .bool txn, .string text] 55)).heap.size := by first | omega | (simp; done) | (simp; omega)
  generalize w.alloc (.cells #[.int .i64 ep, .int .i64 pid, .int .i64 ver, .int .i64 seq, .int .i64 kind, .bool txn, .string text] 55) = W1 at *
  have HB1 := Lib.hid hb1
  have B1_bx := Lib.hid b_bx1
  clear hb1 b_bx1
  have c_bx0 := B1_bx.out.cell 0
  have c_bx1 := B1_bx.out.cell 1
  have c_bx2 := B1_bx.out.cell 2
  have c_bx3 := B1_bx.out.cell 3
  have c_bx4 := B1_bx.out.cell 4
  have c_bx5 := B1_bx.out.cell 5
  have c_bx6 := B1_bx.out.cell 6
  have l_bx := B1_bx.out.lt
  go_wp2_with fail
  refine (verOf_any _ es pid _ (H.out.below HB1.out) hl).mono ?_
  rintro e w9 ⟨rfl, he9⟩
  obtain rfl := he9.symm
  clear he9
  rw [HVT.out]
  go_wp2_with fail
  refine (markOf_any _ es pid _ (H.out.below HB1.out) hl).mono ?_
  rintro e w9 ⟨rfl, he9⟩
  obtain rfl := he9.symm
  clear he9
  rw [HMT.out]
  have hq : ∀ m, Calls Try.prog 111 #[.slice (some ⟨b1, o1, none⟩) es.length c, .int .i64 pid] (W1.drewN m) fun e w'' => e = .returned (.int .i64 oT) ∧ ∃ m', w'' = W1.drewN m' := fun m => Calls.quiet_of_same (by
    have h := openOf_any _ es pid (W1.drewN m) (H.out.below (below_then HB1.out (below_dn _ _))) hl
    rw [HOT.out] at h
    exact h)
  have HQ := Lib.hid hq
  clear hq
  have y2 := (HB1.out.cell (p := ⟨b1, o1 + m * 7 + 2, none⟩) hb1).trans XC.out.1
  have y4 := (HB1.out.cell (p := ⟨b1, o1 + m * 7 + 4, none⟩) hb1).trans XC.out.2
  have yl := Nat.lt_of_lt_of_le hb1 HB1.out.size
  go_wp2_with fail
  go_quiet ((go_at_call 111; exact HQ.out _))
  clear c_bx0 c_bx1 c_bx2 c_bx3 c_bx4 c_bx5 c_bx6 l_bx y2 y4 yl
  generalize hd : World.drewN W1 _ = W2 at *
  have hb : Below W1.heap.size W1 W2 := by rw [← hd]; exact below_dn _ _
  have hb2 : Below w.heap.size w W2 := below_then HB1.out hb
  have b_bx2 := B1_bx.out.below hb B1_bx.out.lt
  have hz2 := hb.size
  have HB2 := Lib.hid hb2
  have B2_bx := Lib.hid b_bx2
  clear hb2 b_bx2
  clear B1_bx HB1
  clear hd hb
  go_wp2
  go_ret2
  exact ⟨rfl, HB2.out⟩
set_option maxRecDepth 100000 in
set_option maxHeartbeats 4000000 in
theorem checkedOf_mver (v : Value) (es : List Ent) (x : Ent) (w : World) (h : Es w v es) (hl : es.length ≤ 9223372036854775806) (hx : 0 ≤ x.ver ∧ x.ver ≤ 1073741824 ∧ 0 ≤ x.seq ∧ x.seq ≤ 1073741824 ∧ 0 ≤ x.pid ∧ x.pid ≤ 1073741824) (h0 : x.pid ≠ 0) (q : PrD) {vT mT oT sT : Int} (hr : RefQ es x q vT mT oT sT) (hf : ¬ x.ver < q.ver) (hk : x.kind ≠ 1) (ho : q.opn < 0) (m : Nat) (hm : q.mark = m ∧ m < es.length) (h1 : ∀ hm : m < es.length, es[m].kind = x.kind) (h2 : ∀ hm : m < es.length, es[m].ver ≠ x.ver) :
    Calls Try.prog 98 #[v, .agg #[.int .i64 x.ep, .int .i64 x.pid, .int .i64 x.ver, .int .i64 x.seq, .int .i64 x.kind, .bool x.txn, .string x.text]] w fun e w' => e = .returned (.tuple #[.int .i64 (-1), .int .i64 0]) ∧ Below w.heap.size w w' := by
  obtain ⟨A, c, rfl, hc, hx1⟩ := h.at_
  have HX := Lib.hid hx1
  have H := Lib.hid h
  obtain ⟨x0, x1, x2, x3, x4, x5⟩ := hx
  obtain ⟨hv_, hm_, ho_, hs_, hfe, hmk, hon, ⟨b1_, b2_, b3_, b4_⟩, hnew, hold⟩ := hr
  have z1 : (x.pid == 0) = false := beq_eq_false_iff_ne.2 h0
  have HVT := Lib.hid hv_
  have HMT := Lib.hid hm_
  have HOT := Lib.hid ho_
  have HST := Lib.hid hs_
  clear h hx1 h0 hv_ hm_ ho_ hs_
  have z2 : decide (x.ver < vT) = false := decide_eq_false (fun h => hf (hfe.1 h))
  have z3 : (x.kind != 1) = true := by simpa using hk
  clear hk
  have z5 : decide (oT < 0) = true := decide_eq_true (by omega)
  clear ho
  obtain ⟨hm1, hml⟩ := hm
  have m0 : (0 : Int) ≤ (m : Int) := by omega
  have m1 : (m : Int) < (es.length : Int) := by omega
  have hmT : mT = (m : Int) := by omega
  obtain ⟨b1, o1, rfl, hb1, hcell⟩ := HX.out (by omega)
  obtain ⟨-, -, y2, -, y4, -, -⟩ := hcell m hml
  have XC := Lib.hid (And.intro y2 y4)
  clear hcell y2 y4 HX
  have z4 : decide (0 ≤ mT) = true := decide_eq_true (by omega)
  have z6 : (es[m].kind == x.kind) = true := beq_iff_eq.2 (h1 hml)
  have z7 : (es[m].ver == x.ver) = false := beq_eq_false_iff_ne.2 (h2 hml)
  clear h1 h2
  clear hf
  clear hfe hmk hon hnew hold
  obtain ⟨ep, pid, ver, seq, kind, txn, text⟩ := x
  obtain ⟨qv, qs, qo, qm⟩ := q
  simp only at *
  subst hmT
  clear hm1
  generalize es[m].kind = mk at *
  generalize es[m].ver = mv at *
  go_enter Try.func98, Try.ntmps98
  go_wp2_with fail
  have hb1 : Below w.heap.size w (w.alloc (.cells #[.int .i64 ep, .int .i64 pid, .int .i64 ver, .int .i64 seq, .int .i64 kind, .bool txn, .string text] 55)) := (Below.refl _ _).alloc (by first | omega | (simp; done) | (simp; omega)) _
  have hal1 : Below w.heap.size w (w.alloc (.cells #[.int .i64 ep, .int .i64 pid, .int .i64 ver, .int .i64 seq, .int .i64 kind, .bool txn, .string text] 55)) := (Below.refl _ _).alloc (by first | omega | (simp; done) | (simp; omega)) _
  have b_bx1 : Blk (w.alloc (.cells #[.int .i64 ep, .int .i64 pid, .int .i64 ver, .int .i64 seq, .int .i64 kind, .bool txn, .string text] 55)) (w.heap.size) 55 #[.int .i64 ep, .int .i64 pid, .int .i64 ver, .int .i64 seq, .int .i64 kind, .bool txn, .string text] := Blk.new_ _ 55 #[.int .i64 ep, .int .i64 pid, .int .i64 ver, .int .i64 seq, .int .i64 kind, .bool txn, .string text] (by first | rfl | (simp; done) | (simp; omega))
  have hz1 : w.heap.size + 1 ≤ (w.alloc (.cells #[.int .i64 ep, .int .i64 pid, .int .i64 ver, .int .i64 seq, .int .i64 kind, .bool txn, .string text] 55)).heap.size := by first | omega | (simp; done) | (simp; omega)
  generalize w.alloc (.cells #[.int .i64 ep, .int .i64 pid, .int .i64 ver, .int .i64 seq, .int .i64 kind, .bool txn, .string text] 55) = W1 at *
  have HB1 := Lib.hid hb1
  have B1_bx := Lib.hid b_bx1
  clear hb1 b_bx1
  have c_bx0 := B1_bx.out.cell 0
  have c_bx1 := B1_bx.out.cell 1
  have c_bx2 := B1_bx.out.cell 2
  have c_bx3 := B1_bx.out.cell 3
  have c_bx4 := B1_bx.out.cell 4
  have c_bx5 := B1_bx.out.cell 5
  have c_bx6 := B1_bx.out.cell 6
  have l_bx := B1_bx.out.lt
  go_wp2_with fail
  refine (verOf_any _ es pid _ (H.out.below HB1.out) hl).mono ?_
  rintro e w9 ⟨rfl, he9⟩
  obtain rfl := he9.symm
  clear he9
  rw [HVT.out]
  go_wp2_with fail
  refine (markOf_any _ es pid _ (H.out.below HB1.out) hl).mono ?_
  rintro e w9 ⟨rfl, he9⟩
  obtain rfl := he9.symm
  clear he9
  rw [HMT.out]
  have hq : ∀ m, Calls Try.prog 111 #[.slice (some ⟨b1, o1, none⟩) es.length c, .int .i64 pid] (W1.drewN m) fun e w'' => e = .returned (.int .i64 oT) ∧ ∃ m', w'' = W1.drewN m' := fun m => Calls.quiet_of_same (by
    have h := openOf_any _ es pid (W1.drewN m) (H.out.below (below_then HB1.out (below_dn _ _))) hl
    rw [HOT.out] at h
    exact h)
  have HQ := Lib.hid hq
  clear hq
  have y2 := (HB1.out.cell (p := ⟨b1, o1 + m * 7 + 2, none⟩) hb1).trans XC.out.1
  have y4 := (HB1.out.cell (p := ⟨b1, o1 + m * 7 + 4, none⟩) hb1).trans XC.out.2
  have yl := Nat.lt_of_lt_of_le hb1 HB1.out.size
  go_wp2_with fail
  go_quiet ((go_at_call 111; exact HQ.out _))
  clear c_bx0 c_bx1 c_bx2 c_bx3 c_bx4 c_bx5 c_bx6 l_bx y2 y4 yl
  generalize hd : World.drewN W1 _ = W2 at *
  have hb : Below W1.heap.size W1 W2 := by rw [← hd]; exact below_dn _ _
  have hb2 : Below w.heap.size w W2 := below_then HB1.out hb
  have b_bx2 := B1_bx.out.below hb B1_bx.out.lt
  have hz2 := hb.size
  have HB2 := Lib.hid hb2
  have B2_bx := Lib.hid b_bx2
  clear hb2 b_bx2
  clear B1_bx HB1
  clear hd hb
  go_wp2
  go_ret2
  exact ⟨rfl, HB2.out⟩
set_option maxRecDepth 100000 in
set_option maxHeartbeats 4000000 in
theorem checkedOf_mark (v : Value) (es : List Ent) (x : Ent) (w : World) (h : Es w v es) (hl : es.length ≤ 9223372036854775806) (hx : 0 ≤ x.ver ∧ x.ver ≤ 1073741824 ∧ 0 ≤ x.seq ∧ x.seq ≤ 1073741824 ∧ 0 ≤ x.pid ∧ x.pid ≤ 1073741824) (h0 : x.pid ≠ 0) (q : PrD) {vT mT oT sT : Int} (hr : RefQ es x q vT mT oT sT) (hf : ¬ x.ver < q.ver) (hk : x.kind ≠ 1) (ho : q.opn < 0) (m : Nat) (hm : q.mark = m ∧ m < es.length) (h1 : ∀ hm : m < es.length, es[m].kind = x.kind) (h2 : ∀ hm : m < es.length, es[m].ver = x.ver) :
    Calls Try.prog 98 #[v, .agg #[.int .i64 x.ep, .int .i64 x.pid, .int .i64 x.ver, .int .i64 x.seq, .int .i64 x.kind, .bool x.txn, .string x.text]] w fun e w' => e = .returned (.tuple #[.int .i64 m, .int .i64 0]) ∧ Below w.heap.size w w' := by
  obtain ⟨A, c, rfl, hc, hx1⟩ := h.at_
  have HX := Lib.hid hx1
  have H := Lib.hid h
  obtain ⟨x0, x1, x2, x3, x4, x5⟩ := hx
  obtain ⟨hv_, hm_, ho_, hs_, hfe, hmk, hon, ⟨b1_, b2_, b3_, b4_⟩, hnew, hold⟩ := hr
  have z1 : (x.pid == 0) = false := beq_eq_false_iff_ne.2 h0
  have HVT := Lib.hid hv_
  have HMT := Lib.hid hm_
  have HOT := Lib.hid ho_
  have HST := Lib.hid hs_
  clear h hx1 h0 hv_ hm_ ho_ hs_
  have z2 : decide (x.ver < vT) = false := decide_eq_false (fun h => hf (hfe.1 h))
  have z3 : (x.kind != 1) = true := by simpa using hk
  clear hk
  have z5 : decide (oT < 0) = true := decide_eq_true (by omega)
  clear ho
  obtain ⟨hm1, hml⟩ := hm
  have m0 : (0 : Int) ≤ (m : Int) := by omega
  have m1 : (m : Int) < (es.length : Int) := by omega
  have hmT : mT = (m : Int) := by omega
  obtain ⟨b1, o1, rfl, hb1, hcell⟩ := HX.out (by omega)
  obtain ⟨-, -, y2, -, y4, -, -⟩ := hcell m hml
  have XC := Lib.hid (And.intro y2 y4)
  clear hcell y2 y4 HX
  have z4 : decide (0 ≤ mT) = true := decide_eq_true (by omega)
  have z6 : (es[m].kind == x.kind) = true := beq_iff_eq.2 (h1 hml)
  have z7 : (es[m].ver == x.ver) = true := beq_iff_eq.2 (h2 hml)
  clear h1 h2
  clear hf
  clear hfe hmk hon hnew hold
  obtain ⟨ep, pid, ver, seq, kind, txn, text⟩ := x
  obtain ⟨qv, qs, qo, qm⟩ := q
  simp only at *
  subst hmT
  clear hm1
  generalize es[m].kind = mk at *
  generalize es[m].ver = mv at *
  go_enter Try.func98, Try.ntmps98
  go_wp2_with fail
  have hb1 : Below w.heap.size w (w.alloc (.cells #[.int .i64 ep, .int .i64 pid, .int .i64 ver, .int .i64 seq, .int .i64 kind, .bool txn, .string text] 55)) := (Below.refl _ _).alloc (by first | omega | (simp; done) | (simp; omega)) _
  have hal1 : Below w.heap.size w (w.alloc (.cells #[.int .i64 ep, .int .i64 pid, .int .i64 ver, .int .i64 seq, .int .i64 kind, .bool txn, .string text] 55)) := (Below.refl _ _).alloc (by first | omega | (simp; done) | (simp; omega)) _
  have b_bx1 : Blk (w.alloc (.cells #[.int .i64 ep, .int .i64 pid, .int .i64 ver, .int .i64 seq, .int .i64 kind, .bool txn, .string text] 55)) (w.heap.size) 55 #[.int .i64 ep, .int .i64 pid, .int .i64 ver, .int .i64 seq, .int .i64 kind, .bool txn, .string text] := Blk.new_ _ 55 #[.int .i64 ep, .int .i64 pid, .int .i64 ver, .int .i64 seq, .int .i64 kind, .bool txn, .string text] (by first | rfl | (simp; done) | (simp; omega))
  have hz1 : w.heap.size + 1 ≤ (w.alloc (.cells #[.int .i64 ep, .int .i64 pid, .int .i64 ver, .int .i64 seq, .int .i64 kind, .bool txn, .string text] 55)).heap.size := by first | omega | (simp; done) | (simp; omega)
  generalize w.alloc (.cells #[.int .i64 ep, .int .i64 pid, .int .i64 ver, .int .i64 seq, .int .i64 kind, .bool txn, .string text] 55) = W1 at *
  have HB1 := Lib.hid hb1
  have B1_bx := Lib.hid b_bx1
  clear hb1 b_bx1
  have c_bx0 := B1_bx.out.cell 0
  have c_bx1 := B1_bx.out.cell 1
  have c_bx2 := B1_bx.out.cell 2
  have c_bx3 := B1_bx.out.cell 3
  have c_bx4 := B1_bx.out.cell 4
  have c_bx5 := B1_bx.out.cell 5
  have c_bx6 := B1_bx.out.cell 6
  have l_bx := B1_bx.out.lt
  go_wp2_with fail
  refine (verOf_any _ es pid _ (H.out.below HB1.out) hl).mono ?_
  rintro e w9 ⟨rfl, he9⟩
  obtain rfl := he9.symm
  clear he9
  rw [HVT.out]
  go_wp2_with fail
  refine (markOf_any _ es pid _ (H.out.below HB1.out) hl).mono ?_
  rintro e w9 ⟨rfl, he9⟩
  obtain rfl := he9.symm
  clear he9
  rw [HMT.out]
  have hq : ∀ m, Calls Try.prog 111 #[.slice (some ⟨b1, o1, none⟩) es.length c, .int .i64 pid] (W1.drewN m) fun e w'' => e = .returned (.int .i64 oT) ∧ ∃ m', w'' = W1.drewN m' := fun m => Calls.quiet_of_same (by
    have h := openOf_any _ es pid (W1.drewN m) (H.out.below (below_then HB1.out (below_dn _ _))) hl
    rw [HOT.out] at h
    exact h)
  have HQ := Lib.hid hq
  clear hq
  have y2 := (HB1.out.cell (p := ⟨b1, o1 + m * 7 + 2, none⟩) hb1).trans XC.out.1
  have y4 := (HB1.out.cell (p := ⟨b1, o1 + m * 7 + 4, none⟩) hb1).trans XC.out.2
  have yl := Nat.lt_of_lt_of_le hb1 HB1.out.size
  go_wp2_with fail
  go_quiet ((go_at_call 111; exact HQ.out _))
  clear c_bx0 c_bx1 c_bx2 c_bx3 c_bx4 c_bx5 c_bx6 l_bx y2 y4 yl
  generalize hd : World.drewN W1 _ = W2 at *
  have hb : Below W1.heap.size W1 W2 := by rw [← hd]; exact below_dn _ _
  have hb2 : Below w.heap.size w W2 := below_then HB1.out hb
  have b_bx2 := B1_bx.out.below hb B1_bx.out.lt
  have hz2 := hb.size
  have HB2 := Lib.hid hb2
  have B2_bx := Lib.hid b_bx2
  clear hb2 b_bx2
  clear B1_bx HB1
  clear hd hb
  go_wp2
  go_ret2
  exact ⟨rfl, HB2.out⟩
set_option maxRecDepth 100000 in
set_option maxHeartbeats 4000000 in
theorem checkedOf_gap_old (v : Value) (es : List Ent) (x : Ent) (w : World) (h : Es w v es) (hl : es.length ≤ 9223372036854775806) (hx : 0 ≤ x.ver ∧ x.ver ≤ 1073741824 ∧ 0 ≤ x.seq ∧ x.seq ≤ 1073741824 ∧ 0 ≤ x.pid ∧ x.pid ≤ 1073741824) (h0 : x.pid ≠ 0) (q : PrD) {vT mT oT sT : Int} (hr : RefQ es x q vT mT oT sT) (hf : ¬ x.ver < q.ver) (hk : x.kind = 1) (hv : x.ver = vT) (hg : sT + 1 < x.seq) :
    Calls Try.prog 98 #[v, .agg #[.int .i64 x.ep, .int .i64 x.pid, .int .i64 x.ver, .int .i64 x.seq, .int .i64 x.kind, .bool x.txn, .string x.text]] w fun e w' => e = .returned (.tuple #[.int .i64 0, .int .i64 11]) ∧ Below w.heap.size w w' := by
  obtain ⟨A, c, rfl, hc, hx1⟩ := h.at_
  have HX := Lib.hid hx1
  have H := Lib.hid h
  obtain ⟨x0, x1, x2, x3, x4, x5⟩ := hx
  obtain ⟨hv_, hm_, ho_, hs_, hfe, hmk, hon, ⟨b1_, b2_, b3_, b4_⟩, hnew, hold⟩ := hr
  have z1 : (x.pid == 0) = false := beq_eq_false_iff_ne.2 h0
  have HVT := Lib.hid hv_
  have HMT := Lib.hid hm_
  have HOT := Lib.hid ho_
  have HST := Lib.hid hs_
  clear h hx1 h0 hv_ hm_ ho_ hs_
  have z2 : decide (x.ver < vT) = false := decide_eq_false (fun h => hf (hfe.1 h))
  have z3 : (x.kind != 1) = false := by simpa using hk
  clear hk
  have z4 : (x.ver == vT) = true := beq_iff_eq.2 hv
  clear hf hv
  have z5 : decide ((sT + 1) < x.seq) = true := decide_eq_true (by omega)
  have z6 : (x.seq == (sT + 1)) = false := beq_eq_false_iff_ne.2 (by omega)
  clear hg
  clear hfe hmk hon hnew hold
  obtain ⟨ep, pid, ver, seq, kind, txn, text⟩ := x
  obtain ⟨qv, qs, qo, qm⟩ := q
  simp only at *
  go_enter Try.func98, Try.ntmps98
  go_wp2_with fail
  have hb1 : Below w.heap.size w (w.alloc (.cells #[.int .i64 ep, .int .i64 pid, .int .i64 ver, .int .i64 seq, .int .i64 kind, .bool txn, .string text] 55)) := (Below.refl _ _).alloc (by first | omega | (simp; done) | (simp; omega)) _
  have hal1 : Below w.heap.size w (w.alloc (.cells #[.int .i64 ep, .int .i64 pid, .int .i64 ver, .int .i64 seq, .int .i64 kind, .bool txn, .string text] 55)) := (Below.refl _ _).alloc (by first | omega | (simp; done) | (simp; omega)) _
  have b_bx1 : Blk (w.alloc (.cells #[.int .i64 ep, .int .i64 pid, .int .i64 ver, .int .i64 seq, .int .i64 kind, .bool txn, .string text] 55)) (w.heap.size) 55 #[.int .i64 ep, .int .i64 pid, .int .i64 ver, .int .i64 seq, .int .i64 kind, .bool txn, .string text] := Blk.new_ _ 55 #[.int .i64 ep, .int .i64 pid, .int .i64 ver, .int .i64 seq, .int .i64 kind, .bool txn, .string text] (by first | rfl | (simp; done) | (simp; omega))
  have hz1 : w.heap.size + 1 ≤ (w.alloc (.cells #[.int .i64 ep, .int .i64 pid, .int .i64 ver, .int .i64 seq, .int .i64 kind, .bool txn, .string text] 55)).heap.size := by first | omega | (simp; done) | (simp; omega)
  generalize w.alloc (.cells #[.int .i64 ep, .int .i64 pid, .int .i64 ver, .int .i64 seq, .int .i64 kind, .bool txn, .string text] 55) = W1 at *
  have HB1 := Lib.hid hb1
  have B1_bx := Lib.hid b_bx1
  clear hb1 b_bx1
  have c_bx0 := B1_bx.out.cell 0
  have c_bx1 := B1_bx.out.cell 1
  have c_bx2 := B1_bx.out.cell 2
  have c_bx3 := B1_bx.out.cell 3
  have c_bx4 := B1_bx.out.cell 4
  have c_bx5 := B1_bx.out.cell 5
  have c_bx6 := B1_bx.out.cell 6
  have l_bx := B1_bx.out.lt
  go_wp2_with fail
  refine (verOf_any _ es pid _ (H.out.below HB1.out) hl).mono ?_
  rintro e w9 ⟨rfl, he9⟩
  obtain rfl := he9.symm
  clear he9
  rw [HVT.out]
  go_wp2_with fail
  refine (seqOf_any _ es pid _ (H.out.below HB1.out) hl).mono ?_
  rintro e w9 ⟨rfl, he9⟩
  obtain rfl := he9.symm
  clear he9
  rw [HST.out]
  go_wp2
  go_ret2
  exact ⟨rfl, HB1.out⟩
set_option maxRecDepth 100000 in
set_option maxHeartbeats 4000000 in
theorem checkedOf_next_old (v : Value) (es : List Ent) (x : Ent) (w : World) (h : Es w v es) (hl : es.length ≤ 9223372036854775806) (hx : 0 ≤ x.ver ∧ x.ver ≤ 1073741824 ∧ 0 ≤ x.seq ∧ x.seq ≤ 1073741824 ∧ 0 ≤ x.pid ∧ x.pid ≤ 1073741824) (h0 : x.pid ≠ 0) (q : PrD) {vT mT oT sT : Int} (hr : RefQ es x q vT mT oT sT) (hf : ¬ x.ver < q.ver) (hk : x.kind = 1) (hv : x.ver = vT) (hg : x.seq = sT + 1) :
    Calls Try.prog 98 #[v, .agg #[.int .i64 x.ep, .int .i64 x.pid, .int .i64 x.ver, .int .i64 x.seq, .int .i64 x.kind, .bool x.txn, .string x.text]] w fun e w' => e = .returned (.tuple #[.int .i64 (-1), .int .i64 0]) ∧ Below w.heap.size w w' := by
  obtain ⟨A, c, rfl, hc, hx1⟩ := h.at_
  have HX := Lib.hid hx1
  have H := Lib.hid h
  obtain ⟨x0, x1, x2, x3, x4, x5⟩ := hx
  obtain ⟨hv_, hm_, ho_, hs_, hfe, hmk, hon, ⟨b1_, b2_, b3_, b4_⟩, hnew, hold⟩ := hr
  have z1 : (x.pid == 0) = false := beq_eq_false_iff_ne.2 h0
  have HVT := Lib.hid hv_
  have HMT := Lib.hid hm_
  have HOT := Lib.hid ho_
  have HST := Lib.hid hs_
  clear h hx1 h0 hv_ hm_ ho_ hs_
  have z2 : decide (x.ver < vT) = false := decide_eq_false (fun h => hf (hfe.1 h))
  have z3 : (x.kind != 1) = false := by simpa using hk
  clear hk
  have z4 : (x.ver == vT) = true := beq_iff_eq.2 hv
  clear hf hv
  have z6 : (x.seq == (sT + 1)) = true := beq_iff_eq.2 (by omega)
  clear hg
  clear hfe hmk hon hnew hold
  obtain ⟨ep, pid, ver, seq, kind, txn, text⟩ := x
  obtain ⟨qv, qs, qo, qm⟩ := q
  simp only at *
  go_enter Try.func98, Try.ntmps98
  go_wp2_with fail
  have hb1 : Below w.heap.size w (w.alloc (.cells #[.int .i64 ep, .int .i64 pid, .int .i64 ver, .int .i64 seq, .int .i64 kind, .bool txn, .string text] 55)) := (Below.refl _ _).alloc (by first | omega | (simp; done) | (simp; omega)) _
  have hal1 : Below w.heap.size w (w.alloc (.cells #[.int .i64 ep, .int .i64 pid, .int .i64 ver, .int .i64 seq, .int .i64 kind, .bool txn, .string text] 55)) := (Below.refl _ _).alloc (by first | omega | (simp; done) | (simp; omega)) _
  have b_bx1 : Blk (w.alloc (.cells #[.int .i64 ep, .int .i64 pid, .int .i64 ver, .int .i64 seq, .int .i64 kind, .bool txn, .string text] 55)) (w.heap.size) 55 #[.int .i64 ep, .int .i64 pid, .int .i64 ver, .int .i64 seq, .int .i64 kind, .bool txn, .string text] := Blk.new_ _ 55 #[.int .i64 ep, .int .i64 pid, .int .i64 ver, .int .i64 seq, .int .i64 kind, .bool txn, .string text] (by first | rfl | (simp; done) | (simp; omega))
  have hz1 : w.heap.size + 1 ≤ (w.alloc (.cells #[.int .i64 ep, .int .i64 pid, .int .i64 ver, .int .i64 seq, .int .i64 kind, .bool txn, .string text] 55)).heap.size := by first | omega | (simp; done) | (simp; omega)
  generalize w.alloc (.cells #[.int .i64 ep, .int .i64 pid, .int .i64 ver, .int .i64 seq, .int .i64 kind, .bool txn, .string text] 55) = W1 at *
  have HB1 := Lib.hid hb1
  have B1_bx := Lib.hid b_bx1
  clear hb1 b_bx1
  have c_bx0 := B1_bx.out.cell 0
  have c_bx1 := B1_bx.out.cell 1
  have c_bx2 := B1_bx.out.cell 2
  have c_bx3 := B1_bx.out.cell 3
  have c_bx4 := B1_bx.out.cell 4
  have c_bx5 := B1_bx.out.cell 5
  have c_bx6 := B1_bx.out.cell 6
  have l_bx := B1_bx.out.lt
  go_wp2_with fail
  refine (verOf_any _ es pid _ (H.out.below HB1.out) hl).mono ?_
  rintro e w9 ⟨rfl, he9⟩
  obtain rfl := he9.symm
  clear he9
  rw [HVT.out]
  go_wp2_with fail
  refine (seqOf_any _ es pid _ (H.out.below HB1.out) hl).mono ?_
  rintro e w9 ⟨rfl, he9⟩
  obtain rfl := he9.symm
  clear he9
  rw [HST.out]
  go_wp2
  go_ret2
  exact ⟨rfl, HB1.out⟩
set_option maxRecDepth 100000 in
set_option maxHeartbeats 4000000 in
theorem checkedOf_find_old (v : Value) (es : List Ent) (x : Ent) (w : World) (h : Es w v es) (hl : es.length ≤ 9223372036854775806) (hx : 0 ≤ x.ver ∧ x.ver ≤ 1073741824 ∧ 0 ≤ x.seq ∧ x.seq ≤ 1073741824 ∧ 0 ≤ x.pid ∧ x.pid ≤ 1073741824) (h0 : x.pid ≠ 0) (q : PrD) {vT mT oT sT : Int} (hr : RefQ es x q vT mT oT sT) (hf : ¬ x.ver < q.ver) (hk : x.kind = 1) (hv : x.ver = vT) (hg : x.seq < sT + 1) {n cd : Int} (hfi : FindTo es x n cd) :
    Calls Try.prog 98 #[v, .agg #[.int .i64 x.ep, .int .i64 x.pid, .int .i64 x.ver, .int .i64 x.seq, .int .i64 x.kind, .bool x.txn, .string x.text]] w fun e w' => e = .returned (.tuple #[.int .i64 n, .int .i64 cd]) ∧ Below w.heap.size w w' := by
  obtain ⟨A, c, rfl, hc, hx1⟩ := h.at_
  have HX := Lib.hid hx1
  have H := Lib.hid h
  obtain ⟨x0, x1, x2, x3, x4, x5⟩ := hx
  obtain ⟨hv_, hm_, ho_, hs_, hfe, hmk, hon, ⟨b1_, b2_, b3_, b4_⟩, hnew, hold⟩ := hr
  have z1 : (x.pid == 0) = false := beq_eq_false_iff_ne.2 h0
  have HVT := Lib.hid hv_
  have HMT := Lib.hid hm_
  have HOT := Lib.hid ho_
  have HST := Lib.hid hs_
  clear h hx1 h0 hv_ hm_ ho_ hs_
  have z2 : decide (x.ver < vT) = false := decide_eq_false (fun h => hf (hfe.1 h))
  have z3 : (x.kind != 1) = false := by simpa using hk
  clear hk
  have z4 : (x.ver == vT) = true := beq_iff_eq.2 hv
  clear hf hv
  have z5 : decide ((sT + 1) < x.seq) = false := decide_eq_false (by omega)
  have z6 : (x.seq == (sT + 1)) = false := beq_eq_false_iff_ne.2 (by omega)
  have HFT := Lib.hid hfi
  clear hg hfi
  clear hfe hmk hon hnew hold
  obtain ⟨ep, pid, ver, seq, kind, txn, text⟩ := x
  obtain ⟨qv, qs, qo, qm⟩ := q
  simp only at *
  go_enter Try.func98, Try.ntmps98
  go_wp2_with fail
  have hb1 : Below w.heap.size w (w.alloc (.cells #[.int .i64 ep, .int .i64 pid, .int .i64 ver, .int .i64 seq, .int .i64 kind, .bool txn, .string text] 55)) := (Below.refl _ _).alloc (by first | omega | (simp; done) | (simp; omega)) _
  have hal1 : Below w.heap.size w (w.alloc (.cells #[.int .i64 ep, .int .i64 pid, .int .i64 ver, .int .i64 seq, .int .i64 kind, .bool txn, .string text] 55)) := (Below.refl _ _).alloc (by first | omega | (simp; done) | (simp; omega)) _
  have b_bx1 : Blk (w.alloc (.cells #[.int .i64 ep, .int .i64 pid, .int .i64 ver, .int .i64 seq, .int .i64 kind, .bool txn, .string text] 55)) (w.heap.size) 55 #[.int .i64 ep, .int .i64 pid, .int .i64 ver, .int .i64 seq, .int .i64 kind, .bool txn, .string text] := Blk.new_ _ 55 #[.int .i64 ep, .int .i64 pid, .int .i64 ver, .int .i64 seq, .int .i64 kind, .bool txn, .string text] (by first | rfl | (simp; done) | (simp; omega))
  have hz1 : w.heap.size + 1 ≤ (w.alloc (.cells #[.int .i64 ep, .int .i64 pid, .int .i64 ver, .int .i64 seq, .int .i64 kind, .bool txn, .string text] 55)).heap.size := by first | omega | (simp; done) | (simp; omega)
  generalize w.alloc (.cells #[.int .i64 ep, .int .i64 pid, .int .i64 ver, .int .i64 seq, .int .i64 kind, .bool txn, .string text] 55) = W1 at *
  have HB1 := Lib.hid hb1
  have B1_bx := Lib.hid b_bx1
  clear hb1 b_bx1
  have c_bx0 := B1_bx.out.cell 0
  have c_bx1 := B1_bx.out.cell 1
  have c_bx2 := B1_bx.out.cell 2
  have c_bx3 := B1_bx.out.cell 3
  have c_bx4 := B1_bx.out.cell 4
  have c_bx5 := B1_bx.out.cell 5
  have c_bx6 := B1_bx.out.cell 6
  have l_bx := B1_bx.out.lt
  go_wp2_with fail
  refine (verOf_any _ es pid _ (H.out.below HB1.out) hl).mono ?_
  rintro e w9 ⟨rfl, he9⟩
  obtain rfl := he9.symm
  clear he9
  rw [HVT.out]
  go_wp2_with fail
  refine (seqOf_any _ es pid _ (H.out.below HB1.out) hl).mono ?_
  rintro e w9 ⟨rfl, he9⟩
  obtain rfl := he9.symm
  clear he9
  rw [HST.out]
  go_wp2_with fail
  clear c_bx0 c_bx1 c_bx2 c_bx3 c_bx4 c_bx5 c_bx6 l_bx
  go_loopw [9] (fun y wr => ∃ k : Nat, k ≤ es.length ∧ y = .int .i64 k ∧ Hid (Blk wr w.heap.size 55 #[.int .i64 ep, .int .i64 pid, .int .i64 ver, .int .i64 seq, .int .i64 kind, .bool txn, .string text]) ∧ Hid (Below w.heap.size w wr) ∧ Hid (∀ j : Nat, j < k → ¬ SameAt es ⟨ep, pid, ver, seq, kind, txn, text⟩ j)) (fun y _ => es.length - (intOf y).toNat)
  case atStart => exact ⟨0, Nat.zero_le _, rfl, B1_bx, HB1, Lib.hid (fun j h => by omega)⟩
  case round =>
    obtain ⟨k, hk, rfl, HBX2, HB2, HN⟩ := hrel
    have c1 := HBX2.out.cell 1
    have c2 := HBX2.out.cell 2
    have c3 := HBX2.out.cell 3
    have cl := HBX2.out.lt
    by_cases hlt : k < es.length
    · obtain ⟨b1, o1, rfl, hb1, hcell⟩ := HX.out (Nat.lt_of_le_of_lt (Nat.zero_le _) hlt)
      obtain ⟨-, y1, y2, y3, y4, -, -⟩ := hcell k hlt
      have hnext : ¬ SameAt es ⟨ep, pid, ver, seq, kind, txn, text⟩ k → ∀ j : Nat, j < k + 1 → ¬ SameAt es ⟨ep, pid, ver, seq, kind, txn, text⟩ j := fun hn j h2 => by
        rcases Nat.lt_succ_iff_lt_or_eq.1 h2 with h' | rfl
        · exact HN.out j h'
        · exact hn
      have HNX := Lib.hid hnext
      have HAT := Lib.hid (show SameAt es ⟨ep, pid, ver, seq, kind, txn, text⟩ k ↔ es[k].kind = 1 ∧ es[k].pid = pid ∧ es[k].ver = ver ∧ es[k].seq = seq from ⟨fun ⟨_, h⟩ => h, fun h => ⟨hlt, h⟩⟩)
      clear hnext hcell
      generalize es[k] = y at *
      obtain ⟨e0, e1, e2, e3, e4, e5, e6⟩ := y
      simp only at *
      have Y1 := (HB2.out.cell (p := ⟨b1, o1 + k * 7 + 1, none⟩) hb1).trans y1
      have Y2 := (HB2.out.cell (p := ⟨b1, o1 + k * 7 + 2, none⟩) hb1).trans y2
      have Y3 := (HB2.out.cell (p := ⟨b1, o1 + k * 7 + 3, none⟩) hb1).trans y3
      have Y4 := (HB2.out.cell (p := ⟨b1, o1 + k * 7 + 4, none⟩) hb1).trans y4
      have yl := Nat.lt_of_lt_of_le hb1 HB2.out.size
      have kk0 : (0 : Int) ≤ (k : Int) := by omega
      have kk1 : (k : Int) < (es.length : Int) := by omega
      clear y1 y2 y3 y4
      by_cases g0 : e4 = 1
      · have u0 : (e4 == 1) = true := beq_iff_eq.2 g0
        by_cases g1 : e1 = pid
        · have u1 : (e1 == pid) = true := beq_iff_eq.2 g1
          by_cases g2 : e2 = ver
          · have u2 : (e2 == ver) = true := beq_iff_eq.2 g2
            by_cases g3 : e3 = seq
            · have u3 : (e3 == seq) = true := beq_iff_eq.2 g3
              have hat := HAT.out.2 ⟨g0, g1, g2, g3⟩
              have hu := HFT.out.unique (.at_ k hat HN.out)
              have HU := Lib.hid hu
              clear g0 g1 g2 g3 hat hu
              go_wp2
              go_quiet (fail)
              go_wp2
              go_ret2
              exact ⟨by rw [HU.out.1, HU.out.2]; rfl, below_then HB2.out (below_dn _ _)⟩
            · have u3 : (e3 == seq) = false := beq_eq_false_iff_ne.2 g3
              have H2 := Lib.hid (HNX.out (fun h => g3 (HAT.out.1 h).2.2.2))
              clear HNX HAT g0 g1 g2 g3
              go_wp2
              go_quiet (fail)
              go_wp2
              go_light
              exact ⟨⟨k + 1, by omega, by go_num, Lib.hid (HBX2.out.below (below_dn _ _) HBX2.out.lt), Lib.hid (below_then HB2.out (below_dn _ _)), H2⟩, by simp [intOf]; omega⟩
          · have u2 : (e2 == ver) = false := beq_eq_false_iff_ne.2 g2
            have H2 := Lib.hid (HNX.out (fun h => g2 (HAT.out.1 h).2.2.1))
            clear HNX HAT g0 g1 g2
            go_wp2
            go_quiet (fail)
            go_wp2
            go_light
            exact ⟨⟨k + 1, by omega, by go_num, Lib.hid (HBX2.out.below (below_dn _ _) HBX2.out.lt), Lib.hid (below_then HB2.out (below_dn _ _)), H2⟩, by simp [intOf]; omega⟩
        · have u1 : (e1 == pid) = false := beq_eq_false_iff_ne.2 g1
          have H2 := Lib.hid (HNX.out (fun h => g1 (HAT.out.1 h).2.1))
          clear HNX HAT g0 g1
          go_wp2
          go_quiet (fail)
          go_wp2
          go_light
          exact ⟨⟨k + 1, by omega, by go_num, Lib.hid (HBX2.out.below (below_dn _ _) HBX2.out.lt), Lib.hid (below_then HB2.out (below_dn _ _)), H2⟩, by simp [intOf]; omega⟩
      · have u0 : (e4 == 1) = false := beq_eq_false_iff_ne.2 g0
        have H2 := Lib.hid (HNX.out (fun h => g0 (HAT.out.1 h).1))
        clear HNX HAT g0
        go_wp2
        go_quiet (fail)
        go_wp2
        go_light
        exact ⟨⟨k + 1, by omega, by go_num, Lib.hid (HBX2.out.below (below_dn _ _) HBX2.out.lt), Lib.hid (below_then HB2.out (below_dn _ _)), H2⟩, by simp [intOf]; omega⟩
    · obtain rfl : k = es.length := by omega
      have hu := HFT.out.unique (.no (fun j hj => HN.out j hj.1 hj))
      have HU := Lib.hid hu
      clear hu
      go_wp2
      go_ret2
      exact ⟨by rw [HU.out.1, HU.out.2]; rfl, HB2.out⟩
set_option maxRecDepth 100000 in
set_option maxHeartbeats 4000000 in
theorem checkedOf_gap_new (v : Value) (es : List Ent) (x : Ent) (w : World) (h : Es w v es) (hl : es.length ≤ 9223372036854775806) (hx : 0 ≤ x.ver ∧ x.ver ≤ 1073741824 ∧ 0 ≤ x.seq ∧ x.seq ≤ 1073741824 ∧ 0 ≤ x.pid ∧ x.pid ≤ 1073741824) (h0 : x.pid ≠ 0) (q : PrD) {vT mT oT sT : Int} (hr : RefQ es x q vT mT oT sT) (hf : ¬ x.ver < q.ver) (hk : x.kind = 1) (hv : x.ver ≠ vT) (hg : -1 + 1 < x.seq) :
    Calls Try.prog 98 #[v, .agg #[.int .i64 x.ep, .int .i64 x.pid, .int .i64 x.ver, .int .i64 x.seq, .int .i64 x.kind, .bool x.txn, .string x.text]] w fun e w' => e = .returned (.tuple #[.int .i64 0, .int .i64 11]) ∧ Below w.heap.size w w' := by
  obtain ⟨A, c, rfl, hc, hx1⟩ := h.at_
  have HX := Lib.hid hx1
  have H := Lib.hid h
  obtain ⟨x0, x1, x2, x3, x4, x5⟩ := hx
  obtain ⟨hv_, hm_, ho_, hs_, hfe, hmk, hon, ⟨b1_, b2_, b3_, b4_⟩, hnew, hold⟩ := hr
  have z1 : (x.pid == 0) = false := beq_eq_false_iff_ne.2 h0
  have HVT := Lib.hid hv_
  have HMT := Lib.hid hm_
  have HOT := Lib.hid ho_
  have HST := Lib.hid hs_
  clear h hx1 h0 hv_ hm_ ho_ hs_
  have z2 : decide (x.ver < vT) = false := decide_eq_false (fun h => hf (hfe.1 h))
  have z3 : (x.kind != 1) = false := by simpa using hk
  clear hk
  have z4 : (x.ver == vT) = false := beq_eq_false_iff_ne.2 hv
  clear hf hv
  have z5 : decide (0 < x.seq) = true := decide_eq_true (by omega)
  have z6 : (x.seq == 0) = false := beq_eq_false_iff_ne.2 (by omega)
  clear hg
  clear hfe hmk hon hnew hold
  obtain ⟨ep, pid, ver, seq, kind, txn, text⟩ := x
  obtain ⟨qv, qs, qo, qm⟩ := q
  simp only at *
  go_enter Try.func98, Try.ntmps98
  go_wp2_with fail
  have hb1 : Below w.heap.size w (w.alloc (.cells #[.int .i64 ep, .int .i64 pid, .int .i64 ver, .int .i64 seq, .int .i64 kind, .bool txn, .string text] 55)) := (Below.refl _ _).alloc (by first | omega | (simp; done) | (simp; omega)) _
  have hal1 : Below w.heap.size w (w.alloc (.cells #[.int .i64 ep, .int .i64 pid, .int .i64 ver, .int .i64 seq, .int .i64 kind, .bool txn, .string text] 55)) := (Below.refl _ _).alloc (by first | omega | (simp; done) | (simp; omega)) _
  have b_bx1 : Blk (w.alloc (.cells #[.int .i64 ep, .int .i64 pid, .int .i64 ver, .int .i64 seq, .int .i64 kind, .bool txn, .string text] 55)) (w.heap.size) 55 #[.int .i64 ep, .int .i64 pid, .int .i64 ver, .int .i64 seq, .int .i64 kind, .bool txn, .string text] := Blk.new_ _ 55 #[.int .i64 ep, .int .i64 pid, .int .i64 ver, .int .i64 seq, .int .i64 kind, .bool txn, .string text] (by first | rfl | (simp; done) | (simp; omega))
  have hz1 : w.heap.size + 1 ≤ (w.alloc (.cells #[.int .i64 ep, .int .i64 pid, .int .i64 ver, .int .i64 seq, .int .i64 kind, .bool txn, .string text] 55)).heap.size := by first | omega | (simp; done) | (simp; omega)
  generalize w.alloc (.cells #[.int .i64 ep, .int .i64 pid, .int .i64 ver, .int .i64 seq, .int .i64 kind, .bool txn, .string text] 55) = W1 at *
  have HB1 := Lib.hid hb1
  have B1_bx := Lib.hid b_bx1
  clear hb1 b_bx1
  have c_bx0 := B1_bx.out.cell 0
  have c_bx1 := B1_bx.out.cell 1
  have c_bx2 := B1_bx.out.cell 2
  have c_bx3 := B1_bx.out.cell 3
  have c_bx4 := B1_bx.out.cell 4
  have c_bx5 := B1_bx.out.cell 5
  have c_bx6 := B1_bx.out.cell 6
  have l_bx := B1_bx.out.lt
  go_wp2_with fail
  refine (verOf_any _ es pid _ (H.out.below HB1.out) hl).mono ?_
  rintro e w9 ⟨rfl, he9⟩
  obtain rfl := he9.symm
  clear he9
  rw [HVT.out]
  go_wp2_with fail
  go_wp2
  go_ret2
  exact ⟨rfl, HB1.out⟩
set_option maxRecDepth 100000 in
set_option maxHeartbeats 4000000 in
theorem checkedOf_next_new (v : Value) (es : List Ent) (x : Ent) (w : World) (h : Es w v es) (hl : es.length ≤ 9223372036854775806) (hx : 0 ≤ x.ver ∧ x.ver ≤ 1073741824 ∧ 0 ≤ x.seq ∧ x.seq ≤ 1073741824 ∧ 0 ≤ x.pid ∧ x.pid ≤ 1073741824) (h0 : x.pid ≠ 0) (q : PrD) {vT mT oT sT : Int} (hr : RefQ es x q vT mT oT sT) (hf : ¬ x.ver < q.ver) (hk : x.kind = 1) (hv : x.ver ≠ vT) (hg : x.seq = -1 + 1) :
    Calls Try.prog 98 #[v, .agg #[.int .i64 x.ep, .int .i64 x.pid, .int .i64 x.ver, .int .i64 x.seq, .int .i64 x.kind, .bool x.txn, .string x.text]] w fun e w' => e = .returned (.tuple #[.int .i64 (-1), .int .i64 0]) ∧ Below w.heap.size w w' := by
  obtain ⟨A, c, rfl, hc, hx1⟩ := h.at_
  have HX := Lib.hid hx1
  have H := Lib.hid h
  obtain ⟨x0, x1, x2, x3, x4, x5⟩ := hx
  obtain ⟨hv_, hm_, ho_, hs_, hfe, hmk, hon, ⟨b1_, b2_, b3_, b4_⟩, hnew, hold⟩ := hr
  have z1 : (x.pid == 0) = false := beq_eq_false_iff_ne.2 h0
  have HVT := Lib.hid hv_
  have HMT := Lib.hid hm_
  have HOT := Lib.hid ho_
  have HST := Lib.hid hs_
  clear h hx1 h0 hv_ hm_ ho_ hs_
  have z2 : decide (x.ver < vT) = false := decide_eq_false (fun h => hf (hfe.1 h))
  have z3 : (x.kind != 1) = false := by simpa using hk
  clear hk
  have z4 : (x.ver == vT) = false := beq_eq_false_iff_ne.2 hv
  clear hf hv
  have z6 : (x.seq == 0) = true := beq_iff_eq.2 (by omega)
  clear hg
  clear hfe hmk hon hnew hold
  obtain ⟨ep, pid, ver, seq, kind, txn, text⟩ := x
  obtain ⟨qv, qs, qo, qm⟩ := q
  simp only at *
  go_enter Try.func98, Try.ntmps98
  go_wp2_with fail
  have hb1 : Below w.heap.size w (w.alloc (.cells #[.int .i64 ep, .int .i64 pid, .int .i64 ver, .int .i64 seq, .int .i64 kind, .bool txn, .string text] 55)) := (Below.refl _ _).alloc (by first | omega | (simp; done) | (simp; omega)) _
  have hal1 : Below w.heap.size w (w.alloc (.cells #[.int .i64 ep, .int .i64 pid, .int .i64 ver, .int .i64 seq, .int .i64 kind, .bool txn, .string text] 55)) := (Below.refl _ _).alloc (by first | omega | (simp; done) | (simp; omega)) _
  have b_bx1 : Blk (w.alloc (.cells #[.int .i64 ep, .int .i64 pid, .int .i64 ver, .int .i64 seq, .int .i64 kind, .bool txn, .string text] 55)) (w.heap.size) 55 #[.int .i64 ep, .int .i64 pid, .int .i64 ver, .int .i64 seq, .int .i64 kind, .bool txn, .string text] := Blk.new_ _ 55 #[.int .i64 ep, .int .i64 pid, .int .i64 ver, .int .i64 seq, .int .i64 kind, .bool txn, .string text] (by first | rfl | (simp; done) | (simp; omega))
  have hz1 : w.heap.size + 1 ≤ (w.alloc (.cells #[.int .i64 ep, .int .i64 pid, .int .i64 ver, .int .i64 seq, .int .i64 kind, .bool txn, .string text] 55)).heap.size := by first | omega | (simp; done) | (simp; omega)
  generalize w.alloc (.cells #[.int .i64 ep, .int .i64 pid, .int .i64 ver, .int .i64 seq, .int .i64 kind, .bool txn, .string text] 55) = W1 at *
  have HB1 := Lib.hid hb1
  have B1_bx := Lib.hid b_bx1
  clear hb1 b_bx1
  have c_bx0 := B1_bx.out.cell 0
  have c_bx1 := B1_bx.out.cell 1
  have c_bx2 := B1_bx.out.cell 2
  have c_bx3 := B1_bx.out.cell 3
  have c_bx4 := B1_bx.out.cell 4
  have c_bx5 := B1_bx.out.cell 5
  have c_bx6 := B1_bx.out.cell 6
  have l_bx := B1_bx.out.lt
  go_wp2_with fail
  refine (verOf_any _ es pid _ (H.out.below HB1.out) hl).mono ?_
  rintro e w9 ⟨rfl, he9⟩
  obtain rfl := he9.symm
  clear he9
  rw [HVT.out]
  go_wp2_with fail
  go_wp2
  go_ret2
  exact ⟨rfl, HB1.out⟩
end Go.Proofs.Ytpjjfnpdopdnkaa
namespace Go.Proofs.Ytpjjfnpdopdnkaa
open Go.RowKit

theorem viewBoth (es : List Ent) (x : Ent) (hp : PlainE es) (hx : 0 ≤ x.ver ∧ x.ver ≤ 1073741824 ∧ 0 ≤ x.seq ∧ x.seq ≤ 1073741824 ∧ 0 ≤ x.pid ∧ x.pid ≤ 1073741824) (hl : es.length ≤ 9223372036854775806) : ∃ n c : Int, (∀ (v : Value) (w : World), Es w v es → Calls Try.prog 96 #[v, .agg #[.int .i64 x.ep, .int .i64 x.pid, .int .i64 x.ver, .int .i64 x.seq, .int .i64 x.kind, .bool x.txn, .string x.text]] w fun e w' => e = .returned (.tuple #[.int .i64 n, .int .i64 c]) ∧ Below w.heap.size w w') ∧ ∀ (v : Value) (w : World), Es w v es → Calls Try.prog 98 #[v, .agg #[.int .i64 x.ep, .int .i64 x.pid, .int .i64 x.ver, .int .i64 x.seq, .int .i64 x.kind, .bool x.txn, .string x.text]] w fun e w' => e = .returned (.tuple #[.int .i64 n, .int .i64 c]) ∧ Below w.heap.size w w' := by
  by_cases h0 : x.pid = 0
  · exact ⟨_, _, fun v w h => check_zero v es x w h hp hl h0, fun v w h => checkedOf_zero v es x w h hl h0⟩
  obtain ⟨vT, mT, oT, sT, hr⟩ := refQ_ex hp x hx.1
  obtain ⟨q, hq⟩ : ∃ q, q = prOf es x := ⟨_, rfl⟩
  rw [← hq] at hr
  by_cases hf : x.ver < q.ver
  · exact ⟨_, _, fun v w h => check_fence v es x w h hp hl hx h0 q hq hf, fun v w h => checkedOf_fence v es x w h hl hx h0 q hr hf⟩
  by_cases hk : x.kind = 1
  · by_cases hv : q.ver < x.ver
    · have hv' := hr.new_ hf hv
      by_cases hg : -1 + 1 < x.seq
      · exact ⟨_, _, fun v w h => check_gap_new v es x w h hp hl hx h0 q hq hf hk hv hg, fun v w h => checkedOf_gap_new v es x w h hl hx h0 q hr hf hk hv' hg⟩
      · have hg' : x.seq = -1 + 1 := by omega
        exact ⟨_, _, fun v w h => check_next_new v es x w h hp hl hx h0 q hq hf hk hv hg', fun v w h => checkedOf_next_new v es x w h hl hx h0 q hr hf hk hv' hg'⟩
    · rcases hr.old hf hv with ⟨hv', hs⟩ | ⟨hv', hs⟩
      · by_cases hg : q.seq + 1 < x.seq
        · exact ⟨_, _, fun v w h => check_gap_old v es x w h hp hl hx h0 q hq hf hk hv hg, fun v w h => checkedOf_gap_old v es x w h hl hx h0 q hr hf hk hv' (by omega)⟩
        · by_cases hg' : x.seq = q.seq + 1
          · exact ⟨_, _, fun v w h => check_next_old v es x w h hp hl hx h0 q hq hf hk hv hg', fun v w h => checkedOf_next_old v es x w h hl hx h0 q hr hf hk hv' (by omega)⟩
          · obtain ⟨n, cd, hfi⟩ := findTo_ex es x
            exact ⟨n, cd, fun v w h => check_find_old v es x w h hp hl hx h0 q hq hf hk hv (by omega) hfi, fun v w h => checkedOf_find_old v es x w h hl hx h0 q hr hf hk hv' (by omega) hfi⟩
      · by_cases hg : -1 + 1 < x.seq
        · exact ⟨_, _, fun v w h => check_gap_old v es x w h hp hl hx h0 q hq hf hk hv (by omega), fun v w h => checkedOf_gap_new v es x w h hl hx h0 q hr hf hk hv' hg⟩
        · exact ⟨_, _, fun v w h => check_next_old v es x w h hp hl hx h0 q hq hf hk hv (by omega), fun v w h => checkedOf_next_new v es x w h hl hx h0 q hr hf hk hv' (by omega)⟩
  · by_cases hm : 0 ≤ q.mark
    · by_cases ho : q.opn < 0
      · have hb := prOf_known hp x
        rw [← hq] at hb
        have hmm : q.mark = (q.mark.toNat : Int) ∧ q.mark.toNat < es.length := by omega
        have hml := hmm.2
        by_cases e1 : es[q.mark.toNat].kind = x.kind
        · by_cases e2 : es[q.mark.toNat].ver = x.ver
          · exact ⟨_, _, fun v w h => check_mark v es x w h hp hl hx h0 q hq hf hk ho _ hmm (fun _ => e1) (fun _ => e2), fun v w h => checkedOf_mark v es x w h hl hx h0 q hr hf hk ho _ hmm (fun _ => e1) (fun _ => e2)⟩
          · exact ⟨_, _, fun v w h => check_mver v es x w h hp hl hx h0 q hq hf hk ho _ hmm (fun _ => e1) (fun _ => e2), fun v w h => checkedOf_mver v es x w h hl hx h0 q hr hf hk ho _ hmm (fun _ => e1) (fun _ => e2)⟩
        · exact ⟨_, _, fun v w h => check_mkind v es x w h hp hl hx h0 q hq hf hk ho _ hmm (fun _ => e1), fun v w h => checkedOf_mkind v es x w h hl hx h0 q hr hf hk ho _ hmm (fun _ => e1)⟩
      · exact ⟨_, _, fun v w h => check_open v es x w h hp hl hx h0 q hq hf hk ho, fun v w h => checkedOf_open v es x w h hl hx h0 q hr hf hk ho hm⟩
    · by_cases ho : q.opn < 0
      · exact ⟨_, _, fun v w h => check_nomark v es x w h hp hl hx h0 q hq hf hk ho hm, fun v w h => checkedOf_nomark v es x w h hl hx h0 q hr hf hk hm⟩
      · exact ⟨_, _, fun v w h => check_open v es x w h hp hl hx h0 q hq hf hk ho, fun v w h => checkedOf_nomark v es x w h hl hx h0 q hr hf hk hm⟩
end Go.Proofs.Ytpjjfnpdopdnkaa
namespace Go.Proofs.Ytpjjfnpdopdnkaa
open Go.RowKit

theorem zeros_size (n : Nat) : (Builtin.zeroCells #[Value.int .u8 0] n).size = n := by
  have := size_zeroCells #[Value.int .u8 0] n
  simpa using this
set_option maxRecDepth 100000 in
set_option maxHeartbeats 1000000 in
theorem grow_nil (n : Nat) (w : World) (hn : 0 < n) (hb : n ≤ 140737488355328) :
    Calls Try.prog 103 #[.slice none 0 0, .int .i64 n] w fun e w' => ∃ v', e = .returned v' ∧ w'.ownsRow w.heap.size 5 1 v' 0 [] ∧ Below w.heap.size w w' := by
  obtain ⟨i0, hi0, hz0, hz1, hz2⟩ := info_parts CloneByte_info
  have hold : (Builtin.firstCells i0.size 0 (.slice none 0 0)).run Try.prog w.drew = .ok ([] : List Value).toArray w.drew := run_firstCells_none w.drew i0.size 0 0 0
  have hrz : ∀ ty, (Builtin.append_ #[34, 3] ty #[.slice none 0 0, .int .i64 (n : Int)]).run Try.prog w =
      .ok (.slice (some ⟨w.heap.size, 0, none⟩) n (grownCap w n 0 5)) (w.drew.alloc (.cells ((#[] : Array Value) ++ Builtin.zeroCells #[.int .u8 0] n ++ Builtin.zeroCells #[.int .u8 0] (grownCap w n 0 5 - n)) 5)) := fun ty => by
    have h := Lib.run_append_grow_zeros (P := Try.prog) w 34 3 ty 5 i0 (.int .u8 0) .i64 .i64 Try.underlying34 Try.underlying3 hi0 hz0 none 0 0 [] hold n hn (by omega) (by omega) (by omega) (by rw [hz2]; omega) (by rw [Nat.zero_add]; exact growslice_fits (by omega) (by rw [hz2]; omega))
    simpa [Value.cells] using h
  have hGn : n ≤ grownCap w n 0 5 := grownCap_ge w _ _ _
  have hGm : grownCap w n 0 5 ≤ maxLen := grownCap_le_maxLen w n 0 5 (by unfold maxLen; omega)
  have hG63 : grownCap w n 0 5 ≤ 9223372036854775807 := by unfold maxLen at hGm; omega
  generalize grownCap w n 0 5 = G at *
  have hsz : ((#[] : Array Value) ++ Builtin.zeroCells #[.int .u8 0] n ++ Builtin.zeroCells #[.int .u8 0] (G - n)).size = G := by
    simp only [Array.size_append, zeros_size]
    simp
    omega
  generalize (#[] : Array Value) ++ Builtin.zeroCells #[.int .u8 0] n ++ Builtin.zeroCells #[.int .u8 0] (G - n) = cs at *
  have hbw : Below w.heap.size w (w.drew.alloc (.cells cs 5)) := ((Below.refl w.heap.size w).drew).alloc (Nat.le_refl _) _
  have how : (w.drew.alloc (.cells cs 5)).ownsRow w.heap.size 5 1 (.slice (some ⟨w.heap.size, 0, none⟩) 0 G) 0 [] :=
    ⟨rfl, Or.inr ⟨w.heap.size, G, cs, rfl, Nat.le_refl _, Blk.new w.drew 5 cs, Nat.zero_le _, hGm, by omega, rfl⟩⟩
  have HOW := Lib.hid how
  have HBW := Lib.hid hbw
  have h1 : ¬ ((n : Int) < 0) := by omega
  have h4 : (0 : Int) < (n : Int) := by omega
  clear how hbw hold hsz
  go_enter Try.func103, Try.ntmps103
  go_wp2_with (at_builtin; refine Lib.wpList_append_run _ rfl _ _ _ _ rfl _ _ rfl rfl _ _ (hrz _) ?_)
  all_goals (go_ret; exact ⟨_, rfl, HOW.out, HBW.out⟩)

set_option maxRecDepth 100000 in
set_option maxHeartbeats 1000000 in
theorem concat_any (v : Value) (rows : List (List UInt8)) (vs : List Value) (w : World) (hvl : vs.length = rows.length) (h : Sl w 1 v rows.length vs) (hr : ∀ k (h1 : k < rows.length) (h2 : k < vs.length), By w vs[k] rows[k]) (hm : rows.flatten.length ≤ 140737488355328) (hpos : 0 < rows.flatten.length) (hn : rows.length ≤ 9223372036854775807) :
    Calls Try.prog 84 #[v] w fun e w' => ∃ v', e = .returned v' ∧ w'.ownsRow w.heap.size 5 1 v' rows.flatten.length (bvs rows.flatten) ∧ Below w.heap.size w w' := by
  obtain ⟨i0, hi0, hz0, hz1, hz2⟩ := info_parts CloneByte_info
  obtain ⟨hl, A, c, rfl, hc, hcell⟩ := h
  have HC := Lib.hid hcell
  have HR := Lib.hid hr
  have HP := Lib.hid hpos
  clear hcell hr hl hpos
  go_enter Try.func84, Try.ntmps84
  go_wp2
  obtain ⟨f, hf⟩ : ∃ f : Nat → Nat, ∀ k, f k = (rows.take k).flatten.length := ⟨_, fun _ => rfl⟩
  have hf0 : f 0 = 0 := by rw [hf]; rfl
  have HF := Lib.hid hf
  clear hf
  go_loopw [3, 11] (fun o i wr => ∃ k : Nat, k ≤ rows.length ∧ o = .int .i64 ((f k : Nat) : Int) ∧ i = .int .i64 k ∧ w = wr) (fun _ i _ => rows.length - (intOf i).toNat)
  case atStart => exact ⟨0, Nat.zero_le _, by rw [hf0]; rfl, rfl, rfl⟩
  case round =>
    clear hf0
    obtain ⟨k, hk, rfl, rfl, rfl⟩ := hrel
    by_cases hlt : k < rows.length
    · obtain ⟨b, off, rfl, hbl, hcs⟩ := HC.out (by omega)
      have hlt' : k < vs.length := by omega
      have X0 := hcs k vs[k] (by simp [List.getElem?_eq_getElem hlt'])
      have hy := HR.out k hlt hlt'
      obtain ⟨A2, c2, e2, hc2, -⟩ := hy.at_
      rw [e2] at X0 hy
      have i0' : (0 : Int) ≤ (k : Int) := by omega
      have i1 : (k : Int) < (rows.length : Int) := by omega
      have hfl : f k + rows[k].length ≤ 140737488355328 := by have := flat_le' rows k hlt; rw [HF.out]; omega
      have HL := Lib.hid (show f (k + 1) = f k + rows[k].length by
        have := congrArg List.length (flat_bvs rows k hlt)
        rw [HF.out, HF.out]
        simpa only [List.length_append, bvs_length] using this)
      have z0 : decide (((f k : Nat) : Int) + (rows[k].length : Int) < 0) = false := decide_eq_false (by omega)
      clear hcs e2 hy
      generalize rows[k] = r at *
      go_wp2
      go_roundw
      case rel => exact ⟨k + 1, by omega, by rw [HL.out]; go_num, by go_num, by trivial⟩
      case measure => simp [intOf]; omega
    · obtain rfl : k = rows.length := by omega
      have hfe : f rows.length = rows.flatten.length := by rw [HF.out, List.take_length]
      have HFE := Lib.hid hfe
      have hfm : f rows.length ≤ 140737488355328 := by omega
      have hfp : 0 < f rows.length := by rw [hfe]; exact HP.out
      clear hfe
      go_wp2_with fail
      refine (grow_nil _ w hfp hfm).mono ?_
      rintro e w1 ⟨v1, rfl, ho1, hb1⟩
      have HO1 := Lib.hid ho1
      have HB1 := Lib.hid hb1
      clear ho1 hb1
      go_wp2
      go_loopw [6, 27] (fun o i wr => ∃ (k : Nat) (x : Value), k ≤ rows.length ∧ o = x ∧ i = .int .i64 k ∧ wr.ownsRow w.heap.size 5 1 x (rows.take k).flatten.length (bvs (rows.take k).flatten) ∧ Below w.heap.size w wr) (fun _ i _ => rows.length - (intOf i).toNat)
      case atStart => exact ⟨0, _, Nat.zero_le _, rfl, rfl, HO1.out, HB1.out⟩
      case round =>
        obtain ⟨k, x, hk, rfl, rfl, ho, hb⟩ := hrel
        by_cases hlt : k < rows.length
        · obtain ⟨b, off, rfl, hbl, hcs⟩ := HC.out (by omega)
          have hlt' : k < vs.length := by omega
          have X0 := (hb.cell (p := ⟨b, off + k, none⟩) hbl).trans (hcs k vs[k] (by simp [List.getElem?_eq_getElem hlt']))
          have hy := (HR.out k hlt hlt').below hb
          obtain ⟨A2, c2, e2, hc2, -⟩ := hy.at_
          rw [e2] at X0 hy
          have i0' : (0 : Int) ≤ (k : Int) := by omega
          have i1 : (k : Int) < (rows.length : Int) := by omega
          have hfl := flat_le' rows k hlt
          have HE := Lib.hid (flat_bvs rows k hlt)
          have HL := Lib.hid (show (rows.take (k + 1)).flatten.length = (rows.take k).flatten.length + rows[k].length by
            have := congrArg List.length (flat_bvs rows k hlt)
            simpa only [List.length_append, bvs_length] using this)
          have HB := Lib.hid hb
          have hsz := hb.size
          clear hcs e2 hb
          generalize rows[k] = r at *
          go_wp2_with (at_builtin; go_must (refine wpList_append_sl _ rfl (.tmp 31) (.tmp 32) 34 rfl w.heap.size 5 i0 (.int .u8 0) 1 1 Try.underlying34 hi0 hz0 hz1 hz2 rfl (by decide) _ _ _ (by rfl) ho _ r.length (bvs r) (by rfl) hy (bvs_one r) (by simp only [maxLen]; omega) (by omega) hsz ?_; intro v4 w4 ho4 hg4 ha4))
          go_roundw
          case rel => exact ⟨k + 1, v4, by omega, rfl, by go_num, own_eq ho4 HL.out.symm HE.out.symm, own_below' HB.out (Nat.le_refl _) ho hg4⟩
          case measure => simp [intOf]; omega
        · obtain rfl : k = rows.length := by omega
          rw [List.take_length] at ho
          go_wp2
          go_ret
          exact ⟨_, rfl, ho, hb⟩
end Go.Proofs.Ytpjjfnpdopdnkaa
namespace Go.Proofs.Ytpjjfnpdopdnkaa
open Go.RowKit

theorem concat_two {A B : Option Addr} {l r : List UInt8} {c d : Nat} {w0 w : World} (h : By w0 (.slice A l.length c) l) (k : By w0 (.slice B r.length d) r) (hw : Below w0.heap.size w0 w) (hm : l.length + r.length ≤ 140737488355328) (hp : 0 < l.length + r.length) :
    Calls Try.prog 84 #[.slice (some ⟨w.heap.size, 0, none⟩) 2 2] (w.alloc (.cells #[.slice A l.length c, .slice B r.length d] 34)) fun e w' => ∃ v', e = .returned v' ∧ w'.ownsRow w.heap.size 5 1 v' (l.length + r.length) (bvs (l ++ r)) ∧ Below w.heap.size w w' := by
  have hbl : Below w.heap.size w (w.alloc (.cells #[.slice A l.length c, .slice B r.length d] 34)) := (Below.refl _ _).alloc (Nat.le_refl _) _
  refine (concat_any _ [l, r] [.slice A l.length c, .slice B r.length d] _ rfl (Sl.lit' w 34 #[.slice A l.length c, .slice B r.length d] 1 2 _ rfl rfl) (fun i h1 h2 => ?_) (by simpa using hm) (by simpa using hp) (by simp)).mono ?_
  · rcases i with _ | _ | i
    · exact (h.below hw).below hbl
    · exact (k.below hw).below hbl
    · exact absurd h1 (by simp)
  · rintro e w' ⟨v', rfl, ho, hb⟩
    exact ⟨v', rfl, own_base (own_eq ho (by simp) (by simp)) hbl.size, hbl.trans (hb.mono hbl.size)⟩

set_option maxRecDepth 100000 in
set_option maxHeartbeats 2000000 in
theorem append_full (v : Value) (l : List UInt8) (s : Int) (y : Ent) (w : World) (hv : By w v l) {es : List Ent} {j : Nat} (h : LogIs ⟨l, s⟩ es j) (hy : y.ok) (hf : es.length = 400 ∨ 40000 < l.length + y.enc.length) :
    Calls Try.prog 45 #[.agg #[v, .int .i64 s], .agg #[.int .i64 y.ep, .int .i64 y.pid, .int .i64 y.ver, .int .i64 y.seq, .int .i64 y.kind, .bool y.txn, .string y.text]] w (LogPost ⟨[], 0⟩ 16 w) := by
  obtain ⟨A, c, rfl, hc, -⟩ := hv.at_
  have HV := Lib.hid hv
  have hbx := ((Blk.new w 42 #[.slice A l.length c, .int .i64 s]).alloc (.cells #[.int .i64 y.ep, .int .i64 y.pid, .int .i64 y.ver, .int .i64 y.seq, .int .i64 y.kind, .bool y.txn, .string y.text] 55)).alloc (.cells #[.slice none 0 0, .int .i64 0] 42)
  have hbe := (Blk.new (w.alloc (.cells #[.slice A l.length c, .int .i64 s] 42)) 55 #[.int .i64 y.ep, .int .i64 y.pid, .int .i64 y.ver, .int .i64 y.seq, .int .i64 y.kind, .bool y.txn, .string y.text]).alloc (.cells #[.slice none 0 0, .int .i64 0] 42)
  have hbz := Blk.new ((w.alloc (.cells #[.slice A l.length c, .int .i64 s] 42)).alloc (.cells #[.int .i64 y.ep, .int .i64 y.pid, .int .i64 y.ver, .int .i64 y.seq, .int .i64 y.kind, .bool y.txn, .string y.text] 55)) 42 #[.slice none 0 0, .int .i64 0]
  have hbl : Below w.heap.size w (((w.alloc (.cells #[.slice A l.length c, .int .i64 s] 42)).alloc (.cells #[.int .i64 y.ep, .int .i64 y.pid, .int .i64 y.ver, .int .i64 y.seq, .int .i64 y.kind, .bool y.txn, .string y.text] 55)).alloc (.cells #[.slice none 0 0, .int .i64 0] 42)) := (((Below.refl _ _).alloc (Nat.le_refl _) _).alloc (by simp) _).alloc (by simp; omega) _
  simp only [World.size_alloc] at hbz hbe
  have hv0 := hv.below hbl
  clear hv
  obtain ⟨hlen, k, rfl, hk, -, -, -⟩ := log_long h
  have HE := Lib.hid (segEntries_ok _ l k _ hv0 h)
  have hmany := h.many
  have hbytes : Hid (l = flat es) := Lib.hid h.bytes
  clear h
  have hq := fun W => encode_ent y W hy
  have HQ := Lib.hid hq
  have hen := Ent.enc_len y
  have hbl2 := Ent.body_len_ hy
  have hyl : 4 ≤ y.enc.length ∧ y.enc.length ≤ 64 := by omega
  clear hq hen hbl2
  by_cases h5 : es.length = 400
  · have z5 : ((es.length : Int) == 400) = true := by simp only [beq_iff_eq]; omega
    go_enter Try.func45, Try.ntmps45
    go_wp2_with fail
    refine HE.out.mono ?_
    rintro e w1 ⟨v1, rfl, ho1, hb1⟩
    obtain ⟨A1, c1, rfl, hc1⟩ := (Sl.of_own ho1).form
    have bx1 := hbx.below hb1 hbx.lt
    have be1 := hbe.below hb1 hbe.lt
    have bz1 := hbz.below hb1 hbz.lt
    have hw1 := hbl.trans (hb1.mono hbl.size)
    have q0 := bx1.cell 0
    have q1 := bx1.cell 1
    have e0 := be1.cell 0
    have e1 := be1.cell 1
    have e2 := be1.cell 2
    have e3 := be1.cell 3
    have e4 := be1.cell 4
    have e5 := be1.cell 5
    have e6 := be1.cell 6
    have z0 := bz1.cell 0
    have z1 := bz1.cell 1
    have zf0 := bz1.frozen 0
    have zf1 := bz1.frozen 1
    have zl := bz1.lt
    have el := be1.lt
    have ql := bx1.lt
    clear ho1 hb1
    go_wp2_with fail
    refine (HQ.out _).mono ?_
    rintro e w2 ⟨v2, rfl, ho2, hb2⟩
    have hr2 : By w2 v2 y.enc := Sl.of_own ho2
    obtain ⟨A2, c2, rfl, hc2, -⟩ := hr2.at_
    clear q0 q1 e0 e1 e2 e3 e4 e5 e6 z0 z1 zf0 zf1 zl el ql
    have bx2 := bx1.below hb2 bx1.lt
    have be2 := be1.below hb2 be1.lt
    have bz2 := bz1.below hb2 bz1.lt
    have hw2 := hw1.trans (hb2.mono hw1.size)
    have q0 := bx2.cell 0
    have q1 := bx2.cell 1
    have e0 := be2.cell 0
    have e1 := be2.cell 1
    have e2 := be2.cell 2
    have e3 := be2.cell 3
    have e4 := be2.cell 4
    have e5 := be2.cell 5
    have e6 := be2.cell 6
    have z0 := bz2.cell 0
    have z1 := bz2.cell 1
    have zf0 := bz2.frozen 0
    have zf1 := bz2.frozen 1
    have zl := bz2.lt
    have el := be2.lt
    have ql := bx2.lt
    clear ho2 hb2
    go_wp2
    obtain ⟨r0, r1, ro, rb⟩ := log_stored (v := .slice none 0 0) (s := 0) bz2 rfl
    generalize (w2.setCell ⟨w.heap.size + 2, 0, none⟩ (.slice none 0 0)).setCell ⟨w.heap.size + 2, 1, none⟩ (.int .i64 0) = W6 at *
    exact bodyPost_ret (v := .tuple #[.agg #[.slice none 0 0, .int .i64 0], .int .i64 16]) (by simp [results, Try.results45, go_sem, r0, r1]) rfl ⟨.slice none 0 0, rfl, World.ownsRow_nil _ _ _ _, rb _ _ (by omega) hw2⟩
  · have z5 : ((es.length : Int) == 400) = false := by simp only [beq_eq_false_iff_ne]; omega
    have z6 : decide ((40000 : Int) < (l.length : Int) + (y.enc.length : Int)) = true := decide_eq_true (by omega)
    go_enter Try.func45, Try.ntmps45
    go_wp2_with fail
    refine HE.out.mono ?_
    rintro e w1 ⟨v1, rfl, ho1, hb1⟩
    obtain ⟨A1, c1, rfl, hc1⟩ := (Sl.of_own ho1).form
    have bx1 := hbx.below hb1 hbx.lt
    have be1 := hbe.below hb1 hbe.lt
    have bz1 := hbz.below hb1 hbz.lt
    have hw1 := hbl.trans (hb1.mono hbl.size)
    have q0 := bx1.cell 0
    have q1 := bx1.cell 1
    have e0 := be1.cell 0
    have e1 := be1.cell 1
    have e2 := be1.cell 2
    have e3 := be1.cell 3
    have e4 := be1.cell 4
    have e5 := be1.cell 5
    have e6 := be1.cell 6
    have z0 := bz1.cell 0
    have z1 := bz1.cell 1
    have zf0 := bz1.frozen 0
    have zf1 := bz1.frozen 1
    have zl := bz1.lt
    have el := be1.lt
    have ql := bx1.lt
    clear ho1 hb1
    go_wp2_with fail
    refine (HQ.out _).mono ?_
    rintro e w2 ⟨v2, rfl, ho2, hb2⟩
    have hr2 : By w2 v2 y.enc := Sl.of_own ho2
    obtain ⟨A2, c2, rfl, hc2, -⟩ := hr2.at_
    clear q0 q1 e0 e1 e2 e3 e4 e5 e6 z0 z1 zf0 zf1 zl el ql
    have bx2 := bx1.below hb2 bx1.lt
    have be2 := be1.below hb2 be1.lt
    have bz2 := bz1.below hb2 bz1.lt
    have hw2 := hw1.trans (hb2.mono hw1.size)
    have q0 := bx2.cell 0
    have q1 := bx2.cell 1
    have e0 := be2.cell 0
    have e1 := be2.cell 1
    have e2 := be2.cell 2
    have e3 := be2.cell 3
    have e4 := be2.cell 4
    have e5 := be2.cell 5
    have e6 := be2.cell 6
    have z0 := bz2.cell 0
    have z1 := bz2.cell 1
    have zf0 := bz2.frozen 0
    have zf1 := bz2.frozen 1
    have zl := bz2.lt
    have el := be2.lt
    have ql := bx2.lt
    clear ho2 hb2
    go_wp2
    obtain ⟨r0, r1, ro, rb⟩ := log_stored (v := .slice none 0 0) (s := 0) bz2 rfl
    generalize (w2.setCell ⟨w.heap.size + 2, 0, none⟩ (.slice none 0 0)).setCell ⟨w.heap.size + 2, 1, none⟩ (.int .i64 0) = W6 at *
    exact bodyPost_ret (v := .tuple #[.agg #[.slice none 0 0, .int .i64 0], .int .i64 16]) (by simp [results, Try.results45, go_sem, r0, r1]) rfl ⟨.slice none 0 0, rfl, World.ownsRow_nil _ _ _ _, rb _ _ (by omega) hw2⟩

set_option maxRecDepth 100000 in
set_option maxHeartbeats 2000000 in
theorem append_ok (v : Value) (l : List UInt8) (s : Int) (y : Ent) (w : World) (hv : By w v l) {es : List Ent} {j : Nat} (h : LogIs ⟨l, s⟩ es j) (hy : y.ok) (hf : ¬ (es.length = 400 ∨ 40000 < l.length + y.enc.length)) :
    Calls Try.prog 45 #[.agg #[v, .int .i64 s], .agg #[.int .i64 y.ep, .int .i64 y.pid, .int .i64 y.ver, .int .i64 y.seq, .int .i64 y.kind, .bool y.txn, .string y.text]] w (LogPost ⟨l ++ y.enc, s⟩ 0 w) := by
  obtain ⟨A, c, rfl, hc, -⟩ := hv.at_
  have HV := Lib.hid hv
  have hbx := ((Blk.new w 42 #[.slice A l.length c, .int .i64 s]).alloc (.cells #[.int .i64 y.ep, .int .i64 y.pid, .int .i64 y.ver, .int .i64 y.seq, .int .i64 y.kind, .bool y.txn, .string y.text] 55)).alloc (.cells #[.slice none 0 0, .int .i64 0] 42)
  have hbe := (Blk.new (w.alloc (.cells #[.slice A l.length c, .int .i64 s] 42)) 55 #[.int .i64 y.ep, .int .i64 y.pid, .int .i64 y.ver, .int .i64 y.seq, .int .i64 y.kind, .bool y.txn, .string y.text]).alloc (.cells #[.slice none 0 0, .int .i64 0] 42)
  have hbz := Blk.new ((w.alloc (.cells #[.slice A l.length c, .int .i64 s] 42)).alloc (.cells #[.int .i64 y.ep, .int .i64 y.pid, .int .i64 y.ver, .int .i64 y.seq, .int .i64 y.kind, .bool y.txn, .string y.text] 55)) 42 #[.slice none 0 0, .int .i64 0]
  have hbl : Below w.heap.size w (((w.alloc (.cells #[.slice A l.length c, .int .i64 s] 42)).alloc (.cells #[.int .i64 y.ep, .int .i64 y.pid, .int .i64 y.ver, .int .i64 y.seq, .int .i64 y.kind, .bool y.txn, .string y.text] 55)).alloc (.cells #[.slice none 0 0, .int .i64 0] 42)) := (((Below.refl _ _).alloc (Nat.le_refl _) _).alloc (by simp) _).alloc (by simp; omega) _
  simp only [World.size_alloc] at hbz hbe
  have hv0 := hv.below hbl
  clear hv
  obtain ⟨hlen, k, rfl, hk, -, -, -⟩ := log_long h
  have HE := Lib.hid (segEntries_ok _ l k _ hv0 h)
  have hmany := h.many
  have hbytes : Hid (l = flat es) := Lib.hid h.bytes
  clear h
  have hq := fun W => encode_ent y W hy
  have HQ := Lib.hid hq
  have hen := Ent.enc_len y
  have hbl2 := Ent.body_len_ hy
  have hyl : 4 ≤ y.enc.length ∧ y.enc.length ≤ 64 := by omega
  clear hq hen hbl2
  have z5 : ((es.length : Int) == 400) = false := by simp only [beq_eq_false_iff_ne]; omega
  have z6 : decide ((40000 : Int) < (l.length : Int) + (y.enc.length : Int)) = false := decide_eq_false (by omega)
  have hal : (l ++ y.enc).length = l.length + y.enc.length := List.length_append
  have HAL := Lib.hid hal
  clear hal
  go_enter Try.func45, Try.ntmps45
  go_wp2_with fail
  refine HE.out.mono ?_
  rintro e w1 ⟨v1, rfl, ho1, hb1⟩
  obtain ⟨A1, c1, rfl, hc1⟩ := (Sl.of_own ho1).form
  have bx1 := hbx.below hb1 hbx.lt
  have be1 := hbe.below hb1 hbe.lt
  have bz1 := hbz.below hb1 hbz.lt
  have hw1 := hbl.trans (hb1.mono hbl.size)
  have q0 := bx1.cell 0
  have q1 := bx1.cell 1
  have e0 := be1.cell 0
  have e1 := be1.cell 1
  have e2 := be1.cell 2
  have e3 := be1.cell 3
  have e4 := be1.cell 4
  have e5 := be1.cell 5
  have e6 := be1.cell 6
  have z0 := bz1.cell 0
  have z1 := bz1.cell 1
  have zf0 := bz1.frozen 0
  have zf1 := bz1.frozen 1
  have zl := bz1.lt
  have el := be1.lt
  have ql := bx1.lt
  clear ho1 hb1
  go_wp2_with fail
  refine (HQ.out _).mono ?_
  rintro e w2 ⟨v2, rfl, ho2, hb2⟩
  have hr2 : By w2 v2 y.enc := Sl.of_own ho2
  obtain ⟨A2, c2, rfl, hc2, -⟩ := hr2.at_
  clear q0 q1 e0 e1 e2 e3 e4 e5 e6 z0 z1 zf0 zf1 zl el ql
  have bx2 := bx1.below hb2 bx1.lt
  have be2 := be1.below hb2 be1.lt
  have bz2 := bz1.below hb2 bz1.lt
  have hw2 := hw1.trans (hb2.mono hw1.size)
  have q0 := bx2.cell 0
  have q1 := bx2.cell 1
  have e0 := be2.cell 0
  have e1 := be2.cell 1
  have e2 := be2.cell 2
  have e3 := be2.cell 3
  have e4 := be2.cell 4
  have e5 := be2.cell 5
  have e6 := be2.cell 6
  have z0 := bz2.cell 0
  have z1 := bz2.cell 1
  have zf0 := bz2.frozen 0
  have zf1 := bz2.frozen 1
  have zl := bz2.lt
  have el := be2.lt
  have ql := bx2.lt
  clear ho2 hb2
  have hbd := (Below.refl w2.heap.size w2).drew
  have hal := HAL.out
  generalize hcat : l ++ y.enc = cat at *
  have HCAT := Lib.hid hcat
  have HAL2 := Lib.hid hal
  clear hcat hal
  go_wp2_with fail
  go_region_with (go_at_call 84; refine (concat_two (HV.out.below hw2) hr2 hbd (by omega) (by omega)).mono ?_; rw [HCAT.out]; rintro e w5 ⟨v5, rfl, ho5, hb5⟩; have ho5 := own_eq ho5 HAL2.out.symm rfl; obtain ⟨A5, c5, rfl, hc5⟩ := (Sl.of_own ho5).form; have hbel := below_then hbd hb5; have bx5 := bx2.below hbel bx2.lt; have bz5 := bz2.below hbel bz2.lt; have y0 := bx5.cell 0; have y1 := bx5.cell 1; have u0 := bz5.cell 0; have u1 := bz5.cell 1; have uf0 := bz5.frozen 0; have uf1 := bz5.frozen 1; have ul := bz5.lt; have yl := bx5.lt)
  all_goals go_wp2
  all_goals obtain ⟨r0, r1, ro, rb⟩ := log_stored (v := .slice A5 cat.length c5) (s := k) bz5 rfl
  all_goals generalize (w5.setCell ⟨w.heap.size + 2, 0, none⟩ (.slice A5 cat.length c5)).setCell ⟨w.heap.size + 2, 1, none⟩ (.int .i64 k) = W6 at *
  all_goals exact bodyPost_ret (v := .tuple #[.agg #[.slice A5 cat.length c5, .int .i64 k], .int .i64 0]) (by simp [results, Try.results45, go_sem, r0, r1]) rfl ⟨.slice A5 cat.length c5, rfl, ro _ _ _ _ (own_base ho5 hw2.size), rb _ _ (by omega) (hw2.trans (hbel.mono hw2.size))⟩

end Go.Proofs.Ytpjjfnpdopdnkaa
