/- slices.Contains at []bool; part.Check answers whether a part may be. -/
import Derived.Test.YtpjjfnpdopdnkaaPartE
import Derived.Test.YtpjjfnpdopdnkaaAns
namespace Go.Proofs.Ytpjjfnpdopdnkaa
open Go.RowKit

set_option maxRecDepth 100000 in
set_option maxHeartbeats 4000000 in
theorem IndexBool_any (v : Value) (l : List Bool) (w : World) (h : Bs w v l) (hl : l.length ≤ 9223372036854775807) :
    Calls Try.prog 101 #[v, .bool true] w fun e w' => (∃ n : Int, e = .returned (.int .i64 n) ∧ (true ∈ l ↔ 0 ≤ n)) ∧ w = w' := by
  obtain ⟨A, c, rfl, hc, hcell⟩ := h.at_
  have HC := Lib.hid hcell
  clear hcell h
  go_enter Try.func101, Try.ntmps101
  go_wp2
  go_loop [5, 8] (fun _ i => ∃ k : Nat, k ≤ l.length ∧ i = .int .i64 k ∧ Hid (∀ j (hj : j < l.length), j < k → l[j] = false)) (fun _ i => l.length - (intOf i).toNat)
  case atStart => exact ⟨0, by omega, rfl, fun j _ hj => by omega⟩
  case round =>
    obtain ⟨k, hk, rfl, HN⟩ := hrel
    by_cases hlt : k < l.length
    · obtain ⟨b, off, rfl, hb, hq⟩ := HC.out (by omega)
      have X0 := hq k hlt
      have i0 : (0 : Int) ≤ (k : Int) := by omega
      have i1 : (k : Int) < (l.length : Int) := by omega
      clear hq
      rcases hv : l[k] with _ | _
      · rw [hv] at X0
        have HV := Lib.hid hv
        clear hv
        go_wp2
        go_round
        case rel => exact ⟨k + 1, by omega, by go_num, fun j hj hjk => by
          rcases Nat.lt_succ_iff_lt_or_eq.1 hjk with h' | rfl
          · exact HN.out j hj h'
          · exact HV.out⟩
        case measure => simp [intOf]; omega
      · rw [hv] at X0
        have HV := Lib.hid (show true ∈ l from hv ▸ List.getElem_mem hlt)
        clear hv
        go_wp2
        go_ret
        exact ⟨⟨k, rfl, by simp [HV.out]⟩, rfl⟩
    · obtain rfl : k = l.length := by omega
      have HV := Lib.hid (show ¬ true ∈ l from fun hm => by
        obtain ⟨i, hi, he⟩ := List.mem_iff_getElem.1 hm
        have := HN.out i hi hi
        rw [he] at this
        cases this)
      clear hlt
      go_wp2
      go_ret
      exact ⟨⟨-1, rfl, by simp [HV.out]⟩, rfl⟩
def HasTrue (l : List Bool) (w : World) (e : Ending) (w' : World) : Prop := ∃ b : Bool, e = .returned (.bool b) ∧ (b = true ↔ true ∈ l) ∧ w = w'
set_option maxRecDepth 100000 in
set_option maxHeartbeats 4000000 in
theorem ContainsBool_any (v : Value) (l : List Bool) (w : World) (h : Bs w v l) (hl : l.length ≤ 9223372036854775807) :
    Calls Try.prog 80 #[v, .bool true] w (HasTrue l w) := by
  obtain ⟨A, c, rfl, hc, -⟩ := h.at_
  have H := Lib.hid h
  clear h
  go_enter Try.func80, Try.ntmps80
  go_wp2_with fail
  refine (IndexBool_any _ l _ H.out hl).mono ?_
  rintro e w' ⟨⟨n, rfl, hn⟩, rfl⟩
  have HN := Lib.hid hn
  clear hn
  go_wp2
  go_ret
  exact ⟨_, rfl, by rw [HN.out]; simp, rfl⟩
theorem contains_yes {v : Value} {l : List Bool} {w : World} (h : Bs w v l) (hl : l.length ≤ 9223372036854775807) (hm : true ∈ l) : Calls Try.prog 80 #[v, .bool true] w fun e w' => e = .returned (.bool true) ∧ w = w' :=
  (ContainsBool_any v l w h hl).mono fun e w' ⟨b, he, hb, hw⟩ => ⟨by rw [he, hb.2 hm], hw⟩
theorem contains_no {v : Value} {l : List Bool} {w : World} (h : Bs w v l) (hl : l.length ≤ 9223372036854775807) (hm : ¬ true ∈ l) : Calls Try.prog 80 #[v, .bool true] w fun e w' => e = .returned (.bool false) ∧ w = w' :=
  (ContainsBool_any v l w h hl).mono fun e w' ⟨b, he, hb, hw⟩ => ⟨by
    rcases b with _ | _
    · exact he
    · exact absurd (hb.1 rfl) hm, hw⟩
/-- the first tests -/
structure PartHead (c : PartD) : Prop where
  many : 1 ≤ c.reps.length ∧ c.reps.length ≤ 5
  isr : c.isr.length = c.reps.length
  known : c.known.length = c.reps.length
  few : 1 ≤ c.few ∧ c.few ≤ c.reps.length
  epoch : 0 ≤ c.epoch ∧ c.epoch ≤ 1073741824
  leader : -1 ≤ c.leader ∧ c.leader < c.reps.length
  base : 0 ≤ c.base ∧ c.base ≤ 400
theorem PartOk.head {c : PartD} (h : PartOk c) : PartHead c := ⟨h.many, h.isr, h.known, h.few, h.epoch, h.leader, h.base⟩
theorem PartHead.ok {c : PartD} (h : PartHead c) (h1 : true ∈ c.isr) (h2 : LedOk c) (h3 : RepsTo c c.reps.length) : PartOk c := ⟨h.many, h.isr, h.known, h.few, h.epoch, h.leader, h.base, h1, h2, h3⟩
theorem first_true (b0 b1 b2 b3 b4 b5 b6 b7 b8 b9 b10 b11 : Bool) : (b0 = false ∧ b1 = false ∧ b2 = false ∧ b3 = false ∧ b4 = false ∧ b5 = false ∧ b6 = false ∧ b7 = false ∧ b8 = false ∧ b9 = false ∧ b10 = false ∧ b11 = false) ∨ (b0 = true) ∨ (b0 = false ∧ b1 = true) ∨ (b0 = false ∧ b1 = false ∧ b2 = true) ∨ (b0 = false ∧ b1 = false ∧ b2 = false ∧ b3 = true) ∨ (b0 = false ∧ b1 = false ∧ b2 = false ∧ b3 = false ∧ b4 = true) ∨ (b0 = false ∧ b1 = false ∧ b2 = false ∧ b3 = false ∧ b4 = false ∧ b5 = true) ∨ (b0 = false ∧ b1 = false ∧ b2 = false ∧ b3 = false ∧ b4 = false ∧ b5 = false ∧ b6 = true) ∨ (b0 = false ∧ b1 = false ∧ b2 = false ∧ b3 = false ∧ b4 = false ∧ b5 = false ∧ b6 = false ∧ b7 = true) ∨ (b0 = false ∧ b1 = false ∧ b2 = false ∧ b3 = false ∧ b4 = false ∧ b5 = false ∧ b6 = false ∧ b7 = false ∧ b8 = true) ∨ (b0 = false ∧ b1 = false ∧ b2 = false ∧ b3 = false ∧ b4 = false ∧ b5 = false ∧ b6 = false ∧ b7 = false ∧ b8 = false ∧ b9 = true) ∨ (b0 = false ∧ b1 = false ∧ b2 = false ∧ b3 = false ∧ b4 = false ∧ b5 = false ∧ b6 = false ∧ b7 = false ∧ b8 = false ∧ b9 = false ∧ b10 = true) ∨ (b0 = false ∧ b1 = false ∧ b2 = false ∧ b3 = false ∧ b4 = false ∧ b5 = false ∧ b6 = false ∧ b7 = false ∧ b8 = false ∧ b9 = false ∧ b10 = false ∧ b11 = true) := by
  cases b0 <;> simp
  cases b1 <;> simp
  cases b2 <;> simp
  cases b3 <;> simp
  cases b4 <;> simp
  cases b5 <;> simp
  cases b6 <;> simp
  cases b7 <;> simp
  cases b8 <;> simp
  cases b9 <;> simp
  cases b10 <;> simp
theorem head_cases (c : PartD) : PartHead c ∨ ¬ PartHead c ∧ ((decide ((c.reps.length : Int) < 1) = true) ∨
    (decide ((c.reps.length : Int) < 1) = false ∧ decide ((5 : Int) < (c.reps.length : Int)) = true) ∨
    (decide ((c.reps.length : Int) < 1) = false ∧ decide ((5 : Int) < (c.reps.length : Int)) = false ∧ ((c.isr.length : Int) != (c.reps.length : Int)) = true) ∨
    (decide ((c.reps.length : Int) < 1) = false ∧ decide ((5 : Int) < (c.reps.length : Int)) = false ∧ ((c.isr.length : Int) != (c.reps.length : Int)) = false ∧ ((c.known.length : Int) != (c.reps.length : Int)) = true) ∨
    (decide ((c.reps.length : Int) < 1) = false ∧ decide ((5 : Int) < (c.reps.length : Int)) = false ∧ ((c.isr.length : Int) != (c.reps.length : Int)) = false ∧ ((c.known.length : Int) != (c.reps.length : Int)) = false ∧ decide (c.few < 1) = true) ∨
    (decide ((c.reps.length : Int) < 1) = false ∧ decide ((5 : Int) < (c.reps.length : Int)) = false ∧ ((c.isr.length : Int) != (c.reps.length : Int)) = false ∧ ((c.known.length : Int) != (c.reps.length : Int)) = false ∧ decide (c.few < 1) = false ∧ decide ((c.reps.length : Int) < c.few) = true) ∨
    (decide ((c.reps.length : Int) < 1) = false ∧ decide ((5 : Int) < (c.reps.length : Int)) = false ∧ ((c.isr.length : Int) != (c.reps.length : Int)) = false ∧ ((c.known.length : Int) != (c.reps.length : Int)) = false ∧ decide (c.few < 1) = false ∧ decide ((c.reps.length : Int) < c.few) = false ∧ decide (c.epoch < 0) = true) ∨
    (decide ((c.reps.length : Int) < 1) = false ∧ decide ((5 : Int) < (c.reps.length : Int)) = false ∧ ((c.isr.length : Int) != (c.reps.length : Int)) = false ∧ ((c.known.length : Int) != (c.reps.length : Int)) = false ∧ decide (c.few < 1) = false ∧ decide ((c.reps.length : Int) < c.few) = false ∧ decide (c.epoch < 0) = false ∧ decide (1073741824 < c.epoch) = true) ∨
    (decide ((c.reps.length : Int) < 1) = false ∧ decide ((5 : Int) < (c.reps.length : Int)) = false ∧ ((c.isr.length : Int) != (c.reps.length : Int)) = false ∧ ((c.known.length : Int) != (c.reps.length : Int)) = false ∧ decide (c.few < 1) = false ∧ decide ((c.reps.length : Int) < c.few) = false ∧ decide (c.epoch < 0) = false ∧ decide (1073741824 < c.epoch) = false ∧ decide (c.leader < -1) = true) ∨
    (decide ((c.reps.length : Int) < 1) = false ∧ decide ((5 : Int) < (c.reps.length : Int)) = false ∧ ((c.isr.length : Int) != (c.reps.length : Int)) = false ∧ ((c.known.length : Int) != (c.reps.length : Int)) = false ∧ decide (c.few < 1) = false ∧ decide ((c.reps.length : Int) < c.few) = false ∧ decide (c.epoch < 0) = false ∧ decide (1073741824 < c.epoch) = false ∧ decide (c.leader < -1) = false ∧ decide ((c.reps.length : Int) ≤ c.leader) = true) ∨
    (decide ((c.reps.length : Int) < 1) = false ∧ decide ((5 : Int) < (c.reps.length : Int)) = false ∧ ((c.isr.length : Int) != (c.reps.length : Int)) = false ∧ ((c.known.length : Int) != (c.reps.length : Int)) = false ∧ decide (c.few < 1) = false ∧ decide ((c.reps.length : Int) < c.few) = false ∧ decide (c.epoch < 0) = false ∧ decide (1073741824 < c.epoch) = false ∧ decide (c.leader < -1) = false ∧ decide ((c.reps.length : Int) ≤ c.leader) = false ∧ decide (c.base < 0) = true) ∨
    (decide ((c.reps.length : Int) < 1) = false ∧ decide ((5 : Int) < (c.reps.length : Int)) = false ∧ ((c.isr.length : Int) != (c.reps.length : Int)) = false ∧ ((c.known.length : Int) != (c.reps.length : Int)) = false ∧ decide (c.few < 1) = false ∧ decide ((c.reps.length : Int) < c.few) = false ∧ decide (c.epoch < 0) = false ∧ decide (1073741824 < c.epoch) = false ∧ decide (c.leader < -1) = false ∧ decide ((c.reps.length : Int) ≤ c.leader) = false ∧ decide (c.base < 0) = false ∧ decide (400 < c.base) = true)) := by
  by_cases h : PartHead c
  · exact Or.inl h
  · refine Or.inr ⟨h, ?_⟩
    rcases first_true (decide ((c.reps.length : Int) < 1)) (decide ((5 : Int) < (c.reps.length : Int))) (((c.isr.length : Int) != (c.reps.length : Int))) (((c.known.length : Int) != (c.reps.length : Int))) (decide (c.few < 1)) (decide ((c.reps.length : Int) < c.few)) (decide (c.epoch < 0)) (decide (1073741824 < c.epoch)) (decide (c.leader < -1)) (decide ((c.reps.length : Int) ≤ c.leader)) (decide (c.base < 0)) (decide (400 < c.base)) with ⟨h0, h1, h2, h3, h4, h5, h6, h7, h8, h9, h10, h11⟩ | h'
    · simp only [decide_eq_false_iff_not, bne_eq_false_iff_eq] at h0 h1 h2 h3 h4 h5 h6 h7 h8 h9 h10 h11
      exact absurd ⟨⟨by omega, by omega⟩, by omega, by omega, ⟨by omega, by omega⟩, ⟨by omega, by omega⟩, ⟨by omega, by omega⟩, ⟨by omega, by omega⟩⟩ h
    · exact h'
set_option maxRecDepth 100000 in
set_option maxHeartbeats 4000000 in
theorem partCheck_head (v : Value) (c : PartD) (w : World) (h : Pv w v c) (hn : ¬ PartHead c) (hcs : (decide ((c.reps.length : Int) < 1) = true) ∨ (decide ((c.reps.length : Int) < 1) = false ∧ decide ((5 : Int) < (c.reps.length : Int)) = true) ∨ (decide ((c.reps.length : Int) < 1) = false ∧ decide ((5 : Int) < (c.reps.length : Int)) = false ∧ ((c.isr.length : Int) != (c.reps.length : Int)) = true) ∨ (decide ((c.reps.length : Int) < 1) = false ∧ decide ((5 : Int) < (c.reps.length : Int)) = false ∧ ((c.isr.length : Int) != (c.reps.length : Int)) = false ∧ ((c.known.length : Int) != (c.reps.length : Int)) = true) ∨ (decide ((c.reps.length : Int) < 1) = false ∧ decide ((5 : Int) < (c.reps.length : Int)) = false ∧ ((c.isr.length : Int) != (c.reps.length : Int)) = false ∧ ((c.known.length : Int) != (c.reps.length : Int)) = false ∧ decide (c.few < 1) = true) ∨ (decide ((c.reps.length : Int) < 1) = false ∧ decide ((5 : Int) < (c.reps.length : Int)) = false ∧ ((c.isr.length : Int) != (c.reps.length : Int)) = false ∧ ((c.known.length : Int) != (c.reps.length : Int)) = false ∧ decide (c.few < 1) = false ∧ decide ((c.reps.length : Int) < c.few) = true) ∨ (decide ((c.reps.length : Int) < 1) = false ∧ decide ((5 : Int) < (c.reps.length : Int)) = false ∧ ((c.isr.length : Int) != (c.reps.length : Int)) = false ∧ ((c.known.length : Int) != (c.reps.length : Int)) = false ∧ decide (c.few < 1) = false ∧ decide ((c.reps.length : Int) < c.few) = false ∧ decide (c.epoch < 0) = true) ∨ (decide ((c.reps.length : Int) < 1) = false ∧ decide ((5 : Int) < (c.reps.length : Int)) = false ∧ ((c.isr.length : Int) != (c.reps.length : Int)) = false ∧ ((c.known.length : Int) != (c.reps.length : Int)) = false ∧ decide (c.few < 1) = false ∧ decide ((c.reps.length : Int) < c.few) = false ∧ decide (c.epoch < 0) = false ∧ decide (1073741824 < c.epoch) = true) ∨ (decide ((c.reps.length : Int) < 1) = false ∧ decide ((5 : Int) < (c.reps.length : Int)) = false ∧ ((c.isr.length : Int) != (c.reps.length : Int)) = false ∧ ((c.known.length : Int) != (c.reps.length : Int)) = false ∧ decide (c.few < 1) = false ∧ decide ((c.reps.length : Int) < c.few) = false ∧ decide (c.epoch < 0) = false ∧ decide (1073741824 < c.epoch) = false ∧ decide (c.leader < -1) = true) ∨ (decide ((c.reps.length : Int) < 1) = false ∧ decide ((5 : Int) < (c.reps.length : Int)) = false ∧ ((c.isr.length : Int) != (c.reps.length : Int)) = false ∧ ((c.known.length : Int) != (c.reps.length : Int)) = false ∧ decide (c.few < 1) = false ∧ decide ((c.reps.length : Int) < c.few) = false ∧ decide (c.epoch < 0) = false ∧ decide (1073741824 < c.epoch) = false ∧ decide (c.leader < -1) = false ∧ decide ((c.reps.length : Int) ≤ c.leader) = true) ∨ (decide ((c.reps.length : Int) < 1) = false ∧ decide ((5 : Int) < (c.reps.length : Int)) = false ∧ ((c.isr.length : Int) != (c.reps.length : Int)) = false ∧ ((c.known.length : Int) != (c.reps.length : Int)) = false ∧ decide (c.few < 1) = false ∧ decide ((c.reps.length : Int) < c.few) = false ∧ decide (c.epoch < 0) = false ∧ decide (1073741824 < c.epoch) = false ∧ decide (c.leader < -1) = false ∧ decide ((c.reps.length : Int) ≤ c.leader) = false ∧ decide (c.base < 0) = true) ∨ (decide ((c.reps.length : Int) < 1) = false ∧ decide ((5 : Int) < (c.reps.length : Int)) = false ∧ ((c.isr.length : Int) != (c.reps.length : Int)) = false ∧ ((c.known.length : Int) != (c.reps.length : Int)) = false ∧ decide (c.few < 1) = false ∧ decide ((c.reps.length : Int) < c.few) = false ∧ decide (c.epoch < 0) = false ∧ decide (1073741824 < c.epoch) = false ∧ decide (c.leader < -1) = false ∧ decide ((c.reps.length : Int) ≤ c.leader) = false ∧ decide (c.base < 0) = false ∧ decide (400 < c.base) = true)) :
    Calls Try.prog 41 #[v] w (Answers (PartOk c) w) := by
  have HN := Lib.hid (show ¬ PartOk c from fun h => hn h.head)
  clear hn
  obtain ⟨xi, xk, xr, rfl, ix, kx, rx, hli, hlk, hlr⟩ := id h
  obtain ⟨A5, c5, rfl, hc5, -⟩ := rx.at_
  obtain ⟨A1, c1, rfl, hc1, -⟩ := ix.at_
  obtain ⟨A3, c3, rfl, hc3, -⟩ := kx.at_
  unfold partV at *
  clear h ix kx rx
  obtain ⟨ep, ld, is, ks, rs, fw, ba⟩ := c
  simp only at *
  rcases hcs with z0 | ⟨z0, z1⟩ | ⟨z0, z1, z2⟩ | ⟨z0, z1, z2, z3⟩ | ⟨z0, z1, z2, z3, z4⟩ | ⟨z0, z1, z2, z3, z4, z5⟩ | ⟨z0, z1, z2, z3, z4, z5, z6⟩ | ⟨z0, z1, z2, z3, z4, z5, z6, z7⟩ | ⟨z0, z1, z2, z3, z4, z5, z6, z7, z8⟩ | ⟨z0, z1, z2, z3, z4, z5, z6, z7, z8, z9⟩ | ⟨z0, z1, z2, z3, z4, z5, z6, z7, z8, z9, z10⟩ | ⟨z0, z1, z2, z3, z4, z5, z6, z7, z8, z9, z10, z11⟩
  all_goals
    go_enter Try.func41, Try.ntmps41
    go_wp2
    go_ret
    exact Answers.mk_no HN.out ((Below.refl _ _).alloc (Nat.le_refl _) _)
end Go.Proofs.Ytpjjfnpdopdnkaa
