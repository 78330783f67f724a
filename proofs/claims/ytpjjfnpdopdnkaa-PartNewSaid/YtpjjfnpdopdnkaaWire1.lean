/- tailraceref.In, tailraceref.EntryFault and wire.Check: what they return; memory only grows. -/
import Derived.Test.YtpjjfnpdopdnkaaInB
namespace Go.Proofs.Ytpjjfnpdopdnkaa
open Go.RowKit

def entryFault (ep pid ver seq kind : Int) (txn : Bool) (ts : Nat) : Int :=
  if inB kind 1 3 = false then 3 else
  if (inB ep 0 1073741824 && inB pid 0 1073741824 && inB ver 0 1073741824 && inB seq 0 1073741824) = false then 2 else
  if 40 < ts then 1 else
  if kind ≠ 1 ∧ (pid = 0 ∨ txn = false ∨ 0 < seq ∨ 0 < ts) then 4 else
  if pid = 0 ∧ (txn = true ∨ 0 < ver ∨ 0 < seq) then 4 else 0

set_option maxHeartbeats 1000000 in
theorem EntryFault_any (ep pid ver seq kind : Int) (txn : Bool) (text : ByteArray) (w : World) :
    Calls Try.prog 97 #[.agg #[.int .i64 ep, .int .i64 pid, .int .i64 ver, .int .i64 seq, .int .i64 kind, .bool txn, .string text]] w fun e w' => e = .returned (.int .i64 (entryFault ep pid ver seq kind txn text.size)) ∧ Below w.heap.size w w' := by
  go_enter Try.func97, Try.ntmps97
  go_wp2_with (go_at_call 69; refine (In_any _ _ _ _).mono ?_; rintro e w' ⟨rfl, rfl⟩)
  all_goals go_ret
  all_goals refine ⟨ret_int ?_, (Below.refl _ _).alloc (by simp) _⟩
  all_goals go_light
  all_goals grind [entryFault]

def nat4 (a b c d : Int) (k : Nat) : Int := match k with | 0 => a | 1 => b | 2 => c | _ => d
def okTo (a b c d : Int) (k : Nat) : Prop := ∀ j < k, inB (nat4 a b c d j) 0 1073741824 = true
theorem okTo_step {a b c d : Int} {k : Nat} (h : okTo a b c d k) (h0 : 0 ≤ nat4 a b c d k) (h1 : nat4 a b c d k ≤ 1073741824) : okTo a b c d (k + 1) := by
  intro j hj
  rcases Nat.lt_succ_iff_lt_or_eq.1 hj with h' | rfl
  · exact h j h'
  · simp [inB, h0, h1]
theorem okTo_all {a b c d : Int} (h : okTo a b c d 4) : (inB a 0 1073741824 && inB b 0 1073741824 && inB c 0 1073741824 && inB d 0 1073741824) = true := by
  have h0 := h 0 (by omega)
  have h1 := h 1 (by omega)
  have h2 := h 2 (by omega)
  have h3 := h 3 (by omega)
  simp only [nat4] at h0 h1 h2 h3
  simp [h0, h1, h2, h3]

set_option maxHeartbeats 1000000 in
theorem wireCheck_any (ep pid ver seq kind : Int) (txn : Bool) (text : ByteArray) (w : World) :
    Calls Try.prog 95 #[.agg #[.int .i64 ep, .int .i64 pid, .int .i64 ver, .int .i64 seq, .int .i64 kind, .bool txn, .string text]] w fun e w' => e = .returned (.int .i64 (entryFault ep pid ver seq kind txn text.size)) ∧ Below w.heap.size w w' := by
  by_cases hk : inB kind 1 3 = true
  · have hk1 : 1 ≤ kind := by simp [inB] at hk; omega
    have hk3 : kind ≤ 3 := by simp [inB] at hk; omega
    have HK := Lib.hid hk
    clear hk
    go_enter Try.func95, Try.ntmps95
    go_wp2
    go_loop [23] (fun i => ∃ k : Nat, k ≤ 4 ∧ i = .int .i64 k ∧ Hid (okTo ep pid ver seq k)) (fun i => 4 - (intOf i).toNat)
    case atStart => exact ⟨0, by omega, rfl, fun j hj => by omega⟩
    case round =>
      obtain ⟨k, hk, rfl, ho⟩ := hrel
      by_cases h4 : k < 4
      · rcases (by omega : k = 0 ∨ k = 1 ∨ k = 2 ∨ k = 3) with rfl | rfl | rfl | rfl
        all_goals go_wp2
        all_goals first
          | (refine ⟨⟨_, ?_, rfl, okTo_step ho.out ?_ ?_⟩, ?_⟩ <;> first | (simp only [nat4]; omega) | (simp [intOf]; done) | omega)
          | (go_ret
             refine ⟨ret_int ?_, (((Below.refl _ _).alloc (by simp) _).alloc (by simp) _)⟩
             have hk' := HK.out
             clear ho HK
             go_light
             grind [entryFault, inB])
      · obtain rfl : k = 4 := by omega
        have ho' := okTo_all ho.out
        have hb : 0 ≤ ver ∧ ver ≤ 1073741824 ∧ 0 ≤ seq ∧ seq ≤ 1073741824 := by simp [inB] at ho'; omega
        obtain ⟨hb1, hb2, hb3, hb4⟩ := hb
        have HO := Lib.hid ho'
        clear ho' h4
        go_wp2
        all_goals go_ret
        all_goals refine ⟨ret_int ?_, (((Below.refl _ _).alloc (by simp) _).alloc (by simp) _)⟩
        all_goals have hk' := HK.out
        all_goals have ho' := HO.out
        all_goals have hts := bytes_nil text
        all_goals clear ho HK HO
        all_goals go_light
        all_goals grind [entryFault, inB]
  · have hk' : kind < 1 ∨ 3 < kind := by simp [inB] at hk; omega
    have hf : entryFault ep pid ver seq kind txn text.size = 3 := by simp [entryFault, hk]
    have HF := Lib.hid hf
    clear hf hk
    go_enter Try.func95, Try.ntmps95
    rcases hk' with h | h
    all_goals go_wp2
    all_goals (go_ret; exact ⟨ret_int (by rw [HF.out]), ((Below.refl _ _).alloc (by simp) _)⟩)

end Go.Proofs.Ytpjjfnpdopdnkaa
