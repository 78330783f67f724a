/- slices.IndexFunc and slices.ContainsFunc at []byte: the first place at which the function answers true. -/
import Derived.Test.YtjkoceacjbhblaaMem
import Derived.Test.YtjkoceacjbhblaaTells
import Derived.Shelf.AbstractIn
namespace Go.Proofs.Ytjkoceacjbhblaa
open Go.RowKit

set_option maxRecDepth 100000 in
set_option maxHeartbeats 1000000 in
theorem IdxByte_any (v : Value) (n : Nat) (xs : List Value) (P : Nat → Prop) (g : Nat) (lb : Array Value) (w : World) (h : Sl w 1 v n xs) (hm : n ≤ 9223372036854775807) (eg : ∀ args w, (callFunc g args).run Try.prog w = .ok (.enter g args) w)
    (hf : ∀ j u0, j < n → xs[j]? = some u0 → ∀ W, Below w.heap.size w W → Calls Try.prog g (#[u0] ++ lb) W (Tells (P j) W)) :
    Calls Try.prog 124 #[v, .func (.func g) #[] lb] w (Finds P n w) := by
  obtain ⟨hl, A, c, rfl, hc, hcl⟩ := h
  have HF := Lib.hid hf
  have HCL := Lib.hid hcl
  have HL := Lib.hid hl
  clear hf hcl hl
  go_enter Try.func124, Try.ntmps124
  go_wp2
  go_loopw [5, 8] (fun _ i wr => ∃ k : Nat, k ≤ n ∧ i = .int .i64 k ∧ Hid (Below w.heap.size w wr) ∧ Hid (∀ j, j < k → ¬ P j)) (fun _ i _ => n - (intOf i).toNat)
  case atStart => exact ⟨0, by omega, rfl, Below.refl _ _, fun j hj => by omega⟩
  case round =>
    obtain ⟨k, hk, rfl, BW, HN⟩ := hrel
    by_cases hlt : k < n
    · obtain ⟨b, off, rfl, hb, hcell⟩ := HCL.out (by omega)
      have hl := HL.out
      have hlt' : (k : Int) < (n : Int) := by omega
      obtain ⟨u0, g0⟩ : ∃ u, xs[k]? = some u := ⟨_, List.getElem?_eq_getElem (by omega)⟩
      have l0 := (BW.out.cell (p := ⟨b, off + (k), none⟩) hb).trans (hcell _ _ g0)
      have hcall := HF.out k _ hlt g0 wr BW.out
      clear hcell hl g0
      go_wp2_with (go_at_fn g; refine hcall.mono ?_; rintro e w1 ⟨q, rfl, hq, hb1⟩)
      all_goals first
        | (go_ret
           exact ⟨k, rfl, below_then BW.out hb1, Or.inl ⟨k, hlt, rfl, hq.1 (by assumption), HN.out⟩⟩)
        | skip
      go_roundw
      case rel => exact ⟨k + 1, by omega, by go_num, below_then BW.out hb1, fun j hj => by
        rcases Nat.lt_succ_iff_lt_or_eq.1 hj with h' | rfl
        · exact HN.out j h'
        · exact fun hp => by simp_all⟩
      case measure => simp [intOf]; omega
    · obtain rfl : k = n := by omega
      go_wp2
      go_ret
      exact ⟨-1, rfl, BW.out, Or.inr ⟨rfl, HN.out⟩⟩

set_option maxRecDepth 100000 in
set_option maxHeartbeats 1000000 in
theorem HasByte_any (v : Value) (n : Nat) (xs : List Value) (P : Nat → Prop) (g : Nat) (lb : Array Value) (w : World) (h : Sl w 1 v n xs) (hm : n ≤ 9223372036854775807) (eg : ∀ args w, (callFunc g args).run Try.prog w = .ok (.enter g args) w)
    (hf : ∀ j u0, j < n → xs[j]? = some u0 → ∀ W, Below w.heap.size w W → Calls Try.prog g (#[u0] ++ lb) W (Tells (P j) W)) :
    Calls Try.prog 109 #[v, .func (.func g) #[] lb] w (Tells (∃ j, j < n ∧ P j) w) := by
  obtain ⟨A, c, rfl, -⟩ := id h.form
  have hI := IdxByte_any _ n xs P g lb w h hm eg hf
  have H := Lib.hid hI
  clear hI hf h
  go_enter Try.func109, Try.ntmps109
  go_wp2_with (go_at_call 124; refine H.out.mono ?_; rintro e w1 ⟨r, rfl, hb1, hr⟩)
  go_ret
  refine ⟨_, rfl, ?_, hb1⟩
  rcases hr with ⟨k, h1, rfl, h2, _⟩ | ⟨rfl, h2⟩
  · simp
    exact ⟨k, h1, h2⟩
  · simp
    intro j hj
    exact h2 j hj
end Go.Proofs.Ytjkoceacjbhblaa
