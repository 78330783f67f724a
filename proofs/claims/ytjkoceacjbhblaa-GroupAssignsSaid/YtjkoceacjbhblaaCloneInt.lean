/- slices.Clone at []int: a row of its own that reads the same. -/
import Derived.Test.YtjkoceacjbhblaaMem
namespace Go.Proofs.Ytjkoceacjbhblaa
open Go.RowKit

theorem CloneInt_info : (Try.prog.info? 3).map (fun i => (i.zero, i.size, i.bytes)) = some (some (.int .i64 0), 1, 8) := by kernel_rfl
set_option maxRecDepth 100000 in
set_option maxHeartbeats 1000000 in
theorem CloneInt_any (v : Value) (n : Nat) (xs : List Value) (w : World) (h : Sl w 1 v n xs) (h1 : ∀ x ∈ xs, x.oneCell' = true) (hm : n ≤ maxLen) (hb : n * 8 ≤ 140737488355328) :
    Calls Try.prog 67 #[v] w fun e w' => ∃ v', e = .returned v' ∧ w'.ownsRow w.heap.size 3 1 v' n xs ∧ Below w.heap.size w w' := by
  obtain ⟨i0, hi0, hz0, hz1, hz2⟩ := info_parts CloneInt_info
  obtain ⟨hl, A, c, rfl, hc, hcl⟩ := h
  rcases A with _ | a
  · have hn : n = 0 := by
      rcases Nat.eq_zero_or_pos n with h0 | h0
      · exact h0
      · obtain ⟨_, _, e, _⟩ := hcl h0
        cases e
    subst hn
    have hx : xs = [] := List.eq_nil_of_length_eq_zero (by simpa using hl)
    have HX := Lib.hid hx
    clear hx
    have hnil := fun W => Lib.run_eql_slice_nil (P := Try.prog) W 24 3 none 0 c 0 0 Try.underlying24
    go_enter Try.func67, Try.ntmps67
    go_wp2
    go_ret
    exact ⟨_, rfl, by rw [HX.out]; exact World.ownsRow_nil _ _ _ _, Below.refl _ _⟩
  · have hsl : Sl w 1 (.slice (some a) n c) n xs := ⟨hl, some a, c, rfl, hc, hcl⟩
    have hnil := fun W => Lib.run_eql_slice_nil (P := Try.prog) W 24 3 (some a) n c 0 0 Try.underlying24
    go_enter Try.func67, Try.ntmps67
    go_wp2_with (at_builtin; go_must (refine wpList_append_sl _ rfl (.tmp 5) (.tmp 6) 24 rfl w.heap.size 3 i0 (.int .i64 0) 1 8 Try.underlying24 hi0 hz0 hz1 hz2 rfl (by decide) _ _ _ (by rfl) (own_lit (base := w.heap.size) w 3 _ 1 0 (Nat.le_refl _) (by simp [maxLen]) rfl) _ n xs (by rfl) (hsl.alloc _) h1 (by omega) (by omega) (by simp) ?_; intro v1 w1 ho1 hg1 ha1))
    go_ret
    exact ⟨v1, rfl, own_eq ho1 (by omega) (by simp), ((Below.refl _ _).alloc (Nat.le_refl _) _).grown hg1 (by simp) (by intro k hk; simp [Value.ownBlock] at hk; omega)⟩

end Go.Proofs.Ytjkoceacjbhblaa
