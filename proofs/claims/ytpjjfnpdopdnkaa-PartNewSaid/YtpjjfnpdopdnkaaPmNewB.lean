/- part.New, tailraceref.NewOf: what is refused. -/
import Derived.Test.YtpjjfnpdopdnkaaPmNewOf
namespace Go.Proofs.Ytpjjfnpdopdnkaa
open Go.RowKit
attribute [local go_sem ↓] Go.wp_at_zero Go.wp_at_succ

theorem PSm.newD {n : Nat} (few : Int) (h : n ≤ 5) : PSm (newD n few) := by
  refine ⟨by simp [_root_.Go.Proofs.Ytpjjfnpdopdnkaa.newD]; exact h, by simp [_root_.Go.Proofs.Ytpjjfnpdopdnkaa.newD]; exact h, by simp [_root_.Go.Proofs.Ytpjjfnpdopdnkaa.newD]; exact h, fun t ht => ?_⟩
  obtain rfl := List.eq_of_mem_replicate ht
  simp
set_option maxRecDepth 100000 in
set_option maxHeartbeats 4000000 in
theorem new_bad (n few : Int) (hr : n < 1 ∨ 5 < n ∨ few < 1 ∨ n < few) (w : World) : Calls Try.prog 23 #[.int .i64 n, .int .i64 few] w (RefusesP 2 w) := by
  by_cases h0 : n < 1
  · have z0 : decide (n < 1) = true := decide_eq_true h0
    clear hr h0
    go_enter Try.func23, Try.ntmps23
    go_wp2
    have hbF : Below w.heap.size w (w.alloc (.cells #[.int .i64 0, .int .i64 0, .slice none 0 0, .slice none 0 0, .slice none 0 0, .int .i64 0, .int .i64 0] 26)) := (Below.refl _ _).alloc (by first | omega | (simp; done) | (simp; omega)) _
    have b_bzF : Blk (w.alloc (.cells #[.int .i64 0, .int .i64 0, .slice none 0 0, .slice none 0 0, .slice none 0 0, .int .i64 0, .int .i64 0] 26)) (w.heap.size) 26 #[.int .i64 0, .int .i64 0, .slice none 0 0, .slice none 0 0, .slice none 0 0, .int .i64 0, .int .i64 0] := Blk.new_ _ 26 #[.int .i64 0, .int .i64 0, .slice none 0 0, .slice none 0 0, .slice none 0 0, .int .i64 0, .int .i64 0] (by first | rfl | (simp; done) | (simp; omega))
    have y0 := b_bzF.cell 0
    have y1 := b_bzF.cell 1
    have y2 := b_bzF.cell 2
    have y3 := b_bzF.cell 3
    have y4 := b_bzF.cell 4
    have y5 := b_bzF.cell 5
    have y6 := b_bzF.cell 6
    exact bodyPost_ret (v := .tuple #[.agg #[.int .i64 0, .int .i64 0, .slice none 0 0, .slice none 0 0, .slice none 0 0, .int .i64 0, .int .i64 0], .int .i64 2]) (by simp [results, Try.results23, go_sem, y0, y1, y2, y3, y4, y5, y6]) rfl (⟨rfl, hbF⟩)
  have z0 : decide (n < 1) = false := decide_eq_false h0
  by_cases h1 : 5 < n
  · have z1 : decide (5 < n) = true := decide_eq_true h1
    clear hr h0 h1
    go_enter Try.func23, Try.ntmps23
    go_wp2
    have hbF : Below w.heap.size w (w.alloc (.cells #[.int .i64 0, .int .i64 0, .slice none 0 0, .slice none 0 0, .slice none 0 0, .int .i64 0, .int .i64 0] 26)) := (Below.refl _ _).alloc (by first | omega | (simp; done) | (simp; omega)) _
    have b_bzF : Blk (w.alloc (.cells #[.int .i64 0, .int .i64 0, .slice none 0 0, .slice none 0 0, .slice none 0 0, .int .i64 0, .int .i64 0] 26)) (w.heap.size) 26 #[.int .i64 0, .int .i64 0, .slice none 0 0, .slice none 0 0, .slice none 0 0, .int .i64 0, .int .i64 0] := Blk.new_ _ 26 #[.int .i64 0, .int .i64 0, .slice none 0 0, .slice none 0 0, .slice none 0 0, .int .i64 0, .int .i64 0] (by first | rfl | (simp; done) | (simp; omega))
    have y0 := b_bzF.cell 0
    have y1 := b_bzF.cell 1
    have y2 := b_bzF.cell 2
    have y3 := b_bzF.cell 3
    have y4 := b_bzF.cell 4
    have y5 := b_bzF.cell 5
    have y6 := b_bzF.cell 6
    exact bodyPost_ret (v := .tuple #[.agg #[.int .i64 0, .int .i64 0, .slice none 0 0, .slice none 0 0, .slice none 0 0, .int .i64 0, .int .i64 0], .int .i64 2]) (by simp [results, Try.results23, go_sem, y0, y1, y2, y3, y4, y5, y6]) rfl (⟨rfl, hbF⟩)
  have z1 : decide (5 < n) = false := decide_eq_false h1
  by_cases h2 : few < 1
  · have z2 : decide (few < 1) = true := decide_eq_true h2
    clear hr h0 h1 h2
    go_enter Try.func23, Try.ntmps23
    go_wp2
    have hbF : Below w.heap.size w (w.alloc (.cells #[.int .i64 0, .int .i64 0, .slice none 0 0, .slice none 0 0, .slice none 0 0, .int .i64 0, .int .i64 0] 26)) := (Below.refl _ _).alloc (by first | omega | (simp; done) | (simp; omega)) _
    have b_bzF : Blk (w.alloc (.cells #[.int .i64 0, .int .i64 0, .slice none 0 0, .slice none 0 0, .slice none 0 0, .int .i64 0, .int .i64 0] 26)) (w.heap.size) 26 #[.int .i64 0, .int .i64 0, .slice none 0 0, .slice none 0 0, .slice none 0 0, .int .i64 0, .int .i64 0] := Blk.new_ _ 26 #[.int .i64 0, .int .i64 0, .slice none 0 0, .slice none 0 0, .slice none 0 0, .int .i64 0, .int .i64 0] (by first | rfl | (simp; done) | (simp; omega))
    have y0 := b_bzF.cell 0
    have y1 := b_bzF.cell 1
    have y2 := b_bzF.cell 2
    have y3 := b_bzF.cell 3
    have y4 := b_bzF.cell 4
    have y5 := b_bzF.cell 5
    have y6 := b_bzF.cell 6
    exact bodyPost_ret (v := .tuple #[.agg #[.int .i64 0, .int .i64 0, .slice none 0 0, .slice none 0 0, .slice none 0 0, .int .i64 0, .int .i64 0], .int .i64 2]) (by simp [results, Try.results23, go_sem, y0, y1, y2, y3, y4, y5, y6]) rfl (⟨rfl, hbF⟩)
  have z2 : decide (few < 1) = false := decide_eq_false h2
  have z3 : decide (n < few) = true := decide_eq_true (by omega)
  clear hr h0 h1 h2
  go_enter Try.func23, Try.ntmps23
  go_wp2
  have hbF : Below w.heap.size w (w.alloc (.cells #[.int .i64 0, .int .i64 0, .slice none 0 0, .slice none 0 0, .slice none 0 0, .int .i64 0, .int .i64 0] 26)) := (Below.refl _ _).alloc (by first | omega | (simp; done) | (simp; omega)) _
  have b_bzF : Blk (w.alloc (.cells #[.int .i64 0, .int .i64 0, .slice none 0 0, .slice none 0 0, .slice none 0 0, .int .i64 0, .int .i64 0] 26)) (w.heap.size) 26 #[.int .i64 0, .int .i64 0, .slice none 0 0, .slice none 0 0, .slice none 0 0, .int .i64 0, .int .i64 0] := Blk.new_ _ 26 #[.int .i64 0, .int .i64 0, .slice none 0 0, .slice none 0 0, .slice none 0 0, .int .i64 0, .int .i64 0] (by first | rfl | (simp; done) | (simp; omega))
  have y0 := b_bzF.cell 0
  have y1 := b_bzF.cell 1
  have y2 := b_bzF.cell 2
  have y3 := b_bzF.cell 3
  have y4 := b_bzF.cell 4
  have y5 := b_bzF.cell 5
  have y6 := b_bzF.cell 6
  exact bodyPost_ret (v := .tuple #[.agg #[.int .i64 0, .int .i64 0, .slice none 0 0, .slice none 0 0, .slice none 0 0, .int .i64 0, .int .i64 0], .int .i64 2]) (by simp [results, Try.results23, go_sem, y0, y1, y2, y3, y4, y5, y6]) rfl (⟨rfl, hbF⟩)
set_option maxRecDepth 100000 in
set_option maxHeartbeats 4000000 in
theorem newOf_bad (n few : Int) (hr : n < 1 ∨ 5 < n ∨ few < 1 ∨ n < few) (w : World) : Calls Try.prog 24 #[.int .i64 n, .int .i64 few] w (RefusesP 2 w) := by
  by_cases h0 : n < 1 ∨ 5 < n
  · have z1 : inB n 1 5 = false := by
      unfold inB
      simp only [Bool.and_eq_false_iff, decide_eq_false_iff_not]
      omega
    have Z1 := Lib.hid z1
    have Z2 := Z1
    clear hr h0 z1
    go_enter Try.func24, Try.ntmps24
    go_wp2_with (go_at_call 69; refine (In_any _ _ _ _).mono ?_; rintro e w9 ⟨rfl, rfl⟩; first | rw [Z1.out] | rw [Z2.out])
    have hbF : Below w.heap.size w (w.alloc (.cells #[.int .i64 0, .int .i64 0, .slice none 0 0, .slice none 0 0, .slice none 0 0, .int .i64 0, .int .i64 0] 26)) := (Below.refl _ _).alloc (by first | omega | (simp; done) | (simp; omega)) _
    have b_bzF : Blk (w.alloc (.cells #[.int .i64 0, .int .i64 0, .slice none 0 0, .slice none 0 0, .slice none 0 0, .int .i64 0, .int .i64 0] 26)) (w.heap.size) 26 #[.int .i64 0, .int .i64 0, .slice none 0 0, .slice none 0 0, .slice none 0 0, .int .i64 0, .int .i64 0] := Blk.new_ _ 26 #[.int .i64 0, .int .i64 0, .slice none 0 0, .slice none 0 0, .slice none 0 0, .int .i64 0, .int .i64 0] (by first | rfl | (simp; done) | (simp; omega))
    have y0 := b_bzF.cell 0
    have y1 := b_bzF.cell 1
    have y2 := b_bzF.cell 2
    have y3 := b_bzF.cell 3
    have y4 := b_bzF.cell 4
    have y5 := b_bzF.cell 5
    have y6 := b_bzF.cell 6
    exact bodyPost_ret (v := .tuple #[.agg #[.int .i64 0, .int .i64 0, .slice none 0 0, .slice none 0 0, .slice none 0 0, .int .i64 0, .int .i64 0], .int .i64 2]) (by simp [results, Try.results24, go_sem, y0, y1, y2, y3, y4, y5, y6]) rfl (⟨rfl, hbF⟩)
  · have z1 : inB n 1 5 = true := by
      unfold inB
      simp only [Bool.and_eq_true, decide_eq_true_eq]
      omega
    have z2 : inB few 1 n = false := by
      unfold inB
      simp only [Bool.and_eq_false_iff, decide_eq_false_iff_not]
      omega
    have Z1 := Lib.hid z1
    have Z2 := Lib.hid z2
    clear hr h0 z1 z2
    go_enter Try.func24, Try.ntmps24
    go_wp2_with (go_at_call 69; refine (In_any _ _ _ _).mono ?_; rintro e w9 ⟨rfl, rfl⟩; first | rw [Z1.out] | rw [Z2.out])
    have hbF : Below w.heap.size w (w.alloc (.cells #[.int .i64 0, .int .i64 0, .slice none 0 0, .slice none 0 0, .slice none 0 0, .int .i64 0, .int .i64 0] 26)) := (Below.refl _ _).alloc (by first | omega | (simp; done) | (simp; omega)) _
    have b_bzF : Blk (w.alloc (.cells #[.int .i64 0, .int .i64 0, .slice none 0 0, .slice none 0 0, .slice none 0 0, .int .i64 0, .int .i64 0] 26)) (w.heap.size) 26 #[.int .i64 0, .int .i64 0, .slice none 0 0, .slice none 0 0, .slice none 0 0, .int .i64 0, .int .i64 0] := Blk.new_ _ 26 #[.int .i64 0, .int .i64 0, .slice none 0 0, .slice none 0 0, .slice none 0 0, .int .i64 0, .int .i64 0] (by first | rfl | (simp; done) | (simp; omega))
    have y0 := b_bzF.cell 0
    have y1 := b_bzF.cell 1
    have y2 := b_bzF.cell 2
    have y3 := b_bzF.cell 3
    have y4 := b_bzF.cell 4
    have y5 := b_bzF.cell 5
    have y6 := b_bzF.cell 6
    exact bodyPost_ret (v := .tuple #[.agg #[.int .i64 0, .int .i64 0, .slice none 0 0, .slice none 0 0, .slice none 0 0, .int .i64 0, .int .i64 0], .int .i64 2]) (by simp [results, Try.results24, go_sem, y0, y1, y2, y3, y4, y5, y6]) rfl (⟨rfl, hbF⟩)
end Go.Proofs.Ytpjjfnpdopdnkaa
