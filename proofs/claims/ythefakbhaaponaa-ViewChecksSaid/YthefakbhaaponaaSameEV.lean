/- tailracelaw.sameEntries of two lists that are the same. -/
import Derived.Test.YthefakbhaaponaaViewC
namespace Go.Proofs.Ythefakbhaaponaa
open Go.RowKit

set_option maxRecDepth 100000 in
set_option maxHeartbeats 1000000 in
theorem sameEntries_same (u v : Value) (es : List Ent) (w : World) (hu : Es w u es) (hv : Es w v es) (hl : es.length ≤ 9223372036854775807) :
    Calls Try.prog 12 #[u, v] w fun e w' => e = .returned (.bool true) ∧ Below w.heap.size w w' := by
  obtain ⟨A1, c1, rfl, hc1, hx1⟩ := hu.at_
  obtain ⟨A2, c2, rfl, hc2, hy1⟩ := hv.at_
  have HX := Lib.hid hx1
  have HY := Lib.hid hy1
  clear hu hv hx1 hy1
  go_enter Try.func12, Try.ntmps12
  go_wp2
  go_loopw [5] (fun i wr => ∃ k : Nat, k ≤ es.length ∧ i = .int .i64 k ∧ Hid (Below w.heap.size w wr)) (fun i _ => es.length - (intOf i).toNat)
  case atStart => exact ⟨0, by omega, rfl, Below.refl _ _⟩
  case round =>
    obtain ⟨k, hk, rfl, hbw⟩ := hrel
    by_cases hlt : k < es.length
    · obtain ⟨b1, o1, rfl, hbb1, q1⟩ := HX.out (by omega)
      obtain ⟨b2, o2, rfl, hbb2, q2⟩ := HY.out (by omega)
      obtain ⟨x0, x1, x2, x3, x4, x5, x6⟩ := q1 k hlt
      obtain ⟨y0, y1, y2, y3, y4, y5, y6⟩ := q2 k hlt
      have k1 : ∀ o, wr.cell? ⟨b1, o, none⟩ = w.cell? ⟨b1, o, none⟩ := fun o => hbw.out.cell (p := ⟨b1, o, none⟩) hbb1
      have k2 : ∀ o, wr.cell? ⟨b2, o, none⟩ = w.cell? ⟨b2, o, none⟩ := fun o => hbw.out.cell (p := ⟨b2, o, none⟩) hbb2
      replace x0 := (k1 _).trans x0
      replace x1 := (k1 _).trans x1
      replace x2 := (k1 _).trans x2
      replace x3 := (k1 _).trans x3
      replace x4 := (k1 _).trans x4
      replace x5 := (k1 _).trans x5
      replace x6 := (k1 _).trans x6
      replace y0 := (k2 _).trans y0
      replace y1 := (k2 _).trans y1
      replace y2 := (k2 _).trans y2
      replace y3 := (k2 _).trans y3
      replace y4 := (k2 _).trans y4
      replace y5 := (k2 _).trans y5
      replace y6 := (k2 _).trans y6
      have hj0 : (0 : Int) ≤ (k : Int) := by omega
      have hj1 : (k : Int) < (es.length : Int) := by omega
      clear k1 k2 q1 q2
      go_wp2
      go_quiet (fail)
      go_wp2
      go_light
      refine ⟨⟨k + 1, by omega, by go_num, ?_⟩, by simp [intOf]; omega⟩
      exact hbw.out.trans ((below_dn _ _).mono (by have := hbw.out.size; omega))
    · obtain rfl : k = es.length := by omega
      go_wp2
      go_ret
      exact ⟨rfl, hbw.out⟩
end Go.Proofs.Ythefakbhaaponaa
