/- CoordChecksSaid is proved: coord.Check answers OK for a coordinator that may be, ErrState for any other. No condition. -/
import Derived.Test.YtjkoceacjbhblaaLawKit
import Derived.Test.YtjkoceacjbhblaaOpenCoord
import Derived.Test.YtjkoceacjbhblaaCheckB
import Derived.Test.YtjkoceacjbhblaaMayB
namespace Go.Proofs.Ytjkoceacjbhblaa.lawCoordChecks
open Go.ChangeShapes Go.WideShapes Go.ChangeAt Go.RowKit Go.Joins Go.Deep
open Go.ChangeMaps (open_string shut_string)

set_option maxRecDepth 100000 in
set_option maxHeartbeats 1000000 in
theorem walk (v : Value) (c : CoordD) (w : World) (h : Cv w v c) (hw : c.Wf) :
    Calls Try.prog 9 #[v] w fun e w' => e = .returned (.bool true) ∧ Below w.heap.size w w' := by
  have hnm : ∀ t ∈ c.txns, t.name.size ≤ 9223372036854775807 := fun t ht => by
    have := (hw.2.2.2.2 t ht).1
    simp only [maxLen] at this
    omega
  obtain ⟨tv, rfl, -⟩ := id h
  unfold coordV at *
  have H := Lib.hid h
  have HN := Lib.hid hnm
  clear h hw hnm
  go_enter Try.func9, Try.ntmps9
  go_wp2_with fail
  have hal : Below w.heap.size w (w.alloc (.cells #[.int .i64 c.clock, .int .i64 c.next, .int .i64 c.wait, tv] 28)) := (Below.refl _ _).alloc (Nat.le_refl _) _
  have bx := Blk.new w 28 #[.int .i64 c.clock, .int .i64 c.next, .int .i64 c.wait, tv]
  refine (coord_check_any _ c _ (H.out.below hal)).mono ?_
  rintro e w1 hA
  have hb1 := hA.below
  have hb2 := below_then hal hb1
  have bx1 := bx.below hb1 bx.lt
  have c0 := bx1.cell 0
  have c1 := bx1.cell 1
  have c2 := bx1.cell 2
  have c3 := bx1.cell 3
  have hlt := bx1.lt
  have HB := Lib.hid hb2
  clear hal bx bx1 hb1 hb2
  obtain ⟨tA, tn, tm, rfl⟩ : ∃ A n m, tv = .slice A n m := by
    obtain ⟨u', e1, h2, h3⟩ := H.out
    injection e1 with e1
    simp only [Array.mk.injEq, List.cons.injEq, and_true, true_and] at e1
    subst e1
    obtain ⟨A, c9, rfl, -⟩ := h2.at_
    exact ⟨A, _, c9, rfl⟩
  by_cases hk : CoordOk c
  · obtain ⟨rfl, -⟩ := hA.yes hk
    have HK := Lib.hid hk
    clear hA hk
    go_wp2_with fail
    refine (coord_may_any _ c _ (H.out.below HB.out) HN.out).mono ?_
    rintro e w2 hT
    obtain ⟨rfl, hb2⟩ := hT.yes HK.out
    have hb3 := below_then HB.out hb2
    go_wp2
    go_ret
    exact ⟨rfl, hb3⟩
  · obtain ⟨rfl, -⟩ := hA.no hk
    have HK := Lib.hid hk
    clear hA hk
    go_wp2_with fail
    refine (coord_may_any _ c _ (H.out.below HB.out) HN.out).mono ?_
    rintro e w2 hT
    obtain ⟨rfl, hb2⟩ := hT.no HK.out
    have hb3 := below_then HB.out hb2
    go_wp2
    go_ret
    exact ⟨rfl, hb3⟩

set_option maxRecDepth 100000 in
theorem contract (H : Type) (enc : TypeId × Value → H) (W : World) (base : Nat) (args : Array Value) (ds gs : List (DataW H)) (before : List MemPlace)
    (hval : ∀ (j : Nat) t v, Try.f9.params[j]? = some t → args[j]? = some v → Value.okWide Try.prog W .any base t v)
    (hW : DataW.Whole enc Try.prog Try.f9.params.toList Rows.coordChecksSpec.vars false W args.toList ds gs before) :
    Calls Try.prog 9 args W fun e W' => ∃ v, e = .returned v ∧ Rows.coordChecksSpec.post enc Try.prog Try.f9 false true false false W args v W' := by
  have hW' := hW
  obtain ⟨p, q, hA0, hV, rfl, hfz, hnd⟩ := hW
  have hA : DataW.TrodAll enc Try.prog W 0 (fun _ => true) true Try.f9.params.toList args.toList ds p := hA0
  rw [Try.params9] at hA hval
  obtain ⟨v0, vs0, d0, ds0, p0, q0, hargs, rfl, rfl, h0, r0⟩ := trodAll_cons hA
  obtain ⟨rfl, rfl, rfl⟩ := trodAll_nil r0
  obtain rfl : args = #[v0] := by cases args; simp_all
  obtain ⟨rfl, rfl⟩ := trodVars_none hV
  obtain ⟨c, cvc, wfc, -⟩ := open_coord (hval 0 28 v0 rfl rfl) h0
  refine Calls.mono (R := fun e W' => e = .returned (.bool true) ∧ Below W.heap.size W W') ?_ fun e W' ⟨he, hb⟩ => ?_
  · refine walk v0 c W cvc wfc
  · subst he
    exact ⟨_, rfl, law_post laid_ rfl rfl (by rfl) Try.underlying4 (by rw [Try.params9]; exact rec_ok (by kernel_rfl)) hW' hb⟩

set_option maxRecDepth 100000 in
theorem lifted (os : Os) (started : os.Started) (H : Type) (enc : TypeId × Value → H) :
    ReturnsInHanded {} Try.checked os 9 .any (Rows.coordChecksSpec.pre6 enc Try.prog Try.f9 Rows.coordChecksRow.domain false) (Rows.coordChecksSpec.post enc Try.prog Try.f9 false true false false) := by
  refine returnsInHanded_of_change (C := Try.checked) own_ started (by kernel_rfl) Try.func9
    (ChangeSpec.witness6 (enc := enc) (C := Try.checked) false ⟨#[], #[.agg #[.int .i64 0, .int .i64 0, .int .i64 0, .slice none 0 0]], []⟩ 8 (by kernel_rfl) (by kernel_rfl) (by kernel_rfl) (by kernel_rfl)) ?_
  intro W base args ds gs before hval hW _ _
  exact contract H enc W base args ds gs before hval hW

theorem closed : joinedFacts Try.prog 9 Try.f9 Rows.coordChecksSpec Rows.coordChecksRow = true := by
  unfold joinedFacts
  rw [mayEnter_, lifts_, make_]
  kernel_rfl

theorem proved : Rows.CoordChecksSaid :=
  OpenClaim.holds_of_wide 9 Try.f9 rfl rfl rfl rfl rfl rfl rfl ⟨rfl, rfl, rfl, rfl, rfl⟩ rfl rfl rfl rfl rfl (by kernel_rfl) Try.func9 closed
    (of_decide_eq_true (by kernel_rfl)) (by unfold Func.isWrapper; first | (rw [if_pos (by decide +kernel)]; kernel_rfl) | (rw [if_neg (by decide +kernel)]; exact ⟨rfl, rfl⟩))
    (fun os started H enc _ => lifted os started H enc)

end Go.Proofs.Ytjkoceacjbhblaa.lawCoordChecks
