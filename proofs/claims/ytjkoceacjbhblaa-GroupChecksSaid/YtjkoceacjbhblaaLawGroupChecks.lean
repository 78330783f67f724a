/- GroupChecksSaid is proved: group.Check answers OK for a group that may be, ErrState for any other. No condition. -/
import Derived.Test.YtjkoceacjbhblaaLawKit
import Derived.Test.YtjkoceacjbhblaaOpenGroup
import Derived.Test.YtjkoceacjbhblaaGrpC
import Derived.Test.YtjkoceacjbhblaaGrpM
namespace Go.Proofs.Ytjkoceacjbhblaa.lawGroupChecks
open Go.ChangeShapes Go.WideShapes Go.ChangeAt Go.RowKit Go.Joins Go.Deep
open Go.ChangeMaps (open_string shut_string)

set_option maxRecDepth 100000 in
set_option maxHeartbeats 1000000 in
theorem walk (v : Value) (c : GroupD) (w : World) (h : Gv w v c) (hw : c.Wf) :
    Calls Try.prog 8 #[v] w fun e w' => e = .returned (.bool true) ∧ Below w.heap.size w w' := by
  have hnm : ∀ t ∈ c.mems, t.name.size ≤ 9223372036854775807 := fun t ht => by
    have := (hw.2.2.2.2.1 t ht).1
    simp only [maxLen] at this
    omega
  obtain ⟨mv, ov, rfl, hx, ho, -⟩ := id h
  obtain ⟨A, m, rfl, -⟩ := hx.at_
  obtain ⟨A', m', rfl, -⟩ := ho.at_
  unfold groupV at *
  have H := Lib.hid h
  have HN := Lib.hid hnm
  clear h hw hnm hx ho
  go_enter Try.func8, Try.ntmps8
  go_wp2_with fail
  have hal : Below w.heap.size w (w.alloc (.cells #[.int .i64 c.clock, .int .i64 c.wait, .int .i64 c.gen, .slice A c.mems.length m, .slice A' c.offs.length m'] 36)) := (Below.refl _ _).alloc (Nat.le_refl _) _
  have bx := Blk.new w 36 #[.int .i64 c.clock, .int .i64 c.wait, .int .i64 c.gen, .slice A c.mems.length m, .slice A' c.offs.length m']
  refine (group_check_any _ c _ (H.out.below hal)).mono ?_
  rintro e w1 hA
  have hb1 := hA.below
  have hb2 := below_then hal hb1
  have bx1 := bx.below hb1 bx.lt
  have c0 := bx1.cell 0
  have c1 := bx1.cell 1
  have c2 := bx1.cell 2
  have c3 := bx1.cell 3
  have c4 := bx1.cell 4
  have hlt := bx1.lt
  have HB := Lib.hid hb2
  clear hal bx bx1 hb1 hb2
  by_cases hk : GroupOk c
  · obtain ⟨rfl, -⟩ := hA.yes hk
    have HK := Lib.hid hk
    clear hA hk
    go_wp2_with fail
    refine (group_may_any _ c _ (H.out.below HB.out) HN.out).mono ?_
    rintro e w2 hT
    obtain ⟨rfl, hb2⟩ := hT.yes HK.out
    have hb3 := below_then HB.out hb2
    go_wp2
    go_ret
    exact ⟨rfl, hb3⟩
  · obtain ⟨rfl, -⟩ := hA.no hk
    have HK := Lib.hid hk
    clear hA hk
    go_wp2_with fail
    refine (group_may_any _ c _ (H.out.below HB.out) HN.out).mono ?_
    rintro e w2 hT
    obtain ⟨rfl, hb2⟩ := hT.no HK.out
    have hb3 := below_then HB.out hb2
    go_wp2
    go_ret
    exact ⟨rfl, hb3⟩

set_option maxRecDepth 100000 in
theorem contract (H : Type) (enc : TypeId × Value → H) (W : World) (base : Nat) (args : Array Value) (ds gs : List (DataW H)) (before : List MemPlace)
    (hval : ∀ (j : Nat) t v, Try.f8.params[j]? = some t → args[j]? = some v → Value.okWide Try.prog W .any base t v)
    (hW : DataW.Whole enc Try.prog Try.f8.params.toList Rows.groupChecksSpec.vars false W args.toList ds gs before) :
    Calls Try.prog 8 args W fun e W' => ∃ v, e = .returned v ∧ Rows.groupChecksSpec.post enc Try.prog Try.f8 false true false false W args v W' := by
  have hW' := hW
  obtain ⟨p, q, hA0, hV, rfl, hfz, hnd⟩ := hW
  have hA : DataW.TrodAll enc Try.prog W 0 (fun _ => true) true Try.f8.params.toList args.toList ds p := hA0
  rw [Try.params8] at hA hval
  obtain ⟨v0, vs0, d0, ds0, p0, q0, hargs, rfl, rfl, h0, r0⟩ := trodAll_cons hA
  obtain ⟨rfl, rfl, rfl⟩ := trodAll_nil r0
  obtain rfl : args = #[v0] := by cases args; simp_all
  obtain ⟨rfl, rfl⟩ := trodVars_none hV
  obtain ⟨c, gvc, wfc, -⟩ := open_group (hval 0 36 v0 rfl rfl) h0
  refine Calls.mono (R := fun e W' => e = .returned (.bool true) ∧ Below W.heap.size W W') ?_ fun e W' ⟨he, hb⟩ => ?_
  · refine walk v0 c W gvc wfc
  · subst he
    exact ⟨_, rfl, law_post laid_ rfl rfl (by rfl) Try.underlying4 (by rw [Try.params8]; exact rec_ok (by kernel_rfl)) hW' hb⟩

set_option maxRecDepth 100000 in
theorem lifted (os : Os) (started : os.Started) (H : Type) (enc : TypeId × Value → H) :
    ReturnsInHanded {} Try.checked os 8 .any (Rows.groupChecksSpec.pre6 enc Try.prog Try.f8 Rows.groupChecksRow.domain false) (Rows.groupChecksSpec.post enc Try.prog Try.f8 false true false false) := by
  refine returnsInHanded_of_change (C := Try.checked) own_ started (by kernel_rfl) Try.func8
    (ChangeSpec.witness6 (enc := enc) (C := Try.checked) false ⟨#[], #[.agg #[.int .i64 0, .int .i64 0, .int .i64 0, .slice none 0 0, .slice none 0 0]], []⟩ 8 (by kernel_rfl) (by kernel_rfl) (by kernel_rfl) (by kernel_rfl)) ?_
  intro W base args ds gs before hval hW _ _
  exact contract H enc W base args ds gs before hval hW

theorem closed : joinedFacts Try.prog 8 Try.f8 Rows.groupChecksSpec Rows.groupChecksRow = true := by
  unfold joinedFacts
  rw [mayEnter_, lifts_, make_]
  kernel_rfl

theorem proved : Rows.GroupChecksSaid :=
  OpenClaim.holds_of_wide 8 Try.f8 rfl rfl rfl rfl rfl rfl rfl ⟨rfl, rfl, rfl, rfl, rfl⟩ rfl rfl rfl rfl rfl (by kernel_rfl) Try.func8 closed
    (of_decide_eq_true (by kernel_rfl)) (by unfold Func.isWrapper; first | (rw [if_pos (by decide +kernel)]; kernel_rfl) | (rw [if_neg (by decide +kernel)]; exact ⟨rfl, rfl⟩))
    (fun os started H enc _ => lifted os started H enc)

end Go.Proofs.Ytjkoceacjbhblaa.lawGroupChecks
