/- PartChecksSaid is proved: part.Check answers OK for a part that may be, ErrState for any other. No condition. -/
import Derived.Test.YtpjjfnpdopdnkaaLawKit
import Derived.Test.YtpjjfnpdopdnkaaOpenPart
import Derived.Test.YtpjjfnpdopdnkaaPartG
import Derived.Test.YtpjjfnpdopdnkaaPartM
namespace Go.Proofs.Ytpjjfnpdopdnkaa.lawPartChecks
open Go.ChangeShapes Go.WideShapes Go.ChangeAt Go.RowKit Go.Joins Go.Deep
open Go.ChangeMaps (open_string shut_string)

set_option maxRecDepth 100000 in
set_option maxHeartbeats 2000000 in
theorem walk (v : Value) (c : PartD) (w : World) (h : Pv w v c) :
    Calls Try.prog 10 #[v] w fun e w' => e = .returned (.bool true) ∧ Below w.heap.size w w' := by
  obtain ⟨xi, xk, xr, rfl, ix, kx, rx, hli, hlk, hlr⟩ := id h
  obtain ⟨A5, c5, rfl, hc5, -⟩ := rx.at_
  obtain ⟨A1, c1, rfl, hc1, -⟩ := ix.at_
  obtain ⟨A3, c3, rfl, hc3, -⟩ := kx.at_
  unfold partV at *
  have H := Lib.hid h
  clear h ix kx rx
  go_enter Try.func10, Try.ntmps10
  go_wp2_with fail
  have hal : Below w.heap.size w (w.alloc (.cells #[.int .i64 c.epoch, .int .i64 c.leader, .slice A1 c.isr.length c1, .slice A3 c.known.length c3, .slice A5 c.reps.length c5, .int .i64 c.few, .int .i64 c.base] 26)) := (Below.refl _ _).alloc (Nat.le_refl _) _
  have bx := Blk.new w 26 #[.int .i64 c.epoch, .int .i64 c.leader, .slice A1 c.isr.length c1, .slice A3 c.known.length c3, .slice A5 c.reps.length c5, .int .i64 c.few, .int .i64 c.base]
  refine (partCheck_any _ c _ (H.out.below hal)).mono ?_
  rintro e w1 hA
  have hb1 := hA.below
  have hb2 := below_then hal hb1
  have bx1 := bx.below hb1 bx.lt
  have q0 := bx1.cell 0
  have q1 := bx1.cell 1
  have q2 := bx1.cell 2
  have q3 := bx1.cell 3
  have q4 := bx1.cell 4
  have q5 := bx1.cell 5
  have q6 := bx1.cell 6
  have hlt := bx1.lt
  have HB := Lib.hid hb2
  clear hal bx bx1 hb1 hb2
  by_cases hk : PartOk c
  · obtain ⟨rfl, -⟩ := hA.yes hk
    have HK := Lib.hid hk
    clear hA hk
    go_wp2_with fail
    refine (partMay_any _ c _ (H.out.below HB.out)).mono ?_
    rintro e w2 hT
    obtain ⟨rfl, hb2⟩ := hT.yes HK.out
    have hb3 := below_then HB.out hb2
    go_wp2
    go_ret
    exact ⟨rfl, hb3⟩
  · obtain ⟨rfl, -⟩ := hA.no hk
    have HK := Lib.hid hk
    clear hA hk
    go_wp2_with fail
    refine (partMay_any _ c _ (H.out.below HB.out)).mono ?_
    rintro e w2 hT
    obtain ⟨rfl, hb2⟩ := hT.no HK.out
    have hb3 := below_then HB.out hb2
    go_wp2
    go_ret
    exact ⟨rfl, hb3⟩

set_option maxRecDepth 100000 in
theorem contract (H : Type) (enc : TypeId × Value → H) (W : World) (base : Nat) (args : Array Value) (ds gs : List (DataW H)) (before : List MemPlace)
    (hval : ∀ (j : Nat) t v, Try.f10.params[j]? = some t → args[j]? = some v → Value.okWide Try.prog W .any base t v)
    (hW : DataW.Whole enc Try.prog Try.f10.params.toList Rows.partChecksSpec.vars false W args.toList ds gs before) :
    Calls Try.prog 10 args W fun e W' => ∃ v, e = .returned v ∧ Rows.partChecksSpec.post enc Try.prog Try.f10 false true false false W args v W' := by
  have hW' := hW
  obtain ⟨p, q, hA0, hV, rfl, hfz, hnd⟩ := hW
  have hA : DataW.TrodAll enc Try.prog W 0 (fun _ => true) true Try.f10.params.toList args.toList ds p := hA0
  rw [Try.params10] at hA hval
  obtain ⟨v0, vs0, d0, ds0, p0, q0, hargs, rfl, rfl, h0, r0⟩ := trodAll_cons hA
  obtain ⟨rfl, rfl, rfl⟩ := trodAll_nil r0
  obtain rfl : args = #[v0] := by cases args; simp_all
  obtain ⟨rfl, rfl⟩ := trodVars_none hV
  obtain ⟨x, ptx, wfx, smx⟩ := open_part (hval 0 26 v0 rfl rfl) h0
  refine Calls.mono (R := fun e W' => e = .returned (.bool true) ∧ Below W.heap.size W W') ?_ fun e W' ⟨he, hb⟩ => ?_
  · exact walk v0 x W ptx
  · subst he
    exact ⟨_, rfl, law_post laid_ rfl rfl (by rfl) Try.underlying4 (by rw [Try.params10]; exact rec_ok (by kernel_rfl)) hW' hb⟩

set_option maxRecDepth 100000 in
theorem lifted (os : Os) (started : os.Started) (H : Type) (enc : TypeId × Value → H) :
    ReturnsInHanded {} Try.checked os 10 .any (Rows.partChecksSpec.pre6 enc Try.prog Try.f10 Rows.partChecksRow.domain false) (Rows.partChecksSpec.post enc Try.prog Try.f10 false true false false) := by
  refine returnsInHanded_of_change (C := Try.checked) own_ started (by kernel_rfl) Try.func10
    (ChangeSpec.witness6 (enc := enc) (C := Try.checked) false ⟨#[], #[.agg #[.int .i64 0, .int .i64 0, .slice none 0 0, .slice none 0 0, .slice none 0 0, .int .i64 0, .int .i64 0]], []⟩ 8 (by kernel_rfl) (by kernel_rfl) (by kernel_rfl) (by kernel_rfl)) ?_
  intro W base args ds gs before hval hW _ _
  exact contract H enc W base args ds gs before hval hW

theorem closed : joinedFacts Try.prog 10 Try.f10 Rows.partChecksSpec Rows.partChecksRow = true := by
  unfold joinedFacts
  rw [mayEnter_, lifts_, make_]
  kernel_rfl

theorem proved : Rows.PartChecksSaid :=
  OpenClaim.holds_of_wide 10 Try.f10 rfl rfl rfl rfl rfl rfl rfl ⟨rfl, rfl, rfl, rfl, rfl⟩ rfl rfl rfl rfl rfl (by kernel_rfl) Try.func10 closed
    (of_decide_eq_true (by kernel_rfl)) (by unfold Func.isWrapper; first | (rw [if_pos (by decide +kernel)]; kernel_rfl) | (rw [if_neg (by decide +kernel)]; exact ⟨rfl, rfl⟩))
    (fun os started H enc _ => lifted os started H enc)

end Go.Proofs.Ytpjjfnpdopdnkaa.lawPartChecks
