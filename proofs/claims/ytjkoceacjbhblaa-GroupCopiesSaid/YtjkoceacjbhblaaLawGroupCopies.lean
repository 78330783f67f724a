/- GroupCopiesSaid is proved: group.Copy of any group within the machine's reach is the same group. -/
import Derived.Test.YtjkoceacjbhblaaLawKit
import Derived.Deep.CondSized
import Derived.Test.YtjkoceacjbhblaaOpenGroup
import Derived.Test.YtjkoceacjbhblaaGroupCopy
namespace Go.Proofs.Ytjkoceacjbhblaa.lawGroupCopies
open Go.ChangeShapes Go.WideShapes Go.ChangeAt Go.RowKit Go.Joins Go.Deep
open Go.ChangeMaps (open_string shut_string)

set_option maxRecDepth 100000 in
set_option maxHeartbeats 1000000 in
theorem walk (v : Value) (c : GroupD) (w : World) (h : Gv w v c) (hw : c.Wf) (hs : c.Small) :
    Calls Try.prog 7 #[v] w fun e w' => e = .returned (.bool true) ∧ Below w.heap.size w w' := by
  obtain ⟨mv, ov, rfl, -⟩ := id h
  unfold groupV at *
  have H := Lib.hid h
  have HW := Lib.hid hw
  have HS := Lib.hid hs
  clear h hw hs
  go_enter Try.func7, Try.ntmps7
  go_wp2_with fail
  have hr : reachBytes ≤ 140737488355328 := by decide
  have hal : Below w.heap.size w (w.alloc (.cells #[.int .i64 c.clock, .int .i64 c.wait, .int .i64 c.gen, mv, ov] 36)) := (Below.refl _ _).alloc (Nat.le_refl _) _
  have bx0 := Blk.new w 36 #[.int .i64 c.clock, .int .i64 c.wait, .int .i64 c.gen, mv, ov]
  refine (groupCopy_any _ c _ (H.out.below hal) (Nat.le_trans HS.out.1 hr) (fun t ht => Nat.le_trans (HS.out.2.1 t ht) hr) (Nat.le_trans HS.out.2.2 hr)).mono ?_
  rintro e w1 hp
  obtain ⟨A, n, B, m, rfl, hcv, hb⟩ := hp.gv (by have := HW.out.2.2.2.1; simp only [maxLen] at this; omega) (by have := HW.out.2.2.2.2.2.1; simp only [maxLen] at this; omega) (fun t ht => by have := (HW.out.2.2.2.2.1 t ht).2.2.1; simp only [maxLen] at this; omega)
  have bx := bx0.below hb (by simp)
  unfold groupV at *
  have hb1 : Below w.heap.size w w1 := below_then hal hb
  have HC := Lib.hid hcv
  have HB := Lib.hid hb1
  have hlt := bx.lt
  have c0 := bx.cell 0
  have c1 := bx.cell 1
  have c2 := bx.cell 2
  have c3 := bx.cell 3
  have c4 := bx.cell 4
  clear hp hcv hb hb1 bx bx0 hal
  go_wp2_with fail
  have hal2 : Below w1.heap.size w1 (w1.alloc (.cells #[.int .i64 c.clock, .int .i64 c.wait, .int .i64 c.gen, .slice A c.mems.length n, .slice B c.offs.length m] 36)) := (Below.refl _ _).alloc (Nat.le_refl _) _
  have hb3 := HB.out.trans (hal2.mono HB.out.size)
  refine (sameGroup_same _ _ c _ (HC.out.below hal2) (H.out.below hb3)).mono ?_
  rintro e w2 ⟨rfl, hb2⟩
  have hb4 := hb3.trans (hb2.mono hb3.size)
  go_wp2
  go_ret
  exact ⟨ret_bool (by simp), hb4⟩

set_option maxRecDepth 100000 in
theorem contract (H : Type) (enc : TypeId × Value → H) (W : World) (base : Nat) (args : Array Value) (ds gs : List (DataW H)) (before : List MemPlace)
    (hval : ∀ (j : Nat) t v, Try.f7.params[j]? = some t → args[j]? = some v → Value.okWide Try.prog W .any base t v)
    (hW : DataW.Whole enc Try.prog Try.f7.params.toList Rows.groupCopiesSpec.vars false W args.toList ds gs before) (hsz : (DataW.weightsEach Try.prog (Try.f7.params.toList ++ Rows.groupCopiesSpec.plain.varTypes Try.prog) (ds ++ gs)).all (· ≤ reachBytes) = true) :
    Calls Try.prog 7 args W fun e W' => ∃ v, e = .returned v ∧ Rows.groupCopiesSpec.post enc Try.prog Try.f7 false true false false W args v W' := by
  have hW' := hW
  obtain ⟨p, q, hA0, hV, rfl, hfz, hnd⟩ := hW
  have hA : DataW.TrodAll enc Try.prog W 0 (fun _ => true) true Try.f7.params.toList args.toList ds p := hA0
  rw [Try.params7] at hA hval
  obtain ⟨v0, vs0, d0, ds0, p0, q0, hargs, rfl, rfl, h0, r0⟩ := trodAll_cons hA
  obtain ⟨rfl, rfl, rfl⟩ := trodAll_nil r0
  obtain rfl : args = #[v0] := by cases args; simp_all
  obtain ⟨rfl, rfl⟩ := trodVars_none hV
  obtain ⟨c, gvc, wfc, smc⟩ := open_group (hval 0 36 v0 rfl rfl) h0
  refine Calls.mono (R := fun e W' => e = .returned (.bool true) ∧ Below W.heap.size W W') ?_ fun e W' ⟨he, hb⟩ => ?_
  · refine walk v0 c W gvc wfc (smc (fits_arg hsz (j := 0) (t := 36) (by rw [Try.params7]; rfl) rfl))
  · subst he
    exact ⟨_, rfl, law_post laid_ rfl rfl (by rfl) Try.underlying4 (by rw [Try.params7]; exact rec_ok (by kernel_rfl)) hW' hb⟩

set_option maxRecDepth 100000 in
theorem lifted (os : Os) (started : os.Started) (H : Type) (enc : TypeId × Value → H) :
    ReturnsInHanded {} Try.checked os 7 .any (Rows.groupCopiesSpec.pre6 enc Try.prog Try.f7 Rows.groupCopiesRow.domain false) (Rows.groupCopiesSpec.post enc Try.prog Try.f7 false true false false) := by
  refine returnsInHanded_of_change_sized (C := Try.checked) own_ started (by kernel_rfl) Try.func7
    (ChangeSpec.witness6 (enc := enc) (C := Try.checked) false ⟨#[], #[.agg #[.int .i64 0, .int .i64 0, .int .i64 0, .slice none 0 0, .slice none 0 0]], []⟩ 8 (by kernel_rfl) (by kernel_rfl) (by kernel_rfl) (by kernel_rfl)) ?_
  intro W base args ds gs before hval hW _ hsz _
  exact contract H enc W base args ds gs before hval hW hsz

theorem closed : joinedFacts Try.prog 7 Try.f7 Rows.groupCopiesSpec Rows.groupCopiesRow = true := by
  unfold joinedFacts
  rw [mayEnter_, lifts_, make_]
  kernel_rfl

theorem proved : Rows.GroupCopiesSaid :=
  OpenClaim.holds_of_wide 7 Try.f7 rfl rfl rfl rfl rfl rfl rfl ⟨rfl, rfl, rfl, rfl, rfl⟩ rfl rfl rfl rfl rfl (by kernel_rfl) Try.func7 closed
    (of_decide_eq_true (by kernel_rfl)) (by unfold Func.isWrapper; first | (rw [if_pos (by decide +kernel)]; kernel_rfl) | (rw [if_neg (by decide +kernel)]; exact ⟨rfl, rfl⟩))
    (fun os started H enc _ => lifted os started H enc)

end Go.Proofs.Ytjkoceacjbhblaa.lawGroupCopies
