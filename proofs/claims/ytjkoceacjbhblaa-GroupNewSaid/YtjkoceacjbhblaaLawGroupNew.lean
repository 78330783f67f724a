/- GroupNewSaid is proved: group.New answers what tailraceref.GroupNew answers, for every number of ticks. No condition. -/
import Derived.Test.YtjkoceacjbhblaaLawKit
import Derived.Test.YtjkoceacjbhblaaCoordNew
import Derived.Test.YtjkoceacjbhblaaBlkB
namespace Go.Proofs.Ytjkoceacjbhblaa.lawGroupNew
open Go.ChangeShapes Go.WideShapes Go.ChangeAt Go.RowKit Go.Joins Go.Deep
open Go.ChangeMaps (open_string shut_string)

set_option maxRecDepth 100000 in
set_option maxHeartbeats 1000000 in
theorem walk_ok (t : Int) (w : World) (h : inB t 1 1000 = true) :
    Calls Try.prog 5 #[.int .i64 t] w fun e w' => e = .returned (.bool true) ∧ Below w.heap.size w w' := by
  have H := Lib.hid h
  clear h
  go_enter Try.func5, Try.ntmps5
  go_wp2_with fail
  refine (groupNew_ok t _ H.out).mono ?_
  rintro e w1 ⟨rfl, hb⟩
  have hs1 := hb.size
  go_wp2_with fail
  refine (refGroupNew_ok t _ H.out).mono ?_
  rintro e w2 ⟨rfl, hb2⟩
  simp only [World.size_alloc] at hb2
  have hs2 := hb2.size
  simp only [World.size_alloc] at hs2
  have b1 := (Blk.new w1 36 #[.int .i64 0, .int .i64 t, .int .i64 0, .slice none 0 0, .slice none 0 0]).below hb2 (by simp)
  have c0 := b1.cell 0
  have c1 := b1.cell 1
  have c2 := b1.cell 2
  have c3 := b1.cell 3
  have c4 := b1.cell 4
  have hz : w1.heap.size < w2.heap.size := by omega
  go_wp2_with fail
  refine (sameGroup_nil _ _ _ _).mono ?_
  rintro e w3 ⟨rfl, hb3⟩
  simp only [World.size_alloc] at hb3
  go_wp2
  go_ret
  exact ⟨rfl, (((hb.alloc hs1 _).trans (hb2.mono (by omega))).alloc (by omega) _).trans (hb3.mono (by omega))⟩

set_option maxRecDepth 100000 in
set_option maxHeartbeats 1000000 in
theorem walk_bad (t : Int) (w : World) (h : inB t 1 1000 = false) :
    Calls Try.prog 5 #[.int .i64 t] w fun e w' => e = .returned (.bool true) ∧ Below w.heap.size w w' := by
  have H := Lib.hid h
  clear h
  go_enter Try.func5, Try.ntmps5
  go_wp2_with fail
  refine (groupNew_bad t _ H.out).mono ?_
  rintro e w1 ⟨rfl, hb⟩
  have hs1 := hb.size
  go_wp2_with fail
  refine (refGroupNew_bad t _ H.out).mono ?_
  rintro e w2 ⟨rfl, hb2⟩
  simp only [World.size_alloc] at hb2
  have hs2 := hb2.size
  simp only [World.size_alloc] at hs2
  have b1 := (Blk.new w1 36 #[.int .i64 0, .int .i64 0, .int .i64 0, .slice none 0 0, .slice none 0 0]).below hb2 (by simp)
  have c0 := b1.cell 0
  have c1 := b1.cell 1
  have c2 := b1.cell 2
  have c3 := b1.cell 3
  have c4 := b1.cell 4
  have hz : w1.heap.size < w2.heap.size := by omega
  go_wp2_with fail
  refine (sameGroup_nil _ _ _ _).mono ?_
  rintro e w3 ⟨rfl, hb3⟩
  simp only [World.size_alloc] at hb3
  go_wp2
  go_ret
  exact ⟨rfl, (((hb.alloc hs1 _).trans (hb2.mono (by omega))).alloc (by omega) _).trans (hb3.mono (by omega))⟩


set_option maxRecDepth 100000 in
theorem contract (H : Type) (enc : TypeId × Value → H) (W : World) (base : Nat) (args : Array Value) (ds gs : List (DataW H)) (before : List MemPlace)
    (hval : ∀ (j : Nat) t v, Try.f5.params[j]? = some t → args[j]? = some v → Value.okWide Try.prog W .any base t v)
    (hW : DataW.Whole enc Try.prog Try.f5.params.toList Rows.groupNewSpec.vars false W args.toList ds gs before) :
    Calls Try.prog 5 args W fun e W' => ∃ v, e = .returned v ∧ Rows.groupNewSpec.post enc Try.prog Try.f5 false true false false W args v W' := by
  have hW' := hW
  obtain ⟨p, q, hA0, hV, rfl, hfz, hnd⟩ := hW
  have hA : DataW.TrodAll enc Try.prog W 0 (fun _ => true) true Try.f5.params.toList args.toList ds p := hA0
  rw [Try.params5] at hA hval
  obtain ⟨v0, vs0, d0, ds0, p0, q0, hargs, rfl, rfl, h0, r0⟩ := trodAll_cons hA
  obtain ⟨rfl, rfl, rfl⟩ := trodAll_nil r0
  obtain rfl : args = #[v0] := by cases args; simp_all
  obtain ⟨rfl, rfl⟩ := trodVars_none hV
  obtain ⟨x, ex, -, -, wx⟩ := open_int Try.underlying3 (hval 0 3 v0 rfl rfl) h0
  subst ex
  refine Calls.mono (R := fun e W' => e = .returned (.bool true) ∧ Below W.heap.size W W') ?_ fun e W' ⟨he, hb⟩ => ?_
  · rcases hx : inB x 1 1000 with _ | _
    · exact walk_bad x W hx
    · exact walk_ok x W hx
  · subst he
    exact ⟨_, rfl, law_post laid_ rfl rfl (by rfl) Try.underlying4 (by rw [Try.params5]; exact rec_ok (by kernel_rfl)) hW' hb⟩

set_option maxRecDepth 100000 in
theorem lifted (os : Os) (started : os.Started) (H : Type) (enc : TypeId × Value → H) :
    ReturnsInHanded {} Try.checked os 5 .any (Rows.groupNewSpec.pre6 enc Try.prog Try.f5 Rows.groupNewRow.domain false) (Rows.groupNewSpec.post enc Try.prog Try.f5 false true false false) := by
  refine returnsInHanded_of_change (C := Try.checked) own_ started (by kernel_rfl) Try.func5
    (ChangeSpec.witness6 (enc := enc) (C := Try.checked) false ⟨#[], #[.int .i64 0], []⟩ 8 (by kernel_rfl) (by kernel_rfl) (by kernel_rfl) (by kernel_rfl)) ?_
  intro W base args ds gs before hval hW _ _
  exact contract H enc W base args ds gs before hval hW

theorem closed : joinedFacts Try.prog 5 Try.f5 Rows.groupNewSpec Rows.groupNewRow = true := by
  unfold joinedFacts
  rw [mayEnter_, lifts_, make_]
  kernel_rfl

theorem proved : Rows.GroupNewSaid :=
  OpenClaim.holds_of_wide 5 Try.f5 rfl rfl rfl rfl rfl rfl rfl ⟨rfl, rfl, rfl, rfl, rfl⟩ rfl rfl rfl rfl rfl (by kernel_rfl) Try.func5 closed
    (of_decide_eq_true (by kernel_rfl)) (by unfold Func.isWrapper; first | (rw [if_pos (by decide +kernel)]; kernel_rfl) | (rw [if_neg (by decide +kernel)]; exact ⟨rfl, rfl⟩))
    (fun os started H enc _ => lifted os started H enc)

end Go.Proofs.Ytjkoceacjbhblaa.lawGroupNew
