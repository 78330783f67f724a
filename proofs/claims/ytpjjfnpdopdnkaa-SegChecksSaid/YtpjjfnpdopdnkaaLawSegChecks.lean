/- SegChecksSaid is proved: seg.Check answers what tailraceref.LogFault answers, for every log. No condition. -/
import Derived.Test.YtpjjfnpdopdnkaaLawKit
import Derived.Test.YtpjjfnpdopdnkaaOpenLog
import Derived.Test.YtpjjfnpdopdnkaaSameE
import Derived.Test.YtpjjfnpdopdnkaaSegB
import Derived.Deep.CondSized
namespace Go.Proofs.Ytpjjfnpdopdnkaa.lawSegChecks
open Go.ChangeShapes Go.WideShapes Go.ChangeAt Go.RowKit Go.Joins Go.Deep
open Go.ChangeMaps (open_string shut_string)

set_option maxRecDepth 100000 in
set_option maxHeartbeats 1000000 in
theorem walk (v : Value) (l : List UInt8) (s : Int) (w : World) (hv : By w v l) (hl : l.length ≤ 140737488355328) :
    Calls Try.prog 6 #[.agg #[v, .int .i64 s]] w fun e w' => e = .returned (.bool true) ∧ Below w.heap.size w w' := by
  obtain ⟨A, c, rfl, hc, -⟩ := hv.at_
  have hb0 := Blk.new w 42 #[.slice A l.length c, .int .i64 s]
  have hbl0 : Below w.heap.size w (w.alloc (.cells #[.slice A l.length c, .int .i64 s] 42)) := (Below.refl _ _).alloc (Nat.le_refl _) _
  go_enter Try.func6, Try.ntmps6
  go_wp2_with fail
  refine (logs_any _ l s _ (hv.below hbl0) (by omega)).mono ?_
  rintro e w1 ⟨v1, rfl, ho1, hb1⟩
  have hy1 : By w1 v1 l := Sl.of_own ho1
  obtain ⟨A1, c1, rfl, -, -⟩ := hy1.at_
  have hbl1 := hbl0.trans (hb1.mono hbl0.size)
  have hb1' := hb0.below hb1 hb0.lt
  clear hb0 hb1 ho1
  go_wp2_with fail
  refine (segCheck_any _ l s w1 hy1 (by omega)).mono ?_
  rintro e w2 ⟨rfl, hb2⟩
  have hbl2 := hbl1.trans (hb2.mono hbl1.size)
  have hb2' := hb1'.below hb2 hb1'.lt
  have x0 := hb2'.cell 0
  have x1 := hb2'.cell 1
  clear hb2 hb1'
  go_wp2_with fail
  refine (logFault_any _ l s w2 (hv.below hbl2) (by omega)).mono ?_
  rintro e w3 ⟨rfl, hb3⟩
  go_wp2
  go_ret
  exact ⟨ret_bool (by simp), hbl2.trans (hb3.mono hbl2.size)⟩

set_option maxRecDepth 100000 in
theorem contract (H : Type) (enc : TypeId × Value → H) (W : World) (base : Nat) (args : Array Value) (ds gs : List (DataW H)) (before : List MemPlace)
    (hval : ∀ (j : Nat) t v, Try.f6.params[j]? = some t → args[j]? = some v → Value.okWide Try.prog W .any base t v)
    (hW : DataW.Whole enc Try.prog Try.f6.params.toList Rows.segChecksSpec.vars false W args.toList ds gs before) (hsz : (DataW.weightsEach Try.prog (Try.f6.params.toList ++ Rows.segChecksSpec.plain.varTypes Try.prog) (ds ++ gs)).all (· ≤ reachBytes) = true) :
    Calls Try.prog 6 args W fun e W' => ∃ v, e = .returned v ∧ Rows.segChecksSpec.post enc Try.prog Try.f6 false true false false W args v W' := by
  have hW' := hW
  obtain ⟨p, q, hA0, hV, rfl, hfz, hnd⟩ := hW
  have hA : DataW.TrodAll enc Try.prog W 0 (fun _ => true) true Try.f6.params.toList args.toList ds p := hA0
  rw [Try.params6] at hA hval
  obtain ⟨v0, vs0, d0, ds0, p0, q0, hargs, rfl, rfl, h0, r0⟩ := trodAll_cons hA
  obtain ⟨rfl, rfl, rfl⟩ := trodAll_nil r0
  obtain rfl : args = #[v0] := by cases args; simp_all
  obtain ⟨rfl, rfl⟩ := trodVars_none hV
  obtain ⟨x, sx, px, ex, byx, -, ix, smx⟩ := open_log_ (hval 0 42 v0 rfl rfl) h0
  subst ex
  refine Calls.mono (R := fun e W' => e = .returned (.bool true) ∧ Below W.heap.size W W') ?_ fun e W' ⟨he, hb⟩ => ?_
  · exact walk px x sx W byx (by have := smx (fits_arg hsz (j := 0) (t := 42) (by rw [Try.params6]; rfl) rfl); simp only [reachBytes] at this; omega)
  · subst he
    exact ⟨_, rfl, law_post laid_ rfl rfl (by rfl) Try.underlying4 (by rw [Try.params6]; exact rec_ok (by kernel_rfl)) hW' hb⟩

set_option maxRecDepth 100000 in
theorem lifted (os : Os) (started : os.Started) (H : Type) (enc : TypeId × Value → H) :
    ReturnsInHanded {} Try.checked os 6 .any (Rows.segChecksSpec.pre6 enc Try.prog Try.f6 Rows.segChecksRow.domain false) (Rows.segChecksSpec.post enc Try.prog Try.f6 false true false false) := by
  refine returnsInHanded_of_change_sized (C := Try.checked) own_ started (by kernel_rfl) Try.func6
    (ChangeSpec.witness6 (enc := enc) (C := Try.checked) false ⟨#[], #[.agg #[.slice none 0 0, .int .i64 0]], []⟩ 8 (by kernel_rfl) (by kernel_rfl) (by kernel_rfl) (by kernel_rfl)) ?_
  intro W base args ds gs before hval hW _ hsz _
  exact contract H enc W base args ds gs before hval hW hsz

theorem closed : joinedFacts Try.prog 6 Try.f6 Rows.segChecksSpec Rows.segChecksRow = true := by
  unfold joinedFacts
  rw [mayEnter_, lifts_, make_]
  kernel_rfl

theorem proved : Rows.SegChecksSaid :=
  OpenClaim.holds_of_wide 6 Try.f6 rfl rfl rfl rfl rfl rfl rfl ⟨rfl, rfl, rfl, rfl, rfl⟩ rfl rfl rfl rfl rfl (by kernel_rfl) Try.func6 closed
    (of_decide_eq_true (by kernel_rfl)) (by unfold Func.isWrapper; first | (rw [if_pos (by decide +kernel)]; kernel_rfl) | (rw [if_neg (by decide +kernel)]; exact ⟨rfl, rfl⟩))
    (fun os started H enc _ => lifted os started H enc)

end Go.Proofs.Ytpjjfnpdopdnkaa.lawSegChecks
