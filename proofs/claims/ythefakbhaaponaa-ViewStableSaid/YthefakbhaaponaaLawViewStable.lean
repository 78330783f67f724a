/- ViewStableSaid is proved: view.Stable answers what tailraceref.StableOf answers, for every list of plain entries and every height. No condition. -/
import Derived.Test.YthefakbhaaponaaLawKit
import Derived.Test.YthefakbhaaponaaOpenEnts
import Derived.Test.YthefakbhaaponaaViewE
import Derived.Test.YthefakbhaaponaaViewF
import Derived.Deep.CondSized
namespace Go.Proofs.Ythefakbhaaponaa.lawViewStable
open Go.ChangeShapes Go.WideShapes Go.ChangeAt Go.RowKit Go.Joins Go.Deep
open Go.ChangeMaps (open_string shut_string)

set_option maxRecDepth 100000 in
set_option maxHeartbeats 4000000 in
theorem walk (v : Value) (es : List Ent) (hi : Int) (w : World) (h : Es w v es) (hm : es.length * 64 ≤ 140737488355328) :
    Calls Try.prog 3 #[v, .int .i64 hi] w fun e w' => e = .returned (.bool true) ∧ Below w.heap.size w w' := by
  obtain ⟨A, c, rfl, hc, -⟩ := h.at_
  have H := Lib.hid h
  clear h
  go_enter Try.func3, Try.ntmps3
  go_wp2_with fail
  refine (plain_any _ es _ H.out (by omega)).mono ?_
  rintro e w0 ⟨b, rfl, hb, rfl⟩
  rcases b with _ | _
  · go_wp2
    go_ret
    exact ⟨rfl, Below.refl _ _⟩
  have HP := Lib.hid (hb.1 rfl)
  clear hb
  go_wp2_with fail
  refine (entries_any _ es _ H.out hm).mono ?_
  rintro e W1 ⟨v1, rfl, ho1, hb1⟩
  obtain ⟨A1, c1, rfl, hc1⟩ := (Sl.of_own ho1).form
  have HE := Lib.hid (show Es W1 _ es from Sl.of_own ho1)
  have HB1 := Lib.hid hb1
  clear ho1 hb1
  by_cases hr : hi < 0 ∨ (es.length : Int) < hi
  · have HR := Lib.hid hr
    clear hr
    go_wp2_with fail
    refine (stable_bad _ es hi _ HE.out HR.out (by omega)).mono ?_
    rintro e W2 ⟨rfl, hb⟩
    have HB2 := Lib.hid (below_then HB1.out hb)
    clear hb
    go_wp2_with fail
    refine (stableOf_bad _ es hi _ (H.out.below HB2.out) HR.out (by omega)).mono ?_
    rintro e W3 ⟨rfl, hb⟩
    have HB3 := Lib.hid (below_then HB2.out hb)
    clear hb
    go_wp2
    go_ret
    exact ⟨rfl, HB3.out⟩
  · obtain ⟨n, hn⟩ : ∃ n : Nat, hi = n := ⟨hi.toNat, by omega⟩
    subst hn
    have hle : n ≤ es.length := by omega
    clear hr
    go_wp2_with fail
    refine (stable_ok _ es n _ HE.out n rfl hle HP.out (by omega)).mono ?_
    rintro e W2 ⟨r, rfl, hs, hb⟩
    have HB2 := Lib.hid (below_then HB1.out hb)
    have HS := Lib.hid hs
    clear hb hs
    go_wp2_with fail
    refine (stableOf_ok _ es n _ (H.out.below HB2.out) n rfl hle HP.out (by omega)).mono ?_
    rintro e W3 ⟨s, rfl, hs, hb⟩
    obtain rfl := hs.unique HS.out
    have HB3 := Lib.hid (below_then HB2.out hb)
    clear hb hs
    go_wp2
    go_ret
    exact ⟨by simp, HB3.out⟩

set_option maxRecDepth 100000 in
theorem contract (H : Type) (enc : TypeId × Value → H) (W : World) (base : Nat) (args : Array Value) (ds gs : List (DataW H)) (before : List MemPlace)
    (hval : ∀ (j : Nat) t v, Try.f3.params[j]? = some t → args[j]? = some v → Value.okWide Try.prog W .any base t v)
    (hW : DataW.Whole enc Try.prog Try.f3.params.toList Rows.viewStableSpec.vars false W args.toList ds gs before) (hsz : (DataW.weightsEach Try.prog (Try.f3.params.toList ++ Rows.viewStableSpec.plain.varTypes Try.prog) (ds ++ gs)).all (· ≤ reachBytes) = true) :
    Calls Try.prog 3 args W fun e W' => ∃ v, e = .returned v ∧ Rows.viewStableSpec.post enc Try.prog Try.f3 false true false false W args v W' := by
  have hW' := hW
  obtain ⟨p, q, hA0, hV, rfl, hfz, hnd⟩ := hW
  have hA : DataW.TrodAll enc Try.prog W 0 (fun _ => true) true Try.f3.params.toList args.toList ds p := hA0
  rw [Try.params3] at hA hval
  obtain ⟨v0, vs0, d0, ds0, p0, q0, hargs, rfl, rfl, h0, r0⟩ := trodAll_cons hA
  obtain ⟨v1, vs1, d1, ds1, p1, q1, rfl, rfl, rfl, h1, r1⟩ := trodAll_cons r0
  obtain ⟨rfl, rfl, rfl⟩ := trodAll_nil r1
  obtain rfl : args = #[v0, v1] := by cases args; simp_all
  obtain ⟨rfl, rfl⟩ := trodVars_none hV
  obtain ⟨x, enx, -, smx⟩ := open_entries (hval 0 22 v0 rfl rfl) h0
  obtain ⟨n0, en0, -, -, wn0⟩ := open_int Try.underlying3 (hval 1 3 v1 rfl rfl) h1
  subst en0
  refine Calls.mono (R := fun e W' => e = .returned (.bool true) ∧ Below W.heap.size W W') ?_ fun e W' ⟨he, hb⟩ => ?_
  · have hs := smx (fits_arg hsz (j := 0) (t := 22) (by rw [Try.params3]; rfl) rfl)
    simp only [reachBytes] at hs
    exact walk v0 x n0 W enx (by omega)
  · subst he
    exact ⟨_, rfl, law_post laid_ rfl rfl (by rfl) Try.underlying4 (by rw [Try.params3]; exact rec_ok (by kernel_rfl)) hW' hb⟩

set_option maxRecDepth 100000 in
theorem lifted (os : Os) (started : os.Started) (H : Type) (enc : TypeId × Value → H) :
    ReturnsInHanded {} Try.checked os 3 .any (Rows.viewStableSpec.pre6 enc Try.prog Try.f3 Rows.viewStableRow.domain false) (Rows.viewStableSpec.post enc Try.prog Try.f3 false true false false) := by
  refine returnsInHanded_of_change_sized (C := Try.checked) own_ started (by kernel_rfl) Try.func3
    (ChangeSpec.witness6 (enc := enc) (C := Try.checked) false ⟨#[], #[.slice none 0 0, .int .i64 0], []⟩ 8 (by kernel_rfl) (by kernel_rfl) (by kernel_rfl) (by kernel_rfl)) ?_
  intro W base args ds gs before hval hW _ hsz _
  exact contract H enc W base args ds gs before hval hW hsz

theorem closed : joinedFacts Try.prog 3 Try.f3 Rows.viewStableSpec Rows.viewStableRow = true := by
  unfold joinedFacts
  rw [mayEnter_, lifts_, make_]
  kernel_rfl

theorem proved : Rows.ViewStableSaid :=
  OpenClaim.holds_of_wide 3 Try.f3 rfl rfl rfl rfl rfl rfl rfl ⟨rfl, rfl, rfl, rfl, rfl⟩ rfl rfl rfl rfl rfl (by kernel_rfl) Try.func3 closed
    (of_decide_eq_true (by kernel_rfl)) (by unfold Func.isWrapper; first | (rw [if_pos (by decide +kernel)]; kernel_rfl) | (rw [if_neg (by decide +kernel)]; exact ⟨rfl, rfl⟩))
    (fun os started H enc _ => lifted os started H enc)

end Go.Proofs.Ythefakbhaaponaa.lawViewStable
