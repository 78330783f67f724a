/- SegEntriesSaid is proved: seg.Entries answers what tailraceref.EntriesOf answers, for every log. No condition. -/
import Derived.Test.YtpjjfnpdopdnkaaLawKit
import Derived.Test.YtpjjfnpdopdnkaaOpenLog
import Derived.Test.YtpjjfnpdopdnkaaSameE
import Derived.Test.YtpjjfnpdopdnkaaSegC
import Derived.Deep.CondSized
namespace Go.Proofs.Ytpjjfnpdopdnkaa.lawSegEntries
open Go.ChangeShapes Go.WideShapes Go.ChangeAt Go.RowKit Go.Joins Go.Deep
open Go.ChangeMaps (open_string shut_string)

set_option maxRecDepth 100000 in
set_option maxHeartbeats 1000000 in
theorem walk_bad (v : Value) (l : List UInt8) (s : Int) (w : World) (hv : By w v l) (hl : l.length ≤ 140737488355328) (hf : logFault ⟨l, s⟩ ≠ 0) :
    Calls Try.prog 7 #[.agg #[v, .int .i64 s]] w fun e w' => e = .returned (.bool true) ∧ Below w.heap.size w w' := by
  obtain ⟨A, c, rfl, hc, -⟩ := hv.at_
  have hb0 := Blk.new w 42 #[.slice A l.length c, .int .i64 s]
  have hbl0 : Below w.heap.size w (w.alloc (.cells #[.slice A l.length c, .int .i64 s] 42)) := (Below.refl _ _).alloc (Nat.le_refl _) _
  go_enter Try.func7, Try.ntmps7
  go_wp2_with fail
  refine (logs_any _ l s _ (hv.below hbl0) (by omega)).mono ?_
  rintro e w1 ⟨v1, rfl, ho1, hb1⟩
  have hy1 : By w1 v1 l := Sl.of_own ho1
  obtain ⟨A1, c1, rfl, -, -⟩ := hy1.at_
  have hbl1 := hbl0.trans (hb1.mono hbl0.size)
  have hb1' := hb0.below hb1 hb0.lt
  clear hb0 hb1 ho1
  go_wp2_with fail
  refine (segEntries_bad _ l s w1 hy1 (by omega) hf).mono ?_
  rintro e w2 ⟨rfl, hb2⟩
  have hbl2 := hbl1.trans (hb2.mono hbl1.size)
  have hb2' := hb1'.below hb2 hb1'.lt
  have x0 := hb2'.cell 0
  have x1 := hb2'.cell 1
  clear hb2 hb1'
  go_wp2_with fail
  refine (entriesOf_bad _ l s w2 (hv.below hbl2) (by omega) hf).mono ?_
  rintro e w3 ⟨rfl, hb3⟩
  go_wp2_with fail
  refine (sameEntries_same _ _ [] w3 (Sl.nil_ _ _) (Sl.nil_ _ _) (by simp)).mono ?_
  rintro e w4 ⟨rfl, hb4⟩
  go_wp2
  go_ret
  exact ⟨rfl, below_then (hbl2.trans (hb3.mono hbl2.size)) hb4⟩

set_option maxRecDepth 100000 in
set_option maxHeartbeats 1000000 in
theorem walk_ok (v : Value) (l : List UInt8) (s : Int) (w : World) (hv : By w v l) (hl : l.length ≤ 140737488355328) {es : List Ent} {j : Nat} (h : LogIs ⟨l, s⟩ es j) :
    Calls Try.prog 7 #[.agg #[v, .int .i64 s]] w fun e w' => e = .returned (.bool true) ∧ Below w.heap.size w w' := by
  obtain ⟨A, c, rfl, hc, -⟩ := hv.at_
  have hb0 := Blk.new w 42 #[.slice A l.length c, .int .i64 s]
  have hbl0 : Below w.heap.size w (w.alloc (.cells #[.slice A l.length c, .int .i64 s] 42)) := (Below.refl _ _).alloc (Nat.le_refl _) _
  go_enter Try.func7, Try.ntmps7
  go_wp2_with fail
  refine (logs_any _ l s _ (hv.below hbl0) (by omega)).mono ?_
  rintro e w1 ⟨v1, rfl, ho1, hb1⟩
  have hy1 : By w1 v1 l := Sl.of_own ho1
  obtain ⟨A1, c1, rfl, -, -⟩ := hy1.at_
  have hbl1 := hbl0.trans (hb1.mono hbl0.size)
  have hb1' := hb0.below hb1 hb0.lt
  clear hb0 hb1 ho1
  go_wp2_with fail
  refine (segEntries_ok _ l s w1 hy1 h).mono ?_
  rintro e w2 ⟨v2, rfl, ho2, hb2⟩
  have he2 : Es w2 v2 es := Sl.of_own ho2
  obtain ⟨A2, c2, rfl, -, -⟩ := he2.at_
  clear ho2
  have hbl2 := hbl1.trans (hb2.mono hbl1.size)
  have hb2' := hb1'.below hb2 hb1'.lt
  have x0 := hb2'.cell 0
  have x1 := hb2'.cell 1
  clear hb2 hb1'
  go_wp2_with fail
  refine (entriesOf_ok _ l s w2 (hv.below hbl2) h).mono ?_
  rintro e w3 ⟨v3, rfl, ho3, hb3⟩
  have he3 : Es w3 v3 es := Sl.of_own ho3
  obtain ⟨A3, c3, rfl, -, -⟩ := he3.at_
  have hm := h.many
  go_wp2_with fail
  refine (sameEntries_same _ _ es w3 (he2.below hb3) he3 (by omega)).mono ?_
  rintro e w4 ⟨rfl, hb4⟩
  go_wp2
  go_ret
  exact ⟨rfl, below_then (hbl2.trans (hb3.mono hbl2.size)) hb4⟩


set_option maxRecDepth 100000 in
theorem contract (H : Type) (enc : TypeId × Value → H) (W : World) (base : Nat) (args : Array Value) (ds gs : List (DataW H)) (before : List MemPlace)
    (hval : ∀ (j : Nat) t v, Try.f7.params[j]? = some t → args[j]? = some v → Value.okWide Try.prog W .any base t v)
    (hW : DataW.Whole enc Try.prog Try.f7.params.toList Rows.segEntriesSpec.vars false W args.toList ds gs before) (hsz : (DataW.weightsEach Try.prog (Try.f7.params.toList ++ Rows.segEntriesSpec.plain.varTypes Try.prog) (ds ++ gs)).all (· ≤ reachBytes) = true) :
    Calls Try.prog 7 args W fun e W' => ∃ v, e = .returned v ∧ Rows.segEntriesSpec.post enc Try.prog Try.f7 false true false false W args v W' := by
  have hW' := hW
  obtain ⟨p, q, hA0, hV, rfl, hfz, hnd⟩ := hW
  have hA : DataW.TrodAll enc Try.prog W 0 (fun _ => true) true Try.f7.params.toList args.toList ds p := hA0
  rw [Try.params7] at hA hval
  obtain ⟨v0, vs0, d0, ds0, p0, q0, hargs, rfl, rfl, h0, r0⟩ := trodAll_cons hA
  obtain ⟨rfl, rfl, rfl⟩ := trodAll_nil r0
  obtain rfl : args = #[v0] := by cases args; simp_all
  obtain ⟨rfl, rfl⟩ := trodVars_none hV
  obtain ⟨x, sx, px, ex, byx, -, ix, smx⟩ := open_log_ (hval 0 42 v0 rfl rfl) h0
  subst ex
  refine Calls.mono (R := fun e W' => e = .returned (.bool true) ∧ Below W.heap.size W W') ?_ fun e W' ⟨he, hb⟩ => ?_
  · have hs : x.length ≤ 140737488355328 := by have := smx (fits_arg hsz (j := 0) (t := 42) (by rw [Try.params7]; rfl) rfl); simp only [reachBytes] at this; omega
    rcases logFault_cases ⟨x, sx⟩ with hf | ⟨es, j, hf⟩
    · exact walk_bad px x sx W byx hs hf
    · exact walk_ok px x sx W byx hs hf
  · subst he
    exact ⟨_, rfl, law_post laid_ rfl rfl (by rfl) Try.underlying4 (by rw [Try.params7]; exact rec_ok (by kernel_rfl)) hW' hb⟩

set_option maxRecDepth 100000 in
theorem lifted (os : Os) (started : os.Started) (H : Type) (enc : TypeId × Value → H) :
    ReturnsInHanded {} Try.checked os 7 .any (Rows.segEntriesSpec.pre6 enc Try.prog Try.f7 Rows.segEntriesRow.domain false) (Rows.segEntriesSpec.post enc Try.prog Try.f7 false true false false) := by
  refine returnsInHanded_of_change_sized (C := Try.checked) own_ started (by kernel_rfl) Try.func7
    (ChangeSpec.witness6 (enc := enc) (C := Try.checked) false ⟨#[], #[.agg #[.slice none 0 0, .int .i64 0]], []⟩ 8 (by kernel_rfl) (by kernel_rfl) (by kernel_rfl) (by kernel_rfl)) ?_
  intro W base args ds gs before hval hW _ hsz _
  exact contract H enc W base args ds gs before hval hW hsz

theorem closed : joinedFacts Try.prog 7 Try.f7 Rows.segEntriesSpec Rows.segEntriesRow = true := by
  unfold joinedFacts
  rw [mayEnter_, lifts_, make_]
  kernel_rfl

theorem proved : Rows.SegEntriesSaid :=
  OpenClaim.holds_of_wide 7 Try.f7 rfl rfl rfl rfl rfl rfl rfl ⟨rfl, rfl, rfl, rfl, rfl⟩ rfl rfl rfl rfl rfl (by kernel_rfl) Try.func7 closed
    (of_decide_eq_true (by kernel_rfl)) (by unfold Func.isWrapper; first | (rw [if_pos (by decide +kernel)]; kernel_rfl) | (rw [if_neg (by decide +kernel)]; exact ⟨rfl, rfl⟩))
    (fun os started H enc _ => lifted os started H enc)

end Go.Proofs.Ytpjjfnpdopdnkaa.lawSegEntries
