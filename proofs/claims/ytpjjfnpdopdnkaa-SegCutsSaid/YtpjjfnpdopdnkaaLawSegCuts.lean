/- SegCutsSaid is proved: seg.Cut answers what tailraceref.CutOf answers, for every log and number. No condition. -/
import Derived.Test.YtpjjfnpdopdnkaaLawKit
import Derived.Test.YtpjjfnpdopdnkaaOpenLog
import Derived.Test.YtpjjfnpdopdnkaaSameE
import Derived.Test.YtpjjfnpdopdnkaaSegH
import Derived.Test.YtpjjfnpdopdnkaaSegI
import Derived.Deep.CondSized
namespace Go.Proofs.Ytpjjfnpdopdnkaa.lawSegCuts
open Go.ChangeShapes Go.WideShapes Go.ChangeAt Go.RowKit Go.Joins Go.Deep
open Go.ChangeMaps (open_string shut_string)

set_option maxRecDepth 100000 in
set_option maxHeartbeats 1000000 in
theorem walk (v : Value) (l lb : List UInt8) (s t code : Int) (keep : Int) (w : World) (hv : By w v l) (hl : l.length ≤ 140737488355328)
    (h1 : (∀ (v : Value) (w : World), By w v l → Calls Try.prog 43 #[.agg #[v, .int .i64 s], .int .i64 keep] w fun e w' => ∃ v', e = .returned (.tuple #[.agg #[v', .int .i64 t], .int .i64 code]) ∧ w'.ownsRow w.heap.size 5 1 v' lb.length (bvs lb) ∧ Below w.heap.size w w'))
    (h2 : (∀ (v : Value) (w : World), By w v l → Calls Try.prog 44 #[.agg #[v, .int .i64 s], .int .i64 keep] w fun e w' => ∃ v', e = .returned (.tuple #[.agg #[v', .int .i64 t], .int .i64 code]) ∧ w'.ownsRow w.heap.size 5 1 v' lb.length (bvs lb) ∧ Below w.heap.size w w')) :
    Calls Try.prog 11 #[.agg #[v, .int .i64 s], .int .i64 keep] w fun e w' => e = .returned (.bool true) ∧ Below w.heap.size w w' := by
  have H1 := Lib.hid h1
  have H2 := Lib.hid h2
  have HV := Lib.hid hv
  clear h1 h2
  obtain ⟨A, c, rfl, hc, -⟩ := hv.at_
  have hb0 := Blk.new w 42 #[.slice A l.length c, .int .i64 s]
  have hbl0 : Below w.heap.size w (w.alloc (.cells #[.slice A l.length c, .int .i64 s] 42)) := (Below.refl _ _).alloc (Nat.le_refl _) _
  go_enter Try.func11, Try.ntmps11
  go_wp2_with fail
  refine (logs_any _ l s _ (hv.below hbl0) (by omega)).mono ?_
  rintro e w1 ⟨v1, rfl, ho1, hb1⟩
  have hy1 : By w1 v1 l := Sl.of_own ho1
  obtain ⟨A1, c1, rfl, -, -⟩ := hy1.at_
  have hbl1 := hbl0.trans (hb1.mono hbl0.size)
  have hb1' := hb0.below hb1 hb0.lt
  clear hb0 hb1 ho1
  go_wp2_with fail
  refine (H1.out _ w1 hy1).mono ?_
  rintro e w2 ⟨v2, rfl, ho2, hb2⟩
  have hy2 : By w2 v2 lb := Sl.of_own ho2
  obtain ⟨A2, c2, rfl, -, -⟩ := hy2.at_
  have hbl2 := hbl1.trans (hb2.mono hbl1.size)
  have hb2' := hb1'.below hb2 hb1'.lt
  have x0 := hb2'.cell 0
  have x1 := hb2'.cell 1
  have xl := hb2'.lt
  have hbX := Blk.new w2 42 #[.slice A2 lb.length c2, .int .i64 t]
  have hblX := hbl2.alloc hbl2.size (.cells #[.slice A2 lb.length c2, .int .i64 t] 42)
  have hy2' := hy2.below ((Below.refl w2.heap.size w2).alloc (Nat.le_refl _) (.cells #[.slice A2 lb.length c2, .int .i64 t] 42))
  have HVX := Lib.hid (HV.out.below hblX)
  clear hb2 hb1' ho2 hv hy1
  go_wp2_with fail
  refine (H2.out _ _ HVX.out).mono ?_
  rintro e w3 ⟨v3, rfl, ho3, hb3⟩
  have hy3 : By w3 v3 lb := Sl.of_own ho3
  obtain ⟨A3, c3, rfl, -, -⟩ := hy3.at_
  have hbX3 := hbX.below hb3 hbX.lt
  have y0 := hbX3.cell 0
  have y1 := hbX3.cell 1
  have yl := hbX3.lt
  have hbl3 := hblX.trans (hb3.mono hblX.size)
  have hz : Below w3.heap.size w3 (w3.alloc (.cells #[.slice A3 lb.length c3, .int .i64 t] 42)) := (Below.refl _ _).alloc (Nat.le_refl _) _
  have hy23 := (hy2'.below hb3).below hz
  have hy33 := hy3.below hz
  have zc : (code == code) = true := by simp
  clear hb3 ho3 hy2 hy2' hbX
  go_wp2_with fail
  refine (sameLog_same _ _ lb t _ hy23 hy33).mono ?_
  rintro e w4 ⟨rfl, hb4⟩
  go_wp2
  go_ret
  exact ⟨rfl, below_then (hbl3.trans (hz.mono hbl3.size)) hb4⟩


set_option maxRecDepth 100000 in
theorem contract (H : Type) (enc : TypeId × Value → H) (W : World) (base : Nat) (args : Array Value) (ds gs : List (DataW H)) (before : List MemPlace)
    (hval : ∀ (j : Nat) t v, Try.f11.params[j]? = some t → args[j]? = some v → Value.okWide Try.prog W .any base t v)
    (hW : DataW.Whole enc Try.prog Try.f11.params.toList Rows.segCutsSpec.vars false W args.toList ds gs before) (hsz : (DataW.weightsEach Try.prog (Try.f11.params.toList ++ Rows.segCutsSpec.plain.varTypes Try.prog) (ds ++ gs)).all (· ≤ reachBytes) = true) :
    Calls Try.prog 11 args W fun e W' => ∃ v, e = .returned v ∧ Rows.segCutsSpec.post enc Try.prog Try.f11 false true false false W args v W' := by
  have hW' := hW
  obtain ⟨p, q, hA0, hV, rfl, hfz, hnd⟩ := hW
  have hA : DataW.TrodAll enc Try.prog W 0 (fun _ => true) true Try.f11.params.toList args.toList ds p := hA0
  rw [Try.params11] at hA hval
  obtain ⟨v0, vs0, d0, ds0, p0, q0, hargs, rfl, rfl, h0, r0⟩ := trodAll_cons hA
  obtain ⟨v1, vs1, d1, ds1, p1, q1, rfl, rfl, rfl, h1, r1⟩ := trodAll_cons r0
  obtain ⟨rfl, rfl, rfl⟩ := trodAll_nil r1
  obtain rfl : args = #[v0, v1] := by cases args; simp_all
  obtain ⟨rfl, rfl⟩ := trodVars_none hV
  obtain ⟨x, sx, px, ex, byx, -, ix, smx⟩ := open_log_ (hval 0 42 v0 rfl rfl) h0
  subst ex
  obtain ⟨n, en, -, -, wn⟩ := open_int Try.underlying3 (hval 1 3 v1 rfl rfl) h1
  subst en
  refine Calls.mono (R := fun e W' => e = .returned (.bool true) ∧ Below W.heap.size W W') ?_ fun e W' ⟨he, hb⟩ => ?_
  · have hs : x.length ≤ 140737488355328 := by have := smx (fits_arg hsz (j := 0) (t := 42) (by rw [Try.params11]; rfl) rfl); simp only [reachBytes] at this; omega
    rcases logFault_cases ⟨x, sx⟩ with hf | ⟨es, j, h⟩
    · exact walk px x [] sx 0 (logFault ⟨x, sx⟩) n W byx hs (fun v w h => cut_bad v x sx n w h (by omega) hf) (fun v w h => cutOf_bad v x sx n w h (by omega) hf)
    · by_cases hn : n < 0 ∨ (es.length : Int) < n
      · exact walk px x [] sx 0 2 n W byx hs (fun v w hv => cut_range v x sx n w hv h hn) (fun v w hv => cutOf_range v x sx n w hv h hn)
      · obtain ⟨k, rfl⟩ : ∃ k : Nat, n = k := ⟨n.toNat, by omega⟩
        by_cases hk : k = es.length
        · subst hk
          have hb : x = flat es := h.bytes
          have hsl : sx ≤ (x.length : Int) := h.le
          have hs0 : 0 ≤ sx := h.nonneg
          have e1 : x.take x.length = x := List.take_length
          have e2 : ((min sx.toNat x.length : Nat) : Int) = sx := by omega
          have ez : x.length = (flat (es.take es.length)).length := by rw [List.take_length, ← hb]
          have hc := fun v w (hv : By w v x) => cutOf_ok v x sx es.length w hv h (Nat.le_refl _) ez
          rw [e1, e2] at hc
          exact walk px x x sx sx 0 es.length W byx hs (fun v w hv => cut_all v x sx w hv h) hc
        · exact walk px x (x.take _) sx _ 0 k W byx hs (fun v w hv => cut_less v x sx k w hv h (by omega) rfl) (fun v w hv => cutOf_ok v x sx k w hv h (by omega) rfl)
  · subst he
    exact ⟨_, rfl, law_post laid_ rfl rfl (by rfl) Try.underlying4 (by rw [Try.params11]; exact rec_ok (by kernel_rfl)) hW' hb⟩

set_option maxRecDepth 100000 in
theorem lifted (os : Os) (started : os.Started) (H : Type) (enc : TypeId × Value → H) :
    ReturnsInHanded {} Try.checked os 11 .any (Rows.segCutsSpec.pre6 enc Try.prog Try.f11 Rows.segCutsRow.domain false) (Rows.segCutsSpec.post enc Try.prog Try.f11 false true false false) := by
  refine returnsInHanded_of_change_sized (C := Try.checked) own_ started (by kernel_rfl) Try.func11
    (ChangeSpec.witness6 (enc := enc) (C := Try.checked) false ⟨#[], #[.agg #[.slice none 0 0, .int .i64 0], .int .i64 0], []⟩ 8 (by kernel_rfl) (by kernel_rfl) (by kernel_rfl) (by kernel_rfl)) ?_
  intro W base args ds gs before hval hW _ hsz _
  exact contract H enc W base args ds gs before hval hW hsz

theorem closed : joinedFacts Try.prog 11 Try.f11 Rows.segCutsSpec Rows.segCutsRow = true := by
  unfold joinedFacts
  rw [mayEnter_, lifts_, make_]
  kernel_rfl

theorem proved : Rows.SegCutsSaid :=
  OpenClaim.holds_of_wide 11 Try.f11 rfl rfl rfl rfl rfl rfl rfl ⟨rfl, rfl, rfl, rfl, rfl⟩ rfl rfl rfl rfl rfl (by kernel_rfl) Try.func11 closed
    (of_decide_eq_true (by kernel_rfl)) (by unfold Func.isWrapper; first | (rw [if_pos (by decide +kernel)]; kernel_rfl) | (rw [if_neg (by decide +kernel)]; exact ⟨rfl, rfl⟩))
    (fun os started H enc _ => lifted os started H enc)

end Go.Proofs.Ytpjjfnpdopdnkaa.lawSegCuts
