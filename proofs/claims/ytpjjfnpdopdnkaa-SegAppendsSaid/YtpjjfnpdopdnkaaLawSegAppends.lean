/- SegAppendsSaid is proved: seg.Append answers what tailraceref.AppendedOf answers, and leaves its argument as it was, for every log and entry. No condition. -/
import Derived.Test.YtpjjfnpdopdnkaaLawKit
import Derived.Test.YtpjjfnpdopdnkaaOpenLog
import Derived.Test.YtpjjfnpdopdnkaaOpenEnt
import Derived.Test.YtpjjfnpdopdnkaaSameE
import Derived.Test.YtpjjfnpdopdnkaaSegJ
import Derived.Test.YtpjjfnpdopdnkaaSegK
import Derived.Deep.CondSized
namespace Go.Proofs.Ytpjjfnpdopdnkaa.lawSegAppends
open Go.ChangeShapes Go.WideShapes Go.ChangeAt Go.RowKit Go.Joins Go.Deep
open Go.ChangeMaps (open_string shut_string)

set_option maxRecDepth 100000 in
set_option maxHeartbeats 1000000 in
theorem walk (v : Value) (l lb : List UInt8) (s t code : Int) (y : Ent) (w : World) (hv : By w v l) (hl : l.length ≤ 140737488355328)
    (h1 : (∀ (v : Value) (w : World), By w v l → Calls Try.prog 45 #[.agg #[v, .int .i64 s], .agg #[.int .i64 y.ep, .int .i64 y.pid, .int .i64 y.ver, .int .i64 y.seq, .int .i64 y.kind, .bool y.txn, .string y.text]] w fun e w' => ∃ v', e = .returned (.tuple #[.agg #[v', .int .i64 t], .int .i64 code]) ∧ w'.ownsRow w.heap.size 5 1 v' lb.length (bvs lb) ∧ Below w.heap.size w w'))
    (h2 : (∀ (v : Value) (w : World), By w v l → Calls Try.prog 46 #[.agg #[v, .int .i64 s], .agg #[.int .i64 y.ep, .int .i64 y.pid, .int .i64 y.ver, .int .i64 y.seq, .int .i64 y.kind, .bool y.txn, .string y.text]] w fun e w' => ∃ v', e = .returned (.tuple #[.agg #[v', .int .i64 t], .int .i64 code]) ∧ w'.ownsRow w.heap.size 5 1 v' lb.length (bvs lb) ∧ Below w.heap.size w w')) :
    Calls Try.prog 12 #[.agg #[v, .int .i64 s], .agg #[.int .i64 y.ep, .int .i64 y.pid, .int .i64 y.ver, .int .i64 y.seq, .int .i64 y.kind, .bool y.txn, .string y.text]] w fun e w' => e = .returned (.bool true) ∧ Below w.heap.size w w' := by
  have H1 := Lib.hid h1
  have H2 := Lib.hid h2
  have HV := Lib.hid hv
  clear h1 h2
  obtain ⟨A, c, rfl, hc, -⟩ := hv.at_
  clear hv
  have hb0 := (Blk.new w 42 #[.slice A l.length c, .int .i64 s]).alloc (.cells #[.int .i64 y.ep, .int .i64 y.pid, .int .i64 y.ver, .int .i64 y.seq, .int .i64 y.kind, .bool y.txn, .string y.text] 55)
  have he0 := Blk.new (w.alloc (.cells #[.slice A l.length c, .int .i64 s] 42)) 55 #[.int .i64 y.ep, .int .i64 y.pid, .int .i64 y.ver, .int .i64 y.seq, .int .i64 y.kind, .bool y.txn, .string y.text]
  have hbl0 : Below w.heap.size w ((w.alloc (.cells #[.slice A l.length c, .int .i64 s] 42)).alloc (.cells #[.int .i64 y.ep, .int .i64 y.pid, .int .i64 y.ver, .int .i64 y.seq, .int .i64 y.kind, .bool y.txn, .string y.text] 55)) := ((Below.refl _ _).alloc (Nat.le_refl _) _).alloc (by simp) _
  simp only [World.size_alloc] at he0
  go_enter Try.func12, Try.ntmps12
  go_wp2_with fail
  refine (logs_any _ l s _ (HV.out.below hbl0) (by omega)).mono ?_
  rintro e w1 ⟨v1, rfl, ho1, hb1⟩
  have hy1 : By w1 v1 l := Sl.of_own ho1
  obtain ⟨A1, c1, rfl, -, -⟩ := hy1.at_
  have hbl1 := hbl0.trans (hb1.mono hbl0.size)
  have hbK := hbl1.alloc hbl1.size (.cells #[.slice A1 l.length c1, .int .i64 s] 42)
  have hK : Below w1.heap.size w1 (w1.alloc (.cells #[.slice A1 l.length c1, .int .i64 s] 42)) := (Below.refl _ _).alloc (Nat.le_refl _) _
  have c1' := he0.below hb1 he0.lt
  have b1 := (hb0.below hb1 hb0.lt).alloc (.cells #[.slice A1 l.length c1, .int .i64 s] 42)
  have e1 := c1'.alloc (.cells #[.slice A1 l.length c1, .int .i64 s] 42)
  have k1 := Blk.new w1 42 #[.slice A1 l.length c1, .int .i64 s]
  have hyK := hy1.below hK
  have a0 := c1'.cell 0
  have a1 := c1'.cell 1
  have a2 := c1'.cell 2
  have a3 := c1'.cell 3
  have a4 := c1'.cell 4
  have a5 := c1'.cell 5
  have a6 := c1'.cell 6
  have al := c1'.lt
  clear hb1 ho1 hb0 he0 hbl0 hy1 hbl1 c1'
  go_wp2_with fail
  refine (H1.out _ _ hyK).mono ?_
  rintro e w2 ⟨v2, rfl, ho2, hb2⟩
  have hy2 : By w2 v2 lb := Sl.of_own ho2
  obtain ⟨A2, c2, rfl, -, -⟩ := hy2.at_
  have hZ2 : Below w2.heap.size w2 (w2.alloc (.cells #[.slice A2 lb.length c2, .int .i64 t] 42)) := (Below.refl _ _).alloc (Nat.le_refl _) _
  have b2' := b1.below hb2 b1.lt
  have e2' := e1.below hb2 e1.lt
  have k2' := k1.below hb2 k1.lt
  have b2 := b2'.alloc (.cells #[.slice A2 lb.length c2, .int .i64 t] 42)
  have e2 := e2'.alloc (.cells #[.slice A2 lb.length c2, .int .i64 t] 42)
  have k2 := k2'.alloc (.cells #[.slice A2 lb.length c2, .int .i64 t] 42)
  have t2 := Blk.new w2 42 #[.slice A2 lb.length c2, .int .i64 t]
  have hyK2 := (hyK.below hb2).below hZ2
  have hyT2 := hy2.below hZ2
  have hw2 := (hbK.trans (hb2.mono hbK.size)).alloc (hbK.trans (hb2.mono hbK.size)).size (.cells #[.slice A2 lb.length c2, .int .i64 t] 42)
  clear a0 a1 a2 a3 a4 a5 a6 al b1 e1 k1 ho2 hb2 hZ2 hy2 hyK hbK hK
  have a0 := e2'.cell 0
  have a1 := e2'.cell 1
  have a2 := e2'.cell 2
  have a3 := e2'.cell 3
  have a4 := e2'.cell 4
  have a5 := e2'.cell 5
  have a6 := e2'.cell 6
  have al := e2'.lt
  have g0 := b2'.cell 0
  have g1 := b2'.cell 1
  have gl := b2'.lt
  go_wp2_with fail
  refine (H2.out _ _ (HV.out.below hw2)).mono ?_
  rintro e w3 ⟨v3, rfl, ho3, hb3⟩
  have hy3 : By w3 v3 lb := Sl.of_own ho3
  obtain ⟨A3, c3, rfl, -, -⟩ := hy3.at_
  have hZ3 : Below w3.heap.size w3 (w3.alloc (.cells #[.slice A3 lb.length c3, .int .i64 t] 42)) := (Below.refl _ _).alloc (Nat.le_refl _) _
  have t3 := t2.below hb3 t2.lt
  have b3 := (b2.below hb3 b2.lt).alloc (.cells #[.slice A3 lb.length c3, .int .i64 t] 42)
  have k3 := (k2.below hb3 k2.lt).alloc (.cells #[.slice A3 lb.length c3, .int .i64 t] 42)
  have hyK3 := (hyK2.below hb3).below hZ3
  have hyT3 := (hyT2.below hb3).below hZ3
  have hyU3 := hy3.below hZ3
  have hw3 := (hw2.trans (hb3.mono hw2.size)).alloc (hw2.trans (hb3.mono hw2.size)).size (.cells #[.slice A3 lb.length c3, .int .i64 t] 42)
  have zc : (code == code) = true := by simp
  clear a0 a1 a2 a3 a4 a5 a6 al g0 g1 gl b2 e2 k2 t2 b2' e2' k2' ho3 hb3 hZ3 hy3 hyK2 hyT2 hw2
  have a0 := t3.cell 0
  have a1 := t3.cell 1
  have al := t3.lt
  go_wp2_with fail
  refine (sameLog_same _ _ lb t _ hyT3 hyU3).mono ?_
  rintro e w4 ⟨rfl, hb4⟩
  have b4 := b3.below hb4 b3.lt
  have k4 := k3.below hb4 k3.lt
  clear a0 a1 al
  have a0 := b4.cell 0
  have a1 := b4.cell 1
  have al := b4.lt
  have g0 := k4.cell 0
  have g1 := k4.cell 1
  have gl := k4.lt
  have hw4 := hw3.trans (hb4.mono hw3.size)
  go_wp2_with fail
  refine (sameLog_same _ _ l s w4 (hyK3.below hb4) (HV.out.below hw4)).mono ?_
  rintro e w5 ⟨rfl, hb5⟩
  go_wp2
  go_ret
  exact ⟨rfl, hw4.trans (hb5.mono hw4.size)⟩


set_option maxRecDepth 100000 in
theorem contract (H : Type) (enc : TypeId × Value → H) (W : World) (base : Nat) (args : Array Value) (ds gs : List (DataW H)) (before : List MemPlace)
    (hval : ∀ (j : Nat) t v, Try.f12.params[j]? = some t → args[j]? = some v → Value.okWide Try.prog W .any base t v)
    (hW : DataW.Whole enc Try.prog Try.f12.params.toList Rows.segAppendsSpec.vars false W args.toList ds gs before) (hsz : (DataW.weightsEach Try.prog (Try.f12.params.toList ++ Rows.segAppendsSpec.plain.varTypes Try.prog) (ds ++ gs)).all (· ≤ reachBytes) = true) :
    Calls Try.prog 12 args W fun e W' => ∃ v, e = .returned v ∧ Rows.segAppendsSpec.post enc Try.prog Try.f12 false true false false W args v W' := by
  have hW' := hW
  obtain ⟨p, q, hA0, hV, rfl, hfz, hnd⟩ := hW
  have hA : DataW.TrodAll enc Try.prog W 0 (fun _ => true) true Try.f12.params.toList args.toList ds p := hA0
  rw [Try.params12] at hA hval
  obtain ⟨v0, vs0, d0, ds0, p0, q0, hargs, rfl, rfl, h0, r0⟩ := trodAll_cons hA
  obtain ⟨v1, vs1, d1, ds1, p1, q1, rfl, rfl, rfl, h1, r1⟩ := trodAll_cons r0
  obtain ⟨rfl, rfl, rfl⟩ := trodAll_nil r1
  obtain rfl : args = #[v0, v1] := by cases args; simp_all
  obtain ⟨rfl, rfl⟩ := trodVars_none hV
  obtain ⟨x, sx, px, ex, byx, -, ix, smx⟩ := open_log_ (hval 0 42 v0 rfl rfl) h0
  subst ex
  obtain ⟨n0, n1, n2, n3, n4, n5, n6, en, wtn⟩ := open_entry (hval 1 55 v1 rfl rfl) h1
  subst en
  refine Calls.mono (R := fun e W' => e = .returned (.bool true) ∧ Below W.heap.size W W') ?_ fun e W' ⟨he, hb⟩ => ?_
  · have hs : x.length ≤ 140737488355328 := by have := smx (fits_arg hsz (j := 0) (t := 42) (by rw [Try.params12]; rfl) rfl); simp only [reachBytes] at this; omega
    obtain ⟨y, hy⟩ : ∃ y : Ent, y = ⟨n0, n1, n2, n3, n4, n5, n6⟩ := ⟨_, rfl⟩
    have hg : Calls Try.prog 12 #[.agg #[px, .int .i64 sx], .agg #[.int .i64 y.ep, .int .i64 y.pid, .int .i64 y.ver, .int .i64 y.seq, .int .i64 y.kind, .bool y.txn, .string y.text]] W fun e w' => e = .returned (.bool true) ∧ Below W.heap.size W w' := by
      clear hy
      rcases logFault_cases ⟨x, sx⟩ with hf | ⟨es, j, h⟩
      · exact walk px x [] sx 0 (logFault ⟨x, sx⟩) y W byx hs (fun v w h => append_bad v x sx y w h (by omega) hf) (fun v w h => appendedOf_bad v x sx y w h (by omega) hf)
      · by_cases ho : y.ok
        · by_cases hf : es.length = 400 ∨ 40000 < x.length + y.enc.length
          · exact walk px x [] sx 0 16 y W byx hs (fun v w hv => append_full v x sx y w hv h ho hf) (fun v w hv => appendedOf_full v x sx y w hv h ho hf)
          · exact walk px x (x ++ y.enc) sx sx 0 y W byx hs (fun v w hv => append_ok v x sx y w hv h ho hf) (fun v w hv => appendedOf_ok v x sx y w hv h ho hf)
        · exact walk px x [] sx 0 _ y W byx hs (fun v w hv => append_ent v x sx y w hv h ho) (fun v w hv => appendedOf_ent v x sx y w hv h ho)
    rw [hy] at hg
    exact hg
  · subst he
    exact ⟨_, rfl, law_post laid_ rfl rfl (by rfl) Try.underlying4 (by rw [Try.params12]; exact rec_ok (by kernel_rfl)) hW' hb⟩

set_option maxRecDepth 100000 in
theorem lifted (os : Os) (started : os.Started) (H : Type) (enc : TypeId × Value → H) :
    ReturnsInHanded {} Try.checked os 12 .any (Rows.segAppendsSpec.pre6 enc Try.prog Try.f12 Rows.segAppendsRow.domain false) (Rows.segAppendsSpec.post enc Try.prog Try.f12 false true false false) := by
  refine returnsInHanded_of_change_sized (C := Try.checked) own_ started (by kernel_rfl) Try.func12
    (ChangeSpec.witness6 (enc := enc) (C := Try.checked) false ⟨#[], #[.agg #[.slice none 0 0, .int .i64 0], .agg #[.int .i64 0, .int .i64 0, .int .i64 0, .int .i64 0, .int .i64 0, .bool false, .string .empty]], []⟩ 8 (by kernel_rfl) (by kernel_rfl) (by kernel_rfl) (by kernel_rfl)) ?_
  intro W base args ds gs before hval hW _ hsz _
  exact contract H enc W base args ds gs before hval hW hsz

theorem closed : joinedFacts Try.prog 12 Try.f12 Rows.segAppendsSpec Rows.segAppendsRow = true := by
  unfold joinedFacts
  rw [mayEnter_, lifts_, make_]
  kernel_rfl

theorem proved : Rows.SegAppendsSaid :=
  OpenClaim.holds_of_wide 12 Try.f12 rfl rfl rfl rfl rfl rfl rfl ⟨rfl, rfl, rfl, rfl, rfl⟩ rfl rfl rfl rfl rfl (by kernel_rfl) Try.func12 closed
    (of_decide_eq_true (by kernel_rfl)) (by unfold Func.isWrapper; first | (rw [if_pos (by decide +kernel)]; kernel_rfl) | (rw [if_neg (by decide +kernel)]; exact ⟨rfl, rfl⟩))
    (fun os started H enc _ => lifted os started H enc)

end Go.Proofs.Ytpjjfnpdopdnkaa.lawSegAppends
