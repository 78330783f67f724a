/- PartNewSaid is proved: part.New answers what tailraceref.NewOf answers, for every two numbers. No condition. -/
import Derived.Test.YtpjjfnpdopdnkaaLawKit
import Derived.Test.YtpjjfnpdopdnkaaPartS
import Derived.Test.YtpjjfnpdopdnkaaPmNewB
namespace Go.Proofs.Ytpjjfnpdopdnkaa.lawPartNew
open Go.ChangeShapes Go.WideShapes Go.ChangeAt Go.RowKit Go.Joins Go.Deep
open Go.ChangeMaps (open_string shut_string)

set_option maxRecDepth 100000 in
set_option maxHeartbeats 4000000 in
theorem walk (c2 : PartD) (n few code : Int) (w : World)
    (hf : ∀ w : World, Calls Try.prog 23 #[.int .i64 n, .int .i64 few] w (PRes c2 code w)) (hg : ∀ w : World, Calls Try.prog 24 #[.int .i64 n, .int .i64 few] w (PRes c2 code w)) :
    Calls Try.prog 3 #[.int .i64 n, .int .i64 few] w fun e w' => e = .returned (.bool true) ∧ Below w.heap.size w w' := by
  have HF := Lib.hid hf
  have HG := Lib.hid hg
  clear hf hg
  have zc : (code == code) = true := by simp
  go_enter Try.func3, Try.ntmps3
  go_wp2_with fail
  refine (HF.out _).mono ?_
  rintro e W1 ⟨v2, rfl, ha, hb⟩
  obtain ⟨D1, e1, D3, e3, D5, e5, rfl⟩ := ha.form
  unfold partV at *
  have HA := Lib.hid ha
  clear ha
  have hb1 : Below w.heap.size w W1 := id hb
  have hz1 := hb.size
  have HB1 := Lib.hid hb1
  clear hb1
  go_upto_region 2 with fail
  have hsz2 := HB1.out.size
  have hb2 : Below w.heap.size w (W1.alloc (.cells #[.int .i64 c2.epoch, .int .i64 c2.leader, .slice D1 c2.isr.length e1, .slice D3 c2.known.length e3, .slice D5 c2.reps.length e5, .int .i64 c2.few, .int .i64 c2.base] 26)) := (HB1.out).alloc (by first | omega | (simp; done) | (simp; omega)) _
  have hal2 : Below W1.heap.size W1 (W1.alloc (.cells #[.int .i64 c2.epoch, .int .i64 c2.leader, .slice D1 c2.isr.length e1, .slice D3 c2.known.length e3, .slice D5 c2.reps.length e5, .int .i64 c2.few, .int .i64 c2.base] 26)) := (Below.refl _ _).alloc (by first | omega | (simp; done) | (simp; omega)) _
  have b_ba2 : Blk (W1.alloc (.cells #[.int .i64 c2.epoch, .int .i64 c2.leader, .slice D1 c2.isr.length e1, .slice D3 c2.known.length e3, .slice D5 c2.reps.length e5, .int .i64 c2.few, .int .i64 c2.base] 26)) (W1.heap.size) 26 #[.int .i64 c2.epoch, .int .i64 c2.leader, .slice D1 c2.isr.length e1, .slice D3 c2.known.length e3, .slice D5 c2.reps.length e5, .int .i64 c2.few, .int .i64 c2.base] := Blk.new_ _ 26 #[.int .i64 c2.epoch, .int .i64 c2.leader, .slice D1 c2.isr.length e1, .slice D3 c2.known.length e3, .slice D5 c2.reps.length e5, .int .i64 c2.few, .int .i64 c2.base] (by first | rfl | (simp; done) | (simp; omega))
  have k_a2 := HA.out.below hal2
  have hz2 : W1.heap.size + 1 ≤ (W1.alloc (.cells #[.int .i64 c2.epoch, .int .i64 c2.leader, .slice D1 c2.isr.length e1, .slice D3 c2.known.length e3, .slice D5 c2.reps.length e5, .int .i64 c2.few, .int .i64 c2.base] 26)).heap.size := by first | omega | (simp; done) | (simp; omega)
  generalize W1.alloc (.cells #[.int .i64 c2.epoch, .int .i64 c2.leader, .slice D1 c2.isr.length e1, .slice D3 c2.known.length e3, .slice D5 c2.reps.length e5, .int .i64 c2.few, .int .i64 c2.base] 26) = W2 at *
  have HB2 := Lib.hid hb2
  have B2_ba := Lib.hid b_ba2
  have K2_a := Lib.hid k_a2
  clear hb2 b_ba2 k_a2
  clear HB1 HA
  go_wp2_with fail
  refine (HG.out _).mono ?_
  rintro e W3 ⟨v3, rfl, hq, hb⟩
  obtain ⟨F1, g1, F3, g3, F5, g5, rfl⟩ := hq.form
  unfold partV at *
  have HQ := Lib.hid hq
  clear hq
  have hb3 : Below w.heap.size w W3 := below_then HB2.out hb
  have b_ba3 := B2_ba.out.below hb B2_ba.out.lt
  have k_a3 := K2_a.out.below hb
  have hz3 := hb.size
  have HB3 := Lib.hid hb3
  have B3_ba := Lib.hid b_ba3
  have K3_a := Lib.hid k_a3
  clear hb3 b_ba3 k_a3
  clear B2_ba HB2 K2_a
  go_upto_region 3 with fail
  have hsz4 := HB3.out.size
  have hb4 : Below w.heap.size w (W3.alloc (.cells #[.int .i64 c2.epoch, .int .i64 c2.leader, .slice F1 c2.isr.length g1, .slice F3 c2.known.length g3, .slice F5 c2.reps.length g5, .int .i64 c2.few, .int .i64 c2.base] 26)) := (HB3.out).alloc (by first | omega | (simp; done) | (simp; omega)) _
  have hal4 : Below W3.heap.size W3 (W3.alloc (.cells #[.int .i64 c2.epoch, .int .i64 c2.leader, .slice F1 c2.isr.length g1, .slice F3 c2.known.length g3, .slice F5 c2.reps.length g5, .int .i64 c2.few, .int .i64 c2.base] 26)) := (Below.refl _ _).alloc (by first | omega | (simp; done) | (simp; omega)) _
  have b_ba4 : Blk (W3.alloc (.cells #[.int .i64 c2.epoch, .int .i64 c2.leader, .slice F1 c2.isr.length g1, .slice F3 c2.known.length g3, .slice F5 c2.reps.length g5, .int .i64 c2.few, .int .i64 c2.base] 26)) (W1.heap.size) 26 #[.int .i64 c2.epoch, .int .i64 c2.leader, .slice D1 c2.isr.length e1, .slice D3 c2.known.length e3, .slice D5 c2.reps.length e5, .int .i64 c2.few, .int .i64 c2.base] := (B3_ba.out).alloc _
  have b_bb4 : Blk (W3.alloc (.cells #[.int .i64 c2.epoch, .int .i64 c2.leader, .slice F1 c2.isr.length g1, .slice F3 c2.known.length g3, .slice F5 c2.reps.length g5, .int .i64 c2.few, .int .i64 c2.base] 26)) (W3.heap.size) 26 #[.int .i64 c2.epoch, .int .i64 c2.leader, .slice F1 c2.isr.length g1, .slice F3 c2.known.length g3, .slice F5 c2.reps.length g5, .int .i64 c2.few, .int .i64 c2.base] := Blk.new_ _ 26 #[.int .i64 c2.epoch, .int .i64 c2.leader, .slice F1 c2.isr.length g1, .slice F3 c2.known.length g3, .slice F5 c2.reps.length g5, .int .i64 c2.few, .int .i64 c2.base] (by first | rfl | (simp; done) | (simp; omega))
  have k_a4 := K3_a.out.below hal4
  have k_b4 := HQ.out.below hal4
  have hz4 : W3.heap.size + 1 ≤ (W3.alloc (.cells #[.int .i64 c2.epoch, .int .i64 c2.leader, .slice F1 c2.isr.length g1, .slice F3 c2.known.length g3, .slice F5 c2.reps.length g5, .int .i64 c2.few, .int .i64 c2.base] 26)).heap.size := by first | omega | (simp; done) | (simp; omega)
  generalize W3.alloc (.cells #[.int .i64 c2.epoch, .int .i64 c2.leader, .slice F1 c2.isr.length g1, .slice F3 c2.known.length g3, .slice F5 c2.reps.length g5, .int .i64 c2.few, .int .i64 c2.base] 26) = W4 at *
  have HB4 := Lib.hid hb4
  have B4_ba := Lib.hid b_ba4
  have B4_bb := Lib.hid b_bb4
  have K4_a := Lib.hid k_a4
  have K4_b := Lib.hid k_b4
  clear hb4 b_ba4 b_bb4 k_a4 k_b4
  clear B3_ba HB3 K3_a HQ
  have c_ba0 := B4_ba.out.cell 0
  have c_ba1 := B4_ba.out.cell 1
  have c_ba2 := B4_ba.out.cell 2
  have c_ba3 := B4_ba.out.cell 3
  have c_ba4 := B4_ba.out.cell 4
  have c_ba5 := B4_ba.out.cell 5
  have c_ba6 := B4_ba.out.cell 6
  have l_ba := B4_ba.out.lt
  have c_bb0 := B4_bb.out.cell 0
  have c_bb1 := B4_bb.out.cell 1
  have c_bb2 := B4_bb.out.cell 2
  have c_bb3 := B4_bb.out.cell 3
  have c_bb4 := B4_bb.out.cell 4
  have c_bb5 := B4_bb.out.cell 5
  have c_bb6 := B4_bb.out.cell 6
  have l_bb := B4_bb.out.lt
  go_wp2_with fail
  clear c_ba0 c_ba1 c_ba2 c_ba3 c_ba4 c_ba5 c_ba6 l_ba c_bb0 c_bb1 c_bb2 c_bb3 c_bb4 c_bb5 c_bb6 l_bb
  refine (samePart_same _ _ c2 _ K4_a.out K4_b.out).mono ?_
  rintro e W5 ⟨rfl, hb⟩
  have hb5 : Below w.heap.size w W5 := below_then HB4.out hb
  have b_ba5 := B4_ba.out.below hb B4_ba.out.lt
  have b_bb5 := B4_bb.out.below hb B4_bb.out.lt
  have k_a5 := K4_a.out.below hb
  have k_b5 := K4_b.out.below hb
  have hz5 := hb.size
  have HB5 := Lib.hid hb5
  have B5_ba := Lib.hid b_ba5
  have B5_bb := Lib.hid b_bb5
  have K5_a := Lib.hid k_a5
  have K5_b := Lib.hid k_b5
  clear hb5 b_ba5 b_bb5 k_a5 k_b5
  clear B4_ba B4_bb HB4 K4_a K4_b
  go_wp2
  go_ret
  exact ⟨rfl, HB5.out⟩

set_option maxRecDepth 100000 in
theorem contract (H : Type) (enc : TypeId × Value → H) (W : World) (base : Nat) (args : Array Value) (ds gs : List (DataW H)) (before : List MemPlace)
    (hval : ∀ (j : Nat) t v, Try.f3.params[j]? = some t → args[j]? = some v → Value.okWide Try.prog W .any base t v)
    (hW : DataW.Whole enc Try.prog Try.f3.params.toList Rows.partNewSpec.vars false W args.toList ds gs before) :
    Calls Try.prog 3 args W fun e W' => ∃ v, e = .returned v ∧ Rows.partNewSpec.post enc Try.prog Try.f3 false true false false W args v W' := by
  have hW' := hW
  obtain ⟨p, q, hA0, hV, rfl, hfz, hnd⟩ := hW
  have hA : DataW.TrodAll enc Try.prog W 0 (fun _ => true) true Try.f3.params.toList args.toList ds p := hA0
  rw [Try.params3] at hA hval
  obtain ⟨v0, vs0, d0, ds0, p0, q0, hargs, rfl, rfl, h0, r0⟩ := trodAll_cons hA
  obtain ⟨v1, vs1, d1, ds1, p1, q1, rfl, rfl, rfl, h1, r1⟩ := trodAll_cons r0
  obtain ⟨rfl, rfl, rfl⟩ := trodAll_nil r1
  obtain rfl : args = #[v0, v1] := by cases args; simp_all
  obtain ⟨rfl, rfl⟩ := trodVars_none hV
  obtain ⟨n0, en0, -, -, wn0⟩ := open_int Try.underlying3 (hval 0 3 v0 rfl rfl) h0
  subst en0
  obtain ⟨n1, en1, -, -, wn1⟩ := open_int Try.underlying3 (hval 1 3 v1 rfl rfl) h1
  subst en1
  refine Calls.mono (R := fun e W' => e = .returned (.bool true) ∧ Below W.heap.size W W') ?_ fun e W' ⟨he, hb⟩ => ?_
  · by_cases hr : n0 < 1 ∨ 5 < n0 ∨ n1 < 1 ∨ n0 < n1
    · exact walk zeroP n0 n1 2 W (fun w => (new_bad n0 n1 hr w).mono fun _ _ h => h.res) (fun w => (newOf_bad n0 n1 hr w).mono fun _ _ h => h.res)
    · obtain ⟨n, rfl⟩ : ∃ n : Nat, n0 = n := ⟨n0.toNat, by omega⟩
      exact walk (newD n n1) n n1 0 W (fun w => (new_good n n1 (by omega) (by omega) (by omega) (by omega) w).mono fun _ _ h => h.res (PSm.newD n1 (by omega))) (fun w => (newOf_good n n1 (by omega) (by omega) (by omega) (by omega) w).mono fun _ _ h => h.res (PSm.newD n1 (by omega)))
  · subst he
    exact ⟨_, rfl, law_post laid_ rfl rfl (by rfl) Try.underlying4 (by rw [Try.params3]; exact rec_ok (by kernel_rfl)) hW' hb⟩

set_option maxRecDepth 100000 in
theorem lifted (os : Os) (started : os.Started) (H : Type) (enc : TypeId × Value → H) :
    ReturnsInHanded {} Try.checked os 3 .any (Rows.partNewSpec.pre6 enc Try.prog Try.f3 Rows.partNewRow.domain false) (Rows.partNewSpec.post enc Try.prog Try.f3 false true false false) := by
  refine returnsInHanded_of_change (C := Try.checked) own_ started (by kernel_rfl) Try.func3
    (ChangeSpec.witness6 (enc := enc) (C := Try.checked) false ⟨#[], #[.int .i64 0, .int .i64 0], []⟩ 8 (by kernel_rfl) (by kernel_rfl) (by kernel_rfl) (by kernel_rfl)) ?_
  intro W base args ds gs before hval hW _ _
  exact contract H enc W base args ds gs before hval hW

theorem closed : joinedFacts Try.prog 3 Try.f3 Rows.partNewSpec Rows.partNewRow = true := by
  unfold joinedFacts
  rw [mayEnter_, lifts_, make_]
  kernel_rfl

theorem proved : Rows.PartNewSaid :=
  OpenClaim.holds_of_wide 3 Try.f3 rfl rfl rfl rfl rfl rfl rfl ⟨rfl, rfl, rfl, rfl, rfl⟩ rfl rfl rfl rfl rfl (by kernel_rfl) Try.func3 closed
    (of_decide_eq_true (by kernel_rfl)) (by unfold Func.isWrapper; first | (rw [if_pos (by decide +kernel)]; kernel_rfl) | (rw [if_neg (by decide +kernel)]; exact ⟨rfl, rfl⟩))
    (fun os started H enc _ => lifted os started H enc)

end Go.Proofs.Ytpjjfnpdopdnkaa.lawPartNew
