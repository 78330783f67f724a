/- CoordNextSaid is proved: coord.Next answers as the document says. No condition. -/
import Derived.Test.YtjkoceacjbhblaaLawKit
import Derived.Test.YtjkoceacjbhblaaOpenCoord
import Derived.Test.YtjkoceacjbhblaaNextR
namespace Go.Proofs.Ytjkoceacjbhblaa.lawCoordNext
open Go.ChangeShapes Go.WideShapes Go.ChangeAt Go.RowKit Go.Joins Go.Deep
open Go.ChangeMaps (open_string shut_string)

theorem wf_bounds {n : Int} (h : (Lit.int .i64 n).wf = true) : -9223372036854775808 ≤ n ∧ n ≤ 9223372036854775807 := by
  have h' : IntKind.i64.min ≤ n ∧ n ≤ IntKind.i64.max := by simpa [Lit.wf] using h
  exact h'
set_option maxRecDepth 100000 in
set_option maxHeartbeats 2000000 in
theorem walk (v : Value) (c : CoordD) (n : Int) (w : World) (h : Cv w v c) (hw : c.Wf) (hn : -9223372036854775808 ≤ n ∧ n ≤ 9223372036854775807) :
    Calls Try.prog 10 #[v, .int .i64 n] w fun e w' => e = .returned (.bool true) ∧ Below w.heap.size w w' := by
  have hnm : ∀ t ∈ c.txns, t.name.size ≤ 9223372036854775807 := fun t ht => by
    have := (hw.2.2.2.2 t ht).1
    simp only [maxLen] at this
    omega
  obtain ⟨tv, rfl, hx, -⟩ := id h
  obtain ⟨A, m, rfl, -⟩ := hx.at_
  unfold coordV at *
  have H := Lib.hid h
  have HN := Lib.hid hnm
  clear h hw hnm hx
  go_enter Try.func10, Try.ntmps10
  go_wp2_with fail
  have hal : Below w.heap.size w (w.alloc (.cells #[.int .i64 c.clock, .int .i64 c.next, .int .i64 c.wait, .slice A c.txns.length m] 28)) := (Below.refl _ _).alloc (Nat.le_refl _) _
  have bx := Blk.new w 28 #[.int .i64 c.clock, .int .i64 c.next, .int .i64 c.wait, .slice A c.txns.length m]
  refine (coordNext_any _ c n _ (H.out.below hal) hn).mono ?_
  rintro e w1 ⟨r, hr, rfl, hb⟩
  have hb1 := below_then hal hb
  have bx1 := bx.below hb bx.lt
  have c0 := bx1.cell 0
  have c1 := bx1.cell 1
  have c2 := bx1.cell 2
  have c3 := bx1.cell 3
  have hlt := bx1.lt
  have HR := Lib.hid hr
  have HB := Lib.hid hb1
  obtain ⟨s, a, p, q, kd, tx, code⟩ := r
  unfold nextV
  simp only at *
  clear hal bx bx1 hb hb1 hr
  go_wp2_with fail
  have hal2 := HB.out.alloc HB.out.size (.cells #[.int .i64 0, .int .i64 p, .int .i64 q, .int .i64 0, .int .i64 kd, .bool tx, .string ⟨#[]⟩] 47)
  refine (refNext_any _ c n _ (H.out.below hal2) HN.out).mono ?_
  rintro e w2 ⟨r', hr', rfl, hb⟩
  obtain rfl := HR.out.uniq hr'
  have be := (Blk.new w1 47 #[.int .i64 0, .int .i64 p, .int .i64 q, .int .i64 0, .int .i64 kd, .bool tx, .string ⟨#[]⟩]).below hb (by simp)
  obtain ⟨⟨z0, z1, z2, z3, z4, z5, z6⟩, -, zl⟩ := be.all7
  have hb2 := below_then hal2 hb
  have HB2 := Lib.hid hb2
  clear hal2 hb be hb2 hr'
  unfold nextV
  simp only
  go_wp2
  go_ret
  exact ⟨ret_bool (by simp), HB2.out.alloc HB2.out.size _⟩

set_option maxRecDepth 100000 in
theorem contract (H : Type) (enc : TypeId × Value → H) (W : World) (base : Nat) (args : Array Value) (ds gs : List (DataW H)) (before : List MemPlace)
    (hval : ∀ (j : Nat) t v, Try.f10.params[j]? = some t → args[j]? = some v → Value.okWide Try.prog W .any base t v)
    (hW : DataW.Whole enc Try.prog Try.f10.params.toList Rows.coordNextSpec.vars false W args.toList ds gs before) :
    Calls Try.prog 10 args W fun e W' => ∃ v, e = .returned v ∧ Rows.coordNextSpec.post enc Try.prog Try.f10 false true false false W args v W' := by
  have hW' := hW
  obtain ⟨p, q, hA0, hV, rfl, hfz, hnd⟩ := hW
  have hA : DataW.TrodAll enc Try.prog W 0 (fun _ => true) true Try.f10.params.toList args.toList ds p := hA0
  rw [Try.params10] at hA hval
  obtain ⟨v0, vs0, d0, ds0, p0, q0, hargs, rfl, rfl, h0, r0⟩ := trodAll_cons hA
  obtain ⟨v1, vs1, d1, ds1, p1, q1, rfl, rfl, rfl, h1, r1⟩ := trodAll_cons r0
  obtain ⟨rfl, rfl, rfl⟩ := trodAll_nil r1
  obtain rfl : args = #[v0, v1] := by cases args; simp_all
  obtain ⟨rfl, rfl⟩ := trodVars_none hV
  obtain ⟨c, cvc, wfc, -⟩ := open_coord (hval 0 28 v0 rfl rfl) h0
  obtain ⟨n, en, -, -, wn⟩ := open_int Try.underlying3 (hval 1 3 v1 rfl rfl) h1
  subst en
  refine Calls.mono (R := fun e W' => e = .returned (.bool true) ∧ Below W.heap.size W W') ?_ fun e W' ⟨he, hb⟩ => ?_
  · refine walk v0 c n W cvc wfc (wf_bounds wn)
  · subst he
    exact ⟨_, rfl, law_post laid_ rfl rfl (by rfl) Try.underlying4 (by rw [Try.params10]; exact rec_ok (by kernel_rfl)) hW' hb⟩

set_option maxRecDepth 100000 in
theorem lifted (os : Os) (started : os.Started) (H : Type) (enc : TypeId × Value → H) :
    ReturnsInHanded {} Try.checked os 10 .any (Rows.coordNextSpec.pre6 enc Try.prog Try.f10 Rows.coordNextRow.domain false) (Rows.coordNextSpec.post enc Try.prog Try.f10 false true false false) := by
  refine returnsInHanded_of_change (C := Try.checked) own_ started (by kernel_rfl) Try.func10
    (ChangeSpec.witness6 (enc := enc) (C := Try.checked) false ⟨#[], #[.agg #[.int .i64 0, .int .i64 0, .int .i64 0, .slice none 0 0], .int .i64 0], []⟩ 8 (by kernel_rfl) (by kernel_rfl) (by kernel_rfl) (by kernel_rfl)) ?_
  intro W base args ds gs before hval hW _ _
  exact contract H enc W base args ds gs before hval hW

theorem closed : joinedFacts Try.prog 10 Try.f10 Rows.coordNextSpec Rows.coordNextRow = true := by
  unfold joinedFacts
  rw [mayEnter_, lifts_, make_]
  kernel_rfl

theorem proved : Rows.CoordNextSaid :=
  OpenClaim.holds_of_wide 10 Try.f10 rfl rfl rfl rfl rfl rfl rfl ⟨rfl, rfl, rfl, rfl, rfl⟩ rfl rfl rfl rfl rfl (by kernel_rfl) Try.func10 closed
    (of_decide_eq_true (by kernel_rfl)) (by unfold Func.isWrapper; first | (rw [if_pos (by decide +kernel)]; kernel_rfl) | (rw [if_neg (by decide +kernel)]; exact ⟨rfl, rfl⟩))
    (fun os started H enc _ => lifted os started H enc)

end Go.Proofs.Ytjkoceacjbhblaa.lawCoordNext
