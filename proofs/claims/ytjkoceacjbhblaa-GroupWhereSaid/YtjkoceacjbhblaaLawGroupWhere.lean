/- GroupWhereSaid is proved: group.Where answers as the document says. No condition. -/
import Derived.Test.YtjkoceacjbhblaaLawKit
import Derived.Test.YtjkoceacjbhblaaOpenGroup
import Derived.Test.YtjkoceacjbhblaaGWhA
import Derived.Test.YtjkoceacjbhblaaGWhB
namespace Go.Proofs.Ytjkoceacjbhblaa.lawGroupWhere
open Go.ChangeShapes Go.WideShapes Go.ChangeAt Go.RowKit Go.Joins Go.Deep
open Go.ChangeMaps (open_string shut_string)

set_option maxRecDepth 100000 in
set_option maxHeartbeats 4000000 in
theorem walk (v : Value) (c : GroupD) (s : ByteArray) (p : Int) (w : World) (h : Gv w v c) (hw : c.Wf) (hs : s.size ≤ 9223372036854775807) (r0 r1 : Int) (ht : WhereTo c s p r0 r1) :
    Calls Try.prog 14 #[v, .string s, .int .i64 p] w fun e w' => e = .returned (.bool true) ∧ Below w.heap.size w w' := by
  have hnm : ∀ t ∈ c.mems, t.name.size ≤ 9223372036854775807 := fun t ht => by
    have := (hw.2.2.2.2.1 t ht).1
    simp only [maxLen] at this
    omega
  obtain ⟨mv, ov, rfl, hx, ho, -⟩ := id h
  obtain ⟨A, m, rfl, -⟩ := hx.at_
  obtain ⟨A', m', rfl, -⟩ := ho.at_
  unfold groupV at *
  have H := Lib.hid h
  have HN := Lib.hid hnm
  have HT := Lib.hid ht
  clear h hw hnm hx ho ht
  go_enter Try.func14, Try.ntmps14
  go_wp2_with fail
  have hb1 : Below w.heap.size w (w.alloc (.cells #[.int .i64 c.clock, .int .i64 c.wait, .int .i64 c.gen, .slice A c.mems.length m, .slice A' c.offs.length m'] 36)) := (Below.refl _ _).alloc (by first | omega | (simp; done) | (simp; omega)) _
  have hal1 : Below w.heap.size w (w.alloc (.cells #[.int .i64 c.clock, .int .i64 c.wait, .int .i64 c.gen, .slice A c.mems.length m, .slice A' c.offs.length m'] 36)) := (Below.refl _ _).alloc (by first | omega | (simp; done) | (simp; omega)) _
  have b_bx1 : Blk (w.alloc (.cells #[.int .i64 c.clock, .int .i64 c.wait, .int .i64 c.gen, .slice A c.mems.length m, .slice A' c.offs.length m'] 36)) (w.heap.size) 36 #[.int .i64 c.clock, .int .i64 c.wait, .int .i64 c.gen, .slice A c.mems.length m, .slice A' c.offs.length m'] := Blk.new_ _ 36 #[.int .i64 c.clock, .int .i64 c.wait, .int .i64 c.gen, .slice A c.mems.length m, .slice A' c.offs.length m'] (by first | rfl | (simp; done) | (simp; omega))
  have k_g1 := H.out.below hal1
  have hz1 : w.heap.size + 1 ≤ (w.alloc (.cells #[.int .i64 c.clock, .int .i64 c.wait, .int .i64 c.gen, .slice A c.mems.length m, .slice A' c.offs.length m'] 36)).heap.size := by first | omega | (simp; done) | (simp; omega)
  generalize w.alloc (.cells #[.int .i64 c.clock, .int .i64 c.wait, .int .i64 c.gen, .slice A c.mems.length m, .slice A' c.offs.length m'] 36) = W1 at *
  have HB1 := Lib.hid hb1
  have B1_bx := Lib.hid b_bx1
  have K1_g := Lib.hid k_g1
  clear hb1 b_bx1 k_g1
  clear H
  refine (where_any _ c s p r0 r1 HT.out _ K1_g.out).mono ?_
  rintro e W2 ⟨rfl, hb⟩
  have hb2 : Below w.heap.size w W2 := below_then HB1.out hb
  have b_bx2 := B1_bx.out.below hb B1_bx.out.lt
  have k_g2 := K1_g.out.below hb
  have hz2 := hb.size
  have HB2 := Lib.hid hb2
  have B2_bx := Lib.hid b_bx2
  have K2_g := Lib.hid k_g2
  clear hb2 b_bx2 k_g2
  clear B1_bx HB1 K1_g
  have c_bx0 := B2_bx.out.cell 0
  have c_bx1 := B2_bx.out.cell 1
  have c_bx2 := B2_bx.out.cell 2
  have c_bx3 := B2_bx.out.cell 3
  have c_bx4 := B2_bx.out.cell 4
  have l_bx := B2_bx.out.lt
  go_wp2_with fail
  clear c_bx0 c_bx1 c_bx2 c_bx3 c_bx4 l_bx
  refine (whereOf_any _ c s p r0 r1 HT.out _ K2_g.out HN.out hs).mono ?_
  rintro e W3 ⟨rfl, hb⟩
  have hb3 : Below w.heap.size w W3 := below_then HB2.out hb
  have b_bx3 := B2_bx.out.below hb B2_bx.out.lt
  have k_g3 := K2_g.out.below hb
  have hz3 := hb.size
  have HB3 := Lib.hid hb3
  have B3_bx := Lib.hid b_bx3
  have K3_g := Lib.hid k_g3
  clear hb3 b_bx3 k_g3
  clear B2_bx HB2 K2_g
  go_wp2
  go_ret
  exact ⟨ret_bool (by simp), HB3.out⟩

set_option maxRecDepth 100000 in
theorem contract (H : Type) (enc : TypeId × Value → H) (W : World) (base : Nat) (args : Array Value) (ds gs : List (DataW H)) (before : List MemPlace)
    (hval : ∀ (j : Nat) t v, Try.f14.params[j]? = some t → args[j]? = some v → Value.okWide Try.prog W .any base t v)
    (hW : DataW.Whole enc Try.prog Try.f14.params.toList Rows.groupWhereSpec.vars false W args.toList ds gs before) :
    Calls Try.prog 14 args W fun e W' => ∃ v, e = .returned v ∧ Rows.groupWhereSpec.post enc Try.prog Try.f14 false true false false W args v W' := by
  have hW' := hW
  obtain ⟨p, q, hA0, hV, rfl, hfz, hnd⟩ := hW
  have hA : DataW.TrodAll enc Try.prog W 0 (fun _ => true) true Try.f14.params.toList args.toList ds p := hA0
  rw [Try.params14] at hA hval
  obtain ⟨v0, vs0, d0, ds0, p0, q0, hargs, rfl, rfl, h0, r0⟩ := trodAll_cons hA
  obtain ⟨v1, vs1, d1, ds1, p1, q1, rfl, rfl, rfl, h1, r1⟩ := trodAll_cons r0
  obtain ⟨v2, vs2, d2, ds2, p2, q2, rfl, rfl, rfl, h2, r2⟩ := trodAll_cons r1
  obtain ⟨rfl, rfl, rfl⟩ := trodAll_nil r2
  obtain rfl : args = #[v0, v1, v2] := by cases args; simp_all
  obtain ⟨rfl, rfl⟩ := trodVars_none hV
  obtain ⟨c, gvc, wfc, -⟩ := open_group (hval 0 36 v0 rfl rfl) h0
  obtain ⟨s, es, -, -, ws⟩ := open_string Try.underlying9 (hval 1 9 v1 rfl rfl) h1
  subst es
  obtain ⟨p, ep, -, -, wp⟩ := open_int Try.underlying3 (hval 2 3 v2 rfl rfl) h2
  subst ep
  refine Calls.mono (R := fun e W' => e = .returned (.bool true) ∧ Below W.heap.size W W') ?_ fun e W' ⟨he, hb⟩ => ?_
  · obtain ⟨r0, r1, ht⟩ := where_to c s p
    exact walk v0 c s p W gvc wfc (by simpa [maxLen] using ws) r0 r1 ht
  · subst he
    exact ⟨_, rfl, law_post laid_ rfl rfl (by rfl) Try.underlying4 (by rw [Try.params14]; exact rec_ok (by kernel_rfl)) hW' hb⟩

set_option maxRecDepth 100000 in
theorem lifted (os : Os) (started : os.Started) (H : Type) (enc : TypeId × Value → H) :
    ReturnsInHanded {} Try.checked os 14 .any (Rows.groupWhereSpec.pre6 enc Try.prog Try.f14 Rows.groupWhereRow.domain false) (Rows.groupWhereSpec.post enc Try.prog Try.f14 false true false false) := by
  refine returnsInHanded_of_change (C := Try.checked) own_ started (by kernel_rfl) Try.func14
    (ChangeSpec.witness6 (enc := enc) (C := Try.checked) false ⟨#[], #[.agg #[.int .i64 0, .int .i64 0, .int .i64 0, .slice none 0 0, .slice none 0 0], .string .empty, .int .i64 0], []⟩ 8 (by kernel_rfl) (by kernel_rfl) (by kernel_rfl) (by kernel_rfl)) ?_
  intro W base args ds gs before hval hW _ _
  exact contract H enc W base args ds gs before hval hW

theorem closed : joinedFacts Try.prog 14 Try.f14 Rows.groupWhereSpec Rows.groupWhereRow = true := by
  unfold joinedFacts
  rw [mayEnter_, lifts_, make_]
  kernel_rfl

theorem proved : Rows.GroupWhereSaid :=
  OpenClaim.holds_of_wide 14 Try.f14 rfl rfl rfl rfl rfl rfl rfl ⟨rfl, rfl, rfl, rfl, rfl⟩ rfl rfl rfl rfl rfl (by kernel_rfl) Try.func14 closed
    (of_decide_eq_true (by kernel_rfl)) (by unfold Func.isWrapper; first | (rw [if_pos (by decide +kernel)]; kernel_rfl) | (rw [if_neg (by decide +kernel)]; exact ⟨rfl, rfl⟩))
    (fun os started H enc _ => lifted os started H enc)

end Go.Proofs.Ytjkoceacjbhblaa.lawGroupWhere
