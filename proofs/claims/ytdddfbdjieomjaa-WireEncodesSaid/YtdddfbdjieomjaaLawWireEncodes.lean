/- WireEncodesSaid is proved: wire.Encode answers what tailraceref.EntryBytes answers, for every entry. No condition. -/
import Derived.Test.YtdddfbdjieomjaaLawKit
import Derived.Test.YtdddfbdjieomjaaWire4
import Derived.Test.YtdddfbdjieomjaaConv
namespace Go.Proofs.Ytdddfbdjieomjaa.lawWireEncodes
open Go.ChangeShapes Go.WideShapes Go.ChangeAt Go.RowKit Go.Joins Go.Deep

set_option maxRecDepth 100000 in
set_option maxHeartbeats 1000000 in
theorem walk_bad (ep pid ver seq kind : Int) (txn : Bool) (text : ByteArray) (w : World) (hf : entryFault ep pid ver seq kind txn text.size ≠ 0) :
    Calls Try.prog 7 #[.agg #[.int .i64 ep, .int .i64 pid, .int .i64 ver, .int .i64 seq, .int .i64 kind, .bool txn, .string text]] w fun e w' => e = .returned (.bool true) ∧ Below w.heap.size w w' := by
  go_enter Try.func7, Try.ntmps7
  go_wp2_with fail
  refine (Encode_bad ep pid ver seq kind txn text _ hf).mono ?_
  rintro e w1 ⟨rfl, hb⟩
  simp only [World.size_alloc] at hb
  have b1 := (Blk.new w 35 #[.int .i64 ep, .int .i64 pid, .int .i64 ver, .int .i64 seq, .int .i64 kind, .bool txn, .string text]).below hb (by simp)
  have c0 := b1.cell 0
  have c1 := b1.cell 1
  have c2 := b1.cell 2
  have c3 := b1.cell 3
  have c4 := b1.cell 4
  have c5 := b1.cell 5
  have c6 := b1.cell 6
  go_wp2_with fail
  refine (EntryBytes_bad ep pid ver seq kind txn text _ hf).mono ?_
  rintro e w2 ⟨rfl, hb2⟩
  have hcv := (By.convert_ (w := w2) (v := .slice none 0 0) (l := []) (Sl.nil_ _ _))
  go_wp2
  go_ret
  have hs := hb.size
  simp only [World.size_alloc] at hs
  exact ⟨rfl, (((Below.refl _ _).alloc (Nat.le_refl _) _).trans (hb.mono (by omega))).trans (hb2.mono (by omega))⟩

set_option maxRecDepth 100000 in
set_option maxHeartbeats 1000000 in
theorem walk_ok (ep pid ver seq kind : Nat) (txn : Bool) (text : ByteArray) (w : World) (hf : entryFault ep pid ver seq kind txn text.size = 0) :
    Calls Try.prog 7 #[.agg #[.int .i64 ep, .int .i64 pid, .int .i64 ver, .int .i64 seq, .int .i64 kind, .bool txn, .string text]] w fun e w' => e = .returned (.bool true) ∧ Below w.heap.size w w' := by
  go_enter Try.func7, Try.ntmps7
  go_wp2_with fail
  refine (Encode_ok ep pid ver seq kind txn text _ hf).mono ?_
  rintro e w1 ⟨v1, rfl, ho1, hb⟩
  simp only [World.size_alloc] at hb ho1
  have b1 := (Blk.new w 35 #[.int .i64 ep, .int .i64 pid, .int .i64 ver, .int .i64 seq, .int .i64 kind, .bool txn, .string text]).below hb (by simp)
  have c0 := b1.cell 0
  have c1 := b1.cell 1
  have c2 := b1.cell 2
  have c3 := b1.cell 3
  have c4 := b1.cell 4
  have c5 := b1.cell 5
  have c6 := b1.cell 6
  go_wp2_with fail
  refine (EntryBytes_ok ep pid ver seq kind txn text _ hf).mono ?_
  rintro e w2 ⟨v2, rfl, ho2, hb2⟩
  generalize encB ep pid ver seq kind txn text = E at ho1 ho2
  have hy1 : By w2 v1 E := Sl.below (Sl.of_own ho1) hb2
  have hy2 : By w2 v2 E := Sl.of_own ho2
  have hcv1 := hy1.convert_
  have hcv2 := hy2.convert_
  obtain ⟨A1, k1, e1, hk1, -⟩ := hy1.at_
  obtain ⟨A2, k2, e2, hk2, -⟩ := hy2.at_
  subst e1 e2
  go_wp2
  go_ret
  have hs := hb.size
  simp only [World.size_alloc] at hs
  exact ⟨rfl, (((Below.refl _ _).alloc (Nat.le_refl _) _).trans (hb.mono (by omega))).trans (hb2.mono (by omega))⟩


set_option maxRecDepth 100000 in
theorem contract (H : Type) (enc : TypeId × Value → H) (W : World) (base : Nat) (args : Array Value) (ds gs : List (DataW H)) (before : List MemPlace)
    (hval : ∀ (j : Nat) t v, Try.f7.params[j]? = some t → args[j]? = some v → Value.okWide Try.prog W .any base t v)
    (hW : DataW.Whole enc Try.prog Try.f7.params.toList Rows.wireEncodesSpec.vars false W args.toList ds gs before) :
    Calls Try.prog 7 args W fun e W' => ∃ v, e = .returned v ∧ Rows.wireEncodesSpec.post enc Try.prog Try.f7 false true false false W args v W' := by
  have hW' := hW
  obtain ⟨p, q, hA0, hV, rfl, hfz, hnd⟩ := hW
  have hA : DataW.TrodAll enc Try.prog W 0 (fun _ => true) true Try.f7.params.toList args.toList ds p := hA0
  rw [Try.params7] at hA hval
  obtain ⟨v0, vs0, d0, ds0, p0, q0, hargs, rfl, rfl, h0, r0⟩ := trodAll_cons hA
  obtain ⟨rfl, rfl, rfl⟩ := trodAll_nil r0
  obtain rfl : args = #[v0] := by cases args; simp_all
  obtain ⟨rfl, rfl⟩ := trodVars_none hV
  obtain ⟨x0, x1, x2, x3, x4, x5, x6, ex, wtx⟩ := open_entry (hval 0 35 v0 rfl rfl) h0
  subst ex
  refine Calls.mono (R := fun e W' => e = .returned (.bool true) ∧ Below W.heap.size W W') ?_ fun e W' ⟨he, hb⟩ => ?_
  · by_cases hf : entryFault x0 x1 x2 x3 x4 x5 x6.size = 0
    · obtain ⟨f1, f2, f3, f4, f5, f6, f7, f8, f9, f10, f11⟩ := fault_kind hf
      obtain ⟨n0, rfl⟩ := Int.eq_ofNat_of_zero_le f3
      obtain ⟨n1, rfl⟩ := Int.eq_ofNat_of_zero_le f5
      obtain ⟨n2, rfl⟩ := Int.eq_ofNat_of_zero_le f7
      obtain ⟨n3, rfl⟩ := Int.eq_ofNat_of_zero_le f9
      obtain ⟨n4, rfl⟩ := Int.eq_ofNat_of_zero_le (show 0 ≤ x4 by omega)
      exact walk_ok n0 n1 n2 n3 n4 x5 x6 W hf
    · exact walk_bad x0 x1 x2 x3 x4 x5 x6 W hf
  · subst he
    exact ⟨_, rfl, law_post laid_ rfl rfl (by rfl) Try.underlying4 (by rw [Try.params7]; exact rec_ok (by kernel_rfl)) hW' hb⟩

set_option maxRecDepth 100000 in
theorem lifted (os : Os) (started : os.Started) (H : Type) (enc : TypeId × Value → H) :
    ReturnsInHanded {} Try.checked os 7 .any (Rows.wireEncodesSpec.pre6 enc Try.prog Try.f7 Rows.wireEncodesRow.domain false) (Rows.wireEncodesSpec.post enc Try.prog Try.f7 false true false false) := by
  refine returnsInHanded_of_change (C := Try.checked) own_ started (by kernel_rfl) Try.func7
    (ChangeSpec.witness6 (enc := enc) (C := Try.checked) false ⟨#[], #[.agg #[.int .i64 0, .int .i64 0, .int .i64 0, .int .i64 0, .int .i64 0, .bool false, .string .empty]], []⟩ 8 (by kernel_rfl) (by kernel_rfl) (by kernel_rfl) (by kernel_rfl)) ?_
  intro W base args ds gs before hval hW _ _
  exact contract H enc W base args ds gs before hval hW

theorem closed : joinedFacts Try.prog 7 Try.f7 Rows.wireEncodesSpec Rows.wireEncodesRow = true := by
  unfold joinedFacts
  rw [mayEnter_, lifts_, make_]
  kernel_rfl

theorem proved : Rows.WireEncodesSaid :=
  OpenClaim.holds_of_wide 7 Try.f7 rfl rfl rfl rfl rfl rfl rfl ⟨rfl, rfl, rfl, rfl, rfl⟩ rfl rfl rfl rfl rfl (by kernel_rfl) Try.func7 closed
    (of_decide_eq_true (by kernel_rfl)) (by unfold Func.isWrapper; first | (rw [if_pos (by decide +kernel)]; kernel_rfl) | (rw [if_neg (by decide +kernel)]; exact ⟨rfl, rfl⟩))
    (fun os started H enc _ => lifted os started H enc)

end Go.Proofs.Ytdddfbdjieomjaa.lawWireEncodes
