/- WireChecksSaid is proved: wire.Check answers what tailraceref.EntryFault answers, for every entry. No condition. -/
import Derived.Test.YtdddfbdjieomjaaLawKit
import Derived.Test.YtdddfbdjieomjaaWire1
namespace Go.Proofs.Ytdddfbdjieomjaa.lawWireChecks
open Go.ChangeShapes Go.WideShapes Go.ChangeAt Go.RowKit Go.Joins Go.Deep

set_option maxHeartbeats 1000000 in
theorem walk (ep pid ver seq kind : Int) (txn : Bool) (text : ByteArray) (w : World) :
    Calls Try.prog 5 #[.agg #[.int .i64 ep, .int .i64 pid, .int .i64 ver, .int .i64 seq, .int .i64 kind, .bool txn, .string text]] w fun e w' => e = .returned (.bool true) ∧ Below w.heap.size w w' := by
  go_enter Try.func5, Try.ntmps5
  go_wp2_with fail
  refine (wireCheck_any ep pid ver seq kind txn text _).mono ?_
  rintro e w1 ⟨rfl, hb⟩
  simp only [World.size_alloc] at hb
  have c0 := hb.cell (p := ⟨w.heap.size, 0, none⟩) (by simp)
  have c1 := hb.cell (p := ⟨w.heap.size, 1, none⟩) (by simp)
  have c2 := hb.cell (p := ⟨w.heap.size, 2, none⟩) (by simp)
  have c3 := hb.cell (p := ⟨w.heap.size, 3, none⟩) (by simp)
  have c4 := hb.cell (p := ⟨w.heap.size, 4, none⟩) (by simp)
  have c5 := hb.cell (p := ⟨w.heap.size, 5, none⟩) (by simp)
  have c6 := hb.cell (p := ⟨w.heap.size, 6, none⟩) (by simp)
  go_wp2_with fail
  refine (EntryFault_any ep pid ver seq kind txn text _).mono ?_
  rintro e w2 ⟨rfl, hb2⟩
  go_wp2
  go_ret
  have hs := hb.size
  simp only [World.size_alloc] at hs
  exact ⟨ret_bool (by simp), (((Below.refl _ _).alloc (Nat.le_refl _) _).trans (hb.mono (by omega))).trans (hb2.mono (by omega))⟩

set_option maxRecDepth 100000 in
theorem contract (H : Type) (enc : TypeId × Value → H) (W : World) (base : Nat) (args : Array Value) (ds gs : List (DataW H)) (before : List MemPlace)
    (hval : ∀ (j : Nat) t v, Try.f5.params[j]? = some t → args[j]? = some v → Value.okWide Try.prog W .any base t v)
    (hW : DataW.Whole enc Try.prog Try.f5.params.toList Rows.wireChecksSpec.vars false W args.toList ds gs before) :
    Calls Try.prog 5 args W fun e W' => ∃ v, e = .returned v ∧ Rows.wireChecksSpec.post enc Try.prog Try.f5 false true false false W args v W' := by
  have hW' := hW
  obtain ⟨p, q, hA0, hV, rfl, hfz, hnd⟩ := hW
  have hA : DataW.TrodAll enc Try.prog W 0 (fun _ => true) true Try.f5.params.toList args.toList ds p := hA0
  rw [Try.params5] at hA hval
  obtain ⟨v0, vs0, d0, ds0, p0, q0, hargs, rfl, rfl, h0, r0⟩ := trodAll_cons hA
  obtain ⟨rfl, rfl, rfl⟩ := trodAll_nil r0
  obtain rfl : args = #[v0] := by cases args; simp_all
  obtain ⟨rfl, rfl⟩ := trodVars_none hV
  obtain ⟨u0, u1, u2, u3, u4, u5, u6, y0, y1, y2, y3, y4, y5, y6, n, rfl, -, -, g0, g1, g2, g3, g4, g5, g6⟩ := open_agg7 Try.underlying35 (by kernel_rfl) (by kernel_rfl) (hval 0 35 v0 rfl rfl) h0
  obtain ⟨e0, z0, j0, w0⟩ := DataW.trod_int Try.underlying3 g0
  obtain ⟨e1, z1, j1, w1⟩ := DataW.trod_int Try.underlying3 g1
  obtain ⟨e2, z2, j2, w2⟩ := DataW.trod_int Try.underlying3 g2
  obtain ⟨e3, z3, j3, w3⟩ := DataW.trod_int Try.underlying3 g3
  obtain ⟨e4, z4, j4, w4⟩ := DataW.trod_int Try.underlying3 g4
  obtain ⟨e5, z5, j5⟩ := DataW.trod_bool Try.underlying4 g5
  obtain ⟨e6, z6, j6, w6⟩ := DataW.trod_string Try.underlying9 g6
  simp only [List.cons.injEq, and_true] at z0 z1 z2 z3 z4 z5 z6
  subst z0 z1 z2 z3 z4 z5 z6
  refine (walk e0 e1 e2 e3 e4 e5 e6 W).mono fun e W' ⟨he, hb⟩ => ?_
  subst he
  exact ⟨_, rfl, law_post laid_ rfl rfl (by rfl) Try.underlying4 (by rw [Try.params5]; intro t ht; simp at ht; subst ht; exact ⟨by kernel_rfl, of_decide_eq_true (by kernel_rfl)⟩) hW' hb⟩

set_option maxRecDepth 100000 in
theorem lifted (os : Os) (started : os.Started) (H : Type) (enc : TypeId × Value → H) :
    ReturnsInHanded {} Try.checked os 5 .any (Rows.wireChecksSpec.pre6 enc Try.prog Try.f5 Rows.wireChecksRow.domain false) (Rows.wireChecksSpec.post enc Try.prog Try.f5 false true false false) := by
  refine returnsInHanded_of_change (C := Try.checked) own_ started (by kernel_rfl) Try.func5
    (ChangeSpec.witness6 (enc := enc) (C := Try.checked) false ⟨#[], #[.agg #[.int .i64 0, .int .i64 0, .int .i64 0, .int .i64 0, .int .i64 0, .bool false, .string .empty]], []⟩ 8 (by kernel_rfl) (by kernel_rfl) (by kernel_rfl) (by kernel_rfl)) ?_
  intro W base args ds gs before hval hW _ _
  exact contract H enc W base args ds gs before hval hW

theorem closed : joinedFacts Try.prog 5 Try.f5 Rows.wireChecksSpec Rows.wireChecksRow = true := by
  unfold joinedFacts
  rw [mayEnter_, lifts_, make_]
  kernel_rfl

theorem proved : Rows.WireChecksSaid :=
  OpenClaim.holds_of_wide 5 Try.f5 rfl rfl rfl rfl rfl rfl rfl ⟨rfl, rfl, rfl, rfl, rfl⟩ rfl rfl rfl rfl rfl (by kernel_rfl) Try.func5 closed
    (of_decide_eq_true (by kernel_rfl)) (by unfold Func.isWrapper; first | (rw [if_pos (by decide +kernel)]; kernel_rfl) | (rw [if_neg (by decide +kernel)]; exact ⟨rfl, rfl⟩))
    (fun os started H enc _ => lifted os started H enc)

end Go.Proofs.Ytdddfbdjieomjaa.lawWireChecks
