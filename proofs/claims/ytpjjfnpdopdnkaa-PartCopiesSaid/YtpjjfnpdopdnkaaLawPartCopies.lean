/- PartCopiesSaid is proved: part.Copy answers a part that is the same, for every part. No condition. -/
import Derived.Test.YtpjjfnpdopdnkaaLawKit
import Derived.Test.YtpjjfnpdopdnkaaOpenPart
import Derived.Test.YtpjjfnpdopdnkaaPartS
import Derived.Test.YtpjjfnpdopdnkaaPartC
import Derived.Deep.CondSized
namespace Go.Proofs.Ytpjjfnpdopdnkaa.lawPartCopies
open Go.ChangeShapes Go.WideShapes Go.ChangeAt Go.RowKit Go.Joins Go.Deep
open Go.ChangeMaps (open_string shut_string)

set_option maxRecDepth 100000 in
set_option maxHeartbeats 1000000 in
theorem walk (v : Value) (c : PartD) (w : World) (h : Pv w v c) (h1 : c.isr.length ≤ 140737488355328) (h2 : c.known.length * 8 ≤ 140737488355328) (h3 : c.reps.length * 48 ≤ 140737488355328) (h4 : ∀ t ∈ c.reps, t.bytes.length ≤ 140737488355328) :
    Calls Try.prog 4 #[v] w fun e w' => e = .returned (.bool true) ∧ Below w.heap.size w w' := by
  obtain ⟨xi, xk, xr, rfl, hi, hk, hr, l1, l2, l3⟩ := id h
  obtain ⟨Ai, ci, rfl, -⟩ := Sl.form hi
  obtain ⟨Ak, ck, rfl, -⟩ := Sl.form hk
  obtain ⟨Ar, cr, rfl, -⟩ := hr.at_
  clear hi hk hr
  unfold partV at *
  have hb0 := Blk.new w 26 #[.int .i64 c.epoch, .int .i64 c.leader, .slice Ai c.isr.length ci, .slice Ak c.known.length ck, .slice Ar c.reps.length cr, .int .i64 c.few, .int .i64 c.base]
  have hbl0 : Below w.heap.size w (w.alloc (.cells #[.int .i64 c.epoch, .int .i64 c.leader, .slice Ai c.isr.length ci, .slice Ak c.known.length ck, .slice Ar c.reps.length cr, .int .i64 c.few, .int .i64 c.base] 26)) := (Below.refl _ _).alloc (Nat.le_refl _) _
  have h4' : ∀ t ∈ c.reps, t.bytes.length ≤ 9223372036854775807 := fun t ht => by have := h4 t ht; omega
  have H := Lib.hid h
  have HC := Lib.hid (partCopy_any _ c _ (h.below hbl0) h1 h2 h3 h4)
  clear h
  go_enter Try.func4, Try.ntmps4
  go_wp2_with fail
  refine HC.out.mono ?_
  rintro e w1 ⟨iv, kv, rv, rows, rfl, hown, hb1⟩
  have hpv := hown.pv l1 l2 l3 h4'
  obtain ⟨Bi, di, rfl, -⟩ := (Sl.of_own hown.isr).form
  obtain ⟨Bk, dk, rfl, -⟩ := (Sl.of_own hown.known).form
  obtain ⟨Br, dr, rfl, -⟩ := (Sl.of_own hown.reps.own).form
  unfold partV at *
  have hbl1 := hbl0.trans (hb1.mono hbl0.size)
  have b1 := hb0.below hb1 hb0.lt
  have hz : Below w1.heap.size w1 (w1.alloc (.cells #[.int .i64 c.epoch, .int .i64 c.leader, .slice Bi c.isr.length di, .slice Bk c.known.length dk, .slice Br c.reps.length dr, .int .i64 c.few, .int .i64 c.base] 26)) := (Below.refl _ _).alloc (Nat.le_refl _) _
  have hpz := hpv.below hz
  have hqz := H.out.below (below_then hbl1 hz)
  have HS := Lib.hid (samePart_same _ _ c _ hpz hqz)
  clear hown hpv hb1 hb0 hbl0 hpz hqz
  have q0 := b1.cell 0
  have q1 := b1.cell 1
  have q2 := b1.cell 2
  have q3 := b1.cell 3
  have q4 := b1.cell 4
  have q5 := b1.cell 5
  have q6 := b1.cell 6
  have ql := b1.lt
  go_wp2_with fail
  refine HS.out.mono ?_
  rintro e w2 ⟨rfl, hb2⟩
  go_wp2
  go_ret
  exact ⟨rfl, below_then (below_then hbl1 hz) hb2⟩


set_option maxRecDepth 100000 in
theorem contract (H : Type) (enc : TypeId × Value → H) (W : World) (base : Nat) (args : Array Value) (ds gs : List (DataW H)) (before : List MemPlace)
    (hval : ∀ (j : Nat) t v, Try.f4.params[j]? = some t → args[j]? = some v → Value.okWide Try.prog W .any base t v)
    (hW : DataW.Whole enc Try.prog Try.f4.params.toList Rows.partCopiesSpec.vars false W args.toList ds gs before) (hsz : (DataW.weightsEach Try.prog (Try.f4.params.toList ++ Rows.partCopiesSpec.plain.varTypes Try.prog) (ds ++ gs)).all (· ≤ reachBytes) = true) :
    Calls Try.prog 4 args W fun e W' => ∃ v, e = .returned v ∧ Rows.partCopiesSpec.post enc Try.prog Try.f4 false true false false W args v W' := by
  have hW' := hW
  obtain ⟨p, q, hA0, hV, rfl, hfz, hnd⟩ := hW
  have hA : DataW.TrodAll enc Try.prog W 0 (fun _ => true) true Try.f4.params.toList args.toList ds p := hA0
  rw [Try.params4] at hA hval
  obtain ⟨v0, vs0, d0, ds0, p0, q0, hargs, rfl, rfl, h0, r0⟩ := trodAll_cons hA
  obtain ⟨rfl, rfl, rfl⟩ := trodAll_nil r0
  obtain rfl : args = #[v0] := by cases args; simp_all
  obtain ⟨rfl, rfl⟩ := trodVars_none hV
  obtain ⟨x, ptx, wfx, smx⟩ := open_part (hval 0 26 v0 rfl rfl) h0
  refine Calls.mono (R := fun e W' => e = .returned (.bool true) ∧ Below W.heap.size W W') ?_ fun e W' ⟨he, hb⟩ => ?_
  · have hs := smx (fits_arg hsz (j := 0) (t := 26) (by rw [Try.params4]; rfl) rfl)
    obtain ⟨s1, s2, s3, s4⟩ := hs
    simp only [reachBytes] at s1 s2 s3 s4
    exact walk v0 x W ptx (by omega) (by omega) (by omega) (fun t ht => by have := s4 t ht; omega)
  · subst he
    exact ⟨_, rfl, law_post laid_ rfl rfl (by rfl) Try.underlying4 (by rw [Try.params4]; exact rec_ok (by kernel_rfl)) hW' hb⟩

set_option maxRecDepth 100000 in
theorem lifted (os : Os) (started : os.Started) (H : Type) (enc : TypeId × Value → H) :
    ReturnsInHanded {} Try.checked os 4 .any (Rows.partCopiesSpec.pre6 enc Try.prog Try.f4 Rows.partCopiesRow.domain false) (Rows.partCopiesSpec.post enc Try.prog Try.f4 false true false false) := by
  refine returnsInHanded_of_change_sized (C := Try.checked) own_ started (by kernel_rfl) Try.func4
    (ChangeSpec.witness6 (enc := enc) (C := Try.checked) false ⟨#[], #[.agg #[.int .i64 0, .int .i64 0, .slice none 0 0, .slice none 0 0, .slice none 0 0, .int .i64 0, .int .i64 0]], []⟩ 8 (by kernel_rfl) (by kernel_rfl) (by kernel_rfl) (by kernel_rfl)) ?_
  intro W base args ds gs before hval hW _ hsz _
  exact contract H enc W base args ds gs before hval hW hsz

theorem closed : joinedFacts Try.prog 4 Try.f4 Rows.partCopiesSpec Rows.partCopiesRow = true := by
  unfold joinedFacts
  rw [mayEnter_, lifts_, make_]
  kernel_rfl

theorem proved : Rows.PartCopiesSaid :=
  OpenClaim.holds_of_wide 4 Try.f4 rfl rfl rfl rfl rfl rfl rfl ⟨rfl, rfl, rfl, rfl, rfl⟩ rfl rfl rfl rfl rfl (by kernel_rfl) Try.func4 closed
    (of_decide_eq_true (by kernel_rfl)) (by unfold Func.isWrapper; first | (rw [if_pos (by decide +kernel)]; kernel_rfl) | (rw [if_neg (by decide +kernel)]; exact ⟨rfl, rfl⟩))
    (fun os started H enc _ => lifted os started H enc)

end Go.Proofs.Ytpjjfnpdopdnkaa.lawPartCopies
