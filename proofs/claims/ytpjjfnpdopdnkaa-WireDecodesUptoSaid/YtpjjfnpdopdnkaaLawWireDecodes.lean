/- WireDecodesUptoSaid is proved: wire.Decode answers what tailraceref.EntriesIn answers, for every slice of bytes; the one condition is the statement's own: the bulk of the argument is at most 1048576. -/
import Derived.Test.YtpjjfnpdopdnkaaLawKit
import Derived.Test.YtpjjfnpdopdnkaaOpenLog
import Derived.Test.YtpjjfnpdopdnkaaSameE
import Derived.Test.YtpjjfnpdopdnkaaDecA
import Derived.Test.YtpjjfnpdopdnkaaDecB
import Derived.Test.YtpjjfnpdopdnkaaSegF
import Derived.JoinedCond
namespace Go.Proofs.Ytpjjfnpdopdnkaa.lawWireDecodes
open Go.ChangeShapes Go.WideShapes Go.ChangeAt Go.RowKit Go.Joins Go.Deep
open Go.ChangeMaps (open_string shut_string)

theorem bulk_length {H : Type} (l : List (DataW H)) : l.length ≤ Rows.uptoBulkAll l := by
  induction l with
  | nil => simp [Rows.uptoBulkAll]
  | cons d r ih =>
    have h1 : 1 ≤ Rows.uptoBulk d := by
      cases d with
      | lit a => cases a <;> simp [Rows.uptoBulk]
      | _ => simp [Rows.uptoBulk]
    simp only [Rows.uptoBulkAll, List.length_cons]
    omega

set_option maxRecDepth 100000 in
theorem short_of {H : Type} {enc : TypeId × Value → H} {w : World} {base : Nat} {spare : Nat → Bool} {held : Bool} {v : Value} {d : DataW H} {p : List MemPlace} {l : List UInt8} (h : DataW.Trod enc Try.prog w base spare held 34 v d p) (hl : By w v l) (hk : Rows.uptoSmall H ([d] ++ []) = true) : l.length ≤ 1048576 := by
  obtain ⟨-, A', c', hv', -, -⟩ := hl
  subst hv'
  obtain ⟨fuel, hf⟩ := h
  obtain ⟨cs, ds, sp, ⟨-, A, c, hv, -, -⟩, -, hd, hx, -⟩ := open_sl (k := 1) Try.underlying34 (by kernel_rfl) (by decide) hf
  have hn : cs.length = l.length := by injection hv with _ h2 _; exact h2.symm
  have hb : Rows.uptoBulkAll ([d] ++ []) ≤ 1048576 := of_decide_eq_true hk
  rcases hx with hx | ⟨-, rfl⟩
  · simp only at hx
    rw [hx] at hb
    have := bulk_length ds
    simp only [List.append_nil, Rows.uptoBulkAll, Rows.uptoBulk] at hb
    omega
  · simp at hn; omega

set_option maxRecDepth 100000 in
set_option maxHeartbeats 1000000 in
theorem walk (v : Value) (l : List UInt8) (w : World) (h : By w v l) (hl : l.length ≤ 1048576) :
    Calls Try.prog 5 #[v] w fun e w' => e = .returned (.bool true) ∧ Below w.heap.size w w' := by
  obtain ⟨A, c, rfl, hc, -⟩ := h.at_
  go_enter Try.func5, Try.ntmps5
  go_wp2_with fail
  refine (octets_any _ l w h (by omega)).mono ?_
  rintro e w1 ⟨v1, rfl, ho1, hb1⟩
  have hy1 : By w1 v1 l := Sl.of_own ho1
  obtain ⟨A1, c1, rfl, -, -⟩ := hy1.at_
  go_wp2_with fail
  refine (decode_any _ l w1 hy1 (by omega)).mono ?_
  rintro e w2 ⟨v2, rfl, ho2, hb2⟩
  have he2 : Es w2 v2 (dec l).1 := Sl.of_own ho2
  obtain ⟨A2, c2, rfl, -, -⟩ := he2.at_
  have hb02 := below_then hb1 hb2
  go_wp2_with fail
  refine (entriesIn_any _ l w2 (h.below hb02) (by omega)).mono ?_
  rintro e w3 ⟨v3, rfl, ho3, hb3⟩
  have he3 : Es w3 v3 (dec l).1 := Sl.of_own ho3
  have hle := dec_len l
  obtain ⟨A3, c3, rfl, -, -⟩ := he3.at_
  go_wp2_with fail
  refine (sameEntries_same _ _ (dec l).1 w3 (he2.below hb3) he3 (by omega)).mono ?_
  rintro e w4 ⟨rfl, hb4⟩
  go_wp2
  go_ret
  exact ⟨rfl, below_then (below_then hb02 hb3) hb4⟩

set_option maxRecDepth 100000 in
theorem contract (H : Type) (enc : TypeId × Value → H) (W : World) (base : Nat) (args : Array Value) (ds gs : List (DataW H)) (before : List MemPlace)
    (hval : ∀ (j : Nat) t v, Try.f5.params[j]? = some t → args[j]? = some v → Value.okWide Try.prog W .any base t v)
    (hW : DataW.Whole enc Try.prog Try.f5.params.toList Rows.wireDecodesSpec.vars false W args.toList ds gs before) (hk : Rows.uptoSmall H (ds ++ gs) = true) :
    Calls Try.prog 5 args W fun e W' => ∃ v, e = .returned v ∧ Rows.wireDecodesSpec.post enc Try.prog Try.f5 false true false false W args v W' := by
  have hW' := hW
  obtain ⟨p, q, hA0, hV, rfl, hfz, hnd⟩ := hW
  have hA : DataW.TrodAll enc Try.prog W 0 (fun _ => true) true Try.f5.params.toList args.toList ds p := hA0
  rw [Try.params5] at hA hval
  obtain ⟨v0, vs0, d0, ds0, p0, q0, hargs, rfl, rfl, h0, r0⟩ := trodAll_cons hA
  obtain ⟨rfl, rfl, rfl⟩ := trodAll_nil r0
  obtain rfl : args = #[v0] := by cases args; simp_all
  obtain ⟨rfl, rfl⟩ := trodVars_none hV
  obtain ⟨x, byx, -, -⟩ := open_bytes_ (hval 0 34 v0 rfl rfl) h0
  refine Calls.mono (R := fun e W' => e = .returned (.bool true) ∧ Below W.heap.size W W') ?_ fun e W' ⟨he, hb⟩ => ?_
  · exact walk v0 x W byx (short_of h0 byx hk)
  · subst he
    exact ⟨_, rfl, law_post laid_ rfl rfl (by rfl) Try.underlying4 (by rw [Try.params5]; exact rec_ok (by kernel_rfl)) hW' hb⟩

set_option maxRecDepth 100000 in
theorem lifted (os : Os) (started : os.Started) (H : Type) (enc : TypeId × Value → H) (F : Stop.Interp) :
    ReturnsInHanded {} Try.checked os 5 .any ((Rows.OpenSpec.upto Rows.wireDecodesSpec).pre6 enc Try.prog Try.f5 Rows.wireDecodesUptoRow.domain false) (((Rows.OpenSpec.upto Rows.wireDecodesSpec).at F).post enc Try.prog Try.f5 false true false false) := by
  refine returnsInHanded_of_cond (C := Try.checked) (s := Rows.OpenSpec.upto Rows.wireDecodesSpec) (k := Rows.uptoSmall) rfl own_ started (by kernel_rfl) Try.func5
    (OpenSpec.witness (enc := enc) (C := Try.checked) (s := Rows.OpenSpec.upto Rows.wireDecodesSpec) (k := Rows.uptoSmall) rfl false ⟨#[], #[.slice none 0 0], []⟩ 8 (by kernel_rfl) (by kernel_rfl) (by kernel_rfl)
      (x := ([.nil], [], [])) (by kernel_rfl) rfl (by kernel_rfl)) ?_
  intro W base args ds gs before hval hW _ hk _
  exact contract H enc W base args ds gs before hval hW hk

theorem closed : joinedFacts Try.prog 5 Try.f5 (Rows.OpenSpec.upto Rows.wireDecodesSpec).bare Rows.wireDecodesUptoRow = true := by
  unfold joinedFacts
  rw [mayEnter_, lifts_, make_]
  kernel_rfl

theorem proved : Rows.WireDecodesUptoSaid :=
  OpenClaim.holds_of_cond 5 Try.f5 rfl rfl rfl rfl rfl rfl rfl ⟨rfl, rfl, rfl, rfl, rfl⟩ rfl rfl rfl rfl rfl (by kernel_rfl) Try.func5 closed
    (of_decide_eq_true (by kernel_rfl)) (by unfold Func.isWrapper; first | (rw [if_pos (by decide +kernel)]; kernel_rfl) | (rw [if_neg (by decide +kernel)]; exact ⟨rfl, rfl⟩))
    (fun os started H enc _ F => lifted os started H enc F)

end Go.Proofs.Ytpjjfnpdopdnkaa.lawWireDecodes
