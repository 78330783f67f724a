/- ViewReadsSaid is proved: view.Read answers what tailraceref.ReadOf answers, for every list of plain entries, every height, place and number. No condition. -/
import Derived.Test.YthefakbhaaponaaLawKit
import Derived.Test.YthefakbhaaponaaOpenEnts
import Derived.Test.YthefakbhaaponaaViewK
import Derived.Test.YthefakbhaaponaaViewF
import Derived.Deep.CondSized
namespace Go.Proofs.Ythefakbhaaponaa.lawViewReads
open Go.ChangeShapes Go.WideShapes Go.ChangeAt Go.RowKit Go.Joins Go.Deep
open Go.ChangeMaps (open_string shut_string)

theorem stab_ex {es : List Ent} (hp : PlainE es) {n : Nat} (hn : n ≤ es.length) : ∃ r, StabIs es n r := by
  by_cases hx : ∃ k : Nat, k < n ∧ OpenAt es n k
  · obtain ⟨k, hk⟩ := hx
    induction k using Nat.strongRecOn with
    | ind k ih =>
      by_cases hj : ∃ j : Nat, j < k ∧ OpenAt es n j
      · obtain ⟨j, j1, j2⟩ := hj
        exact ih j j1 ⟨by omega, j2⟩
      · exact ⟨k, stab_at hp hn hk.1 hk.2 (fun i h1 h2 => hj ⟨i, h1, h2⟩)⟩
  · exact ⟨n, stab_none hp hn (fun i h1 h2 => hx ⟨i, h1, h2⟩)⟩
set_option maxRecDepth 100000 in
set_option maxHeartbeats 4000000 in
theorem walk (v : Value) (es : List Ent) (hi frm most : Int) (w : World) (h : Es w v es) (hm : es.length * 64 ≤ 140737488355328) :
    Calls Try.prog 5 #[v, .int .i64 hi, .int .i64 frm, .int .i64 most] w fun e w' => e = .returned (.bool true) ∧ Below w.heap.size w w' := by
  obtain ⟨A, c, rfl, hc, -⟩ := h.at_
  have H := Lib.hid h
  clear h
  go_enter Try.func5, Try.ntmps5
  go_wp2_with fail
  refine (plain_any _ es _ H.out (by omega)).mono ?_
  rintro e w0 ⟨b, rfl, hb, rfl⟩
  rcases b with _ | _
  · go_wp2
    go_ret
    exact ⟨rfl, Below.refl _ _⟩
  have HP := Lib.hid (hb.1 rfl)
  clear hb
  go_wp2_with fail
  refine (entries_any _ es _ H.out hm).mono ?_
  rintro e W1 ⟨v1, rfl, ho1, hb1⟩
  obtain ⟨A1, c1, rfl, hc1⟩ := (Sl.of_own ho1).form
  have HE := Lib.hid (show Es W1 _ es from Sl.of_own ho1)
  have HB1 := Lib.hid hb1
  clear ho1 hb1
  by_cases hr : hi < 0 ∨ (es.length : Int) < hi
  · have HR := Lib.hid hr
    clear hr
    go_wp2_with fail
    refine (read_high _ es hi frm most _ HE.out HR.out (by omega)).mono ?_
    rintro e W2 ⟨rfl, hb⟩
    have HB2 := Lib.hid (below_then HB1.out hb)
    clear hb
    go_wp2_with fail
    refine (readOf_high _ es hi frm most _ (H.out.below HB2.out) HR.out (by omega)).mono ?_
    rintro e W3 ⟨rfl, hb⟩
    have HB3 := Lib.hid (below_then HB2.out hb)
    clear hb
    go_wp2_with fail
    refine (sameTexts_same _ _ [] _ (Sl.nil_ _ _) (Sl.nil_ _ _) (by simp)).mono ?_
    rintro e W4 ⟨rfl, hb⟩
    have HB4 := Lib.hid (below_then HB3.out hb)
    clear hb
    go_wp2
    go_ret
    exact ⟨rfl, HB4.out⟩
  obtain ⟨n, hn⟩ : ∃ n : Nat, hi = n := ⟨hi.toNat, by omega⟩
  subst hn
  have hle : n ≤ es.length := by omega
  clear hr
  by_cases hr : frm < 0 ∨ (es.length : Int) < frm ∨ most < 1 ∨ 20 < most
  · have HR := Lib.hid hr
    clear hr
    go_wp2_with fail
    refine (read_range _ es n frm most _ HE.out n rfl hle HP.out HR.out (by omega)).mono ?_
    rintro e W2 ⟨rfl, hb⟩
    have HB2 := Lib.hid (below_then HB1.out hb)
    clear hb
    go_wp2_with fail
    refine (readOf_range _ es n frm most _ (H.out.below HB2.out) n rfl hle HP.out HR.out (by omega)).mono ?_
    rintro e W3 ⟨rfl, hb⟩
    have HB3 := Lib.hid (below_then HB2.out hb)
    clear hb
    go_wp2_with fail
    refine (sameTexts_same _ _ [] _ (Sl.nil_ _ _) (Sl.nil_ _ _) (by simp)).mono ?_
    rintro e W4 ⟨rfl, hb⟩
    have HB4 := Lib.hid (below_then HB3.out hb)
    clear hb
    go_wp2
    go_ret
    exact ⟨rfl, HB4.out⟩
  obtain ⟨f, hf⟩ : ∃ f : Nat, frm = f := ⟨frm.toNat, by omega⟩
  subst hf
  have hfl : f ≤ es.length := by omega
  have hm1 : 1 ≤ most := by omega
  have hm2 : most ≤ 20 := by omega
  obtain ⟨r, hst⟩ := stab_ex HP.out hle
  have HST := Lib.hid hst
  clear hr hst
  go_wp2_with fail
  refine (read_ok _ es n f most _ HE.out n rfl hle HP.out f rfl hfl hm1 hm2 HST.out (by omega)).mono ?_
  rintro e W2 ⟨v1, k1, a1, ha1, rfl, ho1, hs1, hb⟩
  obtain ⟨B1, d1, rfl, hd1⟩ := (Sl.of_own ho1).form
  have HB2 := Lib.hid (below_then HB1.out hb)
  have HO1 := Lib.hid (Sl.of_own ho1)
  have HS1 := Lib.hid hs1
  have HA1 := Lib.hid ha1
  clear hb ho1 hs1 ha1
  go_wp2_with fail
  refine (readOf_ok _ es n f most _ (H.out.below HB2.out) n rfl hle HP.out f rfl hfl hm1 hm2 HST.out (by omega)).mono ?_
  rintro e W3 ⟨v2, k2, a2, ha2, rfl, ho2, hs2, hb⟩
  obtain rfl := hs2.unique HS1.out
  obtain rfl : a2 = a1 := ha2.trans HA1.out.symm
  obtain ⟨B2, d2, rfl, hd2⟩ := (Sl.of_own ho2).form
  have HB3 := Lib.hid (below_then HB2.out hb)
  have HO1' := Lib.hid (Sl.below HO1.out hb)
  have HO2 := Lib.hid (Sl.of_own ho2)
  have zl : (textsTo es n f k2).length ≤ 9223372036854775806 := by
    have := textsTo_len (es := es) (h := n) (frm := f) k2
    have h3 := HS1.out.1
    by_cases hk : k2 = 0
    · rw [hk] at this ⊢; omega
    · have h4 := (h3 (k2 - 1) (by omega)).1
      have h5 := HST.out.1
      omega
  have za : ((a2 : Int) == (a2 : Int)) = true := beq_self_eq_true _
  clear hb ho2 hs2 ha2
  go_wp2_with fail
  refine (sameTexts_same _ _ (textsTo es n f k2) _ HO1'.out HO2.out zl).mono ?_
  rintro e W4 ⟨rfl, hb⟩
  have HB4 := Lib.hid (below_then HB3.out hb)
  clear hb
  go_wp2
  go_ret
  exact ⟨rfl, HB4.out⟩

set_option maxRecDepth 100000 in
theorem contract (H : Type) (enc : TypeId × Value → H) (W : World) (base : Nat) (args : Array Value) (ds gs : List (DataW H)) (before : List MemPlace)
    (hval : ∀ (j : Nat) t v, Try.f5.params[j]? = some t → args[j]? = some v → Value.okWide Try.prog W .any base t v)
    (hW : DataW.Whole enc Try.prog Try.f5.params.toList Rows.viewReadsSpec.vars false W args.toList ds gs before) (hsz : (DataW.weightsEach Try.prog (Try.f5.params.toList ++ Rows.viewReadsSpec.plain.varTypes Try.prog) (ds ++ gs)).all (· ≤ reachBytes) = true) :
    Calls Try.prog 5 args W fun e W' => ∃ v, e = .returned v ∧ Rows.viewReadsSpec.post enc Try.prog Try.f5 false true false false W args v W' := by
  have hW' := hW
  obtain ⟨p, q, hA0, hV, rfl, hfz, hnd⟩ := hW
  have hA : DataW.TrodAll enc Try.prog W 0 (fun _ => true) true Try.f5.params.toList args.toList ds p := hA0
  rw [Try.params5] at hA hval
  obtain ⟨v0, vs0, d0, ds0, p0, q0, hargs, rfl, rfl, h0, r0⟩ := trodAll_cons hA
  obtain ⟨v1, vs1, d1, ds1, p1, q1, rfl, rfl, rfl, h1, r1⟩ := trodAll_cons r0
  obtain ⟨v2, vs2, d2, ds2, p2, q2, rfl, rfl, rfl, h2, r2⟩ := trodAll_cons r1
  obtain ⟨v3, vs3, d3, ds3, p3, q3, rfl, rfl, rfl, h3, r3⟩ := trodAll_cons r2
  obtain ⟨rfl, rfl, rfl⟩ := trodAll_nil r3
  obtain rfl : args = #[v0, v1, v2, v3] := by cases args; simp_all
  obtain ⟨rfl, rfl⟩ := trodVars_none hV
  obtain ⟨x, enx, -, smx⟩ := open_entries (hval 0 22 v0 rfl rfl) h0
  obtain ⟨n0, en0, -, -, wn0⟩ := open_int Try.underlying3 (hval 1 3 v1 rfl rfl) h1
  subst en0
  obtain ⟨n1, en1, -, -, wn1⟩ := open_int Try.underlying3 (hval 2 3 v2 rfl rfl) h2
  subst en1
  obtain ⟨n2, en2, -, -, wn2⟩ := open_int Try.underlying3 (hval 3 3 v3 rfl rfl) h3
  subst en2
  refine Calls.mono (R := fun e W' => e = .returned (.bool true) ∧ Below W.heap.size W W') ?_ fun e W' ⟨he, hb⟩ => ?_
  · have hs := smx (fits_arg hsz (j := 0) (t := 22) (by rw [Try.params5]; rfl) rfl)
    simp only [reachBytes] at hs
    exact walk v0 x n0 n1 n2 W enx (by omega)
  · subst he
    exact ⟨_, rfl, law_post laid_ rfl rfl (by rfl) Try.underlying4 (by rw [Try.params5]; exact rec_ok (by kernel_rfl)) hW' hb⟩

set_option maxRecDepth 100000 in
theorem lifted (os : Os) (started : os.Started) (H : Type) (enc : TypeId × Value → H) :
    ReturnsInHanded {} Try.checked os 5 .any (Rows.viewReadsSpec.pre6 enc Try.prog Try.f5 Rows.viewReadsRow.domain false) (Rows.viewReadsSpec.post enc Try.prog Try.f5 false true false false) := by
  refine returnsInHanded_of_change_sized (C := Try.checked) own_ started (by kernel_rfl) Try.func5
    (ChangeSpec.witness6 (enc := enc) (C := Try.checked) false ⟨#[], #[.slice none 0 0, .int .i64 0, .int .i64 0, .int .i64 0], []⟩ 8 (by kernel_rfl) (by kernel_rfl) (by kernel_rfl) (by kernel_rfl)) ?_
  intro W base args ds gs before hval hW _ hsz _
  exact contract H enc W base args ds gs before hval hW hsz

theorem closed : joinedFacts Try.prog 5 Try.f5 Rows.viewReadsSpec Rows.viewReadsRow = true := by
  unfold joinedFacts
  rw [mayEnter_, lifts_, make_]
  kernel_rfl

theorem proved : Rows.ViewReadsSaid :=
  OpenClaim.holds_of_wide 5 Try.f5 rfl rfl rfl rfl rfl rfl rfl ⟨rfl, rfl, rfl, rfl, rfl⟩ rfl rfl rfl rfl rfl (by kernel_rfl) Try.func5 closed
    (of_decide_eq_true (by kernel_rfl)) (by unfold Func.isWrapper; first | (rw [if_pos (by decide +kernel)]; kernel_rfl) | (rw [if_neg (by decide +kernel)]; exact ⟨rfl, rfl⟩))
    (fun os started H enc _ => lifted os started H enc)

end Go.Proofs.Ythefakbhaaponaa.lawViewReads
