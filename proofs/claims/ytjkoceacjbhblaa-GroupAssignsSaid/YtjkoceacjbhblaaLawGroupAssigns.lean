/- GroupAssignsSaid is proved: group.Assign of names within the machine's reach gives each name the parts that tailraceref.AssignedOf gives it, for any number of names. -/
import Derived.Test.YtjkoceacjbhblaaLawKit
import Derived.Deep.CondSized
import Derived.Test.YtjkoceacjbhblaaOpenStr
import Derived.Test.YtjkoceacjbhblaaSrtM
namespace Go.Proofs.Ytjkoceacjbhblaa.lawGroupAssigns
open Go.ChangeShapes Go.WideShapes Go.ChangeAt Go.RowKit Go.Joins Go.Deep
open Go.ChangeMaps (open_string shut_string)

theorem str_info : (Try.prog.info? 9).map (fun i => (i.zero, i.size, i.bytes)) = some (some (.string .empty), 1, 16) := by kernel_rfl
theorem strings_one (l : List ByteArray) : ∀ x ∈ l.map Value.string, x.oneCell' = true := by
  intro x hx
  obtain ⟨s, -, rfl⟩ := List.mem_map.1 hx
  rfl

set_option maxRecDepth 100000 in
set_option maxHeartbeats 4000000 in
theorem walk (v : Value) (N : List ByteArray) (pt : Int) (w : World) (h : Ss w v N) (hs : N.length * 16 ≤ reachBytes) :
    Calls Try.prog 17 #[v, .int .i64 pt] w fun e w' => e = .returned (.bool true) ∧ Below w.heap.size w w' := by
  have hr : reachBytes ≤ 140737488351232 := by decide
  obtain ⟨i0, hi0, hz0, hz1, hz2⟩ := info_parts str_info
  obtain ⟨n, hn⟩ : ∃ n, N.length = n := ⟨_, rfl⟩
  have hn43 : n < 8796093022208 := by omega
  obtain ⟨A, c, rfl, -⟩ := h.at_
  have hsl : Sl w 1 (.slice A N.length c) N.length (N.map Value.string) := h
  rw [hn] at h hsl ⊢
  obtain ⟨q, hq⟩ : ∃ q, q = pt.tmod 10 := ⟨_, rfl⟩
  have q1 : -1000 ≤ q ∧ q ≤ 1000 := by
    have h1 := Int.tmod_lt_of_pos pt (show (0 : Int) < 10 by decide)
    have h2 : -10 < pt.tmod 10 := by
      have := Int.tmod_lt_of_pos (-pt) (show (0 : Int) < 10 by decide)
      rw [Int.neg_tmod] at this
      omega
    omega
  have hq' : pt.tmod 10 = q := hq.symm
  have H := Lib.hid h
  have HN := Lib.hid hn
  have HSL := Lib.hid hsl
  clear h hs hr hn hq hsl
  go_enter Try.func17, Try.ntmps17
  go_wp2_with (at_builtin; go_must (refine wpList_append_sl _ rfl (.const (.slice none 0 0)) (.tmp 10) 63 rfl w.heap.size 9 i0 (.string .empty) 1 16 Try.underlying63 hi0 hz0 hz1 hz2 rfl (by decide) _ _ _ (by rfl) (World.ownsRow_nil _ _ _ _) _ n (N.map Value.string) (by rfl) HSL.out (strings_one N) (by simp only [maxLen]; omega) (by omega) (by simp) ?_; intro v1 w1 ho1 hg1 ha1; obtain ⟨A1, c1, rfl, -⟩ := (Sl.of_own ho1).form))
  clear hq'
  have hb1 : Below w.heap.size w w1 := (Below.refl w.heap.size w).grown hg1 (Nat.le_refl _) (by intro k hk; simp [Value.ownBlock] at hk)
  have hs1 : Ss w1 (.slice A1 n c1) N := by
    have := Sl.of_own ho1
    rw [Nat.zero_add, List.nil_append] at this
    have hn := HN.out
    subst hn
    exact this
  refine (assign_any N n A1 c1 q w1 hs1 HN.out hn43 q1).mono ?_
  rintro e W2 hA
  obtain ⟨v2, rfl, hv2, hb2⟩ := hA.open_
  have hb02 := below_then hb1 hb2
  clear hA ho1 hg1 ha1 hs1
  have HV2 := Lib.hid hv2
  have HB2 := Lib.hid hb02
  clear hv2 hb02 hb1 hb2
  go_wp2_with fail
  refine (assignedOf_any N n A c q W2 (H.out.below HB2.out) HN.out hn43 q1).mono ?_
  rintro e W3 hA
  obtain ⟨v3, rfl, hv3, hb3⟩ := hA.open_
  have HV3 := Lib.hid hv3
  have HB3 := Lib.hid (below_then HB2.out hb3)
  have HV2' := Lib.hid (HV2.out.below hb3)
  clear hA hv3 hb3 HV2
  go_wp2_with fail
  refine (sameLists_any _ _ n _ W3 HV2'.out HV3.out hn43 fun i _ => Nat.le_trans (pts_len _ _ _ _) (by omega)).mono ?_
  rintro e W4 ⟨rfl, hb4⟩
  have HB4 := Lib.hid (below_then HB3.out hb4)
  clear hb4
  go_wp2
  go_ret
  exact ⟨rfl, HB4.out⟩

set_option maxRecDepth 100000 in
theorem contract (H : Type) (enc : TypeId × Value → H) (W : World) (base : Nat) (args : Array Value) (ds gs : List (DataW H)) (before : List MemPlace)
    (hval : ∀ (j : Nat) t v, Try.f17.params[j]? = some t → args[j]? = some v → Value.okWide Try.prog W .any base t v)
    (hW : DataW.Whole enc Try.prog Try.f17.params.toList Rows.groupAssignsSpec.vars false W args.toList ds gs before) (hsz : (DataW.weightsEach Try.prog (Try.f17.params.toList ++ Rows.groupAssignsSpec.plain.varTypes Try.prog) (ds ++ gs)).all (· ≤ reachBytes) = true) :
    Calls Try.prog 17 args W fun e W' => ∃ v, e = .returned v ∧ Rows.groupAssignsSpec.post enc Try.prog Try.f17 false true false false W args v W' := by
  have hW' := hW
  obtain ⟨p, q, hA0, hV, rfl, hfz, hnd⟩ := hW
  have hA : DataW.TrodAll enc Try.prog W 0 (fun _ => true) true Try.f17.params.toList args.toList ds p := hA0
  rw [Try.params17] at hA hval
  obtain ⟨v0, vs0, d0, ds0, p0, q0, hargs, rfl, rfl, h0, r0⟩ := trodAll_cons hA
  obtain ⟨v1, vs1, d1, ds1, p1, q1, rfl, rfl, rfl, h1, r1⟩ := trodAll_cons r0
  obtain ⟨rfl, rfl, rfl⟩ := trodAll_nil r1
  obtain rfl : args = #[v0, v1] := by cases args; simp_all
  obtain ⟨rfl, rfl⟩ := trodVars_none hV
  obtain ⟨x, ssx, -, smx⟩ := open_texts_ (hval 0 63 v0 rfl rfl) h0
  obtain ⟨y, ey, -, -, wy⟩ := open_int Try.underlying3 (hval 1 3 v1 rfl rfl) h1
  subst ey
  refine Calls.mono (R := fun e W' => e = .returned (.bool true) ∧ Below W.heap.size W W') ?_ fun e W' ⟨he, hb⟩ => ?_
  · exact walk v0 x y W ssx (smx (fits_arg hsz (j := 0) (t := 63) (by rw [Try.params17]; rfl) rfl))
  · subst he
    exact ⟨_, rfl, law_post laid_ rfl rfl (by rfl) Try.underlying4 (by rw [Try.params17]; exact rec_ok (by kernel_rfl)) hW' hb⟩

set_option maxRecDepth 100000 in
theorem lifted (os : Os) (started : os.Started) (H : Type) (enc : TypeId × Value → H) :
    ReturnsInHanded {} Try.checked os 17 .any (Rows.groupAssignsSpec.pre6 enc Try.prog Try.f17 Rows.groupAssignsRow.domain false) (Rows.groupAssignsSpec.post enc Try.prog Try.f17 false true false false) := by
  refine returnsInHanded_of_change_sized (C := Try.checked) own_ started (by kernel_rfl) Try.func17
    (ChangeSpec.witness6 (enc := enc) (C := Try.checked) false ⟨#[], #[.slice none 0 0, .int .i64 0], []⟩ 8 (by kernel_rfl) (by kernel_rfl) (by kernel_rfl) (by kernel_rfl)) ?_
  intro W base args ds gs before hval hW _ hsz _
  exact contract H enc W base args ds gs before hval hW hsz

theorem closed : joinedFacts Try.prog 17 Try.f17 Rows.groupAssignsSpec Rows.groupAssignsRow = true := by
  unfold joinedFacts
  rw [mayEnter_, lifts_, make_]
  kernel_rfl

theorem proved : Rows.GroupAssignsSaid :=
  OpenClaim.holds_of_wide 17 Try.f17 rfl rfl rfl rfl rfl rfl rfl ⟨rfl, rfl, rfl, rfl, rfl⟩ rfl rfl rfl rfl rfl (by kernel_rfl) Try.func17 closed
    (of_decide_eq_true (by kernel_rfl)) (by unfold Func.isWrapper; first | (rw [if_pos (by decide +kernel)]; kernel_rfl) | (rw [if_neg (by decide +kernel)]; exact ⟨rfl, rfl⟩))
    (fun os started H enc _ => lifted os started H enc)

end Go.Proofs.Ytjkoceacjbhblaa.lawGroupAssigns
