/- NamesSaid is proved: the numbers, kinds and limits of package api are those of the document. No argument, no condition. -/
import Derived.Test.YtjkoceacjbhblaaLawKit
import Derived.Test.YtjkoceacjbhblaaMem
namespace Go.Proofs.Ytjkoceacjbhblaa.lawNames
open Go.ChangeShapes Go.WideShapes Go.ChangeAt Go.RowKit Go.Joins Go.Deep
open Go.ChangeMaps (open_string shut_string)

theorem intinfo : (Try.prog.info? 3).map (fun i => (i.zero, i.size, i.bytes)) = some (some (.int .i64 0), 1, 8) := by kernel_rfl
def iv (l : List Int) : List Value := l.map (Value.int .i64)
def l23 : List Int := [40, 1073741824, 400, 40000, 5, 4, 8, 6, 8, 1000, 1000, 20, 400, 1, 2, 3, 1, 2, 3, 4, 0, 1, 2]
def ups : Nat → List Int
  | 0 => []
  | k + 1 => ups k ++ [(k : Int) + 1]
theorem ups_len : ∀ k, (ups k).length = k
  | 0 => rfl
  | k + 1 => by simp [ups, ups_len k]
def sameI (xs : List Int) (w : World) (v : Value) : Prop := Sl w 1 v xs.length (iv xs)
theorem sameI.at_ {xs : List Int} {w : World} {v : Value} (h : sameI xs w v) : ∃ A c, v = .slice A xs.length c ∧ xs.length ≤ c ∧ (0 < xs.length → ∃ b off, A = some ⟨b, off, none⟩ ∧ ∀ i (hi : i < xs.length), w.cell? ⟨b, off + i, none⟩ = some (.int .i64 xs[i])) := by
  obtain ⟨_, A, c, hv, hc, h2⟩ := h
  refine ⟨A, c, hv, hc, fun hn => ?_⟩
  obtain ⟨b, off, hA, hb, hcell⟩ := h2 hn
  exact ⟨b, off, hA, fun i hi => hcell i _ (by simp [iv, List.getElem?_eq_getElem hi])⟩
theorem Sl.ownstep {w w' : World} {size n : Nat} {v u u' : Value} {xs : List Value} (h : Sl w size v n xs) (hst : OwnStep w w' u u') (hne : v.ownBlock ≠ u.ownBlock) : Sl w' size v n xs := by
  obtain ⟨h1, A, c, rfl, hc, h2⟩ := h
  refine ⟨h1, A, c, rfl, hc, fun hn => ?_⟩
  obtain ⟨b, off, rfl, hb, hcell⟩ := h2 hn
  exact ⟨b, off, rfl, Nat.lt_of_lt_of_le hb hst.size, fun j x hx => hst.cell (hcell j x hx) hne⟩

def Lp2 (base : Nat) (w3 : World) (v0 : Value) (s i : Value) (wr : World) : Prop := ∃ k : Nat, k ≤ 20 ∧ i = .int .i64 ((k : Int) + 1) ∧ wr.ownsRow base 3 1 s (23 + k) (iv (l23 ++ ups k)) ∧ OwnStep w3 wr v0 s
def Lp3 (w4 : World) (i : Value) (wr : World) : Prop := ∃ k : Nat, k ≤ 43 ∧ i = .int .i64 k ∧ ∃ n, wr = w4.drewN n
def IdxTo (n : Nat) (v : Value) : Prop := ∃ k : Nat, k ≤ n ∧ v = .int .i64 k

set_option maxRecDepth 100000 in
set_option maxHeartbeats 4000000 in
theorem walk (w : World) : Calls Try.prog 3 #[] w fun e w' => e = .returned (.bool true) ∧ Below w.heap.size w w' := by
  obtain ⟨i0, hi0, hz0, hz1, hz2⟩ := info_parts intinfo
  go_enter Try.func3, Try.ntmps3
  go_wp2
  have hb0 := Blk.new w 22 #[.int .i64 0, .int .i64 1, .int .i64 2, .int .i64 3, .int .i64 4, .int .i64 5, .int .i64 6, .int .i64 7, .int .i64 8, .int .i64 9, .int .i64 10, .int .i64 11, .int .i64 12, .int .i64 13, .int .i64 14, .int .i64 15, .int .i64 16]
  generalize hW0 : w.alloc (.cells #[.int .i64 0, .int .i64 1, .int .i64 2, .int .i64 3, .int .i64 4, .int .i64 5, .int .i64 6, .int .i64 7, .int .i64 8, .int .i64 9, .int .i64 10, .int .i64 11, .int .i64 12, .int .i64 13, .int .i64 14, .int .i64 15, .int .i64 16] 22) = W0 at *
  have hz0 : W0.heap.size = w.heap.size + 1 := by rw [← hW0]; simp
  have hbel0 : Below w.heap.size w W0 := by rw [← hW0]; exact (Below.refl _ _).alloc (Nat.le_refl _) _
  have hc0 : ∀ k : Nat, k < 17 → W0.cell? ⟨w.heap.size, k, none⟩ = some (.int .i64 k) := by
    intro k hk
    rw [hb0.cell]
    rcases (by omega : k = 0 ∨ k = 1 ∨ k = 2 ∨ k = 3 ∨ k = 4 ∨ k = 5 ∨ k = 6 ∨ k = 7 ∨ k = 8 ∨ k = 9 ∨ k = 10 ∨ k = 11 ∨ k = 12 ∨ k = 13 ∨ k = 14 ∨ k = 15 ∨ k = 16) with rfl | rfl | rfl | rfl | rfl | rfl | rfl | rfl | rfl | rfl | rfl | rfl | rfl | rfl | rfl | rfl | rfl <;> rfl
  have HC := Lib.hid hc0
  have HZ := Lib.hid hz0
  have HL := Lib.hid hbel0
  clear hW0 hb0 hc0 hz0 hbel0
  go_loop [2] (fun i => IdxTo 17 i) (fun i => 17 - (intOf i).toNat)
  case atStart => exact ⟨0, by omega, rfl⟩
  case round =>
    obtain ⟨k, hk, rfl⟩ := hrel
    by_cases hlt : k < 17
    · have h1 := HC.out k hlt
      go_wp2
      go_light
      exact ⟨⟨k + 1, by omega, by go_num⟩, by simp [intOf]; omega⟩
    · obtain rfl : k = 17 := by omega
      clear hlt
      have hs0 : w.heap.size ≤ W0.heap.size := by rw [HZ.out]; omega
      -- the three literals, and all = append(all, ..)
      have o1 := ((own_lit (base := w.heap.size) W0 3 #[.int .i64 40, .int .i64 1073741824, .int .i64 400, .int .i64 40000, .int .i64 5, .int .i64 4, .int .i64 8, .int .i64 6, .int .i64 8, .int .i64 1000, .int .i64 1000, .int .i64 20, .int .i64 400, .int .i64 1, .int .i64 2, .int .i64 3, .int .i64 1, .int .i64 2, .int .i64 3, .int .i64 4, .int .i64 0, .int .i64 1, .int .i64 2] 1 23 hs0 (by simp [maxLen]) rfl).alloc (.cells #[.int .i64 40, .int .i64 1073741824, .int .i64 400, .int .i64 40000, .int .i64 5, .int .i64 4, .int .i64 8, .int .i64 6, .int .i64 8, .int .i64 1000, .int .i64 1000, .int .i64 20, .int .i64 400, .int .i64 1, .int .i64 2, .int .i64 3, .int .i64 1, .int .i64 2, .int .i64 3, .int .i64 4, .int .i64 0, .int .i64 1, .int .i64 2] 3)).alloc (.cells #[.int .i64 1, .int .i64 2, .int .i64 3, .int .i64 4, .int .i64 5, .int .i64 6, .int .i64 7, .int .i64 8, .int .i64 9, .int .i64 10, .int .i64 11, .int .i64 12, .int .i64 13, .int .i64 14, .int .i64 15, .int .i64 16, .int .i64 17, .int .i64 18, .int .i64 19, .int .i64 20] 3)
      have o2 := (own_lit (base := w.heap.size) (W0.alloc (.cells #[.int .i64 40, .int .i64 1073741824, .int .i64 400, .int .i64 40000, .int .i64 5, .int .i64 4, .int .i64 8, .int .i64 6, .int .i64 8, .int .i64 1000, .int .i64 1000, .int .i64 20, .int .i64 400, .int .i64 1, .int .i64 2, .int .i64 3, .int .i64 1, .int .i64 2, .int .i64 3, .int .i64 4, .int .i64 0, .int .i64 1, .int .i64 2] 3)) 3 #[.int .i64 40, .int .i64 1073741824, .int .i64 400, .int .i64 40000, .int .i64 5, .int .i64 4, .int .i64 8, .int .i64 6, .int .i64 8, .int .i64 1000, .int .i64 1000, .int .i64 20, .int .i64 400, .int .i64 1, .int .i64 2, .int .i64 3, .int .i64 1, .int .i64 2, .int .i64 3, .int .i64 4, .int .i64 0, .int .i64 1, .int .i64 2] 1 23 (by simp; omega) (by simp [maxLen]) rfl).alloc (.cells #[.int .i64 1, .int .i64 2, .int .i64 3, .int .i64 4, .int .i64 5, .int .i64 6, .int .i64 7, .int .i64 8, .int .i64 9, .int .i64 10, .int .i64 11, .int .i64 12, .int .i64 13, .int .i64 14, .int .i64 15, .int .i64 16, .int .i64 17, .int .i64 18, .int .i64 19, .int .i64 20] 3)
      have s3 := Sl.lit ((W0.alloc (.cells #[.int .i64 40, .int .i64 1073741824, .int .i64 400, .int .i64 40000, .int .i64 5, .int .i64 4, .int .i64 8, .int .i64 6, .int .i64 8, .int .i64 1000, .int .i64 1000, .int .i64 20, .int .i64 400, .int .i64 1, .int .i64 2, .int .i64 3, .int .i64 1, .int .i64 2, .int .i64 3, .int .i64 4, .int .i64 0, .int .i64 1, .int .i64 2] 3)).alloc (.cells #[.int .i64 40, .int .i64 1073741824, .int .i64 400, .int .i64 40000, .int .i64 5, .int .i64 4, .int .i64 8, .int .i64 6, .int .i64 8, .int .i64 1000, .int .i64 1000, .int .i64 20, .int .i64 400, .int .i64 1, .int .i64 2, .int .i64 3, .int .i64 1, .int .i64 2, .int .i64 3, .int .i64 4, .int .i64 0, .int .i64 1, .int .i64 2] 3)) 3 #[.int .i64 1, .int .i64 2, .int .i64 3, .int .i64 4, .int .i64 5, .int .i64 6, .int .i64 7, .int .i64 8, .int .i64 9, .int .i64 10, .int .i64 11, .int .i64 12, .int .i64 13, .int .i64 14, .int .i64 15, .int .i64 16, .int .i64 17, .int .i64 18, .int .i64 19, .int .i64 20] 1 20 rfl
      simp only [World.size_alloc] at o1 o2 s3
      have O1 := Lib.hid o1
      have O2 := Lib.hid o2
      have S3 := Lib.hid s3
      clear o1 o2 s3
      go_wp2_with (at_builtin; go_must (refine wpList_append_sl _ rfl (.tmp 22) (.tmp 23) 24 rfl w.heap.size 3 i0 (.int .i64 0) 1 8 Try.underlying24 hi0 hz0 hz1 hz2 rfl (by decide) _ _ _ (by rfl) O1.out _ 20 _ (by rfl) S3.out (by intro x hx; simp at hx; rcases hx with rfl | rfl | rfl | rfl | rfl | rfl | rfl | rfl | rfl | rfl | rfl | rfl | rfl | rfl | rfl | rfl | rfl | rfl | rfl | rfl <;> rfl) (by simp [maxLen]) (by omega) (by simp; omega) ?_; intro v3 w3 ho3 hg3 ha3))
      have hw3 : w3.ownsRow w.heap.size 3 1 (.slice (some ⟨W0.heap.size + 1, 0, none⟩) 23 23) (23 + 0) (iv (l23 ++ ups 0)) := own_eq (O2.out.kept hg3 (Or.inr (by simp [Value.ownBlock]))) rfl rfl
      have hall : Sl w3 1 v3 43 (iv (l23 ++ ups 20)) := by have := Sl.of_own ho3; simpa [iv, l23, ups] using this
      have hne3 : v3.ownBlock ≠ (Value.slice (some ⟨W0.heap.size + 1, 0, none⟩) 23 23).ownBlock := by
        rcases ha3 with h | h <;> rw [h] <;> simp [Value.ownBlock] <;> omega
      have hb3 : Below w.heap.size w w3 := ((((HL.out.alloc hs0 _).alloc (by simp; omega) _).alloc (by simp; omega) _).grown hg3 (by simp; omega) (by intro k hk; simp [Value.ownBlock] at hk; omega))
      have HA := Lib.hid hall
      have HN := Lib.hid hne3
      have HB := Lib.hid hb3
      have HW := Lib.hid hw3
      clear hall hne3 hb3 hw3 ho3 hg3 ha3
      go_loopw [4, 5] (fun s i wr => Lp2 w.heap.size w3 (.slice (some ⟨W0.heap.size + 1, 0, none⟩) 23 23) s i wr) (fun _ i _ => 21 - (intOf i).toNat)
      case atStart => exact ⟨0, by omega, rfl, HW.out, OwnStep.refl _ _⟩
      case round =>
        obtain ⟨k, hk, rfl, ho, hst⟩ := hrel
        have HS := Lib.hid hst
        have hlt0 := fun g hg => (ho.lt g hg).2
        have HT := Lib.hid hlt0
        clear hst hlt0
        by_cases hlt : k < 20
        · have hsz : w.heap.size ≤ wr.heap.size := by have := HB.out.size; have := HS.out.size; omega
          go_wp2_with (at_builtin; go_must (refine wpList_append_sl _ rfl (.tmp 29) (.tmp 31) 24 rfl w.heap.size 3 i0 (.int .i64 0) 1 8 Try.underlying24 hi0 hz0 hz1 hz2 rfl (by decide) _ _ _ (by rfl) (ho.alloc _) _ 1 _ (by rfl) (Sl.lit _ _ _ 1 1 rfl) (by intro x hx; simp at hx; subst hx; rfl) (by simp only [maxLen]; omega) (by omega) (by simp; omega) ?_; intro v4 w4 ho4 hg4 ha4))
          go_light
          refine ⟨⟨k + 1, by omega, by go_num, own_eq ho4 (by omega) (by simp [iv, ups]), OwnStep.trans HS.out (OwnStep.of_append HT.out hg4 ha4)⟩, by simp [intOf]; omega⟩
        · obtain rfl : k = 20 := by omega
          clear hlt
          have hx : sameI (l23 ++ ups 20) wr v3 := by
            have h := Sl.ownstep HA.out HS.out HN.out
            unfold sameI
            rw [show (l23 ++ ups 20).length = 43 from rfl]
            exact h
          have hy : sameI (l23 ++ ups 20) wr u4 := by
            have h := Sl.of_own ho
            unfold sameI
            rw [show (l23 ++ ups 20).length = 23 + 20 from rfl]
            exact h
          have hbw : Below w.heap.size w wr := HB.out.trans (HS.out.below HB.out.size (by intro g hg; simp [Value.ownBlock] at hg; have := HZ.out; omega))
          have HBW := Lib.hid hbw
          generalize hL : l23 ++ ups 20 = L at *
          have hl43 : L.length = 43 := by rw [← hL]; rfl
          obtain ⟨A1, c1, rfl, hc1, hx1⟩ := hx.at_
          obtain ⟨A2, c2, rfl, hc2, hy1⟩ := hy.at_
          have hx2 : ∃ b off, A1 = some ⟨b, off, none⟩ ∧ ∀ i, i < 43 → wr.cell? ⟨b, off + i, none⟩ = some (.int .i64 (L.getD i 0)) := by
            obtain ⟨b, off, h1, h2⟩ := hx1 (by omega)
            exact ⟨b, off, h1, fun i hi => by rw [h2 i (by omega)]; simp [List.getD, List.getElem?_eq_getElem (show i < L.length by omega)]⟩
          have hy2 : ∃ b off, A2 = some ⟨b, off, none⟩ ∧ ∀ i, i < 43 → wr.cell? ⟨b, off + i, none⟩ = some (.int .i64 (L.getD i 0)) := by
            obtain ⟨b, off, h1, h2⟩ := hy1 (by omega)
            exact ⟨b, off, h1, fun i hi => by rw [h2 i (by omega)]; simp [List.getD, List.getElem?_eq_getElem (show i < L.length by omega)]⟩
          rw [hl43] at hc1 hc2 ⊢
          have HX := Lib.hid hx2
          have HY := Lib.hid hy2
          clear hx2 hy2
          clear hL hl43 hx1 hy1 hbw hx hy ho
          go_wp2
          go_loopw [6] (fun i w5 => Lp3 wr i w5) (fun i _ => 43 - (intOf i).toNat)
          case atStart => exact ⟨0, by omega, rfl, 0, rfl⟩
          case round =>
            obtain ⟨k, hk, rfl, n, rfl⟩ := hrel
            by_cases hlt : k < 43
            · obtain ⟨b1, o1, rfl, q1⟩ := HX.out
              obtain ⟨b2, o2, rfl, q2⟩ := HY.out
              have h1 := q1 k hlt
              have h2 := q2 k hlt
              have i0 : (0 : Int) ≤ (k : Int) := by omega
              have i1 : (k : Int) < 43 := by omega
              clear q1 q2
              go_wp2
              go_quiet (fail)
              go_wp2
              go_light
              exact ⟨⟨k + 1, by omega, by go_num, _, by first | rfl | exact World.drewN_drewN _ _ _⟩, by simp [intOf]; omega⟩
            · obtain rfl : k = 43 := by omega
              go_wp2
              go_ret
              exact ⟨rfl, ⟨HBW.out.os, HBW.out.tape, HBW.out.output, HBW.out.size, HBW.out.block⟩⟩


set_option maxRecDepth 100000 in
theorem contract (H : Type) (enc : TypeId × Value → H) (W : World) (base : Nat) (args : Array Value) (ds gs : List (DataW H)) (before : List MemPlace)
    (hval : ∀ (j : Nat) t v, Try.f3.params[j]? = some t → args[j]? = some v → Value.okWide Try.prog W .any base t v)
    (hW : DataW.Whole enc Try.prog Try.f3.params.toList Rows.namesSpec.vars false W args.toList ds gs before) :
    Calls Try.prog 3 args W fun e W' => ∃ v, e = .returned v ∧ Rows.namesSpec.post enc Try.prog Try.f3 false true false false W args v W' := by
  have hW' := hW
  obtain ⟨p, q, hA0, hV, rfl, hfz, hnd⟩ := hW
  have hA : DataW.TrodAll enc Try.prog W 0 (fun _ => true) true Try.f3.params.toList args.toList ds p := hA0
  rw [Try.params3] at hA hval
  obtain ⟨rfl, rfl, rfl⟩ := trodAll_none hA
  obtain ⟨rfl, rfl⟩ := trodVars_none hV
  refine Calls.mono (R := fun e W' => e = .returned (.bool true) ∧ Below W.heap.size W W') ?_ fun e W' ⟨he, hb⟩ => ?_
  · exact walk W
  · subst he
    exact ⟨_, rfl, law_post laid_ rfl rfl (by rfl) Try.underlying4 (by rw [Try.params3]; exact rec_ok (by kernel_rfl)) hW' hb⟩

set_option maxRecDepth 100000 in
theorem lifted (os : Os) (started : os.Started) (H : Type) (enc : TypeId × Value → H) :
    ReturnsInHanded {} Try.checked os 3 .any (Rows.namesSpec.pre6 enc Try.prog Try.f3 Rows.namesRow.domain false) (Rows.namesSpec.post enc Try.prog Try.f3 false true false false) := by
  refine returnsInHanded_of_change (C := Try.checked) own_ started (by kernel_rfl) Try.func3
    (ChangeSpec.witness6 (enc := enc) (C := Try.checked) false ⟨#[], #[], []⟩ 8 (by kernel_rfl) (by kernel_rfl) (by kernel_rfl) (by kernel_rfl)) ?_
  intro W base args ds gs before hval hW _ _
  exact contract H enc W base args ds gs before hval hW

theorem closed : joinedFacts Try.prog 3 Try.f3 Rows.namesSpec Rows.namesRow = true := by
  unfold joinedFacts
  rw [mayEnter_, lifts_, make_]
  kernel_rfl

theorem proved : Rows.NamesSaid :=
  OpenClaim.holds_of_wide 3 Try.f3 rfl rfl rfl rfl rfl rfl rfl ⟨rfl, rfl, rfl, rfl, rfl⟩ rfl rfl rfl rfl rfl (by kernel_rfl) Try.func3 closed
    (of_decide_eq_true (by kernel_rfl)) (by unfold Func.isWrapper; first | (rw [if_pos (by decide +kernel)]; kernel_rfl) | (rw [if_neg (by decide +kernel)]; exact ⟨rfl, rfl⟩))
    (fun os started H enc _ => lifted os started H enc)

end Go.Proofs.Ytjkoceacjbhblaa.lawNames
