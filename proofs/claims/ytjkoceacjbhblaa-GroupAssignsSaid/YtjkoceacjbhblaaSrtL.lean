/- tailraceref.AssignedOf: the parts that each member is given; sameLists. -/
import Derived.Test.YtjkoceacjbhblaaSrtK
namespace Go.Proofs.Ytjkoceacjbhblaa
open Go.RowKit

noncomputable def aheadTo (L : Nat → Nat → Prop) (k x : Nat) : Nat := by
  classical
  exact (List.range k).countP fun j => decide (Tie L j x)
theorem aheadTo_all (L : Nat → Nat → Prop) (n x : Nat) : aheadTo L n x = ahead L n x := rfl
theorem aheadTo_zero (L : Nat → Nat → Prop) (x : Nat) : aheadTo L 0 x = 0 := rfl
theorem aheadTo_yes {L : Nat → Nat → Prop} {k x : Nat} (h : Tie L k x) : aheadTo L (k + 1) x = aheadTo L k x + 1 := by
  unfold aheadTo
  rw [List.range_succ, List.countP_append, List.countP_cons_of_pos (by simpa using h)]
  rfl
theorem aheadTo_no {L : Nat → Nat → Prop} {k x : Nat} (h : ¬ Tie L k x) : aheadTo L (k + 1) x = aheadTo L k x := by
  unfold aheadTo
  rw [List.range_succ, List.countP_append, List.countP_cons_of_neg (by simpa using h)]
  rfl
noncomputable def lsAt (L : Nat → Nat → Prop) (n P i : Nat) (m : List Int) (k : Nat) : List Int := if k < i then pts L n P k else if k = i then m else []
theorem lsAt_at {L : Nat → Nat → Prop} {n P i : Nat} {m : List Int} : lsAt L n P i m i = m := by simp [lsAt]
theorem lsAt_push {L : Nat → Nat → Prop} {n P i : Nat} {m : List Int} {x : Int} (k : Nat) : (if k = i then lsAt L n P i m i ++ [x] else lsAt L n P i m k) = lsAt L n P i (m ++ [x]) k := by
  rw [lsAt_at]
  unfold lsAt
  repeat' split
  all_goals first | rfl | omega
theorem lsAt_next {L : Nat → Nat → Prop} {n P i : Nat} (k : Nat) : lsAt L n P i (pts L n P i) k = lsAt L n P (i + 1) [] k := by
  unfold lsAt
  repeat' split
  all_goals first | rfl | omega | (rename_i h1 h2 _; subst h2; rfl) | skip
  all_goals (rename_i h; omega)
def upTo' (n a P p : Nat) : List Int := casts ((List.range (min p P)).filter fun q => decide (q % n = a))

set_option maxRecDepth 100000 in
set_option maxHeartbeats 8000000 in
theorem assignedOf_any (N : List ByteArray) (n : Nat) (A : Option Addr) (c : Nat) (pt : Int) (w : World) (hv : Ss w (.slice A n c) N) (hl : N.length = n) (hn : n < 8796093022208) (hp : -1000 ≤ pt ∧ pt ≤ 1000) :
    Calls Try.prog 52 #[.slice A n c, .int .i64 pt] w (AsgPost N n pt.toNat w) := by
  have hcell : 0 < n → ∃ b off, A = some ⟨b, off, none⟩ ∧ b < w.heap.size ∧ ∀ i (hi : i < N.length), w.cell? ⟨b, off + i, none⟩ = some (.string N[i]) := by
    obtain ⟨A', c', hA, -, hcell⟩ := hv.at_
    injection hA with e1 _ _
    subst e1
    rw [← hl]
    exact hcell
  obtain ⟨i0, hi0, hz0, hz1, hz2⟩ := info_parts CloneInt_info
  have hmk2 : ∀ W, (Instr.makeSlice 64 (.int .i64 n) (.int .i64 n)).run Try.prog W = .ok (.slice (some ⟨W.heap.size, 0, none⟩) n n) (W.alloc (.cells (madeCells #[.slice none 0 0] n) 24)) := fun W => run_make_row' 64 24 (.slice none 0 0) 24 Try.underlying64 slices_info rfl .i64 .i64 n (by omega) (by omega) W
  rw [made_nil] at hmk2
  have HCELL := Lib.hid hcell
  have HLN := Lib.hid hl
  obtain ⟨P, hP⟩ : ∃ P : Nat, pt.toNat = P := ⟨_, rfl⟩
  have hP2 : P ≤ 1000 := by omega
  have hlt : ∀ p : Nat, (p : Int) < pt ↔ p < P := fun p => by omega
  have HPT := Lib.hid hlt
  have hl2 : Lst w (w.alloc (.cells (rowV (fun _ => .slice none 0 0) n) 24)) w.heap.size w.heap.size n (fun _ => .slice none 0 0) (lsAt (Lt (cmpF N)) n P 0 []) := (Lst.made w w w.heap.size n (Below.refl _ _) (Nat.le_refl _)).cong fun i _ => by
    unfold lsAt
    rw [if_neg (by omega)]
    split <;> rfl
  have HL2 := Lib.hid hl2
  clear hv hcell hl hlt hl2 hp
  rw [hP]
  clear hP
  go_enter Try.func52, Try.ntmps52
  go_wp2
  clear hmk2
  go_loopw [6] (fun x wr => ∃ (i : Nat) (vs : Nat → Value), i ≤ n ∧ x = .int .i64 i ∧ Hid (Lst w wr w.heap.size w.heap.size n vs (lsAt (Lt (cmpF N)) n P i []))) (fun x _ => n - (intOf x).toNat)
  case atStart => exact ⟨0, _, by omega, rfl, HL2.out⟩
  case round =>
    clear HL2
    obtain ⟨i, vs, hi, rfl, HL⟩ := hrel
    by_cases hlt : i < n
    · have hz : (i : Int) < (n : Int) := by omega
      obtain ⟨nb, off, rfl, hnb, hcell⟩ := HCELL.out (by omega)
      have HN := Lib.hid hcell
      clear hcell
      go_wp2
      go_loopw [7, 8] (fun x y wr2 => ∃ a k : Nat, k ≤ n ∧ a ≤ k ∧ x = .int .i64 a ∧ y = .int .i64 k ∧ Hid (aheadTo (Lt (cmpF N)) k i = a) ∧ Hid (Lst w wr2 w.heap.size w.heap.size n vs (lsAt (Lt (cmpF N)) n P i []))) (fun _ y _ => n - (intOf y).toNat)
      case atStart => exact ⟨0, 0, by omega, by omega, rfl, rfl, rfl, HL.out⟩
      case round =>
        clear HL
        obtain ⟨a, k, hk, hak, rfl, rfl, HA, HL⟩ := hrel
        by_cases hlk : k < n
        · have hzk : (k : Int) < (n : Int) := by omega
          have ck : wr.cell? ⟨nb, off + k, none⟩ = some (.string (nth N k)) := by
            rw [nth_get (by rw [HLN.out]; exact hlk), HL.out.bel.cell (p := ⟨nb, off + k, none⟩) hnb]
            exact HN.out k _
          have ci : wr.cell? ⟨nb, off + i, none⟩ = some (.string (nth N i)) := by
            rw [nth_get (by rw [HLN.out]; exact hlt), HL.out.bel.cell (p := ⟨nb, off + i, none⟩) hnb]
            exact HN.out i _
          obtain ⟨s, hs⟩ : ∃ s, s = nth N k := ⟨_, rfl⟩
          obtain ⟨t, ht⟩ : ∃ t, t = nth N i := ⟨_, rfl⟩
          have tie := tie_cmpF N k i
          unfold lessN at tie
          rw [← hs] at ck
          rw [← ht] at ci
          rw [← hs, ← ht] at tie
          have HT := Lib.hid tie
          have hkeep : ∀ m, Lst w (wr.drewN m) w.heap.size w.heap.size n vs (lsAt (Lt (cmpF N)) n P i []) := fun m => HL.out.keep (below_drewN_ _ _)
          have HK := Lib.hid hkeep
          clear tie hs ht hkeep HL
          cases h1 : Op.bytesLess s.toList t.toList with
          | true =>
            have Y := aheadTo_yes (HT.out.2 (Or.inl h1))
            rw [HA.out] at Y
            have HY := Lib.hid Y
            clear Y HA HT
            go_wp2_with fail
            go_quiet (fail)
            go_wp2
            go_light
            exact ⟨⟨a + 1, k + 1, by omega, by omega, by go_num, by go_num, HY.out, HK.out _⟩, by simp [intOf]; omega⟩
          | false =>
            cases h2 : s.toList == t.toList with
            | true =>
              by_cases h3 : k < i
              · have h4 : decide ((k : Int) < (i : Int)) = true := decide_eq_true (by omega)
                have Y := aheadTo_yes (HT.out.2 (Or.inr ⟨h2, h3⟩))
                rw [HA.out] at Y
                have HY := Lib.hid Y
                clear Y HA HT
                go_wp2_with fail
                go_quiet (fail)
                go_wp2
                go_light
                exact ⟨⟨a + 1, k + 1, by omega, by omega, by go_num, by go_num, HY.out, HK.out _⟩, by simp [intOf]; omega⟩
              · have h4 : decide ((k : Int) < (i : Int)) = false := decide_eq_false (by omega)
                have Y := aheadTo_no (L := Lt (cmpF N)) (k := k) (x := i) (fun e => by
                  rcases HT.out.1 e with e | ⟨_, e⟩
                  · rw [h1] at e; cases e
                  · exact h3 e)
                rw [HA.out] at Y
                have HY := Lib.hid Y
                clear Y HA HT
                go_wp2_with fail
                go_quiet (fail)
                go_wp2
                go_light
                exact ⟨⟨a, k + 1, by omega, by omega, by first | rfl | go_num, by go_num, HY.out, HK.out _⟩, by simp [intOf]; omega⟩
            | false =>
              have Y := aheadTo_no (L := Lt (cmpF N)) (k := k) (x := i) (fun e => by
                rcases HT.out.1 e with e | ⟨e, _⟩
                · rw [h1] at e; cases e
                · rw [h2] at e; cases e)
              rw [HA.out] at Y
              have HY := Lib.hid Y
              clear Y HA HT
              go_wp2_with fail
              go_quiet (fail)
              go_wp2
              go_light
              exact ⟨⟨a, k + 1, by omega, by omega, by first | rfl | go_num, by go_num, HY.out, HK.out _⟩, by simp [intOf]; omega⟩
        · obtain rfl : k = n := by omega
          have hzk : ¬ (k : Int) < (k : Int) := by omega
          have ha : ahead (Lt (cmpF N)) k i = a := HA.out
          have han : a < k := by rw [← ha]; exact ahead_le (ordr_cmpF N) hlt
          have HAH := Lib.hid ha
          clear ha HA hak
          go_wp2
          go_loopw [9] (fun x wr3 => ∃ (p : Nat) (vs : Nat → Value), p ≤ P + k ∧ x = .int .i64 p ∧ Hid (p % k = a) ∧ Hid (Lst w wr3 w.heap.size w.heap.size k vs (lsAt (Lt (cmpF N)) k P i (upTo' k a P p)))) (fun x _ => P - (intOf x).toNat)
          case atStart =>
            refine ⟨a, vs, by omega, rfl, Nat.mod_eq_of_lt han, HL.out.cong fun j _ => ?_⟩
            unfold upTo'
            rw [pts_none han]
            rfl
          case round =>
            clear HL
            obtain ⟨p, vs, hpk, rfl, HM, HL⟩ := hrel
            by_cases hpP : p < P
            · have hzp : (p : Int) < pt := (HPT.out p).2 hpP
              have cx := HL.out.cell hlt
              have own := HL.out.own i hlt
              rw [lsAt_at] at own
              obtain ⟨A5, c5, hv5, -⟩ := (Sl.of_own own).form
              rw [hv5] at cx own
              have hlen : (upTo' k a P p).length ≤ P := by
                unfold upTo' casts
                rw [List.length_map]
                exact Nat.le_trans (List.length_filter_le _ _) (by simp; omega)
              have lb := HL.out.lt
              have HO := Lib.hid own
              have HV5 := Lib.hid hv5
              clear own hv5
              go_wp2_with (at_builtin; go_must (refine wpList_append_sl _ rfl (.tmp 65) (.tmp 67) 24 rfl w.heap.size 3 i0 (.int .i64 0) 1 8 Try.underlying24 hi0 hz0 hz1 hz2 rfl (by decide) _ _ _ (by rfl) (HO.out.alloc _) _ 1 _ (by rfl) (Sl.lit _ _ _ 1 1 rfl) (by intro x hx; simp at hx; subst hx; rfl) (by simp only [maxLen]; omega) (by omega) (by simp; omega) ?_; intro v4 w4 ho4 hg4 ha4; obtain ⟨A4, c4, rfl, -⟩ := (Sl.of_own ho4).form; obtain ⟨hbl, hl⟩ := HL.out.push hlt (by rw [HV5.out]; exact hg4) (by rw [lsAt_at]; exact ho4) (by rw [HV5.out]; exact ha4); have cb := (hbl.cell i).trans (rowV_get hlt); have fb := hbl.frozen i; have HL4 := Lib.hid hl; clear ho4 hg4 ha4 hbl hl))
              go_light
              refine ⟨⟨p + k, _, by omega, by go_num, (by show _ = _; rw [Nat.add_mod_right]; exact HM.out), HL4.out.cong fun j _ => ?_⟩, by simp [intOf]; omega⟩
              rw [lsAt_push]
              unfold upTo' casts
              rw [pts_step (by omega) HM.out hpP, List.map_append]
              rfl
            · have hzp : ¬ (p : Int) < pt := fun e => hpP ((HPT.out p).1 e)
              go_wp2
              go_light
              refine ⟨⟨i + 1, vs, by omega, by go_num, HL.out.cong fun j _ => ?_⟩, by simp [intOf]; omega⟩
              rw [← lsAt_next]
              unfold upTo' pts
              rw [HAH.out, show min p P = P by omega]
    · obtain rfl : i = n := by omega
      go_wp2
      go_ret
      refine ⟨w.heap.size, vs, rfl, HL.out.cong fun j hj => ?_⟩
      unfold lsAt
      rw [if_pos hj]
end Go.Proofs.Ytjkoceacjbhblaa
