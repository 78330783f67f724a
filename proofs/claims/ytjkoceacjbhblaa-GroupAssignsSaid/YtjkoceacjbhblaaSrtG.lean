/- slices.symMergeCmpFunc at int: two sorted stretches merged. -/
import Derived.Test.YtjkoceacjbhblaaSrtF
namespace Go.Proofs.Ytjkoceacjbhblaa
open Go.RowKit

/-- merges of stretches of at most k -/
def SymOk (cap b n p : Nat) (cf : Nat → Nat → Int) (w0 : World) (k : Nat) : Prop :=
  ∀ (a m e : Nat) (f : Nat → Nat) (W : World) (x y z : Int), Ord w0 b n f W → Plc n f → MPre (Lt cf) f a m e → x = (a : Int) → y = (m : Int) → z = (e : Int) → a < m → m < e → e ≤ n → e - a ≤ k →
    Calls Try.prog 128 #[.slice (some ⟨b, 0, none⟩) n cap, .int .i64 x, .int .i64 y, .int .i64 z, cmpV p] W (SymPost b n a e cf f w0)
theorem rotate_at {cap b n a m e : Nat} {f : Nat → Nat} {cv : Value} {w0 W : World} {x y z : Int} (h : Ord w0 b n f W) (hx : x = (a : Int)) (hy : y = (m : Int)) (hz : z = (e : Int)) (ham : a < m) (hme : m < e) (hen : e ≤ n) (hn : n < 8796093022208) :
    Calls Try.prog 131 #[.slice (some ⟨b, 0, none⟩) n cap, .int .i64 x, .int .i64 y, .int .i64 z, cv] W fun e' w' => e' = .returned (.tuple #[]) ∧ Ord w0 b n (rot f a m e) w' := by
  subst hx hy hz
  exact rotate_any cap b n a m e f cv w0 W h ham hme hen hn
/-- while the cut is sought -/
structure Seek (cf : Nat → Nat → Int) (f : Nat → Nat) (pp lo hi s r : Nat) : Prop where
  ls : lo ≤ s
  sr : s ≤ r
  rh : r ≤ hi
  dn : s = lo ∨ ¬ Lt cf (f (pp - (s - 1))) (f (s - 1))
  up : r = hi ∨ Lt cf (f (pp - r)) (f r)
theorem MPre.same {L : Nat → Nat → Prop} {f g : Nat → Nat} {a m b : Nat} (h : MPre L f a m b) (ham : a ≤ m) (hmb : m ≤ b) (e : ∀ k, a ≤ k → k < b → g k = f k) : MPre L g a m b :=
  ⟨h.left.same fun k k1 k2 => e k k1 (by omega), h.right.same fun k k1 k2 => e k (by omega) k2, fun i j i1 i2 j1 j2 => by rw [e i i1 (by omega), e j (by omega) j2]; exact h.under i j i1 i2 j1 j2⟩
/-- the two stretches cut and rotated -/
structure Cut (L : Nat → Nat → Prop) (f g : Nat → Nat) (a s mid ee e : Nat) : Prop where
  cas : a ≤ s
  csm : s ≤ mid
  cme : mid ≤ ee
  cee : ee ≤ e
  sub : Sub a e f g
  cross : ∀ i j, a ≤ i → i < mid → mid ≤ j → j < e → Tie L (g i) (g j)
  lo : MPre L g a s mid
  hi : MPre L g mid ee e
section
variable {L : Nat → Nat → Prop} {f g g1 g2 : Nat → Nat} {a s mid ee e n : Nat}
theorem Cut.lo_done (h : Cut L f g a s mid ee e) (k : ¬ (a < s ∧ s < mid)) : Srt L g a mid := by
  have := h.cas; have := h.csm
  rcases (show a = s ∨ s = mid by omega) with rfl | rfl
  · exact h.lo.right
  · exact h.lo.left
theorem Cut.hi_next (h : Cut L f g a s mid ee e) (x : Sub a mid g g1) : MPre L g1 mid ee e := h.hi.same h.cme h.cee fun k k1 _ => x.1 k (by omega)
theorem Cut.hi_done (h : Cut L f g a s mid ee e) (x : Sub a mid g g1) (k : ¬ (mid < ee ∧ ee < e)) : Srt L g1 mid e := by
  have hh := h.hi_next x
  have := h.cme; have := h.cee
  rcases (show mid = ee ∨ ee = e by omega) with rfl | rfl
  · exact hh.right
  · exact hh.left
theorem Cut.fin (h : Cut L f g a s mid ee e) (x : Sub a mid g g1) (s1 : Srt L g1 a mid) (y : Sub mid e g1 g2) (s2 : Srt L g2 mid e) : Sub a e f g2 ∧ Srt L g2 a e := by
  have := h.cas; have := h.csm; have := h.cme; have := h.cee
  exact ⟨(h.sub.trans (x.wide (Nat.le_refl _) (by omega))).trans (y.wide (by omega) (Nat.le_refl _)), Srt.halves h.cross x y s1 s2⟩
end
theorem Seek.cut {cf : Nat → Nat → Int} {f : Nat → Nat} {a m e pp lo hi mid s : Nat} (o : Ordr (Lt cf)) (h : MPre (Lt cf) f a m e) (ham : a < m) (hme : m < e) (m3 : 2 * mid ≤ a + e) (m4 : a + e ≤ 2 * mid + 1)
    (hl : (mid < m ∧ lo + e = mid + m ∧ hi = mid) ∨ (m ≤ mid ∧ lo = a ∧ hi = m)) (hpp : mid + m = pp + 1) (k : Seek cf f pp lo hi s s) {ee : Nat} (hee : pp + 1 = s + ee) : Cut (Lt cf) f (rot f s m ee) a s mid ee e ∧ s ≤ m ∧ m ≤ ee := by
  have e1 : mid + m - 1 = pp := by omega
  have e2 : mid + m - s = ee := by omega
  obtain ⟨c1, c2, c3, c4, t1, t2⟩ := cut_ok o h ham hme m3 m4 hl k.ls k.rh (by rw [e1]; exact k.dn) (by rw [e1]; exact k.up)
  rw [e2] at c3 c4 t1 t2
  obtain ⟨h1, h2, h3⟩ := h.halves (mid := mid) c1 c2 c3 c4 (by omega) t1 t2
  have := k.rh
  have := k.ls
  exact ⟨⟨c1, by omega, by omega, c4, Sub.rot c2 c3 c1 c4, h1, h2, h3⟩, c2, c3⟩

set_option maxRecDepth 100000 in
set_option maxHeartbeats 16000000 in
theorem sym_gen (cap b n a m e p k mid lo hi : Nat) (f : Nat → Nat) (cf : Nat → Nat → Int) (w0 W : World) (ih : SymOk cap b n p cf w0 k) (hc : CmpA p w0 b n cf) (o : Ordr (Lt cf)) (h : Ord w0 b n f W) (hp : Plc n f) (hm : MPre (Lt cf) f a m e) (ham : a + 1 < m) (hme : m + 1 < e) (hen : e ≤ n) (hn : n < 8796093022208) (hk : e - a ≤ k + 1)
    (hmid : (a + e) / 2 = mid) (hl : (mid < m ∧ lo + e = mid + m ∧ hi = mid) ∨ (m ≤ mid ∧ lo = a ∧ hi = m)) :
    Calls Try.prog 128 #[.slice (some ⟨b, 0, none⟩) n cap, .int .i64 a, .int .i64 m, .int .i64 e, cmpV p] W (SymPost b n a e cf f w0) := by
  have H := Lib.hid h
  have HC := Lib.hid hc
  have HP := Lib.hid hp
  have HO := Lib.hid o
  have HM := Lib.hid hm
  have HL := Lib.hid hl
  have IH := Lib.hid ih
  have z1 : ((m : Int) - (a : Int) == 1) = false := by simp; omega
  have z2 : ¬ (m : Int) - (a : Int) = 1 := by omega
  have z3 : ((e : Int) - (m : Int) == 1) = false := by simp; omega
  have z4 : ¬ (e : Int) - (m : Int) = 1 := by omega
  have m1 : a < mid := by omega
  have m2 : mid < e := by omega
  have m3 : 2 * mid ≤ a + e := by omega
  have m4 : a + e ≤ 2 * mid + 1 := by omega
  have em : ((a : Int) + (e : Int)) / 2 = (mid : Int) := by omega
  obtain ⟨pp, hpp⟩ : ∃ pp, mid + m = pp + 1 := ⟨mid + m - 1, by omega⟩
  have HPP := Lib.hid hpp
  have en : (mid : Int) + (m : Int) = (pp : Int) + 1 := by omega
  clear h hc hp o hm ih hmid hpp
  unfold cmpV
  rcases hl with ⟨l1, l2, l3⟩ | ⟨l1, l2, l3⟩
  · have q1 : (mid : Int) < (m : Int) := by omega
    have q2 : (pp : Int) + 1 - (e : Int) = (lo : Int) := by omega
    have L := Lib.hid l3
    clear l2 l3
    go_enter Try.func128, Try.ntmps128
    go_wp2
    clear q1 q2 z1 z2 z3 z4 em en l1
    have L1 : Hid (Value.int .i64 (lo : Int) = .int .i64 lo ∧ Value.int .i64 (mid : Int) = .int .i64 hi) := ⟨rfl, by rw [L.out]⟩
    go_loopw [20, 21] (fun x y wr => ∃ s r : Nat, x = .int .i64 s ∧ y = .int .i64 r ∧ s ≤ r ∧ lo ≤ s ∧ r ≤ hi ∧ Hid (Ord w0 b n f wr) ∧ Hid (Seek cf f pp lo hi s r)) (fun x y _ => (intOf y).toNat - (intOf x).toNat)
    case atStart => exact ⟨lo, hi, L1.out.1, L1.out.2, by have := HL.out; omega, Nat.le_refl _, Nat.le_refl _, H.out, ⟨Nat.le_refl _, by have := HL.out; omega, Nat.le_refl _, Or.inl rfl, Or.inl rfl⟩⟩
    case round =>
      obtain ⟨s, r, rfl, rfl, hsr, hls, hrh, HW, HS⟩ := hrel
      clear H L1
      by_cases hlt : s < r
      · have bb : (s + r) / 2 < n ∧ (s + r) / 2 ≤ pp ∧ pp - (s + r) / 2 < n := by
          have := HL.out; have := HPP.out
          omega
        obtain ⟨c, hc⟩ : ∃ c, c = (s + r) / 2 := ⟨_, rfl⟩
        obtain ⟨u, hu⟩ : ∃ u, u = pp - (s + r) / 2 := ⟨_, rfl⟩
        have ec : ((s : Int) + (r : Int)) / 2 = (c : Int) := by omega
        have eu : (pp : Int) - (c : Int) = (u : Int) := by omega
        have hsc : s ≤ c := by omega
        have hcr : c < r := by omega
        have huc : u = pp - c := by omega
        have bc : c < n := by omega
        have bu : u < n := by omega
        clear bb hu hc
        have cj := HW.out.cell bu
        have ca := HW.out.cell bc
        have hc := fun nn => HC.out.at_ HW.out (HP.out u bu) (HP.out c bc) nn
        obtain ⟨x, hx⟩ : ∃ x, x = f u := ⟨_, rfl⟩
        obtain ⟨y, hy⟩ : ∃ y, y = f c := ⟨_, rfl⟩
        rw [← hx] at cj
        rw [← hy] at ca
        rw [← hx, ← hy] at hc
        have HC2 := Lib.hid hc
        by_cases hlv : cf x y < 0
        · have hd : decide (cf x y < 0) = true := decide_eq_true hlv
          have S : Seek cf f pp lo hi s c := ⟨HS.out.ls, hsc, by have := HS.out.rh; omega, HS.out.dn, Or.inr (by rw [← huc, ← hx, ← hy]; exact hlv)⟩
          have HS2 := Lib.hid S
          clear S hlv hc hx hy huc HS
          go_wp2_with fail
          go_quiet (first | (go_at_call 96; refine Calls.quiet_of (HC2.out _)))
          go_wp2
          go_light
          exact ⟨⟨s, c, rfl, rfl, by omega, by omega, by omega, HW.out.drewN _, HS2.out⟩, by simp [intOf]; omega⟩
        · have hd : decide (cf x y < 0) = false := decide_eq_false hlv
          have S : Seek cf f pp lo hi (c + 1) r := ⟨by have := HS.out.ls; omega, by omega, HS.out.rh, Or.inr (by rw [Nat.add_sub_cancel, ← huc, ← hx, ← hy]; exact hlv), HS.out.up⟩
          have HS2 := Lib.hid S
          clear S hlv hc hx hy huc HS
          go_wp2_with fail
          go_quiet (first | (go_at_call 96; refine Calls.quiet_of (HC2.out _)))
          go_wp2
          go_light
          exact ⟨⟨c + 1, r, by go_num, rfl, by omega, by omega, by omega, HW.out.drewN _, HS2.out⟩, by simp [intOf]; omega⟩
      · obtain rfl : s = r := by omega
        obtain ⟨ee, hee⟩ : ∃ ee, pp + 1 = s + ee := ⟨pp + 1 - s, by have := HL.out; have := HPP.out; omega⟩
        have eee : (pp : Int) + 1 - (s : Int) = (ee : Int) := by omega
        obtain ⟨cut, hsm, hmee⟩ := HS.out.cut HO.out HM.out (by omega) (by omega) m3 m4 HL.out HPP.out hee
        have cee := cut.cee
        have cas := cut.cas
        have HK := Lib.hid cut
        clear cut hee hlt hsr
        by_cases k1 : s < m ∧ m < ee
        · obtain ⟨k1a, k1b⟩ := k1
          by_cases k2 : a < s ∧ s < mid
          · obtain ⟨k2a, k2b⟩ := k2
            by_cases k3 : mid < ee ∧ ee < e
            · obtain ⟨k3a, k3b⟩ := k3
              go_wp2_with fail
              go_at_call 131
              refine (rotate_at HW.out rfl rfl rfl k1a k1b (by omega) hn).mono ?_
              rintro e1 W1 ⟨rfl, G⟩
              have HG := Lib.hid G
              clear G HW
              go_wp2_with fail
              go_at_call 128
              refine (IH.out a s mid _ _ _ _ _ HG.out (HP.out.sub HK.out.sub hen) HK.out.lo rfl rfl rfl k2a k2b (by omega) (by omega)).mono ?_
              rintro e2 W2 ⟨rfl, g1, G, X, Y⟩
              have HG1 := Lib.hid G
              have HX1 := Lib.hid X
              have HY1 := Lib.hid Y
              clear G X Y HG
              go_wp2_with fail
              go_at_call 128
              refine (IH.out mid ee e _ _ _ _ _ HG1.out ((HP.out.sub HK.out.sub hen).sub HX1.out (by omega)) (HK.out.hi_next HX1.out) rfl rfl rfl k3a k3b (by omega) (by omega)).mono ?_
              rintro e3 W3 ⟨rfl, g2, G, X, Y⟩
              have HG2 := Lib.hid G
              have HX2 := Lib.hid X
              have HY2 := Lib.hid Y
              clear G X Y
              go_wp2
              go_end0
              have F := HK.out.fin HX1.out HY1.out HX2.out HY2.out
              exact ⟨rfl, _, HG2.out, F.1, F.2⟩
            · have k3h := Lib.hid k3
              clear k3
              rcases (show ¬ mid < ee ∨ (mid < ee ∧ ¬ ee < e) by have := k3h.out; omega) with g5 | ⟨g5, g6⟩
              all_goals
                go_wp2_with fail
                go_at_call 131
                refine (rotate_at HW.out rfl rfl rfl k1a k1b (by omega) hn).mono ?_
                rintro e1 W1 ⟨rfl, G⟩
                have HG := Lib.hid G
                clear G HW
                go_wp2_with fail
                go_at_call 128
                refine (IH.out a s mid _ _ _ _ _ HG.out (HP.out.sub HK.out.sub hen) HK.out.lo rfl rfl rfl k2a k2b (by omega) (by omega)).mono ?_
                rintro e2 W2 ⟨rfl, g1, G, X, Y⟩
                have HG1 := Lib.hid G
                have HX1 := Lib.hid X
                have HY1 := Lib.hid Y
                clear G X Y HG
                go_wp2
                go_end0
                have F := HK.out.fin HX1.out HY1.out (Sub.refl _ _ _) (HK.out.hi_done HX1.out k3h.out)
                exact ⟨rfl, _, HG1.out, F.1, F.2⟩
          · have k2h := Lib.hid k2
            by_cases k3 : mid < ee ∧ ee < e
            · obtain ⟨k3a, k3b⟩ := k3
              have HK2 := Lib.hid (HK.out.lo_done k2)
              clear k2
              rcases (show ¬ a < s ∨ (a < s ∧ ¬ s < mid) by have := k2h.out; omega) with g3 | ⟨g3, g4⟩
              all_goals
                go_wp2_with fail
                go_at_call 131
                refine (rotate_at HW.out rfl rfl rfl k1a k1b (by omega) hn).mono ?_
                rintro e1 W1 ⟨rfl, G⟩
                have HG := Lib.hid G
                clear G HW
                go_wp2_with fail
                go_at_call 128
                refine (IH.out mid ee e _ _ _ _ _ HG.out ((HP.out.sub HK.out.sub hen).sub (Sub.refl a mid _) (by omega)) (HK.out.hi_next (Sub.refl a mid _)) rfl rfl rfl k3a k3b (by omega) (by omega)).mono ?_
                rintro e3 W3 ⟨rfl, g2, G, X, Y⟩
                have HG2 := Lib.hid G
                have HX2 := Lib.hid X
                have HY2 := Lib.hid Y
                clear G X Y
                go_wp2
                go_end0
                have F := HK.out.fin (Sub.refl a mid _) HK2.out HX2.out HY2.out
                exact ⟨rfl, _, HG2.out, F.1, F.2⟩
            · have k3h := Lib.hid k3
              have HK2 := Lib.hid (HK.out.lo_done k2)
              clear k2
              clear k3
              rcases (show ¬ a < s ∨ (a < s ∧ ¬ s < mid) by have := k2h.out; omega) with g3 | ⟨g3, g4⟩
              all_goals rcases (show ¬ mid < ee ∨ (mid < ee ∧ ¬ ee < e) by have := k3h.out; omega) with g5 | ⟨g5, g6⟩
              all_goals
                go_wp2_with fail
                go_at_call 131
                refine (rotate_at HW.out rfl rfl rfl k1a k1b (by omega) hn).mono ?_
                rintro e1 W1 ⟨rfl, G⟩
                have HG := Lib.hid G
                clear G HW
                go_wp2
                go_end0
                have F := HK.out.fin (Sub.refl a mid _) HK2.out (Sub.refl _ _ _) (HK.out.hi_done (Sub.refl a mid _) k3h.out)
                exact ⟨rfl, _, HG.out, F.1, F.2⟩
        · have hg : rot f s m ee = f := rot_nil hsm hmee (by omega)
          have HG : Hid (Ord w0 b n (rot f s m ee) wr) := by rw [hg]; exact HW.out
          clear HW hg
          have k1h := Lib.hid k1
          clear k1
          by_cases k2 : a < s ∧ s < mid
          · obtain ⟨k2a, k2b⟩ := k2
            by_cases k3 : mid < ee ∧ ee < e
            · obtain ⟨k3a, k3b⟩ := k3
              rcases (show ¬ s < m ∨ (s < m ∧ ¬ m < ee) by have := k1h.out; omega) with g1 | ⟨g1, g2⟩
              all_goals
                go_wp2_with fail
                go_at_call 128
                refine (IH.out a s mid _ _ _ _ _ HG.out (HP.out.sub HK.out.sub hen) HK.out.lo rfl rfl rfl k2a k2b (by omega) (by omega)).mono ?_
                rintro e2 W2 ⟨rfl, g1, G, X, Y⟩
                have HG1 := Lib.hid G
                have HX1 := Lib.hid X
                have HY1 := Lib.hid Y
                clear G X Y HG
                go_wp2_with fail
                go_at_call 128
                refine (IH.out mid ee e _ _ _ _ _ HG1.out ((HP.out.sub HK.out.sub hen).sub HX1.out (by omega)) (HK.out.hi_next HX1.out) rfl rfl rfl k3a k3b (by omega) (by omega)).mono ?_
                rintro e3 W3 ⟨rfl, g2, G, X, Y⟩
                have HG2 := Lib.hid G
                have HX2 := Lib.hid X
                have HY2 := Lib.hid Y
                clear G X Y
                go_wp2
                go_end0
                have F := HK.out.fin HX1.out HY1.out HX2.out HY2.out
                exact ⟨rfl, _, HG2.out, F.1, F.2⟩
            · have k3h := Lib.hid k3
              clear k3
              rcases (show ¬ s < m ∨ (s < m ∧ ¬ m < ee) by have := k1h.out; omega) with g1 | ⟨g1, g2⟩
              all_goals rcases (show ¬ mid < ee ∨ (mid < ee ∧ ¬ ee < e) by have := k3h.out; omega) with g5 | ⟨g5, g6⟩
              all_goals
                go_wp2_with fail
                go_at_call 128
                refine (IH.out a s mid _ _ _ _ _ HG.out (HP.out.sub HK.out.sub hen) HK.out.lo rfl rfl rfl k2a k2b (by omega) (by omega)).mono ?_
                rintro e2 W2 ⟨rfl, g1, G, X, Y⟩
                have HG1 := Lib.hid G
                have HX1 := Lib.hid X
                have HY1 := Lib.hid Y
                clear G X Y HG
                go_wp2
                go_end0
                have F := HK.out.fin HX1.out HY1.out (Sub.refl _ _ _) (HK.out.hi_done HX1.out k3h.out)
                exact ⟨rfl, _, HG1.out, F.1, F.2⟩
          · have k2h := Lib.hid k2
            by_cases k3 : mid < ee ∧ ee < e
            · obtain ⟨k3a, k3b⟩ := k3
              have HK2 := Lib.hid (HK.out.lo_done k2)
              clear k2
              rcases (show ¬ s < m ∨ (s < m ∧ ¬ m < ee) by have := k1h.out; omega) with g1 | ⟨g1, g2⟩
              all_goals rcases (show ¬ a < s ∨ (a < s ∧ ¬ s < mid) by have := k2h.out; omega) with g3 | ⟨g3, g4⟩
              all_goals
                go_wp2_with fail
                go_at_call 128
                refine (IH.out mid ee e _ _ _ _ _ HG.out ((HP.out.sub HK.out.sub hen).sub (Sub.refl a mid _) (by omega)) (HK.out.hi_next (Sub.refl a mid _)) rfl rfl rfl k3a k3b (by omega) (by omega)).mono ?_
                rintro e3 W3 ⟨rfl, g2, G, X, Y⟩
                have HG2 := Lib.hid G
                have HX2 := Lib.hid X
                have HY2 := Lib.hid Y
                clear G X Y
                go_wp2
                go_end0
                have F := HK.out.fin (Sub.refl a mid _) HK2.out HX2.out HY2.out
                exact ⟨rfl, _, HG2.out, F.1, F.2⟩
            · have k3h := Lib.hid k3
              have HK2 := Lib.hid (HK.out.lo_done k2)
              clear k2
              clear k3
              rcases (show ¬ s < m ∨ (s < m ∧ ¬ m < ee) by have := k1h.out; omega) with g1 | ⟨g1, g2⟩
              all_goals rcases (show ¬ a < s ∨ (a < s ∧ ¬ s < mid) by have := k2h.out; omega) with g3 | ⟨g3, g4⟩
              all_goals rcases (show ¬ mid < ee ∨ (mid < ee ∧ ¬ ee < e) by have := k3h.out; omega) with g5 | ⟨g5, g6⟩
              all_goals
                go_wp2
                go_end0
                have F := HK.out.fin (Sub.refl a mid _) HK2.out (Sub.refl _ _ _) (HK.out.hi_done (Sub.refl a mid _) k3h.out)
                exact ⟨rfl, _, HG.out, F.1, F.2⟩
  · have q1 : ¬ (mid : Int) < (m : Int) := by omega
    have L := Lib.hid (And.intro l2 l3)
    clear l2 l3
    go_enter Try.func128, Try.ntmps128
    go_wp2
    clear q1 z1 z2 z3 z4 em en l1
    have L1 : Hid (Value.int .i64 (a : Int) = .int .i64 lo ∧ Value.int .i64 (m : Int) = .int .i64 hi) := ⟨by rw [L.out.1], by rw [L.out.2]⟩
    go_loopw [20, 21] (fun x y wr => ∃ s r : Nat, x = .int .i64 s ∧ y = .int .i64 r ∧ s ≤ r ∧ lo ≤ s ∧ r ≤ hi ∧ Hid (Ord w0 b n f wr) ∧ Hid (Seek cf f pp lo hi s r)) (fun x y _ => (intOf y).toNat - (intOf x).toNat)
    case atStart => exact ⟨lo, hi, L1.out.1, L1.out.2, by have := HL.out; omega, Nat.le_refl _, Nat.le_refl _, H.out, ⟨Nat.le_refl _, by have := HL.out; omega, Nat.le_refl _, Or.inl rfl, Or.inl rfl⟩⟩
    case round =>
      obtain ⟨s, r, rfl, rfl, hsr, hls, hrh, HW, HS⟩ := hrel
      clear H L1
      by_cases hlt : s < r
      · have bb : (s + r) / 2 < n ∧ (s + r) / 2 ≤ pp ∧ pp - (s + r) / 2 < n := by
          have := HL.out; have := HPP.out
          omega
        obtain ⟨c, hc⟩ : ∃ c, c = (s + r) / 2 := ⟨_, rfl⟩
        obtain ⟨u, hu⟩ : ∃ u, u = pp - (s + r) / 2 := ⟨_, rfl⟩
        have ec : ((s : Int) + (r : Int)) / 2 = (c : Int) := by omega
        have eu : (pp : Int) - (c : Int) = (u : Int) := by omega
        have hsc : s ≤ c := by omega
        have hcr : c < r := by omega
        have huc : u = pp - c := by omega
        have bc : c < n := by omega
        have bu : u < n := by omega
        clear bb hu hc
        have cj := HW.out.cell bu
        have ca := HW.out.cell bc
        have hc := fun nn => HC.out.at_ HW.out (HP.out u bu) (HP.out c bc) nn
        obtain ⟨x, hx⟩ : ∃ x, x = f u := ⟨_, rfl⟩
        obtain ⟨y, hy⟩ : ∃ y, y = f c := ⟨_, rfl⟩
        rw [← hx] at cj
        rw [← hy] at ca
        rw [← hx, ← hy] at hc
        have HC2 := Lib.hid hc
        by_cases hlv : cf x y < 0
        · have hd : decide (cf x y < 0) = true := decide_eq_true hlv
          have S : Seek cf f pp lo hi s c := ⟨HS.out.ls, hsc, by have := HS.out.rh; omega, HS.out.dn, Or.inr (by rw [← huc, ← hx, ← hy]; exact hlv)⟩
          have HS2 := Lib.hid S
          clear S hlv hc hx hy huc HS
          go_wp2_with fail
          go_quiet (first | (go_at_call 96; refine Calls.quiet_of (HC2.out _)))
          go_wp2
          go_light
          exact ⟨⟨s, c, rfl, rfl, by omega, by omega, by omega, HW.out.drewN _, HS2.out⟩, by simp [intOf]; omega⟩
        · have hd : decide (cf x y < 0) = false := decide_eq_false hlv
          have S : Seek cf f pp lo hi (c + 1) r := ⟨by have := HS.out.ls; omega, by omega, HS.out.rh, Or.inr (by rw [Nat.add_sub_cancel, ← huc, ← hx, ← hy]; exact hlv), HS.out.up⟩
          have HS2 := Lib.hid S
          clear S hlv hc hx hy huc HS
          go_wp2_with fail
          go_quiet (first | (go_at_call 96; refine Calls.quiet_of (HC2.out _)))
          go_wp2
          go_light
          exact ⟨⟨c + 1, r, by go_num, rfl, by omega, by omega, by omega, HW.out.drewN _, HS2.out⟩, by simp [intOf]; omega⟩
      · obtain rfl : s = r := by omega
        obtain ⟨ee, hee⟩ : ∃ ee, pp + 1 = s + ee := ⟨pp + 1 - s, by have := HL.out; have := HPP.out; omega⟩
        have eee : (pp : Int) + 1 - (s : Int) = (ee : Int) := by omega
        obtain ⟨cut, hsm, hmee⟩ := HS.out.cut HO.out HM.out (by omega) (by omega) m3 m4 HL.out HPP.out hee
        have cee := cut.cee
        have cas := cut.cas
        have HK := Lib.hid cut
        clear cut hee hlt hsr
        by_cases k1 : s < m ∧ m < ee
        · obtain ⟨k1a, k1b⟩ := k1
          by_cases k2 : a < s ∧ s < mid
          · obtain ⟨k2a, k2b⟩ := k2
            by_cases k3 : mid < ee ∧ ee < e
            · obtain ⟨k3a, k3b⟩ := k3
              go_wp2_with fail
              go_at_call 131
              refine (rotate_at HW.out rfl rfl rfl k1a k1b (by omega) hn).mono ?_
              rintro e1 W1 ⟨rfl, G⟩
              have HG := Lib.hid G
              clear G HW
              go_wp2_with fail
              go_at_call 128
              refine (IH.out a s mid _ _ _ _ _ HG.out (HP.out.sub HK.out.sub hen) HK.out.lo rfl rfl rfl k2a k2b (by omega) (by omega)).mono ?_
              rintro e2 W2 ⟨rfl, g1, G, X, Y⟩
              have HG1 := Lib.hid G
              have HX1 := Lib.hid X
              have HY1 := Lib.hid Y
              clear G X Y HG
              go_wp2_with fail
              go_at_call 128
              refine (IH.out mid ee e _ _ _ _ _ HG1.out ((HP.out.sub HK.out.sub hen).sub HX1.out (by omega)) (HK.out.hi_next HX1.out) rfl rfl rfl k3a k3b (by omega) (by omega)).mono ?_
              rintro e3 W3 ⟨rfl, g2, G, X, Y⟩
              have HG2 := Lib.hid G
              have HX2 := Lib.hid X
              have HY2 := Lib.hid Y
              clear G X Y
              go_wp2
              go_end0
              have F := HK.out.fin HX1.out HY1.out HX2.out HY2.out
              exact ⟨rfl, _, HG2.out, F.1, F.2⟩
            · have k3h := Lib.hid k3
              clear k3
              rcases (show ¬ mid < ee ∨ (mid < ee ∧ ¬ ee < e) by have := k3h.out; omega) with g5 | ⟨g5, g6⟩
              all_goals
                go_wp2_with fail
                go_at_call 131
                refine (rotate_at HW.out rfl rfl rfl k1a k1b (by omega) hn).mono ?_
                rintro e1 W1 ⟨rfl, G⟩
                have HG := Lib.hid G
                clear G HW
                go_wp2_with fail
                go_at_call 128
                refine (IH.out a s mid _ _ _ _ _ HG.out (HP.out.sub HK.out.sub hen) HK.out.lo rfl rfl rfl k2a k2b (by omega) (by omega)).mono ?_
                rintro e2 W2 ⟨rfl, g1, G, X, Y⟩
                have HG1 := Lib.hid G
                have HX1 := Lib.hid X
                have HY1 := Lib.hid Y
                clear G X Y HG
                go_wp2
                go_end0
                have F := HK.out.fin HX1.out HY1.out (Sub.refl _ _ _) (HK.out.hi_done HX1.out k3h.out)
                exact ⟨rfl, _, HG1.out, F.1, F.2⟩
          · have k2h := Lib.hid k2
            by_cases k3 : mid < ee ∧ ee < e
            · obtain ⟨k3a, k3b⟩ := k3
              have HK2 := Lib.hid (HK.out.lo_done k2)
              clear k2
              rcases (show ¬ a < s ∨ (a < s ∧ ¬ s < mid) by have := k2h.out; omega) with g3 | ⟨g3, g4⟩
              all_goals
                go_wp2_with fail
                go_at_call 131
                refine (rotate_at HW.out rfl rfl rfl k1a k1b (by omega) hn).mono ?_
                rintro e1 W1 ⟨rfl, G⟩
                have HG := Lib.hid G
                clear G HW
                go_wp2_with fail
                go_at_call 128
                refine (IH.out mid ee e _ _ _ _ _ HG.out ((HP.out.sub HK.out.sub hen).sub (Sub.refl a mid _) (by omega)) (HK.out.hi_next (Sub.refl a mid _)) rfl rfl rfl k3a k3b (by omega) (by omega)).mono ?_
                rintro e3 W3 ⟨rfl, g2, G, X, Y⟩
                have HG2 := Lib.hid G
                have HX2 := Lib.hid X
                have HY2 := Lib.hid Y
                clear G X Y
                go_wp2
                go_end0
                have F := HK.out.fin (Sub.refl a mid _) HK2.out HX2.out HY2.out
                exact ⟨rfl, _, HG2.out, F.1, F.2⟩
            · have k3h := Lib.hid k3
              have HK2 := Lib.hid (HK.out.lo_done k2)
              clear k2
              clear k3
              rcases (show ¬ a < s ∨ (a < s ∧ ¬ s < mid) by have := k2h.out; omega) with g3 | ⟨g3, g4⟩
              all_goals rcases (show ¬ mid < ee ∨ (mid < ee ∧ ¬ ee < e) by have := k3h.out; omega) with g5 | ⟨g5, g6⟩
              all_goals
                go_wp2_with fail
                go_at_call 131
                refine (rotate_at HW.out rfl rfl rfl k1a k1b (by omega) hn).mono ?_
                rintro e1 W1 ⟨rfl, G⟩
                have HG := Lib.hid G
                clear G HW
                go_wp2
                go_end0
                have F := HK.out.fin (Sub.refl a mid _) HK2.out (Sub.refl _ _ _) (HK.out.hi_done (Sub.refl a mid _) k3h.out)
                exact ⟨rfl, _, HG.out, F.1, F.2⟩
        · have hg : rot f s m ee = f := rot_nil hsm hmee (by omega)
          have HG : Hid (Ord w0 b n (rot f s m ee) wr) := by rw [hg]; exact HW.out
          clear HW hg
          have k1h := Lib.hid k1
          clear k1
          by_cases k2 : a < s ∧ s < mid
          · obtain ⟨k2a, k2b⟩ := k2
            by_cases k3 : mid < ee ∧ ee < e
            · obtain ⟨k3a, k3b⟩ := k3
              rcases (show ¬ s < m ∨ (s < m ∧ ¬ m < ee) by have := k1h.out; omega) with g1 | ⟨g1, g2⟩
              all_goals
                go_wp2_with fail
                go_at_call 128
                refine (IH.out a s mid _ _ _ _ _ HG.out (HP.out.sub HK.out.sub hen) HK.out.lo rfl rfl rfl k2a k2b (by omega) (by omega)).mono ?_
                rintro e2 W2 ⟨rfl, g1, G, X, Y⟩
                have HG1 := Lib.hid G
                have HX1 := Lib.hid X
                have HY1 := Lib.hid Y
                clear G X Y HG
                go_wp2_with fail
                go_at_call 128
                refine (IH.out mid ee e _ _ _ _ _ HG1.out ((HP.out.sub HK.out.sub hen).sub HX1.out (by omega)) (HK.out.hi_next HX1.out) rfl rfl rfl k3a k3b (by omega) (by omega)).mono ?_
                rintro e3 W3 ⟨rfl, g2, G, X, Y⟩
                have HG2 := Lib.hid G
                have HX2 := Lib.hid X
                have HY2 := Lib.hid Y
                clear G X Y
                go_wp2
                go_end0
                have F := HK.out.fin HX1.out HY1.out HX2.out HY2.out
                exact ⟨rfl, _, HG2.out, F.1, F.2⟩
            · have k3h := Lib.hid k3
              clear k3
              rcases (show ¬ s < m ∨ (s < m ∧ ¬ m < ee) by have := k1h.out; omega) with g1 | ⟨g1, g2⟩
              all_goals rcases (show ¬ mid < ee ∨ (mid < ee ∧ ¬ ee < e) by have := k3h.out; omega) with g5 | ⟨g5, g6⟩
              all_goals
                go_wp2_with fail
                go_at_call 128
                refine (IH.out a s mid _ _ _ _ _ HG.out (HP.out.sub HK.out.sub hen) HK.out.lo rfl rfl rfl k2a k2b (by omega) (by omega)).mono ?_
                rintro e2 W2 ⟨rfl, g1, G, X, Y⟩
                have HG1 := Lib.hid G
                have HX1 := Lib.hid X
                have HY1 := Lib.hid Y
                clear G X Y HG
                go_wp2
                go_end0
                have F := HK.out.fin HX1.out HY1.out (Sub.refl _ _ _) (HK.out.hi_done HX1.out k3h.out)
                exact ⟨rfl, _, HG1.out, F.1, F.2⟩
          · have k2h := Lib.hid k2
            by_cases k3 : mid < ee ∧ ee < e
            · obtain ⟨k3a, k3b⟩ := k3
              have HK2 := Lib.hid (HK.out.lo_done k2)
              clear k2
              rcases (show ¬ s < m ∨ (s < m ∧ ¬ m < ee) by have := k1h.out; omega) with g1 | ⟨g1, g2⟩
              all_goals rcases (show ¬ a < s ∨ (a < s ∧ ¬ s < mid) by have := k2h.out; omega) with g3 | ⟨g3, g4⟩
              all_goals
                go_wp2_with fail
                go_at_call 128
                refine (IH.out mid ee e _ _ _ _ _ HG.out ((HP.out.sub HK.out.sub hen).sub (Sub.refl a mid _) (by omega)) (HK.out.hi_next (Sub.refl a mid _)) rfl rfl rfl k3a k3b (by omega) (by omega)).mono ?_
                rintro e3 W3 ⟨rfl, g2, G, X, Y⟩
                have HG2 := Lib.hid G
                have HX2 := Lib.hid X
                have HY2 := Lib.hid Y
                clear G X Y
                go_wp2
                go_end0
                have F := HK.out.fin (Sub.refl a mid _) HK2.out HX2.out HY2.out
                exact ⟨rfl, _, HG2.out, F.1, F.2⟩
            · have k3h := Lib.hid k3
              have HK2 := Lib.hid (HK.out.lo_done k2)
              clear k2
              clear k3
              rcases (show ¬ s < m ∨ (s < m ∧ ¬ m < ee) by have := k1h.out; omega) with g1 | ⟨g1, g2⟩
              all_goals rcases (show ¬ a < s ∨ (a < s ∧ ¬ s < mid) by have := k2h.out; omega) with g3 | ⟨g3, g4⟩
              all_goals rcases (show ¬ mid < ee ∨ (mid < ee ∧ ¬ ee < e) by have := k3h.out; omega) with g5 | ⟨g5, g6⟩
              all_goals
                go_wp2
                go_end0
                have F := HK.out.fin (Sub.refl a mid _) HK2.out (Sub.refl _ _ _) (HK.out.hi_done (Sub.refl a mid _) k3h.out)
                exact ⟨rfl, _, HG.out, F.1, F.2⟩
theorem sym_any {cap b n p : Nat} {cf : Nat → Nat → Int} {w0 : World} (hc : CmpA p w0 b n cf) (o : Ordr (Lt cf)) (hn : n < 8796093022208) : ∀ k, SymOk cap b n p cf w0 k
  | 0 => fun a m e f W x y z h hp hm hx hy hz ham hme hen hk => by omega
  | k + 1 => fun a m e f W x y z h hp hm hx hy hz ham hme hen hk => by
    subst hx hy hz
    by_cases h1 : m = a + 1
    · exact sym_left cap b n a m e p f cf w0 W hc o h hp hm h1 hme hen hn
    · by_cases h2 : e = m + 1
      · exact sym_right cap b n a m e p f cf w0 W hc o h hp hm (by omega) h2 hen hn
      · by_cases h3 : (a + e) / 2 < m
        · exact sym_gen cap b n a m e p k ((a + e) / 2) ((a + e) / 2 + m - e) ((a + e) / 2) f cf w0 W (sym_any hc o hn k) hc o h hp hm (by omega) (by omega) hen hn hk rfl (Or.inl ⟨h3, by omega, rfl⟩)
        · exact sym_gen cap b n a m e p k ((a + e) / 2) a m f cf w0 W (sym_any hc o hn k) hc o h hp hm (by omega) (by omega) hen hn hk rfl (Or.inr ⟨by omega, rfl, rfl⟩)
end Go.Proofs.Ytjkoceacjbhblaa
