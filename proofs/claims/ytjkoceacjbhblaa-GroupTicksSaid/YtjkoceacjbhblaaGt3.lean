/- Parts of a proof, merged: SrtE, SrtF, SrtG, SrtH, SrtI, Tells. No condition. -/
import Derived.Test.YtjkoceacjbhblaaGt2
import Derived.Test.YtjkoceacjbhblaaGt1
namespace Go.Proofs.Ytjkoceacjbhblaa
open Go.RowKit

def SymPost (b n a e : Nat) (cf : Nat → Nat → Int) (f : Nat → Nat) (w0 : World) (e' : Ending) (w' : World) : Prop := e' = .returned (.tuple #[]) ∧ ∃ g, Ord w0 b n g w' ∧ Sub a e f g ∧ Srt (Lt cf) g a e
theorem carryUp_at {f : Nat → Nat} {a k : Nat} : carryUp f a k k = f a := by
  unfold carryUp
  rw [if_neg (by omega), if_pos rfl]
theorem carryUp_hi {f : Nat → Nat} {a k : Nat} : carryUp f a k (k + 1) = f (k + 1) := by
  unfold carryUp
  rw [if_neg (by omega), if_neg (by omega)]

set_option maxRecDepth 100000 in
set_option maxHeartbeats 4000000 in
theorem sym_left (cap b n a m e p : Nat) (f : Nat → Nat) (cf : Nat → Nat → Int) (w0 W : World) (hc : CmpA p w0 b n cf) (o : Ordr (Lt cf)) (h : Ord w0 b n f W) (hp : Plc n f) (hm : MPre (Lt cf) f a m e) (ham : m = a + 1) (hme : m < e) (hen : e ≤ n) (hn : n < 8796093022208) :
    Calls Try.prog 128 #[.slice (some ⟨b, 0, none⟩) n cap, .int .i64 a, .int .i64 m, .int .i64 e, cmpV p] W (SymPost b n a e cf f w0) := by
  have H := Lib.hid h
  have HC := Lib.hid hc
  have HP := Lib.hid hp
  have HO := Lib.hid o
  have HM := Lib.hid hm
  have z1 : ((m : Int) - (a : Int) == 1) = true := by simp; omega
  have z2 : (m : Int) - (a : Int) = 1 := by omega
  have ham' : a < m := by omega
  have HA := Lib.hid ham
  clear h hc hp o hm ham
  unfold cmpV
  go_enter Try.func128, Try.ntmps128
  go_wp2
  clear z1 z2
  go_loopw [10, 11] (fun x y wr => ∃ i j : Nat, m ≤ i ∧ i ≤ j ∧ j ≤ e ∧ x = .int .i64 i ∧ y = .int .i64 j ∧ Hid (Ord w0 b n f wr) ∧ Hid (i = m ∨ Lt cf (f (i - 1)) (f a)) ∧ Hid (j = e ∨ ¬ Lt cf (f j) (f a))) (fun x y _ => (intOf y).toNat - (intOf x).toNat)
  case atStart => exact ⟨m, e, Nat.le_refl _, by omega, Nat.le_refl _, rfl, rfl, H.out, Or.inl rfl, Or.inl rfl⟩
  case round =>
    obtain ⟨i, j, hmi, hij, hje, rfl, rfl, HW, HL, HR⟩ := hrel
    clear H
    by_cases hlt : i < j
    · have cj := HW.out.cell (i := (i + j) / 2) (by omega)
      have ca := HW.out.cell (i := a) (by omega)
      have hc := fun m => HC.out.at_ HW.out (HP.out ((i + j) / 2) (by omega)) (HP.out a (by omega)) m
      obtain ⟨x, hx⟩ : ∃ x, x = f ((i + j) / 2) := ⟨_, rfl⟩
      obtain ⟨y, hy⟩ : ∃ y, y = f a := ⟨_, rfl⟩
      rw [← hx] at cj
      rw [← hy] at ca
      rw [← hx, ← hy] at hc
      have HX := Lib.hid hx
      have HY := Lib.hid hy
      have HC2 := Lib.hid hc
      clear hc hx hy
      by_cases hlv : cf x y < 0
      · have hd : decide (cf x y < 0) = true := decide_eq_true hlv
        have S : Lt cf (f ((i + j) / 2)) (f a) := by rw [← HX.out, ← HY.out]; exact hlv
        have HS := Lib.hid S
        clear S hlv
        go_wp2_with fail
        go_quiet (first | (go_at_call 96; refine Calls.quiet_of (HC2.out _)))
        go_wp2
        go_light
        exact ⟨⟨(i + j) / 2 + 1, j, by omega, by omega, hje, by rw [show ((i : Int) + (j : Int)) / 2 + 1 = (((i + j) / 2 + 1 : Nat) : Int) by omega], rfl, HW.out.drewN _, Or.inr HS.out, HR.out⟩, by simp [intOf]; omega⟩
      · have hd : decide (cf x y < 0) = false := decide_eq_false hlv
        have S : ¬ Lt cf (f ((i + j) / 2)) (f a) := by rw [← HX.out, ← HY.out]; exact hlv
        have HS := Lib.hid S
        clear S hlv
        go_wp2_with fail
        go_quiet (first | (go_at_call 96; refine Calls.quiet_of (HC2.out _)))
        go_wp2
        go_light
        exact ⟨⟨i, (i + j) / 2, by omega, by omega, by omega, rfl, by rw [show ((i : Int) + (j : Int)) / 2 = (((i + j) / 2 : Nat) : Int) by omega], HW.out.drewN _, HL.out, Or.inr HS.out⟩, by simp [intOf]; omega⟩
    · obtain rfl : i = j := by omega
      obtain ⟨q, rfl⟩ : ∃ q, i = q + 1 := ⟨i - 1, by omega⟩
      go_wp2
      go_loopw [13] (fun x wr2 => ∃ k : Nat, a ≤ k ∧ k ≤ q ∧ x = .int .i64 k ∧ Hid (Ord w0 b n (carryUp f a k) wr2)) (fun x _ => q - (intOf x).toNat)
      case atStart => exact ⟨a, Nat.le_refl _, by omega, rfl, by rw [carryUp_self]; exact HW.out⟩
      case round =>
        obtain ⟨k, hak, hkq, rfl, HV⟩ := hrel
        clear HW
        by_cases hk : k < q
        · have hz : (k : Int) < (q : Int) := by omega
          have ck := HV.out.cell (i := k) (by omega)
          have cl := HV.out.cell (i := k + 1) (by omega)
          have fk := HV.out.frozen k
          have fl := HV.out.frozen (k + 1)
          rw [carryUp_at] at ck
          rw [carryUp_hi] at cl
          have S := HV.out.swap k (k + 1)
          rw [carryUp_step hak, carryUp_at, carryUp_hi] at S
          obtain ⟨u, cu⟩ := HV.out.c2 (i := k) (j := k + 1) (by omega) (f (k + 1))
          obtain ⟨x, hx⟩ : ∃ x, x = f a := ⟨_, rfl⟩
          obtain ⟨y, hy⟩ : ∃ y, y = f (k + 1) := ⟨_, rfl⟩
          rw [← hx] at ck
          rw [← hy] at cl cu
          rw [← hx, ← hy] at S
          have b1 : (k : Int) + 1 < (n : Int) := by omega
          have b0 : (k : Int) < (n : Int) := by omega
          have p1 : (0 : Int) ≤ (k : Int) + 1 := by omega
          have w1 : IntKind.i64.wrap ((k : Int) + 1) = (k : Int) + 1 := by rw [IntKind.wrap_i64]; omega
          have HS := Lib.hid S
          clear S hx hy HV
          go_wp2_with fail
          go_big_region
          all_goals go_wp2
          all_goals go_light
          all_goals exact ⟨⟨k + 1, by omega, by omega, by go_num, HS.out.drew⟩, by simp [intOf]; omega⟩
        · obtain rfl : k = q := by omega
          have hz : ¬ (k : Int) < (k : Int) := by omega
          go_wp2
          go_end0
          have ham := HA.out
          subst ham
          refine ⟨rfl, _, HV.out, Sub.carryUp (by omega) hak, ?_⟩
          exact one_left HO.out HM.out hmi hje HL.out HR.out
end Go.Proofs.Ytjkoceacjbhblaa
namespace Go.Proofs.Ytjkoceacjbhblaa
open Go.RowKit

set_option maxRecDepth 100000 in
set_option maxHeartbeats 4000000 in
theorem sym_right (cap b n a m e p : Nat) (f : Nat → Nat) (cf : Nat → Nat → Int) (w0 W : World) (hc : CmpA p w0 b n cf) (o : Ordr (Lt cf)) (h : Ord w0 b n f W) (hp : Plc n f) (hm : MPre (Lt cf) f a m e) (ham : a + 1 < m) (hme : e = m + 1) (hen : e ≤ n) (hn : n < 8796093022208) :
    Calls Try.prog 128 #[.slice (some ⟨b, 0, none⟩) n cap, .int .i64 a, .int .i64 m, .int .i64 e, cmpV p] W (SymPost b n a e cf f w0) := by
  have H := Lib.hid h
  have HC := Lib.hid hc
  have HP := Lib.hid hp
  have HO := Lib.hid o
  have HM := Lib.hid hm
  have z1 : ((m : Int) - (a : Int) == 1) = false := by simp; omega
  have z2 : ¬ (m : Int) - (a : Int) = 1 := by omega
  have z3 : ((e : Int) - (m : Int) == 1) = true := by simp; omega
  have z4 : (e : Int) - (m : Int) = 1 := by omega
  have hme' : m < e := by omega
  have HA := Lib.hid hme
  clear h hc hp o hm hme
  unfold cmpV
  go_enter Try.func128, Try.ntmps128
  go_wp2
  clear z1 z2 z3 z4
  go_loopw [14, 15] (fun x y wr => ∃ i j : Nat, a ≤ i ∧ i ≤ j ∧ j ≤ m ∧ x = .int .i64 i ∧ y = .int .i64 j ∧ Hid (Ord w0 b n f wr) ∧ Hid (i = a ∨ ¬ Lt cf (f m) (f (i - 1))) ∧ Hid (j = m ∨ Lt cf (f m) (f j))) (fun x y _ => (intOf y).toNat - (intOf x).toNat)
  case atStart => exact ⟨a, m, Nat.le_refl _, by omega, Nat.le_refl _, rfl, rfl, H.out, Or.inl rfl, Or.inl rfl⟩
  case round =>
    obtain ⟨i, j, hai, hij, hjm, rfl, rfl, HW, HL, HR⟩ := hrel
    clear H
    by_cases hlt : i < j
    · have cj := HW.out.cell (i := (i + j) / 2) (by omega)
      have ca := HW.out.cell (i := m) (by omega)
      have hc := fun nn => HC.out.at_ HW.out (HP.out m (by omega)) (HP.out ((i + j) / 2) (by omega)) nn
      obtain ⟨x, hx⟩ : ∃ x, x = f ((i + j) / 2) := ⟨_, rfl⟩
      obtain ⟨y, hy⟩ : ∃ y, y = f m := ⟨_, rfl⟩
      rw [← hx] at cj
      rw [← hy] at ca
      rw [← hx, ← hy] at hc
      have HX := Lib.hid hx
      have HY := Lib.hid hy
      have HC2 := Lib.hid hc
      clear hc hx hy
      by_cases hlv : cf y x < 0
      · have hd : decide (cf y x < 0) = true := decide_eq_true hlv
        have S : Lt cf (f m) (f ((i + j) / 2)) := by rw [← HX.out, ← HY.out]; exact hlv
        have HS := Lib.hid S
        clear S hlv
        go_wp2_with fail
        go_quiet (first | (go_at_call 96; refine Calls.quiet_of (HC2.out _)))
        go_wp2
        go_light
        exact ⟨⟨i, (i + j) / 2, hai, by omega, by omega, rfl, by rw [show ((i : Int) + (j : Int)) / 2 = (((i + j) / 2 : Nat) : Int) by omega], HW.out.drewN _, HL.out, Or.inr HS.out⟩, by simp [intOf]; omega⟩
      · have hd : decide (cf y x < 0) = false := decide_eq_false hlv
        have S : ¬ Lt cf (f m) (f ((i + j) / 2)) := by rw [← HX.out, ← HY.out]; exact hlv
        have HS := Lib.hid S
        clear S hlv
        go_wp2_with fail
        go_quiet (first | (go_at_call 96; refine Calls.quiet_of (HC2.out _)))
        go_wp2
        go_light
        exact ⟨⟨(i + j) / 2 + 1, j, by omega, by omega, hjm, by rw [show ((i : Int) + (j : Int)) / 2 + 1 = (((i + j) / 2 + 1 : Nat) : Int) by omega], rfl, HW.out.drewN _, Or.inr HS.out, HR.out⟩, by simp [intOf]; omega⟩
    · obtain rfl : i = j := by omega
      go_wp2
      go_loopw [17] (fun x wr2 => ∃ k : Nat, i ≤ k ∧ k ≤ m ∧ x = .int .i64 k ∧ Hid (Ord w0 b n (downTo f k m) wr2)) (fun x _ => (intOf x).toNat)
      case atStart => exact ⟨m, by omega, Nat.le_refl _, rfl, by rw [downTo_self]; exact HW.out⟩
      case round =>
        obtain ⟨k, hik, hkm, rfl, HV⟩ := hrel
        clear HW
        by_cases hk : i < k
        · obtain ⟨q, rfl⟩ : ∃ q, k = q + 1 := ⟨k - 1, by omega⟩
          have hz : (i : Int) < (q : Int) + 1 := by omega
          have ck := HV.out.cell (i := q + 1) (by omega)
          have cl := HV.out.cell (i := q) (by omega)
          have fk := HV.out.frozen (q + 1)
          have fl := HV.out.frozen q
          rw [downTo_at] at ck
          rw [downTo_lo] at cl
          have S := HV.out.swap (q + 1) q
          rw [downTo_step (by omega), downTo_at, downTo_lo] at S
          obtain ⟨u, cu⟩ := HV.out.c2 (i := q + 1) (j := q) (by omega) (f q)
          obtain ⟨x, hx⟩ : ∃ x, x = f m := ⟨_, rfl⟩
          obtain ⟨y, hy⟩ : ∃ y, y = f q := ⟨_, rfl⟩
          rw [← hx] at ck
          rw [← hy] at cl cu
          rw [← hx, ← hy] at S
          have b1 : (q : Int) + 1 < (n : Int) := by omega
          have b0 : (q : Int) < (n : Int) := by omega
          have p1 : (0 : Int) ≤ (q : Int) + 1 := by omega
          have w1 : IntKind.i64.wrap (q : Int) = (q : Int) := by rw [IntKind.wrap_i64]; omega
          have e1 : ((q : Int) + 1).toNat = q + 1 := by omega
          have HS := Lib.hid S
          clear S hx hy HV
          go_wp2_with fail
          go_big_region
          all_goals go_wp2
          all_goals go_light
          all_goals exact ⟨⟨q, by omega, by omega, by first | rfl | go_num, HS.out.drew⟩, by simp [intOf]⟩
        · obtain rfl : k = i := by omega
          have hz : ¬ (k : Int) < (k : Int) := by omega
          go_wp2
          go_end0
          have hme := HA.out
          subst hme
          refine ⟨rfl, _, HV.out, Sub.downTo hai hkm (Nat.lt_succ_self _), ?_⟩
          exact one_right HO.out HM.out.left (fun k k1 k2 => HM.out.under k m k1 k2 (Nat.le_refl _) (Nat.lt_succ_self _)) hai hjm HL.out HR.out
end Go.Proofs.Ytjkoceacjbhblaa
namespace Go.Proofs.Ytjkoceacjbhblaa
open Go.RowKit

/-- merges of stretches of at most k -/
def SymOk (cap b n p : Nat) (cf : Nat → Nat → Int) (w0 : World) (k : Nat) : Prop :=
  ∀ (a m e : Nat) (f : Nat → Nat) (W : World) (x y z : Int), Ord w0 b n f W → Plc n f → MPre (Lt cf) f a m e → x = (a : Int) → y = (m : Int) → z = (e : Int) → a < m → m < e → e ≤ n → e - a ≤ k →
    Calls Try.prog 128 #[.slice (some ⟨b, 0, none⟩) n cap, .int .i64 x, .int .i64 y, .int .i64 z, cmpV p] W (SymPost b n a e cf f w0)
theorem rotate_at {cap b n a m e : Nat} {f : Nat → Nat} {cv : Value} {w0 W : World} {x y z : Int} (h : Ord w0 b n f W) (hx : x = (a : Int)) (hy : y = (m : Int)) (hz : z = (e : Int)) (ham : a < m) (hme : m < e) (hen : e ≤ n) (hn : n < 8796093022208) :
    Calls Try.prog 131 #[.slice (some ⟨b, 0, none⟩) n cap, .int .i64 x, .int .i64 y, .int .i64 z, cv] W fun e' w' => e' = .returned (.tuple #[]) ∧ Ord w0 b n (rot f a m e) w' := by
  subst hx hy hz
  exact rotate_any cap b n a m e f cv w0 W h ham hme hen hn
/-- while the cut is sought -/
structure Seek (cf : Nat → Nat → Int) (f : Nat → Nat) (pp lo hi s r : Nat) : Prop where
  ls : lo ≤ s
  sr : s ≤ r
  rh : r ≤ hi
  dn : s = lo ∨ ¬ Lt cf (f (pp - (s - 1))) (f (s - 1))
  up : r = hi ∨ Lt cf (f (pp - r)) (f r)
theorem MPre.same {L : Nat → Nat → Prop} {f g : Nat → Nat} {a m b : Nat} (h : MPre L f a m b) (ham : a ≤ m) (hmb : m ≤ b) (e : ∀ k, a ≤ k → k < b → g k = f k) : MPre L g a m b :=
  ⟨h.left.same fun k k1 k2 => e k k1 (by omega), h.right.same fun k k1 k2 => e k (by omega) k2, fun i j i1 i2 j1 j2 => by rw [e i i1 (by omega), e j (by omega) j2]; exact h.under i j i1 i2 j1 j2⟩
/-- the two stretches cut and rotated -/
structure Cut (L : Nat → Nat → Prop) (f g : Nat → Nat) (a s mid ee e : Nat) : Prop where
  cas : a ≤ s
  csm : s ≤ mid
  cme : mid ≤ ee
  cee : ee ≤ e
  sub : Sub a e f g
  cross : ∀ i j, a ≤ i → i < mid → mid ≤ j → j < e → Tie L (g i) (g j)
  lo : MPre L g a s mid
  hi : MPre L g mid ee e
section
variable {L : Nat → Nat → Prop} {f g g1 g2 : Nat → Nat} {a s mid ee e n : Nat}
theorem Cut.lo_done (h : Cut L f g a s mid ee e) (k : ¬ (a < s ∧ s < mid)) : Srt L g a mid := by
  have := h.cas; have := h.csm
  rcases (show a = s ∨ s = mid by omega) with rfl | rfl
  · exact h.lo.right
  · exact h.lo.left
theorem Cut.hi_next (h : Cut L f g a s mid ee e) (x : Sub a mid g g1) : MPre L g1 mid ee e := h.hi.same h.cme h.cee fun k k1 _ => x.1 k (by omega)
theorem Cut.hi_done (h : Cut L f g a s mid ee e) (x : Sub a mid g g1) (k : ¬ (mid < ee ∧ ee < e)) : Srt L g1 mid e := by
  have hh := h.hi_next x
  have := h.cme; have := h.cee
  rcases (show mid = ee ∨ ee = e by omega) with rfl | rfl
  · exact hh.right
  · exact hh.left
theorem Cut.fin (h : Cut L f g a s mid ee e) (x : Sub a mid g g1) (s1 : Srt L g1 a mid) (y : Sub mid e g1 g2) (s2 : Srt L g2 mid e) : Sub a e f g2 ∧ Srt L g2 a e := by
  have := h.cas; have := h.csm; have := h.cme; have := h.cee
  exact ⟨(h.sub.trans (x.wide (Nat.le_refl _) (by omega))).trans (y.wide (by omega) (Nat.le_refl _)), Srt.halves h.cross x y s1 s2⟩
end
theorem Seek.cut {cf : Nat → Nat → Int} {f : Nat → Nat} {a m e pp lo hi mid s : Nat} (o : Ordr (Lt cf)) (h : MPre (Lt cf) f a m e) (ham : a < m) (hme : m < e) (m3 : 2 * mid ≤ a + e) (m4 : a + e ≤ 2 * mid + 1)
    (hl : (mid < m ∧ lo + e = mid + m ∧ hi = mid) ∨ (m ≤ mid ∧ lo = a ∧ hi = m)) (hpp : mid + m = pp + 1) (k : Seek cf f pp lo hi s s) {ee : Nat} (hee : pp + 1 = s + ee) : Cut (Lt cf) f (rot f s m ee) a s mid ee e ∧ s ≤ m ∧ m ≤ ee := by
  have e1 : mid + m - 1 = pp := by omega
  have e2 : mid + m - s = ee := by omega
  obtain ⟨c1, c2, c3, c4, t1, t2⟩ := cut_ok o h ham hme m3 m4 hl k.ls k.rh (by rw [e1]; exact k.dn) (by rw [e1]; exact k.up)
  rw [e2] at c3 c4 t1 t2
  obtain ⟨h1, h2, h3⟩ := h.halves (mid := mid) c1 c2 c3 c4 (by omega) t1 t2
  have := k.rh
  have := k.ls
  exact ⟨⟨c1, by omega, by omega, c4, Sub.rot c2 c3 c1 c4, h1, h2, h3⟩, c2, c3⟩

set_option maxRecDepth 100000 in
set_option maxHeartbeats 16000000 in
theorem sym_gen (cap b n a m e p k mid lo hi : Nat) (f : Nat → Nat) (cf : Nat → Nat → Int) (w0 W : World) (ih : SymOk cap b n p cf w0 k) (hc : CmpA p w0 b n cf) (o : Ordr (Lt cf)) (h : Ord w0 b n f W) (hp : Plc n f) (hm : MPre (Lt cf) f a m e) (ham : a + 1 < m) (hme : m + 1 < e) (hen : e ≤ n) (hn : n < 8796093022208) (hk : e - a ≤ k + 1)
    (hmid : (a + e) / 2 = mid) (hl : (mid < m ∧ lo + e = mid + m ∧ hi = mid) ∨ (m ≤ mid ∧ lo = a ∧ hi = m)) :
    Calls Try.prog 128 #[.slice (some ⟨b, 0, none⟩) n cap, .int .i64 a, .int .i64 m, .int .i64 e, cmpV p] W (SymPost b n a e cf f w0) := by
  have H := Lib.hid h
  have HC := Lib.hid hc
  have HP := Lib.hid hp
  have HO := Lib.hid o
  have HM := Lib.hid hm
  have HL := Lib.hid hl
  have IH := Lib.hid ih
  have z1 : ((m : Int) - (a : Int) == 1) = false := by simp; omega
  have z2 : ¬ (m : Int) - (a : Int) = 1 := by omega
  have z3 : ((e : Int) - (m : Int) == 1) = false := by simp; omega
  have z4 : ¬ (e : Int) - (m : Int) = 1 := by omega
  have m1 : a < mid := by omega
  have m2 : mid < e := by omega
  have m3 : 2 * mid ≤ a + e := by omega
  have m4 : a + e ≤ 2 * mid + 1 := by omega
  have em : ((a : Int) + (e : Int)) / 2 = (mid : Int) := by omega
  obtain ⟨pp, hpp⟩ : ∃ pp, mid + m = pp + 1 := ⟨mid + m - 1, by omega⟩
  have HPP := Lib.hid hpp
  have en : (mid : Int) + (m : Int) = (pp : Int) + 1 := by omega
  clear h hc hp o hm ih hmid hpp
  unfold cmpV
  rcases hl with ⟨l1, l2, l3⟩ | ⟨l1, l2, l3⟩
  · have q1 : (mid : Int) < (m : Int) := by omega
    have q2 : (pp : Int) + 1 - (e : Int) = (lo : Int) := by omega
    have L := Lib.hid l3
    clear l2 l3
    go_enter Try.func128, Try.ntmps128
    go_wp2
    clear q1 q2 z1 z2 z3 z4 em en l1
    have L1 : Hid (Value.int .i64 (lo : Int) = .int .i64 lo ∧ Value.int .i64 (mid : Int) = .int .i64 hi) := ⟨rfl, by rw [L.out]⟩
    go_loopw [20, 21] (fun x y wr => ∃ s r : Nat, x = .int .i64 s ∧ y = .int .i64 r ∧ s ≤ r ∧ lo ≤ s ∧ r ≤ hi ∧ Hid (Ord w0 b n f wr) ∧ Hid (Seek cf f pp lo hi s r)) (fun x y _ => (intOf y).toNat - (intOf x).toNat)
    case atStart => exact ⟨lo, hi, L1.out.1, L1.out.2, by have := HL.out; omega, Nat.le_refl _, Nat.le_refl _, H.out, ⟨Nat.le_refl _, by have := HL.out; omega, Nat.le_refl _, Or.inl rfl, Or.inl rfl⟩⟩
    case round =>
      obtain ⟨s, r, rfl, rfl, hsr, hls, hrh, HW, HS⟩ := hrel
      clear H L1
      by_cases hlt : s < r
      · have bb : (s + r) / 2 < n ∧ (s + r) / 2 ≤ pp ∧ pp - (s + r) / 2 < n := by
          have := HL.out; have := HPP.out
          omega
        obtain ⟨c, hc⟩ : ∃ c, c = (s + r) / 2 := ⟨_, rfl⟩
        obtain ⟨u, hu⟩ : ∃ u, u = pp - (s + r) / 2 := ⟨_, rfl⟩
        have ec : ((s : Int) + (r : Int)) / 2 = (c : Int) := by omega
        have eu : (pp : Int) - (c : Int) = (u : Int) := by omega
        have hsc : s ≤ c := by omega
        have hcr : c < r := by omega
        have huc : u = pp - c := by omega
        have bc : c < n := by omega
        have bu : u < n := by omega
        clear bb hu hc
        have cj := HW.out.cell bu
        have ca := HW.out.cell bc
        have hc := fun nn => HC.out.at_ HW.out (HP.out u bu) (HP.out c bc) nn
        obtain ⟨x, hx⟩ : ∃ x, x = f u := ⟨_, rfl⟩
        obtain ⟨y, hy⟩ : ∃ y, y = f c := ⟨_, rfl⟩
        rw [← hx] at cj
        rw [← hy] at ca
        rw [← hx, ← hy] at hc
        have HC2 := Lib.hid hc
        by_cases hlv : cf x y < 0
        · have hd : decide (cf x y < 0) = true := decide_eq_true hlv
          have S : Seek cf f pp lo hi s c := ⟨HS.out.ls, hsc, by have := HS.out.rh; omega, HS.out.dn, Or.inr (by rw [← huc, ← hx, ← hy]; exact hlv)⟩
          have HS2 := Lib.hid S
          clear S hlv hc hx hy huc HS
          go_wp2_with fail
          go_quiet (first | (go_at_call 96; refine Calls.quiet_of (HC2.out _)))
          go_wp2
          go_light
          exact ⟨⟨s, c, rfl, rfl, by omega, by omega, by omega, HW.out.drewN _, HS2.out⟩, by simp [intOf]; omega⟩
        · have hd : decide (cf x y < 0) = false := decide_eq_false hlv
          have S : Seek cf f pp lo hi (c + 1) r := ⟨by have := HS.out.ls; omega, by omega, HS.out.rh, Or.inr (by rw [Nat.add_sub_cancel, ← huc, ← hx, ← hy]; exact hlv), HS.out.up⟩
          have HS2 := Lib.hid S
          clear S hlv hc hx hy huc HS
          go_wp2_with fail
          go_quiet (first | (go_at_call 96; refine Calls.quiet_of (HC2.out _)))
          go_wp2
          go_light
          exact ⟨⟨c + 1, r, by go_num, rfl, by omega, by omega, by omega, HW.out.drewN _, HS2.out⟩, by simp [intOf]; omega⟩
      · obtain rfl : s = r := by omega
        obtain ⟨ee, hee⟩ : ∃ ee, pp + 1 = s + ee := ⟨pp + 1 - s, by have := HL.out; have := HPP.out; omega⟩
        have eee : (pp : Int) + 1 - (s : Int) = (ee : Int) := by omega
        obtain ⟨cut, hsm, hmee⟩ := HS.out.cut HO.out HM.out (by omega) (by omega) m3 m4 HL.out HPP.out hee
        have cee := cut.cee
        have cas := cut.cas
        have HK := Lib.hid cut
        clear cut hee hlt hsr
        by_cases k1 : s < m ∧ m < ee
        · obtain ⟨k1a, k1b⟩ := k1
          by_cases k2 : a < s ∧ s < mid
          · obtain ⟨k2a, k2b⟩ := k2
            by_cases k3 : mid < ee ∧ ee < e
            · obtain ⟨k3a, k3b⟩ := k3
              go_wp2_with fail
              go_at_call 131
              refine (rotate_at HW.out rfl rfl rfl k1a k1b (by omega) hn).mono ?_
              rintro e1 W1 ⟨rfl, G⟩
              have HG := Lib.hid G
              clear G HW
              go_wp2_with fail
              go_at_call 128
              refine (IH.out a s mid _ _ _ _ _ HG.out (HP.out.sub HK.out.sub hen) HK.out.lo rfl rfl rfl k2a k2b (by omega) (by omega)).mono ?_
              rintro e2 W2 ⟨rfl, g1, G, X, Y⟩
              have HG1 := Lib.hid G
              have HX1 := Lib.hid X
              have HY1 := Lib.hid Y
              clear G X Y HG
              go_wp2_with fail
              go_at_call 128
              refine (IH.out mid ee e _ _ _ _ _ HG1.out ((HP.out.sub HK.out.sub hen).sub HX1.out (by omega)) (HK.out.hi_next HX1.out) rfl rfl rfl k3a k3b (by omega) (by omega)).mono ?_
              rintro e3 W3 ⟨rfl, g2, G, X, Y⟩
              have HG2 := Lib.hid G
              have HX2 := Lib.hid X
              have HY2 := Lib.hid Y
              clear G X Y
              go_wp2
              go_end0
              have F := HK.out.fin HX1.out HY1.out HX2.out HY2.out
              exact ⟨rfl, _, HG2.out, F.1, F.2⟩
            · have k3h := Lib.hid k3
              clear k3
              rcases (show ¬ mid < ee ∨ (mid < ee ∧ ¬ ee < e) by have := k3h.out; omega) with g5 | ⟨g5, g6⟩
              all_goals
                go_wp2_with fail
                go_at_call 131
                refine (rotate_at HW.out rfl rfl rfl k1a k1b (by omega) hn).mono ?_
                rintro e1 W1 ⟨rfl, G⟩
                have HG := Lib.hid G
                clear G HW
                go_wp2_with fail
                go_at_call 128
                refine (IH.out a s mid _ _ _ _ _ HG.out (HP.out.sub HK.out.sub hen) HK.out.lo rfl rfl rfl k2a k2b (by omega) (by omega)).mono ?_
                rintro e2 W2 ⟨rfl, g1, G, X, Y⟩
                have HG1 := Lib.hid G
                have HX1 := Lib.hid X
                have HY1 := Lib.hid Y
                clear G X Y HG
                go_wp2
                go_end0
                have F := HK.out.fin HX1.out HY1.out (Sub.refl _ _ _) (HK.out.hi_done HX1.out k3h.out)
                exact ⟨rfl, _, HG1.out, F.1, F.2⟩
          · have k2h := Lib.hid k2
            by_cases k3 : mid < ee ∧ ee < e
            · obtain ⟨k3a, k3b⟩ := k3
              have HK2 := Lib.hid (HK.out.lo_done k2)
              clear k2
              rcases (show ¬ a < s ∨ (a < s ∧ ¬ s < mid) by have := k2h.out; omega) with g3 | ⟨g3, g4⟩
              all_goals
                go_wp2_with fail
                go_at_call 131
                refine (rotate_at HW.out rfl rfl rfl k1a k1b (by omega) hn).mono ?_
                rintro e1 W1 ⟨rfl, G⟩
                have HG := Lib.hid G
                clear G HW
                go_wp2_with fail
                go_at_call 128
                refine (IH.out mid ee e _ _ _ _ _ HG.out ((HP.out.sub HK.out.sub hen).sub (Sub.refl a mid _) (by omega)) (HK.out.hi_next (Sub.refl a mid _)) rfl rfl rfl k3a k3b (by omega) (by omega)).mono ?_
                rintro e3 W3 ⟨rfl, g2, G, X, Y⟩
                have HG2 := Lib.hid G
                have HX2 := Lib.hid X
                have HY2 := Lib.hid Y
                clear G X Y
                go_wp2
                go_end0
                have F := HK.out.fin (Sub.refl a mid _) HK2.out HX2.out HY2.out
                exact ⟨rfl, _, HG2.out, F.1, F.2⟩
            · have k3h := Lib.hid k3
              have HK2 := Lib.hid (HK.out.lo_done k2)
              clear k2
              clear k3
              rcases (show ¬ a < s ∨ (a < s ∧ ¬ s < mid) by have := k2h.out; omega) with g3 | ⟨g3, g4⟩
              all_goals rcases (show ¬ mid < ee ∨ (mid < ee ∧ ¬ ee < e) by have := k3h.out; omega) with g5 | ⟨g5, g6⟩
              all_goals
                go_wp2_with fail
                go_at_call 131
                refine (rotate_at HW.out rfl rfl rfl k1a k1b (by omega) hn).mono ?_
                rintro e1 W1 ⟨rfl, G⟩
                have HG := Lib.hid G
                clear G HW
                go_wp2
                go_end0
                have F := HK.out.fin (Sub.refl a mid _) HK2.out (Sub.refl _ _ _) (HK.out.hi_done (Sub.refl a mid _) k3h.out)
                exact ⟨rfl, _, HG.out, F.1, F.2⟩
        · have hg : rot f s m ee = f := rot_nil hsm hmee (by omega)
          have HG : Hid (Ord w0 b n (rot f s m ee) wr) := by rw [hg]; exact HW.out
          clear HW hg
          have k1h := Lib.hid k1
          clear k1
          by_cases k2 : a < s ∧ s < mid
          · obtain ⟨k2a, k2b⟩ := k2
            by_cases k3 : mid < ee ∧ ee < e
            · obtain ⟨k3a, k3b⟩ := k3
              rcases (show ¬ s < m ∨ (s < m ∧ ¬ m < ee) by have := k1h.out; omega) with g1 | ⟨g1, g2⟩
              all_goals
                go_wp2_with fail
                go_at_call 128
                refine (IH.out a s mid _ _ _ _ _ HG.out (HP.out.sub HK.out.sub hen) HK.out.lo rfl rfl rfl k2a k2b (by omega) (by omega)).mono ?_
                rintro e2 W2 ⟨rfl, g1, G, X, Y⟩
                have HG1 := Lib.hid G
                have HX1 := Lib.hid X
                have HY1 := Lib.hid Y
                clear G X Y HG
                go_wp2_with fail
                go_at_call 128
                refine (IH.out mid ee e _ _ _ _ _ HG1.out ((HP.out.sub HK.out.sub hen).sub HX1.out (by omega)) (HK.out.hi_next HX1.out) rfl rfl rfl k3a k3b (by omega) (by omega)).mono ?_
                rintro e3 W3 ⟨rfl, g2, G, X, Y⟩
                have HG2 := Lib.hid G
                have HX2 := Lib.hid X
                have HY2 := Lib.hid Y
                clear G X Y
                go_wp2
                go_end0
                have F := HK.out.fin HX1.out HY1.out HX2.out HY2.out
                exact ⟨rfl, _, HG2.out, F.1, F.2⟩
            · have k3h := Lib.hid k3
              clear k3
              rcases (show ¬ s < m ∨ (s < m ∧ ¬ m < ee) by have := k1h.out; omega) with g1 | ⟨g1, g2⟩
              all_goals rcases (show ¬ mid < ee ∨ (mid < ee ∧ ¬ ee < e) by have := k3h.out; omega) with g5 | ⟨g5, g6⟩
              all_goals
                go_wp2_with fail
                go_at_call 128
                refine (IH.out a s mid _ _ _ _ _ HG.out (HP.out.sub HK.out.sub hen) HK.out.lo rfl rfl rfl k2a k2b (by omega) (by omega)).mono ?_
                rintro e2 W2 ⟨rfl, g1, G, X, Y⟩
                have HG1 := Lib.hid G
                have HX1 := Lib.hid X
                have HY1 := Lib.hid Y
                clear G X Y HG
                go_wp2
                go_end0
                have F := HK.out.fin HX1.out HY1.out (Sub.refl _ _ _) (HK.out.hi_done HX1.out k3h.out)
                exact ⟨rfl, _, HG1.out, F.1, F.2⟩
          · have k2h := Lib.hid k2
            by_cases k3 : mid < ee ∧ ee < e
            · obtain ⟨k3a, k3b⟩ := k3
              have HK2 := Lib.hid (HK.out.lo_done k2)
              clear k2
              rcases (show ¬ s < m ∨ (s < m ∧ ¬ m < ee) by have := k1h.out; omega) with g1 | ⟨g1, g2⟩
              all_goals rcases (show ¬ a < s ∨ (a < s ∧ ¬ s < mid) by have := k2h.out; omega) with g3 | ⟨g3, g4⟩
              all_goals
                go_wp2_with fail
                go_at_call 128
                refine (IH.out mid ee e _ _ _ _ _ HG.out ((HP.out.sub HK.out.sub hen).sub (Sub.refl a mid _) (by omega)) (HK.out.hi_next (Sub.refl a mid _)) rfl rfl rfl k3a k3b (by omega) (by omega)).mono ?_
                rintro e3 W3 ⟨rfl, g2, G, X, Y⟩
                have HG2 := Lib.hid G
                have HX2 := Lib.hid X
                have HY2 := Lib.hid Y
                clear G X Y
                go_wp2
                go_end0
                have F := HK.out.fin (Sub.refl a mid _) HK2.out HX2.out HY2.out
                exact ⟨rfl, _, HG2.out, F.1, F.2⟩
            · have k3h := Lib.hid k3
              have HK2 := Lib.hid (HK.out.lo_done k2)
              clear k2
              clear k3
              rcases (show ¬ s < m ∨ (s < m ∧ ¬ m < ee) by have := k1h.out; omega) with g1 | ⟨g1, g2⟩
              all_goals rcases (show ¬ a < s ∨ (a < s ∧ ¬ s < mid) by have := k2h.out; omega) with g3 | ⟨g3, g4⟩
              all_goals rcases (show ¬ mid < ee ∨ (mid < ee ∧ ¬ ee < e) by have := k3h.out; omega) with g5 | ⟨g5, g6⟩
              all_goals
                go_wp2
                go_end0
                have F := HK.out.fin (Sub.refl a mid _) HK2.out (Sub.refl _ _ _) (HK.out.hi_done (Sub.refl a mid _) k3h.out)
                exact ⟨rfl, _, HG.out, F.1, F.2⟩
  · have q1 : ¬ (mid : Int) < (m : Int) := by omega
    have L := Lib.hid (And.intro l2 l3)
    clear l2 l3
    go_enter Try.func128, Try.ntmps128
    go_wp2
    clear q1 z1 z2 z3 z4 em en l1
    have L1 : Hid (Value.int .i64 (a : Int) = .int .i64 lo ∧ Value.int .i64 (m : Int) = .int .i64 hi) := ⟨by rw [L.out.1], by rw [L.out.2]⟩
    go_loopw [20, 21] (fun x y wr => ∃ s r : Nat, x = .int .i64 s ∧ y = .int .i64 r ∧ s ≤ r ∧ lo ≤ s ∧ r ≤ hi ∧ Hid (Ord w0 b n f wr) ∧ Hid (Seek cf f pp lo hi s r)) (fun x y _ => (intOf y).toNat - (intOf x).toNat)
    case atStart => exact ⟨lo, hi, L1.out.1, L1.out.2, by have := HL.out; omega, Nat.le_refl _, Nat.le_refl _, H.out, ⟨Nat.le_refl _, by have := HL.out; omega, Nat.le_refl _, Or.inl rfl, Or.inl rfl⟩⟩
    case round =>
      obtain ⟨s, r, rfl, rfl, hsr, hls, hrh, HW, HS⟩ := hrel
      clear H L1
      by_cases hlt : s < r
      · have bb : (s + r) / 2 < n ∧ (s + r) / 2 ≤ pp ∧ pp - (s + r) / 2 < n := by
          have := HL.out; have := HPP.out
          omega
        obtain ⟨c, hc⟩ : ∃ c, c = (s + r) / 2 := ⟨_, rfl⟩
        obtain ⟨u, hu⟩ : ∃ u, u = pp - (s + r) / 2 := ⟨_, rfl⟩
        have ec : ((s : Int) + (r : Int)) / 2 = (c : Int) := by omega
        have eu : (pp : Int) - (c : Int) = (u : Int) := by omega
        have hsc : s ≤ c := by omega
        have hcr : c < r := by omega
        have huc : u = pp - c := by omega
        have bc : c < n := by omega
        have bu : u < n := by omega
        clear bb hu hc
        have cj := HW.out.cell bu
        have ca := HW.out.cell bc
        have hc := fun nn => HC.out.at_ HW.out (HP.out u bu) (HP.out c bc) nn
        obtain ⟨x, hx⟩ : ∃ x, x = f u := ⟨_, rfl⟩
        obtain ⟨y, hy⟩ : ∃ y, y = f c := ⟨_, rfl⟩
        rw [← hx] at cj
        rw [← hy] at ca
        rw [← hx, ← hy] at hc
        have HC2 := Lib.hid hc
        by_cases hlv : cf x y < 0
        · have hd : decide (cf x y < 0) = true := decide_eq_true hlv
          have S : Seek cf f pp lo hi s c := ⟨HS.out.ls, hsc, by have := HS.out.rh; omega, HS.out.dn, Or.inr (by rw [← huc, ← hx, ← hy]; exact hlv)⟩
          have HS2 := Lib.hid S
          clear S hlv hc hx hy huc HS
          go_wp2_with fail
          go_quiet (first | (go_at_call 96; refine Calls.quiet_of (HC2.out _)))
          go_wp2
          go_light
          exact ⟨⟨s, c, rfl, rfl, by omega, by omega, by omega, HW.out.drewN _, HS2.out⟩, by simp [intOf]; omega⟩
        · have hd : decide (cf x y < 0) = false := decide_eq_false hlv
          have S : Seek cf f pp lo hi (c + 1) r := ⟨by have := HS.out.ls; omega, by omega, HS.out.rh, Or.inr (by rw [Nat.add_sub_cancel, ← huc, ← hx, ← hy]; exact hlv), HS.out.up⟩
          have HS2 := Lib.hid S
          clear S hlv hc hx hy huc HS
          go_wp2_with fail
          go_quiet (first | (go_at_call 96; refine Calls.quiet_of (HC2.out _)))
          go_wp2
          go_light
          exact ⟨⟨c + 1, r, by go_num, rfl, by omega, by omega, by omega, HW.out.drewN _, HS2.out⟩, by simp [intOf]; omega⟩
      · obtain rfl : s = r := by omega
        obtain ⟨ee, hee⟩ : ∃ ee, pp + 1 = s + ee := ⟨pp + 1 - s, by have := HL.out; have := HPP.out; omega⟩
        have eee : (pp : Int) + 1 - (s : Int) = (ee : Int) := by omega
        obtain ⟨cut, hsm, hmee⟩ := HS.out.cut HO.out HM.out (by omega) (by omega) m3 m4 HL.out HPP.out hee
        have cee := cut.cee
        have cas := cut.cas
        have HK := Lib.hid cut
        clear cut hee hlt hsr
        by_cases k1 : s < m ∧ m < ee
        · obtain ⟨k1a, k1b⟩ := k1
          by_cases k2 : a < s ∧ s < mid
          · obtain ⟨k2a, k2b⟩ := k2
            by_cases k3 : mid < ee ∧ ee < e
            · obtain ⟨k3a, k3b⟩ := k3
              go_wp2_with fail
              go_at_call 131
              refine (rotate_at HW.out rfl rfl rfl k1a k1b (by omega) hn).mono ?_
              rintro e1 W1 ⟨rfl, G⟩
              have HG := Lib.hid G
              clear G HW
              go_wp2_with fail
              go_at_call 128
              refine (IH.out a s mid _ _ _ _ _ HG.out (HP.out.sub HK.out.sub hen) HK.out.lo rfl rfl rfl k2a k2b (by omega) (by omega)).mono ?_
              rintro e2 W2 ⟨rfl, g1, G, X, Y⟩
              have HG1 := Lib.hid G
              have HX1 := Lib.hid X
              have HY1 := Lib.hid Y
              clear G X Y HG
              go_wp2_with fail
              go_at_call 128
              refine (IH.out mid ee e _ _ _ _ _ HG1.out ((HP.out.sub HK.out.sub hen).sub HX1.out (by omega)) (HK.out.hi_next HX1.out) rfl rfl rfl k3a k3b (by omega) (by omega)).mono ?_
              rintro e3 W3 ⟨rfl, g2, G, X, Y⟩
              have HG2 := Lib.hid G
              have HX2 := Lib.hid X
              have HY2 := Lib.hid Y
              clear G X Y
              go_wp2
              go_end0
              have F := HK.out.fin HX1.out HY1.out HX2.out HY2.out
              exact ⟨rfl, _, HG2.out, F.1, F.2⟩
            · have k3h := Lib.hid k3
              clear k3
              rcases (show ¬ mid < ee ∨ (mid < ee ∧ ¬ ee < e) by have := k3h.out; omega) with g5 | ⟨g5, g6⟩
              all_goals
                go_wp2_with fail
                go_at_call 131
                refine (rotate_at HW.out rfl rfl rfl k1a k1b (by omega) hn).mono ?_
                rintro e1 W1 ⟨rfl, G⟩
                have HG := Lib.hid G
                clear G HW
                go_wp2_with fail
                go_at_call 128
                refine (IH.out a s mid _ _ _ _ _ HG.out (HP.out.sub HK.out.sub hen) HK.out.lo rfl rfl rfl k2a k2b (by omega) (by omega)).mono ?_
                rintro e2 W2 ⟨rfl, g1, G, X, Y⟩
                have HG1 := Lib.hid G
                have HX1 := Lib.hid X
                have HY1 := Lib.hid Y
                clear G X Y HG
                go_wp2
                go_end0
                have F := HK.out.fin HX1.out HY1.out (Sub.refl _ _ _) (HK.out.hi_done HX1.out k3h.out)
                exact ⟨rfl, _, HG1.out, F.1, F.2⟩
          · have k2h := Lib.hid k2
            by_cases k3 : mid < ee ∧ ee < e
            · obtain ⟨k3a, k3b⟩ := k3
              have HK2 := Lib.hid (HK.out.lo_done k2)
              clear k2
              rcases (show ¬ a < s ∨ (a < s ∧ ¬ s < mid) by have := k2h.out; omega) with g3 | ⟨g3, g4⟩
              all_goals
                go_wp2_with fail
                go_at_call 131
                refine (rotate_at HW.out rfl rfl rfl k1a k1b (by omega) hn).mono ?_
                rintro e1 W1 ⟨rfl, G⟩
                have HG := Lib.hid G
                clear G HW
                go_wp2_with fail
                go_at_call 128
                refine (IH.out mid ee e _ _ _ _ _ HG.out ((HP.out.sub HK.out.sub hen).sub (Sub.refl a mid _) (by omega)) (HK.out.hi_next (Sub.refl a mid _)) rfl rfl rfl k3a k3b (by omega) (by omega)).mono ?_
                rintro e3 W3 ⟨rfl, g2, G, X, Y⟩
                have HG2 := Lib.hid G
                have HX2 := Lib.hid X
                have HY2 := Lib.hid Y
                clear G X Y
                go_wp2
                go_end0
                have F := HK.out.fin (Sub.refl a mid _) HK2.out HX2.out HY2.out
                exact ⟨rfl, _, HG2.out, F.1, F.2⟩
            · have k3h := Lib.hid k3
              have HK2 := Lib.hid (HK.out.lo_done k2)
              clear k2
              clear k3
              rcases (show ¬ a < s ∨ (a < s ∧ ¬ s < mid) by have := k2h.out; omega) with g3 | ⟨g3, g4⟩
              all_goals rcases (show ¬ mid < ee ∨ (mid < ee ∧ ¬ ee < e) by have := k3h.out; omega) with g5 | ⟨g5, g6⟩
              all_goals
                go_wp2_with fail
                go_at_call 131
                refine (rotate_at HW.out rfl rfl rfl k1a k1b (by omega) hn).mono ?_
                rintro e1 W1 ⟨rfl, G⟩
                have HG := Lib.hid G
                clear G HW
                go_wp2
                go_end0
                have F := HK.out.fin (Sub.refl a mid _) HK2.out (Sub.refl _ _ _) (HK.out.hi_done (Sub.refl a mid _) k3h.out)
                exact ⟨rfl, _, HG.out, F.1, F.2⟩
        · have hg : rot f s m ee = f := rot_nil hsm hmee (by omega)
          have HG : Hid (Ord w0 b n (rot f s m ee) wr) := by rw [hg]; exact HW.out
          clear HW hg
          have k1h := Lib.hid k1
          clear k1
          by_cases k2 : a < s ∧ s < mid
          · obtain ⟨k2a, k2b⟩ := k2
            by_cases k3 : mid < ee ∧ ee < e
            · obtain ⟨k3a, k3b⟩ := k3
              rcases (show ¬ s < m ∨ (s < m ∧ ¬ m < ee) by have := k1h.out; omega) with g1 | ⟨g1, g2⟩
              all_goals
                go_wp2_with fail
                go_at_call 128
                refine (IH.out a s mid _ _ _ _ _ HG.out (HP.out.sub HK.out.sub hen) HK.out.lo rfl rfl rfl k2a k2b (by omega) (by omega)).mono ?_
                rintro e2 W2 ⟨rfl, g1, G, X, Y⟩
                have HG1 := Lib.hid G
                have HX1 := Lib.hid X
                have HY1 := Lib.hid Y
                clear G X Y HG
                go_wp2_with fail
                go_at_call 128
                refine (IH.out mid ee e _ _ _ _ _ HG1.out ((HP.out.sub HK.out.sub hen).sub HX1.out (by omega)) (HK.out.hi_next HX1.out) rfl rfl rfl k3a k3b (by omega) (by omega)).mono ?_
                rintro e3 W3 ⟨rfl, g2, G, X, Y⟩
                have HG2 := Lib.hid G
                have HX2 := Lib.hid X
                have HY2 := Lib.hid Y
                clear G X Y
                go_wp2
                go_end0
                have F := HK.out.fin HX1.out HY1.out HX2.out HY2.out
                exact ⟨rfl, _, HG2.out, F.1, F.2⟩
            · have k3h := Lib.hid k3
              clear k3
              rcases (show ¬ s < m ∨ (s < m ∧ ¬ m < ee) by have := k1h.out; omega) with g1 | ⟨g1, g2⟩
              all_goals rcases (show ¬ mid < ee ∨ (mid < ee ∧ ¬ ee < e) by have := k3h.out; omega) with g5 | ⟨g5, g6⟩
              all_goals
                go_wp2_with fail
                go_at_call 128
                refine (IH.out a s mid _ _ _ _ _ HG.out (HP.out.sub HK.out.sub hen) HK.out.lo rfl rfl rfl k2a k2b (by omega) (by omega)).mono ?_
                rintro e2 W2 ⟨rfl, g1, G, X, Y⟩
                have HG1 := Lib.hid G
                have HX1 := Lib.hid X
                have HY1 := Lib.hid Y
                clear G X Y HG
                go_wp2
                go_end0
                have F := HK.out.fin HX1.out HY1.out (Sub.refl _ _ _) (HK.out.hi_done HX1.out k3h.out)
                exact ⟨rfl, _, HG1.out, F.1, F.2⟩
          · have k2h := Lib.hid k2
            by_cases k3 : mid < ee ∧ ee < e
            · obtain ⟨k3a, k3b⟩ := k3
              have HK2 := Lib.hid (HK.out.lo_done k2)
              clear k2
              rcases (show ¬ s < m ∨ (s < m ∧ ¬ m < ee) by have := k1h.out; omega) with g1 | ⟨g1, g2⟩
              all_goals rcases (show ¬ a < s ∨ (a < s ∧ ¬ s < mid) by have := k2h.out; omega) with g3 | ⟨g3, g4⟩
              all_goals
                go_wp2_with fail
                go_at_call 128
                refine (IH.out mid ee e _ _ _ _ _ HG.out ((HP.out.sub HK.out.sub hen).sub (Sub.refl a mid _) (by omega)) (HK.out.hi_next (Sub.refl a mid _)) rfl rfl rfl k3a k3b (by omega) (by omega)).mono ?_
                rintro e3 W3 ⟨rfl, g2, G, X, Y⟩
                have HG2 := Lib.hid G
                have HX2 := Lib.hid X
                have HY2 := Lib.hid Y
                clear G X Y
                go_wp2
                go_end0
                have F := HK.out.fin (Sub.refl a mid _) HK2.out HX2.out HY2.out
                exact ⟨rfl, _, HG2.out, F.1, F.2⟩
            · have k3h := Lib.hid k3
              have HK2 := Lib.hid (HK.out.lo_done k2)
              clear k2
              clear k3
              rcases (show ¬ s < m ∨ (s < m ∧ ¬ m < ee) by have := k1h.out; omega) with g1 | ⟨g1, g2⟩
              all_goals rcases (show ¬ a < s ∨ (a < s ∧ ¬ s < mid) by have := k2h.out; omega) with g3 | ⟨g3, g4⟩
              all_goals rcases (show ¬ mid < ee ∨ (mid < ee ∧ ¬ ee < e) by have := k3h.out; omega) with g5 | ⟨g5, g6⟩
              all_goals
                go_wp2
                go_end0
                have F := HK.out.fin (Sub.refl a mid _) HK2.out (Sub.refl _ _ _) (HK.out.hi_done (Sub.refl a mid _) k3h.out)
                exact ⟨rfl, _, HG.out, F.1, F.2⟩
theorem sym_any {cap b n p : Nat} {cf : Nat → Nat → Int} {w0 : World} (hc : CmpA p w0 b n cf) (o : Ordr (Lt cf)) (hn : n < 8796093022208) : ∀ k, SymOk cap b n p cf w0 k
  | 0 => fun a m e f W x y z h hp hm hx hy hz ham hme hen hk => by omega
  | k + 1 => fun a m e f W x y z h hp hm hx hy hz ham hme hen hk => by
    subst hx hy hz
    by_cases h1 : m = a + 1
    · exact sym_left cap b n a m e p f cf w0 W hc o h hp hm h1 hme hen hn
    · by_cases h2 : e = m + 1
      · exact sym_right cap b n a m e p f cf w0 W hc o h hp hm (by omega) h2 hen hn
      · by_cases h3 : (a + e) / 2 < m
        · exact sym_gen cap b n a m e p k ((a + e) / 2) ((a + e) / 2 + m - e) ((a + e) / 2) f cf w0 W (sym_any hc o hn k) hc o h hp hm (by omega) (by omega) hen hn hk rfl (Or.inl ⟨h3, by omega, rfl⟩)
        · exact sym_gen cap b n a m e p k ((a + e) / 2) a m f cf w0 W (sym_any hc o hn k) hc o h hp hm (by omega) (by omega) hen hn hk rfl (Or.inr ⟨by omega, rfl, rfl⟩)
end Go.Proofs.Ytjkoceacjbhblaa
namespace Go.Proofs.Ytjkoceacjbhblaa
open Go.RowKit

theorem insertionN_at {cap b n a e p : Nat} {f : Nat → Nat} {cf : Nat → Nat → Int} {w0 W : World} {x y : Int} (hc : CmpA p w0 b n cf) (o : Ordr (Lt cf)) (h : Ord w0 b n f W) (hp : Plc n f) (hid : ∀ k, a ≤ k → k < e → f k = k) (hx : x = (a : Int)) (hy : y = (e : Int)) (hae : a ≤ e) (hen : e ≤ n) (hn : n < 8796093022208) :
    Calls Try.prog 127 #[.slice (some ⟨b, 0, none⟩) n cap, .int .i64 x, .int .i64 y, cmpV p] W fun e' w' => e' = .returned (.tuple #[]) ∧ ∃ g, Ord w0 b n g w' ∧ Sub a e f g ∧ Srt (Lt cf) g a e := by
  subst hx hy
  exact insertionN_any cap b n a e p f cf w0 W hc o h hp hid hae hen hn
def Sorted (w0 : World) (b n : Nat) (cf : Nat → Nat → Int) (e : Ending) (w' : World) : Prop := e = .returned (.tuple #[]) ∧ ∃ g, Ord w0 b n g w' ∧ Srt (Lt cf) g 0 n ∧ ∀ k, k < n → g k < n

set_option maxRecDepth 100000 in
set_option maxHeartbeats 8000000 in
theorem stable_any (cap b n p : Nat) (cf : Nat → Nat → Int) (w0 W : World) (hc : CmpA p w0 b n cf) (o : Ordr (Lt cf)) (h : Ord w0 b n id W) (hn : n < 8796093022208) :
    Calls Try.prog 119 #[.slice (some ⟨b, 0, none⟩) n cap, .int .i64 n, cmpV p] W (Sorted w0 b n cf) := by
  have H := Lib.hid h
  have HC := Lib.hid hc
  have HO := Lib.hid o
  clear h hc o
  unfold cmpV
  go_enter Try.func119, Try.ntmps119
  go_wp2
  go_loopw [7, 8] (fun x y wr => ∃ (c d : Nat) (f : Nat → Nat), c ≤ n ∧ Hid (d = c + 20) ∧ x = .int .i64 c ∧ y = .int .i64 d ∧ Hid (Ord w0 b n f wr) ∧ Hid (Plc n f) ∧ Hid (Ins (Lt cf) n c f)) (fun x _ _ => n - (intOf x).toNat)
  case atStart => exact ⟨0, 20, id, by omega, rfl, rfl, rfl, H.out, fun k hk => hk, Ins.start _ _⟩
  case round =>
    obtain ⟨c, d, f, hcn, HD, rfl, rfl, HW, HP, HI⟩ := hrel
    have hcd : c < d := by have := HD.out; omega
    have hdc : d ≤ c + 20 := by have := HD.out; omega
    clear H
    by_cases hlt : d ≤ n
    · have hz : (d : Int) ≤ (n : Int) := by omega
      go_wp2_with fail
      go_at_call 127
      refine (insertionN_at (a := c) (e := d) HC.out HO.out HW.out HP.out (fun k k1 _ => HI.out.id_ k k1) rfl rfl (by omega) hlt hn).mono ?_
      rintro e1 W1 ⟨rfl, g, G, X, Y⟩
      have HG := Lib.hid G
      have HX := Lib.hid X
      have HY := Lib.hid Y
      clear G X Y
      go_wp2
      go_light
      refine ⟨⟨d, d + 20, g, hlt, rfl, rfl, by go_num, HG.out, HP.out.sub HX.out hlt, ?_⟩, by simp [intOf]; omega⟩
      have hd := HD.out
      subst hd
      exact HI.out.step hlt HX.out HY.out
    · have hz : ¬ (d : Int) ≤ (n : Int) := by omega
      go_wp2_with fail
      go_at_call 127
      refine (insertionN_at (a := c) (e := n) HC.out HO.out HW.out HP.out (fun k k1 _ => HI.out.id_ k k1) rfl rfl hcn (Nat.le_refl _) hn).mono ?_
      rintro e1 W1 ⟨rfl, g, G, X, Y⟩
      have HG := Lib.hid G
      have HQ := Lib.hid (HP.out.sub X (Nat.le_refl _))
      have HGd := Lib.hid (HI.out.last hcn (by have := HD.out; omega) X Y)
      clear G X Y HI HP HW
      go_wp2
      clear hz hlt hcn hcd hdc HD
      go_loopw [6] (fun x wr2 => ∃ (B : Nat) (f : Nat → Nat), 20 ≤ B ∧ (B = 20 ∨ B < 2 * n) ∧ x = .int .i64 B ∧ Hid (Ord w0 b n f wr2) ∧ Hid (Plc n f) ∧ Hid (Good (Lt cf) B n f)) (fun x _ => n - (intOf x).toNat)
      case atStart => exact ⟨20, g, Nat.le_refl _, Or.inl rfl, rfl, HG.out, HQ.out, HGd.out⟩
      case round =>
        obtain ⟨B, f, hB, hB2, rfl, HW, HP, HI⟩ := hrel
        clear HG HQ HGd
        by_cases hlt : B < n
        · have hz : (B : Int) < (n : Int) := by omega
          go_wp2
          go_loopw [7, 8] (fun x y wr3 => ∃ (c d : Nat) (f : Nat → Nat), c ≤ n ∧ Hid (d = c + B * 2) ∧ x = .int .i64 c ∧ y = .int .i64 d ∧ Hid (Ord w0 b n f wr3) ∧ Hid (Plc n f) ∧ Hid (Half (Lt cf) B n c f)) (fun x _ _ => n - (intOf x).toNat)
          case atStart => exact ⟨0, B * 2, f, by omega, (by show _ = _; omega), rfl, by go_num, HW.out, HP.out, HI.out.half⟩
          case round =>
            obtain ⟨c, d, f', hcn, HD, rfl, rfl, HW3, HP3, HI3⟩ := hrel
            have hcd : c + B < d := by have := HD.out; omega
            have hdc : d ≤ c + B * 2 := by have := HD.out; omega
            clear HW HP HI
            by_cases hlt3 : d ≤ n
            · have hz3 : (d : Int) ≤ (n : Int) := by omega
              go_wp2_with fail
              go_at_call 128
              refine (sym_any HC.out HO.out hn n c (c + B) d _ _ _ _ _ HW3.out HP3.out (HI3.out.pre (by omega) (by omega) hlt3 (by omega)) rfl (by omega) rfl (by omega) (by omega) hlt3 (by omega)).mono ?_
              rintro e1 W1 ⟨rfl, g, G, X, Y⟩
              have HG := Lib.hid G
              have HX := Lib.hid X
              have HY := Lib.hid Y
              clear G X Y
              go_wp2
              go_light
              refine ⟨⟨d, d + B * 2, g, hlt3, rfl, rfl, by go_num, HG.out, HP3.out.sub HX.out hlt3, ?_⟩, by simp [intOf]; omega⟩
              have hd := HD.out
              subst hd
              exact HI3.out.step (by omega) hlt3 HX.out HY.out
            · have hz3 : ¬ (d : Int) ≤ (n : Int) := by omega
              by_cases hm : c + B < n
              · have hz4 : (c : Int) + (B : Int) < (n : Int) := by omega
                go_wp2_with fail
                go_at_call 128
                refine (sym_any HC.out HO.out hn n c (c + B) n _ _ _ _ _ HW3.out HP3.out (HI3.out.pre (by omega) (by omega) (Nat.le_refl _) (by omega)) rfl (by omega) rfl (by omega) (by omega) (Nat.le_refl _) (by omega)).mono ?_
                rintro e1 W1 ⟨rfl, g, G, X, Y⟩
                have HG := Lib.hid G
                have HX := Lib.hid X
                have HY := Lib.hid Y
                clear G X Y
                go_wp2
                go_light
                exact ⟨⟨B * 2, g, by omega, Or.inr (by omega), by go_num, HG.out, HP3.out.sub HX.out (Nat.le_refl _), HI3.out.last (by omega) (by have := HD.out; omega) HX.out HY.out⟩, by simp [intOf]; omega⟩
              · have hz4 : ¬ (c : Int) + (B : Int) < (n : Int) := by omega
                go_wp2
                go_light
                exact ⟨⟨B * 2, f', by omega, Or.inr (by omega), by go_num, HW3.out, HP3.out, HI3.out.rest (by omega) (by omega)⟩, by simp [intOf]; omega⟩
        · have hz : ¬ (B : Int) < (n : Int) := by omega
          go_wp2
          go_end0
          have F := HI.out.whole (by omega)
          exact ⟨rfl, f, HW.out, F.1, F.2⟩

set_option maxRecDepth 100000 in
set_option maxHeartbeats 4000000 in
theorem sortStable_any (cap b n p : Nat) (cf : Nat → Nat → Int) (w0 W : World) (hc : CmpA p w0 b n cf) (o : Ordr (Lt cf)) (h : Ord w0 b n id W) (hn : n < 8796093022208) :
    Calls Try.prog 95 #[.slice (some ⟨b, 0, none⟩) n cap, cmpV p] W (Sorted w0 b n cf) := by
  have H := Lib.hid h
  have HC := Lib.hid hc
  have HO := Lib.hid o
  clear h hc o
  unfold cmpV
  go_enter Try.func95, Try.ntmps95
  go_wp2_with fail
  go_at_call 119
  refine (stable_any cap b n p cf w0 _ HC.out HO.out H.out hn).mono ?_
  rintro e1 W1 ⟨rfl, G⟩
  have HG := Lib.hid G
  clear G
  go_wp2
  go_end0
  exact ⟨rfl, HG.out⟩
end Go.Proofs.Ytjkoceacjbhblaa
namespace Go.Proofs.Ytjkoceacjbhblaa
open Go.RowKit

theorem less_asym : ∀ (x y : List UInt8), Op.bytesLess x y = true → Op.bytesLess y x = false
  | _, [], h => by simp [Op.bytesLess] at h
  | [], _ :: _, _ => by simp [Op.bytesLess]
  | a :: x, b :: y, h => by
    simp only [Op.bytesLess, Bool.or_eq_true, Bool.and_eq_true, decide_eq_true_eq, beq_iff_eq] at h
    have ih := less_asym x y
    rcases h with h | ⟨rfl, h⟩
    · have h2 : a.toNat < b.toNat := UInt8.lt_iff_toNat_lt.1 h
      have h3 : ¬ b < a := fun e => by have := UInt8.lt_iff_toNat_lt.1 e; omega
      have h4 : ¬ b = a := fun e => by subst e; omega
      simp [Op.bytesLess, h3, h4]
    · simp [Op.bytesLess, ih h, UInt8.lt_irrefl]
theorem less_total : ∀ (x y : List UInt8), Op.bytesLess x y = false → Op.bytesLess y x = false → x = y
  | [], [], _, _ => rfl
  | _ :: _, [], _, h => by simp [Op.bytesLess] at h
  | [], _ :: _, h, _ => by simp [Op.bytesLess] at h
  | a :: x, b :: y, h, k => by
    simp only [Op.bytesLess, Bool.or_eq_false_iff, Bool.and_eq_false_iff, decide_eq_false_iff_not, beq_eq_false_iff_ne] at h k
    have h1 : a = b := by
      have n1 : ¬ a.toNat < b.toNat := fun e => h.1 (UInt8.lt_iff_toNat_lt.2 e)
      have n2 : ¬ b.toNat < a.toNat := fun e => k.1 (UInt8.lt_iff_toNat_lt.2 e)
      exact UInt8.toNat_inj.1 (by omega)
    subst h1
    congr 1
    exact less_total x y (h.2.resolve_left fun e => e rfl) (k.2.resolve_left fun e => e rfl)
theorem less_trans : ∀ (x y z : List UInt8), Op.bytesLess x y = true → Op.bytesLess y z = true → Op.bytesLess x z = true
  | _, [], _, h, _ => by simp [Op.bytesLess] at h
  | _, _ :: _, [], _, k => by simp [Op.bytesLess] at k
  | [], _ :: _, _ :: _, _, _ => by simp [Op.bytesLess]
  | a :: x, b :: y, c :: z, h, k => by
    simp only [Op.bytesLess, Bool.or_eq_true, Bool.and_eq_true, decide_eq_true_eq, beq_iff_eq] at h k ⊢
    have ih := less_trans x y z
    rcases h with h | ⟨rfl, h⟩
    · rcases k with k | ⟨rfl, k⟩
      · exact Or.inl (UInt8.lt_trans h k)
      · exact Or.inl h
    · rcases k with k | ⟨rfl, k⟩
      · exact Or.inl k
      · exact Or.inr ⟨rfl, ih h k⟩
/-- the k-th of some names -/
def nth (N : List ByteArray) (k : Nat) : ByteArray := N[k]?.getD ByteArray.empty
theorem nth_get {N : List ByteArray} {k : Nat} (h : k < N.length) : nth N k = N[k] := by simp [nth, h]
def lessN (N : List ByteArray) (x y : Nat) : Bool := Op.bytesLess (nth N x).toList (nth N y).toList
/-- what the comparison tells -/
def cmpF (N : List ByteArray) (x y : Nat) : Int := if lessN N x y = true then -1 else if ((nth N x).toList == (nth N y).toList) = true then 0 else 1
theorem lt_cmpF (N : List ByteArray) (x y : Nat) : Lt (cmpF N) x y ↔ lessN N x y = true := by
  unfold Lt cmpF
  split
  · rename_i h; simp [h]
  · split <;> rename_i h _ <;> simp [h]
theorem ordr_cmpF (N : List ByteArray) : Ordr (Lt (cmpF N)) := by
  refine ⟨fun x y h k => ?_, fun x y z h => ?_⟩
  · rw [lt_cmpF] at h k
    have := less_asym _ _ h
    unfold lessN at k
    rw [this] at k
    cases k
  · rw [lt_cmpF] at *
    rw [lt_cmpF]
    cases h1 : lessN N x y with
    | true => exact Or.inl rfl
    | false =>
      right
      cases h2 : lessN N y x with
      | true => exact less_trans _ _ _ h2 h
      | false =>
        have e := less_total _ _ h1 h2
        unfold lessN at *
        rw [← e]
        exact h
/-- which of two comes first: by name, else by place -/
theorem tie_cmpF (N : List ByteArray) (x y : Nat) : Tie (Lt (cmpF N)) x y ↔ lessN N x y = true ∨ (((nth N x).toList == (nth N y).toList) = true ∧ x < y) := by
  unfold Tie
  rw [lt_cmpF, lt_cmpF]
  constructor
  · rintro (h | ⟨h, hx⟩)
    · exact Or.inl h
    · cases h1 : lessN N x y with
      | true => exact Or.inl rfl
      | false => exact Or.inr ⟨beq_iff_eq.2 (less_total _ _ h1 (Bool.eq_false_iff.2 h)), hx⟩
  · rintro (h | ⟨h, hx⟩)
    · exact Or.inl h
    · refine Or.inr ⟨fun k => ?_, hx⟩
      have e := beq_iff_eq.1 h
      unfold lessN at k
      rw [e] at k
      have := less_asym _ _ k
      rw [k] at this
      cases this
/-- the names lie in memory, the pointer's cell holds their slice -/
structure NamesAt (w0 : World) (p b n : Nat) (N : List ByteArray) (A : Option Addr) (c : Nat) : Prop where
  len : N.length = n
  ptr : w0.cell? ⟨p, 0, none⟩ = some (.slice A n c)
  ne : p ≠ b
  at_ : 0 < n → ∃ nb off, A = some ⟨nb, off, none⟩ ∧ nb ≠ b ∧ ∀ k (h : k < N.length), w0.cell? ⟨nb, off + k, none⟩ = some (.string N[k])

set_option maxRecDepth 100000 in
set_option maxHeartbeats 4000000 in
theorem cmp_names (w0 : World) (p b n c : Nat) (N : List ByteArray) (A : Option Addr) (hn : n < 8796093022208) (h : NamesAt w0 p b n N A c) : CmpA p w0 b n (cmpF N) := by
  intro f W hW x y hx hy
  obtain ⟨nb, off, rfl, hne, hcell⟩ := h.at_ (by omega)
  have cp : W.cell? ⟨p, 0, none⟩ = some (.slice (some ⟨nb, off, none⟩) n c) := (World.cell?_of_block (hW.far p h.ne)).trans h.ptr
  have cx : W.cell? ⟨nb, off + x, none⟩ = some (.string (nth N x)) := by
    rw [nth_get (by rw [h.len]; exact hx)]
    exact (World.cell?_of_block (hW.far nb hne)).trans (hcell x (by rw [h.len]; exact hx))
  have cy : W.cell? ⟨nb, off + y, none⟩ = some (.string (nth N y)) := by
    rw [nth_get (by rw [h.len]; exact hy)]
    exact (World.cell?_of_block (hW.far nb hne)).trans (hcell y (by rw [h.len]; exact hy))
  obtain ⟨s, hs⟩ : ∃ s, s = nth N x := ⟨_, rfl⟩
  obtain ⟨t, ht⟩ : ∃ t, t = nth N y := ⟨_, rfl⟩
  rw [← hs] at cx
  rw [← ht] at cy
  have hcf : cmpF N x y = if Op.bytesLess s.toList t.toList = true then -1 else if (s.toList == t.toList) = true then 0 else 1 := by rw [hs, ht]; rfl
  have HCF := Lib.hid hcf
  clear hs ht hcf h hcell hne hW
  have bx : (x : Int) < (n : Int) := by omega
  have by_ : (y : Int) < (n : Int) := by omega
  show Calls Try.prog 96 #[.int .i64 x, .int .i64 y, .pointer (some ⟨p, 0, none⟩)] W _
  cases h1 : Op.bytesLess s.toList t.toList with
  | true =>
    go_enter Try.func96, Try.ntmps96
    go_wp2
    go_quiet (fail)
    go_wp2
    go_ret
    exact ⟨by rw [HCF.out, h1]; rfl, _, rfl⟩
  | false =>
    cases h2 : s.toList == t.toList with
    | true =>
      go_enter Try.func96, Try.ntmps96
      go_wp2
      go_quiet (fail)
      go_wp2
      go_quiet (fail)
      go_wp2
      go_ret
      exact ⟨by rw [HCF.out, h1, h2]; rfl, _, World.drewN_drewN _ _ _⟩
    | false =>
      go_enter Try.func96, Try.ntmps96
      go_wp2
      go_quiet (fail)
      go_wp2
      go_quiet (fail)
      go_wp2
      go_ret
      exact ⟨by rw [HCF.out, h1, h2]; rfl, _, World.drewN_drewN _ _ _⟩
end Go.Proofs.Ytjkoceacjbhblaa
namespace Go.Proofs.Ytjkoceacjbhblaa
open Go.RowKit

theorem below_then {a b c : World} (h : Below a.heap.size a b) (k : Below b.heap.size b c) : Below a.heap.size a c := h.trans (k.mono h.size)
/-- the call says whether P holds; memory only grows -/
def Tells (P : Prop) (w : World) (e : Ending) (w' : World) : Prop := ∃ b : Bool, e = .returned (.bool b) ∧ (b = true ↔ P) ∧ Below w.heap.size w w'
theorem Tells.yes {P : Prop} {w w' : World} {e : Ending} (h : Tells P w e w') (hp : P) : e = .returned (.bool true) ∧ Below w.heap.size w w' := by
  obtain ⟨b, rfl, hb, hw⟩ := h
  rw [hb.2 hp]
  exact ⟨rfl, hw⟩
theorem Tells.no {P : Prop} {w w' : World} {e : Ending} (h : Tells P w e w') (hp : ¬ P) : e = .returned (.bool false) ∧ Below w.heap.size w w' := by
  obtain ⟨b, rfl, hb, hw⟩ := h
  rcases b with _ | _
  · exact ⟨rfl, hw⟩
  · exact absurd (hb.1 rfl) hp
theorem Tells.mk_yes {P : Prop} {w w' : World} (hp : P) (hw : Below w.heap.size w w') : Tells P w (.returned (.bool true)) w' := ⟨true, rfl, by simp [hp], hw⟩
theorem Tells.mk_no {P : Prop} {w w' : World} (hp : ¬ P) (hw : Below w.heap.size w w') : Tells P w (.returned (.bool false)) w' := ⟨false, rfl, by simp [hp], hw⟩
theorem Tells.cong {P Q : Prop} {w w' : World} {e : Ending} (h : Tells P w e w') (hp : P ↔ Q) : Tells Q w e w' := by
  obtain ⟨b, he, hb, hw⟩ := h
  exact ⟨b, he, hb.trans hp, hw⟩
/-- the call gives the first place below n at which P holds, or -1; memory only grows -/
def Finds (P : Nat → Prop) (n : Nat) (w : World) (e : Ending) (w' : World) : Prop :=
  ∃ r : Int, e = .returned (.int .i64 r) ∧ Below w.heap.size w w' ∧ ((∃ k : Nat, k < n ∧ r = k ∧ P k ∧ ∀ j, j < k → ¬ P j) ∨ (r = -1 ∧ ∀ j, j < n → ¬ P j))
end Go.Proofs.Ytjkoceacjbhblaa
