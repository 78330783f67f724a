/- Parts of a proof, merged: SrtC, SrtD, SrtE, SrtF, SrtG, SrtH, SrtI, Tells, CloneInt, CoordCopy, SrtJ. No condition. -/
import Derived.Test.YtjkoceacjbhblaaGj1
import Derived.BigRegion
import Derived.Deep.RegionHeld3
import Derived.Deep.DrawnRows
namespace Go.Proofs.Ytjkoceacjbhblaa
open Go.RowKit

set_option maxRecDepth 100000 in
set_option maxHeartbeats 4000000 in
theorem swapRange_any (cap b n a c k : Nat) (f : Nat → Nat) (cv : Value) (w0 W : World) (h : Ord w0 b n f W) (hac : a + k ≤ c) (hcn : c + k ≤ n) (hn : n < 8796093022208) :
    Calls Try.prog 134 #[.slice (some ⟨b, 0, none⟩) n cap, .int .i64 a, .int .i64 c, .int .i64 k, cv] W fun e w' => e = .returned (.tuple #[]) ∧ Ord w0 b n (swr f a c k) w' := by
  have H := Lib.hid h
  clear h
  go_enter Try.func134, Try.ntmps134
  go_wp2
  go_loopw [10] (fun i wr => ∃ j : Nat, j ≤ k ∧ i = .int .i64 j ∧ Hid (Ord w0 b n (swr f a c j) wr)) (fun i _ => k - (intOf i).toNat)
  case atStart => exact ⟨0, by omega, rfl, by rw [swr_zero]; exact H.out⟩
  case round =>
    obtain ⟨j, hj, rfl, HW⟩ := hrel
    clear H
    by_cases hlt : j < k
    · have hz : (j : Int) < (k : Int) := by omega
      have ep : ((a : Int) + (j : Int)).toNat = a + j := by omega
      have eq : ((c : Int) + (j : Int)).toNat = c + j := by omega
      have bp : (a : Int) + (j : Int) < (n : Int) := by omega
      have bq : (c : Int) + (j : Int) < (n : Int) := by omega
      have pp : (0 : Int) ≤ (a : Int) + (j : Int) := by omega
      have pq : (0 : Int) ≤ (c : Int) + (j : Int) := by omega
      have rp : IntKind.i64.wrap ((a : Int) + (j : Int)) = (a : Int) + (j : Int) := by rw [IntKind.wrap_i64]; omega
      have rq : IntKind.i64.wrap ((c : Int) + (j : Int)) = (c : Int) + (j : Int) := by rw [IntKind.wrap_i64]; omega
      obtain ⟨x, hx⟩ : ∃ x, x = swr f a c j (a + j) := ⟨_, rfl⟩
      obtain ⟨y, hy⟩ : ∃ x, x = swr f a c j (c + j) := ⟨_, rfl⟩
      have cp := HW.out.cell (i := a + j) (by omega)
      have cq := HW.out.cell (i := c + j) (by omega)
      have fp := HW.out.frozen (a + j)
      have fq := HW.out.frozen (c + j)
      obtain ⟨u, cu⟩ := HW.out.c2 (i := a + j) (j := c + j) (by omega) y
      have S := HW.out.swap (a + j) (c + j)
      rw [swr_step (by omega), ← hx, ← hy] at S
      rw [← hx] at cp
      rw [← hy] at cq
      have HS := Lib.hid S
      clear S hx hy HW ep eq
      go_wp2_with fail
      go_big_region
      all_goals go_wp2
      all_goals go_light
      all_goals exact ⟨⟨j + 1, by omega, by go_num, HS.out.drew⟩, by simp [intOf]; omega⟩
    · obtain rfl : j = k := by omega
      go_wp2
      go_end0
      exact ⟨rfl, HW.out⟩
theorem swapRange_at {cap b n a c k : Nat} {f : Nat → Nat} {cv : Value} {w0 W : World} {x y z : Int} (h : Ord w0 b n f W) (hx : x = (a : Int)) (hy : y = (c : Int)) (hz : z = (k : Int)) (hac : a + k ≤ c) (hcn : c + k ≤ n) (hn : n < 8796093022208) :
    Calls Try.prog 134 #[.slice (some ⟨b, 0, none⟩) n cap, .int .i64 x, .int .i64 y, .int .i64 z, cv] W fun e w' => e = .returned (.tuple #[]) ∧ Ord w0 b n (swr f a c k) w' := by
  subst hx hy hz
  exact swapRange_any cap b n a c k f cv w0 W h hac hcn hn

set_option maxRecDepth 100000 in
set_option maxHeartbeats 4000000 in
theorem rotate_any (cap b n a m e : Nat) (f : Nat → Nat) (cv : Value) (w0 W : World) (h : Ord w0 b n f W) (ham : a < m) (hme : m < e) (hen : e ≤ n) (hn : n < 8796093022208) :
    Calls Try.prog 131 #[.slice (some ⟨b, 0, none⟩) n cap, .int .i64 a, .int .i64 m, .int .i64 e, cv] W fun e' w' => e' = .returned (.tuple #[]) ∧ Ord w0 b n (rot f a m e) w' := by
  have H := Lib.hid h
  clear h
  go_enter Try.func131, Try.ntmps131
  go_wp2
  go_loopw [10, 11] (fun x y wr => ∃ (i j : Nat) (g : Nat → Nat), 0 < i ∧ i ≤ m ∧ a + i ≤ m ∧ 0 < j ∧ m + j ≤ e ∧ x = .int .i64 i ∧ y = .int .i64 j ∧ Hid (Ord w0 b n g wr) ∧ Hid (rot g (m - i) m (m + j) = rot f a m e)) (fun x y _ => (intOf x).toNat + (intOf y).toNat)
  case atStart =>
    have e1 : m - (m - a) = a := by omega
    have e2 : m + (e - m) = e := by omega
    exact ⟨m - a, e - m, f, by omega, by omega, by omega, by omega, by omega, by go_num, by go_num, H.out, by rw [e1, e2]; rfl⟩
  case round =>
    obtain ⟨i, j, g, hi0, him, hai, hj0, hje, rfl, rfl, HW, HR⟩ := hrel
    clear H
    rcases Nat.lt_trichotomy i j with hlt | heq | hlt
    · have z1 : ((i : Int) == (j : Int)) = false := by simp; omega
      have z2 : ¬ (j : Int) < (i : Int) := by omega
      go_wp2_with (go_at_call 134; refine (swapRange_at (a := m - i) (c := m + j - i) (k := i) HW.out (by omega) (by omega) (by omega) (by omega) (by omega) hn).mono ?_; rintro e' w' ⟨rfl, S⟩; have HS := Lib.hid S; clear S)
      go_light
      refine ⟨⟨i, j - i, swr g (m - i) (m + j - i) i, hi0, him, hai, by omega, by omega, rfl, by go_num, HS.out, ?_⟩, by simp [intOf]; omega⟩
      show _ = _
      rw [← HR.out, rot_right him hlt]
    · subst heq
      go_wp2_with (go_at_call 134; refine (swapRange_at (a := m - i) (c := m) (k := i) HW.out (by omega) (by omega) (by omega) (by omega) (by omega) hn).mono ?_; rintro e' w' ⟨rfl, S⟩; have HS := Lib.hid S; clear S)
      go_end0
      refine ⟨rfl, ?_⟩
      rw [← HR.out, ← rot_end him]
      exact HS.out
    · have z1 : ((i : Int) == (j : Int)) = false := by simp; omega
      have z2 : (j : Int) < (i : Int) := by omega
      go_wp2_with (go_at_call 134; refine (swapRange_at (a := m - i) (c := m) (k := j) HW.out (by omega) (by omega) (by omega) (by omega) (by omega) hn).mono ?_; rintro e' w' ⟨rfl, S⟩; have HS := Lib.hid S; clear S)
      go_light
      refine ⟨⟨i - j, j, swr g (m - i) m j, by omega, by omega, by omega, hj0, hje, by go_num, rfl, HS.out, ?_⟩, by simp [intOf]; omega⟩
      show _ = _
      rw [← HR.out, rot_left him hlt]
end Go.Proofs.Ytjkoceacjbhblaa
namespace Go.Proofs.Ytjkoceacjbhblaa
open Go.RowKit

/-- the comparison of group.Assign, over names that lie behind the pointer p -/
def cmpV (p : Nat) : Value := .func (.func 96) #[] #[.pointer (some ⟨p, 0, none⟩)]
abbrev CmpA (p : Nat) (w0 : World) (b n : Nat) (cf : Nat → Nat → Int) : Prop := CmpN Try.prog 96 #[.pointer (some ⟨p, 0, none⟩)] w0 b n cf
theorem CmpA.at_ {p b n : Nat} {w0 W : World} {cf : Nat → Nat → Int} {f : Nat → Nat} (h : CmpA p w0 b n cf) (k : Ord w0 b n f W) {x y : Nat} (hx : x < n) (hy : y < n) (m : Nat) :
    Calls Try.prog 96 #[.int .i64 x, .int .i64 y, .pointer (some ⟨p, 0, none⟩)] (W.drewN m) fun e w' => e = .returned (.int .i64 (cf x y)) ∧ ∃ q, w' = (W.drewN m).drewN q := h f _ (k.drewN m) x y hx hy
/-- a row of places: each of the numbers is one -/
def Plc (n : Nat) (f : Nat → Nat) : Prop := ∀ k, k < n → f k < n
theorem Plc.sub {n a b : Nat} {f g : Nat → Nat} (h : Plc n f) (x : Sub a b f g) (hb : b ≤ n) : Plc n g := by
  intro k hk
  by_cases c : a ≤ k ∧ k < b
  · obtain ⟨j, _, j2, e⟩ := x.2 k c.1 c.2
    rw [e]
    exact h j (by omega)
  · rw [x.1 k (by omega)]
    exact h k hk
/-- while one element is carried down -/
structure Sink (cf : Nat → Nat → Int) (a i : Nat) (f : Nat → Nat) (j : Nat) : Prop where
  aj : a ≤ j
  ji : j ≤ i
  up : j = i ∨ Lt cf (f i) (f j)
/-- the rounds that are done -/
structure Done (cf : Nat → Nat → Int) (n a i : Nat) (f0 f : Nat → Nat) : Prop where
  srt : Srt (Lt cf) f a i
  sub : Sub a i f0 f
theorem Done.start (cf : Nat → Nat → Int) (n a : Nat) (f : Nat → Nat) : Done cf n a a f f := ⟨Srt.one (by omega), Sub.refl _ _ _⟩
theorem Done.first {cf : Nat → Nat → Int} {n a : Nat} {f : Nat → Nat} : Done cf n a (a + 1) f f := ⟨Srt.one (by omega), Sub.refl _ _ _⟩
theorem Done.next {cf : Nat → Nat → Int} {n a i j : Nat} {f0 f : Nat → Nat} (o : Ordr (Lt cf)) (h : Done cf n a i f0 f) (hid : ∀ k, a ≤ k → k ≤ i → f0 k = k) (hj : Sink cf a i f j) (hs : j = a ∨ ¬ Lt cf (f i) (f (j - 1))) : Done cf n a (i + 1) f0 (downTo f j i) := by
  have hi : f i = i := (h.sub.1 i (by omega)).trans (hid i (by have := hj.aj; have := hj.ji; omega) (Nat.le_refl _))
  refine ⟨one_right o h.srt (fun k k1 k2 => ?_) hj.aj hj.ji hs hj.up, (h.sub.wide (Nat.le_refl _) (Nat.le_succ _)).trans (Sub.downTo hj.aj hj.ji (Nat.lt_succ_self _))⟩
  obtain ⟨q, q1, q2, e⟩ := h.sub.2 k k1 k2
  rw [e, hid q q1 (by omega), hi]
  exact q2
theorem Sink.start {cf : Nat → Nat → Int} {a i : Nat} {f : Nat → Nat} (h : a ≤ i) : Sink cf a i f i := ⟨h, Nat.le_refl _, Or.inl rfl⟩
theorem Sink.step {cf : Nat → Nat → Int} {a i j : Nat} {f : Nat → Nat} (h : Sink cf a i f (j + 1)) (ha : a ≤ j) (hl : Lt cf (f i) (f j)) : Sink cf a i f j := ⟨ha, by have := h.ji; omega, Or.inr hl⟩
theorem downTo_at {f : Nat → Nat} {j i : Nat} : downTo f j i j = f i := by simp [downTo]
theorem downTo_lo {f : Nat → Nat} {j i : Nat} : downTo f (j + 1) i j = f j := by
  unfold downTo
  rw [if_neg (by omega), if_neg (by omega)]

set_option maxRecDepth 100000 in
set_option maxHeartbeats 4000000 in
theorem insertionN_any (cap b n a e p : Nat) (f : Nat → Nat) (cf : Nat → Nat → Int) (w0 W : World) (hc : CmpA p w0 b n cf) (o : Ordr (Lt cf)) (h : Ord w0 b n f W) (hp : Plc n f) (hid : ∀ k, a ≤ k → k < e → f k = k) (hae : a ≤ e) (hen : e ≤ n) (hn : n < 8796093022208) :
    Calls Try.prog 127 #[.slice (some ⟨b, 0, none⟩) n cap, .int .i64 a, .int .i64 e, cmpV p] W fun e' w' => e' = .returned (.tuple #[]) ∧ ∃ g, Ord w0 b n g w' ∧ Sub a e f g ∧ Srt (Lt cf) g a e := by
  have H := Lib.hid h
  have HC := Lib.hid hc
  have HP := Lib.hid hp
  have HO := Lib.hid o
  have HI := Lib.hid hid
  clear h hc hp o hid
  unfold cmpV
  go_enter Try.func127, Try.ntmps127
  go_wp2
  go_loopw [8] (fun x wr => ∃ (i : Nat) (g : Nat → Nat), a < i ∧ i ≤ e + 1 ∧ x = .int .i64 i ∧ Hid (Ord w0 b n g wr) ∧ Hid (Plc n g) ∧ Hid (i ≤ e → Done cf n a i f g) ∧ Hid (e ≤ i → Srt (Lt cf) g a e ∧ Sub a e f g)) (fun x _ => e + 1 - (intOf x).toNat)
  case atStart => exact ⟨a + 1, f, by omega, by omega, by go_num, H.out, HP.out, fun _ => Done.first, fun _ => ⟨Srt.one (by omega), Sub.refl _ _ _⟩⟩
  case round =>
    obtain ⟨i, g, hai, hie, rfl, HW, HG, HD, HE⟩ := hrel
    clear H HP
    by_cases hlt : i < e
    · have hz : (i : Int) < (e : Int) := by omega
      go_wp2
      go_loopw [9] (fun x wr2 => ∃ j : Nat, a ≤ j ∧ j ≤ i ∧ x = .int .i64 j ∧ Hid (Ord w0 b n (downTo g j i) wr2) ∧ Hid (Sink cf a i g j)) (fun x _ => (intOf x).toNat)
      case atStart => exact ⟨i, by omega, Nat.le_refl _, rfl, by rw [downTo_self]; exact HW.out, Sink.start (by omega)⟩
      case round =>
        obtain ⟨j, haj, hji, rfl, HV, HS⟩ := hrel
        clear HW
        have out : (j = a ∨ ¬ Lt cf (g i) (g (j - 1))) → Done cf n a (i + 1) f (downTo g j i) := fun hs => Done.next HO.out (HD.out (by omega)) (fun k k1 k2 => HI.out k k1 (by omega)) HS.out hs
        have OUT := Lib.hid out
        clear out
        have fin : ∀ W2, Ord w0 b n (downTo g j i) W2 → (j = a ∨ ¬ Lt cf (g i) (g (j - 1))) → (∃ (i' : Nat) (g' : Nat → Nat), a < i' ∧ i' ≤ e + 1 ∧ i + 1 = i' ∧ Hid (Ord w0 b n g' W2) ∧ Hid (Plc n g') ∧ Hid (i' ≤ e → Done cf n a i' f g') ∧ Hid (e ≤ i' → Srt (Lt cf) g' a e ∧ Sub a e f g')) := fun W2 h2 hs =>
          ⟨i + 1, downTo g j i, by omega, by omega, rfl, h2, HG.out.sub (Sub.downTo haj hji (Nat.lt_succ_self i)) (by omega), fun _ => OUT.out hs, fun hh => by
            obtain rfl : e = i + 1 := by omega
            exact ⟨(OUT.out hs).srt, (OUT.out hs).sub⟩⟩
        have FIN := Lib.hid fin
        clear fin OUT
        by_cases hja : a < j
        · obtain ⟨q, rfl⟩ : ∃ q, j = q + 1 := ⟨j - 1, by omega⟩
          have cj := HV.out.cell (i := q + 1) (by omega)
          have cq := HV.out.cell (i := q) (by omega)
          rw [downTo_at] at cj
          rw [downTo_lo] at cq
          have hgi := HG.out i (by omega)
          have hgq := HG.out q (by omega)
          have hc := fun m => HC.out.at_ HV.out hgi hgq m
          obtain ⟨x, hx⟩ : ∃ x, x = g i := ⟨_, rfl⟩
          obtain ⟨y, hy⟩ : ∃ y, y = g q := ⟨_, rfl⟩
          rw [← hx] at cj
          rw [← hy] at cq
          rw [← hx, ← hy] at hc
          have dja : decide ((q : Int) + 1 > (a : Int)) = true := decide_eq_true (by omega)
          have hja' : (a : Int) < (q : Int) + 1 := by omega
          have b1 : (q : Int) + 1 < (n : Int) := by omega
          have b0 : (q : Int) < (n : Int) := by omega
          have p1 : (0 : Int) ≤ (q : Int) + 1 := by omega
          have w1 : IntKind.i64.wrap (q : Int) = (q : Int) := by rw [IntKind.wrap_i64]; omega
          have e1 : ((q : Int) + 1).toNat = q + 1 := by omega
          have HX := Lib.hid hx
          have HY := Lib.hid hy
          have HC2 := Lib.hid hc
          clear hc hx hy hgi hgq
          by_cases hlv : cf x y < 0
          · have hd : decide (cf x y < 0) = true := decide_eq_true hlv
            have S := Sink.step HS.out (by omega) (show Lt cf (g i) (g q) by rw [← HX.out, ← HY.out]; exact hlv)
            have HS2 := Lib.hid S
            clear S HS hlv
            go_wp2_with fail
            go_quiet (first | (go_at_call 96; refine Calls.quiet_of (HC2.out _)))
            have h2 := HV.out.drewN nq
            clear cj cq HC2
            generalize wr.drewN nq = w2 at h2 ⊢
            have cj := h2.cell (i := q + 1) (by omega)
            have cq := h2.cell (i := q) (by omega)
            rw [downTo_at, ← HX.out] at cj
            rw [downTo_lo, ← HY.out] at cq
            have fj := h2.frozen (q + 1)
            have fq := h2.frozen q
            obtain ⟨u, cu⟩ := h2.c2 (i := q + 1) (j := q) (by omega) y
            have S := h2.swap (q + 1) q
            rw [downTo_step (by omega), downTo_at, downTo_lo, ← HX.out, ← HY.out] at S
            have S2 := Lib.hid S
            clear S h2 HV FIN HX HY hd
            go_wp2_with fail
            go_big_region
            all_goals go_wp2
            all_goals go_light
            all_goals exact ⟨⟨q, by omega, by omega, by first | rfl | go_num, S2.out.drew, HS2.out⟩, by simp [intOf]⟩
          · have hd : decide (cf x y < 0) = false := decide_eq_false hlv
            have F := fun m => FIN.out _ (HV.out.drewN m) (Or.inr (show ¬ Lt cf (g i) (g q) by rw [← HX.out, ← HY.out]; exact hlv))
            have HF := Lib.hid F
            clear F FIN HV hlv HX HY
            go_wp2_with fail
            go_quiet (first | (go_at_call 96; refine Calls.quiet_of (HC2.out _)))
            go_wp2
            go_light
            obtain ⟨i', g', h1, h2, rfl, h3, h4, h5, h6⟩ := HF.out nq
            exact ⟨⟨_, g', h1, h2, by go_num, h3, h4, h5, h6⟩, by simp [intOf]; omega⟩
        · obtain rfl : j = a := by omega
          have dja : decide ((j : Int) > (j : Int)) = false := decide_eq_false (by omega)
          have F := FIN.out _ HV.out.drew (Or.inl rfl)
          have HF := Lib.hid F
          clear F FIN HV
          go_wp2_with fail
          go_big_region
          all_goals go_wp2
          all_goals go_light
          all_goals obtain ⟨i', g', h1, h2, rfl, h3, h4, h5, h6⟩ := HF.out
          all_goals exact ⟨⟨_, g', h1, h2, by go_num, h3, h4, h5, h6⟩, by simp [intOf]; omega⟩
    · have hz : ¬ (i : Int) < (e : Int) := by omega
      go_wp2
      go_end0
      exact ⟨rfl, g, HW.out, (HE.out (by omega)).2, (HE.out (by omega)).1⟩
end Go.Proofs.Ytjkoceacjbhblaa
namespace Go.Proofs.Ytjkoceacjbhblaa
open Go.RowKit

def SymPost (b n a e : Nat) (cf : Nat → Nat → Int) (f : Nat → Nat) (w0 : World) (e' : Ending) (w' : World) : Prop := e' = .returned (.tuple #[]) ∧ ∃ g, Ord w0 b n g w' ∧ Sub a e f g ∧ Srt (Lt cf) g a e
theorem carryUp_at {f : Nat → Nat} {a k : Nat} : carryUp f a k k = f a := by
  unfold carryUp
  rw [if_neg (by omega), if_pos rfl]
theorem carryUp_hi {f : Nat → Nat} {a k : Nat} : carryUp f a k (k + 1) = f (k + 1) := by
  unfold carryUp
  rw [if_neg (by omega), if_neg (by omega)]

set_option maxRecDepth 100000 in
set_option maxHeartbeats 4000000 in
theorem sym_left (cap b n a m e p : Nat) (f : Nat → Nat) (cf : Nat → Nat → Int) (w0 W : World) (hc : CmpA p w0 b n cf) (o : Ordr (Lt cf)) (h : Ord w0 b n f W) (hp : Plc n f) (hm : MPre (Lt cf) f a m e) (ham : m = a + 1) (hme : m < e) (hen : e ≤ n) (hn : n < 8796093022208) :
    Calls Try.prog 128 #[.slice (some ⟨b, 0, none⟩) n cap, .int .i64 a, .int .i64 m, .int .i64 e, cmpV p] W (SymPost b n a e cf f w0) := by
  have H := Lib.hid h
  have HC := Lib.hid hc
  have HP := Lib.hid hp
  have HO := Lib.hid o
  have HM := Lib.hid hm
  have z1 : ((m : Int) - (a : Int) == 1) = true := by simp; omega
  have z2 : (m : Int) - (a : Int) = 1 := by omega
  have ham' : a < m := by omega
  have HA := Lib.hid ham
  clear h hc hp o hm ham
  unfold cmpV
  go_enter Try.func128, Try.ntmps128
  go_wp2
  clear z1 z2
  go_loopw [10, 11] (fun x y wr => ∃ i j : Nat, m ≤ i ∧ i ≤ j ∧ j ≤ e ∧ x = .int .i64 i ∧ y = .int .i64 j ∧ Hid (Ord w0 b n f wr) ∧ Hid (i = m ∨ Lt cf (f (i - 1)) (f a)) ∧ Hid (j = e ∨ ¬ Lt cf (f j) (f a))) (fun x y _ => (intOf y).toNat - (intOf x).toNat)
  case atStart => exact ⟨m, e, Nat.le_refl _, by omega, Nat.le_refl _, rfl, rfl, H.out, Or.inl rfl, Or.inl rfl⟩
  case round =>
    obtain ⟨i, j, hmi, hij, hje, rfl, rfl, HW, HL, HR⟩ := hrel
    clear H
    by_cases hlt : i < j
    · have cj := HW.out.cell (i := (i + j) / 2) (by omega)
      have ca := HW.out.cell (i := a) (by omega)
      have hc := fun m => HC.out.at_ HW.out (HP.out ((i + j) / 2) (by omega)) (HP.out a (by omega)) m
      obtain ⟨x, hx⟩ : ∃ x, x = f ((i + j) / 2) := ⟨_, rfl⟩
      obtain ⟨y, hy⟩ : ∃ y, y = f a := ⟨_, rfl⟩
      rw [← hx] at cj
      rw [← hy] at ca
      rw [← hx, ← hy] at hc
      have HX := Lib.hid hx
      have HY := Lib.hid hy
      have HC2 := Lib.hid hc
      clear hc hx hy
      by_cases hlv : cf x y < 0
      · have hd : decide (cf x y < 0) = true := decide_eq_true hlv
        have S : Lt cf (f ((i + j) / 2)) (f a) := by rw [← HX.out, ← HY.out]; exact hlv
        have HS := Lib.hid S
        clear S hlv
        go_wp2_with fail
        go_quiet (first | (go_at_call 96; refine Calls.quiet_of (HC2.out _)))
        go_wp2
        go_light
        exact ⟨⟨(i + j) / 2 + 1, j, by omega, by omega, hje, by rw [show ((i : Int) + (j : Int)) / 2 + 1 = (((i + j) / 2 + 1 : Nat) : Int) by omega], rfl, HW.out.drewN _, Or.inr HS.out, HR.out⟩, by simp [intOf]; omega⟩
      · have hd : decide (cf x y < 0) = false := decide_eq_false hlv
        have S : ¬ Lt cf (f ((i + j) / 2)) (f a) := by rw [← HX.out, ← HY.out]; exact hlv
        have HS := Lib.hid S
        clear S hlv
        go_wp2_with fail
        go_quiet (first | (go_at_call 96; refine Calls.quiet_of (HC2.out _)))
        go_wp2
        go_light
        exact ⟨⟨i, (i + j) / 2, by omega, by omega, by omega, rfl, by rw [show ((i : Int) + (j : Int)) / 2 = (((i + j) / 2 : Nat) : Int) by omega], HW.out.drewN _, HL.out, Or.inr HS.out⟩, by simp [intOf]; omega⟩
    · obtain rfl : i = j := by omega
      obtain ⟨q, rfl⟩ : ∃ q, i = q + 1 := ⟨i - 1, by omega⟩
      go_wp2
      go_loopw [13] (fun x wr2 => ∃ k : Nat, a ≤ k ∧ k ≤ q ∧ x = .int .i64 k ∧ Hid (Ord w0 b n (carryUp f a k) wr2)) (fun x _ => q - (intOf x).toNat)
      case atStart => exact ⟨a, Nat.le_refl _, by omega, rfl, by rw [carryUp_self]; exact HW.out⟩
      case round =>
        obtain ⟨k, hak, hkq, rfl, HV⟩ := hrel
        clear HW
        by_cases hk : k < q
        · have hz : (k : Int) < (q : Int) := by omega
          have ck := HV.out.cell (i := k) (by omega)
          have cl := HV.out.cell (i := k + 1) (by omega)
          have fk := HV.out.frozen k
          have fl := HV.out.frozen (k + 1)
          rw [carryUp_at] at ck
          rw [carryUp_hi] at cl
          have S := HV.out.swap k (k + 1)
          rw [carryUp_step hak, carryUp_at, carryUp_hi] at S
          obtain ⟨u, cu⟩ := HV.out.c2 (i := k) (j := k + 1) (by omega) (f (k + 1))
          obtain ⟨x, hx⟩ : ∃ x, x = f a := ⟨_, rfl⟩
          obtain ⟨y, hy⟩ : ∃ y, y = f (k + 1) := ⟨_, rfl⟩
          rw [← hx] at ck
          rw [← hy] at cl cu
          rw [← hx, ← hy] at S
          have b1 : (k : Int) + 1 < (n : Int) := by omega
          have b0 : (k : Int) < (n : Int) := by omega
          have p1 : (0 : Int) ≤ (k : Int) + 1 := by omega
          have w1 : IntKind.i64.wrap ((k : Int) + 1) = (k : Int) + 1 := by rw [IntKind.wrap_i64]; omega
          have HS := Lib.hid S
          clear S hx hy HV
          go_wp2_with fail
          go_big_region
          all_goals go_wp2
          all_goals go_light
          all_goals exact ⟨⟨k + 1, by omega, by omega, by go_num, HS.out.drew⟩, by simp [intOf]; omega⟩
        · obtain rfl : k = q := by omega
          have hz : ¬ (k : Int) < (k : Int) := by omega
          go_wp2
          go_end0
          have ham := HA.out
          subst ham
          refine ⟨rfl, _, HV.out, Sub.carryUp (by omega) hak, ?_⟩
          exact one_left HO.out HM.out hmi hje HL.out HR.out
end Go.Proofs.Ytjkoceacjbhblaa
namespace Go.Proofs.Ytjkoceacjbhblaa
open Go.RowKit

set_option maxRecDepth 100000 in
set_option maxHeartbeats 4000000 in
theorem sym_right (cap b n a m e p : Nat) (f : Nat → Nat) (cf : Nat → Nat → Int) (w0 W : World) (hc : CmpA p w0 b n cf) (o : Ordr (Lt cf)) (h : Ord w0 b n f W) (hp : Plc n f) (hm : MPre (Lt cf) f a m e) (ham : a + 1 < m) (hme : e = m + 1) (hen : e ≤ n) (hn : n < 8796093022208) :
    Calls Try.prog 128 #[.slice (some ⟨b, 0, none⟩) n cap, .int .i64 a, .int .i64 m, .int .i64 e, cmpV p] W (SymPost b n a e cf f w0) := by
  have H := Lib.hid h
  have HC := Lib.hid hc
  have HP := Lib.hid hp
  have HO := Lib.hid o
  have HM := Lib.hid hm
  have z1 : ((m : Int) - (a : Int) == 1) = false := by simp; omega
  have z2 : ¬ (m : Int) - (a : Int) = 1 := by omega
  have z3 : ((e : Int) - (m : Int) == 1) = true := by simp; omega
  have z4 : (e : Int) - (m : Int) = 1 := by omega
  have hme' : m < e := by omega
  have HA := Lib.hid hme
  clear h hc hp o hm hme
  unfold cmpV
  go_enter Try.func128, Try.ntmps128
  go_wp2
  clear z1 z2 z3 z4
  go_loopw [14, 15] (fun x y wr => ∃ i j : Nat, a ≤ i ∧ i ≤ j ∧ j ≤ m ∧ x = .int .i64 i ∧ y = .int .i64 j ∧ Hid (Ord w0 b n f wr) ∧ Hid (i = a ∨ ¬ Lt cf (f m) (f (i - 1))) ∧ Hid (j = m ∨ Lt cf (f m) (f j))) (fun x y _ => (intOf y).toNat - (intOf x).toNat)
  case atStart => exact ⟨a, m, Nat.le_refl _, by omega, Nat.le_refl _, rfl, rfl, H.out, Or.inl rfl, Or.inl rfl⟩
  case round =>
    obtain ⟨i, j, hai, hij, hjm, rfl, rfl, HW, HL, HR⟩ := hrel
    clear H
    by_cases hlt : i < j
    · have cj := HW.out.cell (i := (i + j) / 2) (by omega)
      have ca := HW.out.cell (i := m) (by omega)
      have hc := fun nn => HC.out.at_ HW.out (HP.out m (by omega)) (HP.out ((i + j) / 2) (by omega)) nn
      obtain ⟨x, hx⟩ : ∃ x, x = f ((i + j) / 2) := ⟨_, rfl⟩
      obtain ⟨y, hy⟩ : ∃ y, y = f m := ⟨_, rfl⟩
      rw [← hx] at cj
      rw [← hy] at ca
      rw [← hx, ← hy] at hc
      have HX := Lib.hid hx
      have HY := Lib.hid hy
      have HC2 := Lib.hid hc
      clear hc hx hy
      by_cases hlv : cf y x < 0
      · have hd : decide (cf y x < 0) = true := decide_eq_true hlv
        have S : Lt cf (f m) (f ((i + j) / 2)) := by rw [← HX.out, ← HY.out]; exact hlv
        have HS := Lib.hid S
        clear S hlv
        go_wp2_with fail
        go_quiet (first | (go_at_call 96; refine Calls.quiet_of (HC2.out _)))
        go_wp2
        go_light
        exact ⟨⟨i, (i + j) / 2, hai, by omega, by omega, rfl, by rw [show ((i : Int) + (j : Int)) / 2 = (((i + j) / 2 : Nat) : Int) by omega], HW.out.drewN _, HL.out, Or.inr HS.out⟩, by simp [intOf]; omega⟩
      · have hd : decide (cf y x < 0) = false := decide_eq_false hlv
        have S : ¬ Lt cf (f m) (f ((i + j) / 2)) := by rw [← HX.out, ← HY.out]; exact hlv
        have HS := Lib.hid S
        clear S hlv
        go_wp2_with fail
        go_quiet (first | (go_at_call 96; refine Calls.quiet_of (HC2.out _)))
        go_wp2
        go_light
        exact ⟨⟨(i + j) / 2 + 1, j, by omega, by omega, hjm, by rw [show ((i : Int) + (j : Int)) / 2 + 1 = (((i + j) / 2 + 1 : Nat) : Int) by omega], rfl, HW.out.drewN _, Or.inr HS.out, HR.out⟩, by simp [intOf]; omega⟩
    · obtain rfl : i = j := by omega
      go_wp2
      go_loopw [17] (fun x wr2 => ∃ k : Nat, i ≤ k ∧ k ≤ m ∧ x = .int .i64 k ∧ Hid (Ord w0 b n (downTo f k m) wr2)) (fun x _ => (intOf x).toNat)
      case atStart => exact ⟨m, by omega, Nat.le_refl _, rfl, by rw [downTo_self]; exact HW.out⟩
      case round =>
        obtain ⟨k, hik, hkm, rfl, HV⟩ := hrel
        clear HW
        by_cases hk : i < k
        · obtain ⟨q, rfl⟩ : ∃ q, k = q + 1 := ⟨k - 1, by omega⟩
          have hz : (i : Int) < (q : Int) + 1 := by omega
          have ck := HV.out.cell (i := q + 1) (by omega)
          have cl := HV.out.cell (i := q) (by omega)
          have fk := HV.out.frozen (q + 1)
          have fl := HV.out.frozen q
          rw [downTo_at] at ck
          rw [downTo_lo] at cl
          have S := HV.out.swap (q + 1) q
          rw [downTo_step (by omega), downTo_at, downTo_lo] at S
          obtain ⟨u, cu⟩ := HV.out.c2 (i := q + 1) (j := q) (by omega) (f q)
          obtain ⟨x, hx⟩ : ∃ x, x = f m := ⟨_, rfl⟩
          obtain ⟨y, hy⟩ : ∃ y, y = f q := ⟨_, rfl⟩
          rw [← hx] at ck
          rw [← hy] at cl cu
          rw [← hx, ← hy] at S
          have b1 : (q : Int) + 1 < (n : Int) := by omega
          have b0 : (q : Int) < (n : Int) := by omega
          have p1 : (0 : Int) ≤ (q : Int) + 1 := by omega
          have w1 : IntKind.i64.wrap (q : Int) = (q : Int) := by rw [IntKind.wrap_i64]; omega
          have e1 : ((q : Int) + 1).toNat = q + 1 := by omega
          have HS := Lib.hid S
          clear S hx hy HV
          go_wp2_with fail
          go_big_region
          all_goals go_wp2
          all_goals go_light
          all_goals exact ⟨⟨q, by omega, by omega, by first | rfl | go_num, HS.out.drew⟩, by simp [intOf]⟩
        · obtain rfl : k = i := by omega
          have hz : ¬ (k : Int) < (k : Int) := by omega
          go_wp2
          go_end0
          have hme := HA.out
          subst hme
          refine ⟨rfl, _, HV.out, Sub.downTo hai hkm (Nat.lt_succ_self _), ?_⟩
          exact one_right HO.out HM.out.left (fun k k1 k2 => HM.out.under k m k1 k2 (Nat.le_refl _) (Nat.lt_succ_self _)) hai hjm HL.out HR.out
end Go.Proofs.Ytjkoceacjbhblaa
namespace Go.Proofs.Ytjkoceacjbhblaa
open Go.RowKit

/-- merges of stretches of at most k -/
def SymOk (cap b n p : Nat) (cf : Nat → Nat → Int) (w0 : World) (k : Nat) : Prop :=
  ∀ (a m e : Nat) (f : Nat → Nat) (W : World) (x y z : Int), Ord w0 b n f W → Plc n f → MPre (Lt cf) f a m e → x = (a : Int) → y = (m : Int) → z = (e : Int) → a < m → m < e → e ≤ n → e - a ≤ k →
    Calls Try.prog 128 #[.slice (some ⟨b, 0, none⟩) n cap, .int .i64 x, .int .i64 y, .int .i64 z, cmpV p] W (SymPost b n a e cf f w0)
theorem rotate_at {cap b n a m e : Nat} {f : Nat → Nat} {cv : Value} {w0 W : World} {x y z : Int} (h : Ord w0 b n f W) (hx : x = (a : Int)) (hy : y = (m : Int)) (hz : z = (e : Int)) (ham : a < m) (hme : m < e) (hen : e ≤ n) (hn : n < 8796093022208) :
    Calls Try.prog 131 #[.slice (some ⟨b, 0, none⟩) n cap, .int .i64 x, .int .i64 y, .int .i64 z, cv] W fun e' w' => e' = .returned (.tuple #[]) ∧ Ord w0 b n (rot f a m e) w' := by
  subst hx hy hz
  exact rotate_any cap b n a m e f cv w0 W h ham hme hen hn
/-- while the cut is sought -/
structure Seek (cf : Nat → Nat → Int) (f : Nat → Nat) (pp lo hi s r : Nat) : Prop where
  ls : lo ≤ s
  sr : s ≤ r
  rh : r ≤ hi
  dn : s = lo ∨ ¬ Lt cf (f (pp - (s - 1))) (f (s - 1))
  up : r = hi ∨ Lt cf (f (pp - r)) (f r)
theorem MPre.same {L : Nat → Nat → Prop} {f g : Nat → Nat} {a m b : Nat} (h : MPre L f a m b) (ham : a ≤ m) (hmb : m ≤ b) (e : ∀ k, a ≤ k → k < b → g k = f k) : MPre L g a m b :=
  ⟨h.left.same fun k k1 k2 => e k k1 (by omega), h.right.same fun k k1 k2 => e k (by omega) k2, fun i j i1 i2 j1 j2 => by rw [e i i1 (by omega), e j (by omega) j2]; exact h.under i j i1 i2 j1 j2⟩
/-- the two stretches cut and rotated -/
structure Cut (L : Nat → Nat → Prop) (f g : Nat → Nat) (a s mid ee e : Nat) : Prop where
  cas : a ≤ s
  csm : s ≤ mid
  cme : mid ≤ ee
  cee : ee ≤ e
  sub : Sub a e f g
  cross : ∀ i j, a ≤ i → i < mid → mid ≤ j → j < e → Tie L (g i) (g j)
  lo : MPre L g a s mid
  hi : MPre L g mid ee e
section
variable {L : Nat → Nat → Prop} {f g g1 g2 : Nat → Nat} {a s mid ee e n : Nat}
theorem Cut.lo_done (h : Cut L f g a s mid ee e) (k : ¬ (a < s ∧ s < mid)) : Srt L g a mid := by
  have := h.cas; have := h.csm
  rcases (show a = s ∨ s = mid by omega) with rfl | rfl
  · exact h.lo.right
  · exact h.lo.left
theorem Cut.hi_next (h : Cut L f g a s mid ee e) (x : Sub a mid g g1) : MPre L g1 mid ee e := h.hi.same h.cme h.cee fun k k1 _ => x.1 k (by omega)
theorem Cut.hi_done (h : Cut L f g a s mid ee e) (x : Sub a mid g g1) (k : ¬ (mid < ee ∧ ee < e)) : Srt L g1 mid e := by
  have hh := h.hi_next x
  have := h.cme; have := h.cee
  rcases (show mid = ee ∨ ee = e by omega) with rfl | rfl
  · exact hh.right
  · exact hh.left
theorem Cut.fin (h : Cut L f g a s mid ee e) (x : Sub a mid g g1) (s1 : Srt L g1 a mid) (y : Sub mid e g1 g2) (s2 : Srt L g2 mid e) : Sub a e f g2 ∧ Srt L g2 a e := by
  have := h.cas; have := h.csm; have := h.cme; have := h.cee
  exact ⟨(h.sub.trans (x.wide (Nat.le_refl _) (by omega))).trans (y.wide (by omega) (Nat.le_refl _)), Srt.halves h.cross x y s1 s2⟩
end
theorem Seek.cut {cf : Nat → Nat → Int} {f : Nat → Nat} {a m e pp lo hi mid s : Nat} (o : Ordr (Lt cf)) (h : MPre (Lt cf) f a m e) (ham : a < m) (hme : m < e) (m3 : 2 * mid ≤ a + e) (m4 : a + e ≤ 2 * mid + 1)
    (hl : (mid < m ∧ lo + e = mid + m ∧ hi = mid) ∨ (m ≤ mid ∧ lo = a ∧ hi = m)) (hpp : mid + m = pp + 1) (k : Seek cf f pp lo hi s s) {ee : Nat} (hee : pp + 1 = s + ee) : Cut (Lt cf) f (rot f s m ee) a s mid ee e ∧ s ≤ m ∧ m ≤ ee := by
  have e1 : mid + m - 1 = pp := by omega
  have e2 : mid + m - s = ee := by omega
  obtain ⟨c1, c2, c3, c4, t1, t2⟩ := cut_ok o h ham hme m3 m4 hl k.ls k.rh (by rw [e1]; exact k.dn) (by rw [e1]; exact k.up)
  rw [e2] at c3 c4 t1 t2
  obtain ⟨h1, h2, h3⟩ := h.halves (mid := mid) c1 c2 c3 c4 (by omega) t1 t2
  have := k.rh
  have := k.ls
  exact ⟨⟨c1, by omega, by omega, c4, Sub.rot c2 c3 c1 c4, h1, h2, h3⟩, c2, c3⟩

set_option maxRecDepth 100000 in
set_option maxHeartbeats 16000000 in
theorem sym_gen (cap b n a m e p k mid lo hi : Nat) (f : Nat → Nat) (cf : Nat → Nat → Int) (w0 W : World) (ih : SymOk cap b n p cf w0 k) (hc : CmpA p w0 b n cf) (o : Ordr (Lt cf)) (h : Ord w0 b n f W) (hp : Plc n f) (hm : MPre (Lt cf) f a m e) (ham : a + 1 < m) (hme : m + 1 < e) (hen : e ≤ n) (hn : n < 8796093022208) (hk : e - a ≤ k + 1)
    (hmid : (a + e) / 2 = mid) (hl : (mid < m ∧ lo + e = mid + m ∧ hi = mid) ∨ (m ≤ mid ∧ lo = a ∧ hi = m)) :
    Calls Try.prog 128 #[.slice (some ⟨b, 0, none⟩) n cap, .int .i64 a, .int .i64 m, .int .i64 e, cmpV p] W (SymPost b n a e cf f w0) := by
  have H := Lib.hid h
  have HC := Lib.hid hc
  have HP := Lib.hid hp
  have HO := Lib.hid o
  have HM := Lib.hid hm
  have HL := Lib.hid hl
  have IH := Lib.hid ih
  have z1 : ((m : Int) - (a : Int) == 1) = false := by simp; omega
  have z2 : ¬ (m : Int) - (a : Int) = 1 := by omega
  have z3 : ((e : Int) - (m : Int) == 1) = false := by simp; omega
  have z4 : ¬ (e : Int) - (m : Int) = 1 := by omega
  have m1 : a < mid := by omega
  have m2 : mid < e := by omega
  have m3 : 2 * mid ≤ a + e := by omega
  have m4 : a + e ≤ 2 * mid + 1 := by omega
  have em : ((a : Int) + (e : Int)) / 2 = (mid : Int) := by omega
  obtain ⟨pp, hpp⟩ : ∃ pp, mid + m = pp + 1 := ⟨mid + m - 1, by omega⟩
  have HPP := Lib.hid hpp
  have en : (mid : Int) + (m : Int) = (pp : Int) + 1 := by omega
  clear h hc hp o hm ih hmid hpp
  unfold cmpV
  rcases hl with ⟨l1, l2, l3⟩ | ⟨l1, l2, l3⟩
  · have q1 : (mid : Int) < (m : Int) := by omega
    have q2 : (pp : Int) + 1 - (e : Int) = (lo : Int) := by omega
    have L := Lib.hid l3
    clear l2 l3
    go_enter Try.func128, Try.ntmps128
    go_wp2
    clear q1 q2 z1 z2 z3 z4 em en l1
    have L1 : Hid (Value.int .i64 (lo : Int) = .int .i64 lo ∧ Value.int .i64 (mid : Int) = .int .i64 hi) := ⟨rfl, by rw [L.out]⟩
    go_loopw [20, 21] (fun x y wr => ∃ s r : Nat, x = .int .i64 s ∧ y = .int .i64 r ∧ s ≤ r ∧ lo ≤ s ∧ r ≤ hi ∧ Hid (Ord w0 b n f wr) ∧ Hid (Seek cf f pp lo hi s r)) (fun x y _ => (intOf y).toNat - (intOf x).toNat)
    case atStart => exact ⟨lo, hi, L1.out.1, L1.out.2, by have := HL.out; omega, Nat.le_refl _, Nat.le_refl _, H.out, ⟨Nat.le_refl _, by have := HL.out; omega, Nat.le_refl _, Or.inl rfl, Or.inl rfl⟩⟩
    case round =>
      obtain ⟨s, r, rfl, rfl, hsr, hls, hrh, HW, HS⟩ := hrel
      clear H L1
      by_cases hlt : s < r
      · have bb : (s + r) / 2 < n ∧ (s + r) / 2 ≤ pp ∧ pp - (s + r) / 2 < n := by
          have := HL.out; have := HPP.out
          omega
        obtain ⟨c, hc⟩ : ∃ c, c = (s + r) / 2 := ⟨_, rfl⟩
        obtain ⟨u, hu⟩ : ∃ u, u = pp - (s + r) / 2 := ⟨_, rfl⟩
        have ec : ((s : Int) + (r : Int)) / 2 = (c : Int) := by omega
        have eu : (pp : Int) - (c : Int) = (u : Int) := by omega
        have hsc : s ≤ c := by omega
        have hcr : c < r := by omega
        have huc : u = pp - c := by omega
        have bc : c < n := by omega
        have bu : u < n := by omega
        clear bb hu hc
        have cj := HW.out.cell bu
        have ca := HW.out.cell bc
        have hc := fun nn => HC.out.at_ HW.out (HP.out u bu) (HP.out c bc) nn
        obtain ⟨x, hx⟩ : ∃ x, x = f u := ⟨_, rfl⟩
        obtain ⟨y, hy⟩ : ∃ y, y = f c := ⟨_, rfl⟩
        rw [← hx] at cj
        rw [← hy] at ca
        rw [← hx, ← hy] at hc
        have HC2 := Lib.hid hc
        by_cases hlv : cf x y < 0
        · have hd : decide (cf x y < 0) = true := decide_eq_true hlv
          have S : Seek cf f pp lo hi s c := ⟨HS.out.ls, hsc, by have := HS.out.rh; omega, HS.out.dn, Or.inr (by rw [← huc, ← hx, ← hy]; exact hlv)⟩
          have HS2 := Lib.hid S
          clear S hlv hc hx hy huc HS
          go_wp2_with fail
          go_quiet (first | (go_at_call 96; refine Calls.quiet_of (HC2.out _)))
          go_wp2
          go_light
          exact ⟨⟨s, c, rfl, rfl, by omega, by omega, by omega, HW.out.drewN _, HS2.out⟩, by simp [intOf]; omega⟩
        · have hd : decide (cf x y < 0) = false := decide_eq_false hlv
          have S : Seek cf f pp lo hi (c + 1) r := ⟨by have := HS.out.ls; omega, by omega, HS.out.rh, Or.inr (by rw [Nat.add_sub_cancel, ← huc, ← hx, ← hy]; exact hlv), HS.out.up⟩
          have HS2 := Lib.hid S
          clear S hlv hc hx hy huc HS
          go_wp2_with fail
          go_quiet (first | (go_at_call 96; refine Calls.quiet_of (HC2.out _)))
          go_wp2
          go_light
          exact ⟨⟨c + 1, r, by go_num, rfl, by omega, by omega, by omega, HW.out.drewN _, HS2.out⟩, by simp [intOf]; omega⟩
      · obtain rfl : s = r := by omega
        obtain ⟨ee, hee⟩ : ∃ ee, pp + 1 = s + ee := ⟨pp + 1 - s, by have := HL.out; have := HPP.out; omega⟩
        have eee : (pp : Int) + 1 - (s : Int) = (ee : Int) := by omega
        obtain ⟨cut, hsm, hmee⟩ := HS.out.cut HO.out HM.out (by omega) (by omega) m3 m4 HL.out HPP.out hee
        have cee := cut.cee
        have cas := cut.cas
        have HK := Lib.hid cut
        clear cut hee hlt hsr
        by_cases k1 : s < m ∧ m < ee
        · obtain ⟨k1a, k1b⟩ := k1
          by_cases k2 : a < s ∧ s < mid
          · obtain ⟨k2a, k2b⟩ := k2
            by_cases k3 : mid < ee ∧ ee < e
            · obtain ⟨k3a, k3b⟩ := k3
              go_wp2_with fail
              go_at_call 131
              refine (rotate_at HW.out rfl rfl rfl k1a k1b (by omega) hn).mono ?_
              rintro e1 W1 ⟨rfl, G⟩
              have HG := Lib.hid G
              clear G HW
              go_wp2_with fail
              go_at_call 128
              refine (IH.out a s mid _ _ _ _ _ HG.out (HP.out.sub HK.out.sub hen) HK.out.lo rfl rfl rfl k2a k2b (by omega) (by omega)).mono ?_
              rintro e2 W2 ⟨rfl, g1, G, X, Y⟩
              have HG1 := Lib.hid G
              have HX1 := Lib.hid X
              have HY1 := Lib.hid Y
              clear G X Y HG
              go_wp2_with fail
              go_at_call 128
              refine (IH.out mid ee e _ _ _ _ _ HG1.out ((HP.out.sub HK.out.sub hen).sub HX1.out (by omega)) (HK.out.hi_next HX1.out) rfl rfl rfl k3a k3b (by omega) (by omega)).mono ?_
              rintro e3 W3 ⟨rfl, g2, G, X, Y⟩
              have HG2 := Lib.hid G
              have HX2 := Lib.hid X
              have HY2 := Lib.hid Y
              clear G X Y
              go_wp2
              go_end0
              have F := HK.out.fin HX1.out HY1.out HX2.out HY2.out
              exact ⟨rfl, _, HG2.out, F.1, F.2⟩
            · have k3h := Lib.hid k3
              clear k3
              rcases (show ¬ mid < ee ∨ (mid < ee ∧ ¬ ee < e) by have := k3h.out; omega) with g5 | ⟨g5, g6⟩
              all_goals
                go_wp2_with fail
                go_at_call 131
                refine (rotate_at HW.out rfl rfl rfl k1a k1b (by omega) hn).mono ?_
                rintro e1 W1 ⟨rfl, G⟩
                have HG := Lib.hid G
                clear G HW
                go_wp2_with fail
                go_at_call 128
                refine (IH.out a s mid _ _ _ _ _ HG.out (HP.out.sub HK.out.sub hen) HK.out.lo rfl rfl rfl k2a k2b (by omega) (by omega)).mono ?_
                rintro e2 W2 ⟨rfl, g1, G, X, Y⟩
                have HG1 := Lib.hid G
                have HX1 := Lib.hid X
                have HY1 := Lib.hid Y
                clear G X Y HG
                go_wp2
                go_end0
                have F := HK.out.fin HX1.out HY1.out (Sub.refl _ _ _) (HK.out.hi_done HX1.out k3h.out)
                exact ⟨rfl, _, HG1.out, F.1, F.2⟩
          · have k2h := Lib.hid k2
            by_cases k3 : mid < ee ∧ ee < e
            · obtain ⟨k3a, k3b⟩ := k3
              have HK2 := Lib.hid (HK.out.lo_done k2)
              clear k2
              rcases (show ¬ a < s ∨ (a < s ∧ ¬ s < mid) by have := k2h.out; omega) with g3 | ⟨g3, g4⟩
              all_goals
                go_wp2_with fail
                go_at_call 131
                refine (rotate_at HW.out rfl rfl rfl k1a k1b (by omega) hn).mono ?_
                rintro e1 W1 ⟨rfl, G⟩
                have HG := Lib.hid G
                clear G HW
                go_wp2_with fail
                go_at_call 128
                refine (IH.out mid ee e _ _ _ _ _ HG.out ((HP.out.sub HK.out.sub hen).sub (Sub.refl a mid _) (by omega)) (HK.out.hi_next (Sub.refl a mid _)) rfl rfl rfl k3a k3b (by omega) (by omega)).mono ?_
                rintro e3 W3 ⟨rfl, g2, G, X, Y⟩
                have HG2 := Lib.hid G
                have HX2 := Lib.hid X
                have HY2 := Lib.hid Y
                clear G X Y
                go_wp2
                go_end0
                have F := HK.out.fin (Sub.refl a mid _) HK2.out HX2.out HY2.out
                exact ⟨rfl, _, HG2.out, F.1, F.2⟩
            · have k3h := Lib.hid k3
              have HK2 := Lib.hid (HK.out.lo_done k2)
              clear k2
              clear k3
              rcases (show ¬ a < s ∨ (a < s ∧ ¬ s < mid) by have := k2h.out; omega) with g3 | ⟨g3, g4⟩
              all_goals rcases (show ¬ mid < ee ∨ (mid < ee ∧ ¬ ee < e) by have := k3h.out; omega) with g5 | ⟨g5, g6⟩
              all_goals
                go_wp2_with fail
                go_at_call 131
                refine (rotate_at HW.out rfl rfl rfl k1a k1b (by omega) hn).mono ?_
                rintro e1 W1 ⟨rfl, G⟩
                have HG := Lib.hid G
                clear G HW
                go_wp2
                go_end0
                have F := HK.out.fin (Sub.refl a mid _) HK2.out (Sub.refl _ _ _) (HK.out.hi_done (Sub.refl a mid _) k3h.out)
                exact ⟨rfl, _, HG.out, F.1, F.2⟩
        · have hg : rot f s m ee = f := rot_nil hsm hmee (by omega)
          have HG : Hid (Ord w0 b n (rot f s m ee) wr) := by rw [hg]; exact HW.out
          clear HW hg
          have k1h := Lib.hid k1
          clear k1
          by_cases k2 : a < s ∧ s < mid
          · obtain ⟨k2a, k2b⟩ := k2
            by_cases k3 : mid < ee ∧ ee < e
            · obtain ⟨k3a, k3b⟩ := k3
              rcases (show ¬ s < m ∨ (s < m ∧ ¬ m < ee) by have := k1h.out; omega) with g1 | ⟨g1, g2⟩
              all_goals
                go_wp2_with fail
                go_at_call 128
                refine (IH.out a s mid _ _ _ _ _ HG.out (HP.out.sub HK.out.sub hen) HK.out.lo rfl rfl rfl k2a k2b (by omega) (by omega)).mono ?_
                rintro e2 W2 ⟨rfl, g1, G, X, Y⟩
                have HG1 := Lib.hid G
                have HX1 := Lib.hid X
                have HY1 := Lib.hid Y
                clear G X Y HG
                go_wp2_with fail
                go_at_call 128
                refine (IH.out mid ee e _ _ _ _ _ HG1.out ((HP.out.sub HK.out.sub hen).sub HX1.out (by omega)) (HK.out.hi_next HX1.out) rfl rfl rfl k3a k3b (by omega) (by omega)).mono ?_
                rintro e3 W3 ⟨rfl, g2, G, X, Y⟩
                have HG2 := Lib.hid G
                have HX2 := Lib.hid X
                have HY2 := Lib.hid Y
                clear G X Y
                go_wp2
                go_end0
                have F := HK.out.fin HX1.out HY1.out HX2.out HY2.out
                exact ⟨rfl, _, HG2.out, F.1, F.2⟩
            · have k3h := Lib.hid k3
              clear k3
              rcases (show ¬ s < m ∨ (s < m ∧ ¬ m < ee) by have := k1h.out; omega) with g1 | ⟨g1, g2⟩
              all_goals rcases (show ¬ mid < ee ∨ (mid < ee ∧ ¬ ee < e) by have := k3h.out; omega) with g5 | ⟨g5, g6⟩
              all_goals
                go_wp2_with fail
                go_at_call 128
                refine (IH.out a s mid _ _ _ _ _ HG.out (HP.out.sub HK.out.sub hen) HK.out.lo rfl rfl rfl k2a k2b (by omega) (by omega)).mono ?_
                rintro e2 W2 ⟨rfl, g1, G, X, Y⟩
                have HG1 := Lib.hid G
                have HX1 := Lib.hid X
                have HY1 := Lib.hid Y
                clear G X Y HG
                go_wp2
                go_end0
                have F := HK.out.fin HX1.out HY1.out (Sub.refl _ _ _) (HK.out.hi_done HX1.out k3h.out)
                exact ⟨rfl, _, HG1.out, F.1, F.2⟩
          · have k2h := Lib.hid k2
            by_cases k3 : mid < ee ∧ ee < e
            · obtain ⟨k3a, k3b⟩ := k3
              have HK2 := Lib.hid (HK.out.lo_done k2)
              clear k2
              rcases (show ¬ s < m ∨ (s < m ∧ ¬ m < ee) by have := k1h.out; omega) with g1 | ⟨g1, g2⟩
              all_goals rcases (show ¬ a < s ∨ (a < s ∧ ¬ s < mid) by have := k2h.out; omega) with g3 | ⟨g3, g4⟩
              all_goals
                go_wp2_with fail
                go_at_call 128
                refine (IH.out mid ee e _ _ _ _ _ HG.out ((HP.out.sub HK.out.sub hen).sub (Sub.refl a mid _) (by omega)) (HK.out.hi_next (Sub.refl a mid _)) rfl rfl rfl k3a k3b (by omega) (by omega)).mono ?_
                rintro e3 W3 ⟨rfl, g2, G, X, Y⟩
                have HG2 := Lib.hid G
                have HX2 := Lib.hid X
                have HY2 := Lib.hid Y
                clear G X Y
                go_wp2
                go_end0
                have F := HK.out.fin (Sub.refl a mid _) HK2.out HX2.out HY2.out
                exact ⟨rfl, _, HG2.out, F.1, F.2⟩
            · have k3h := Lib.hid k3
              have HK2 := Lib.hid (HK.out.lo_done k2)
              clear k2
              clear k3
              rcases (show ¬ s < m ∨ (s < m ∧ ¬ m < ee) by have := k1h.out; omega) with g1 | ⟨g1, g2⟩
              all_goals rcases (show ¬ a < s ∨ (a < s ∧ ¬ s < mid) by have := k2h.out; omega) with g3 | ⟨g3, g4⟩
              all_goals rcases (show ¬ mid < ee ∨ (mid < ee ∧ ¬ ee < e) by have := k3h.out; omega) with g5 | ⟨g5, g6⟩
              all_goals
                go_wp2
                go_end0
                have F := HK.out.fin (Sub.refl a mid _) HK2.out (Sub.refl _ _ _) (HK.out.hi_done (Sub.refl a mid _) k3h.out)
                exact ⟨rfl, _, HG.out, F.1, F.2⟩
  · have q1 : ¬ (mid : Int) < (m : Int) := by omega
    have L := Lib.hid (And.intro l2 l3)
    clear l2 l3
    go_enter Try.func128, Try.ntmps128
    go_wp2
    clear q1 z1 z2 z3 z4 em en l1
    have L1 : Hid (Value.int .i64 (a : Int) = .int .i64 lo ∧ Value.int .i64 (m : Int) = .int .i64 hi) := ⟨by rw [L.out.1], by rw [L.out.2]⟩
    go_loopw [20, 21] (fun x y wr => ∃ s r : Nat, x = .int .i64 s ∧ y = .int .i64 r ∧ s ≤ r ∧ lo ≤ s ∧ r ≤ hi ∧ Hid (Ord w0 b n f wr) ∧ Hid (Seek cf f pp lo hi s r)) (fun x y _ => (intOf y).toNat - (intOf x).toNat)
    case atStart => exact ⟨lo, hi, L1.out.1, L1.out.2, by have := HL.out; omega, Nat.le_refl _, Nat.le_refl _, H.out, ⟨Nat.le_refl _, by have := HL.out; omega, Nat.le_refl _, Or.inl rfl, Or.inl rfl⟩⟩
    case round =>
      obtain ⟨s, r, rfl, rfl, hsr, hls, hrh, HW, HS⟩ := hrel
      clear H L1
      by_cases hlt : s < r
      · have bb : (s + r) / 2 < n ∧ (s + r) / 2 ≤ pp ∧ pp - (s + r) / 2 < n := by
          have := HL.out; have := HPP.out
          omega
        obtain ⟨c, hc⟩ : ∃ c, c = (s + r) / 2 := ⟨_, rfl⟩
        obtain ⟨u, hu⟩ : ∃ u, u = pp - (s + r) / 2 := ⟨_, rfl⟩
        have ec : ((s : Int) + (r : Int)) / 2 = (c : Int) := by omega
        have eu : (pp : Int) - (c : Int) = (u : Int) := by omega
        have hsc : s ≤ c := by omega
        have hcr : c < r := by omega
        have huc : u = pp - c := by omega
        have bc : c < n := by omega
        have bu : u < n := by omega
        clear bb hu hc
        have cj := HW.out.cell bu
        have ca := HW.out.cell bc
        have hc := fun nn => HC.out.at_ HW.out (HP.out u bu) (HP.out c bc) nn
        obtain ⟨x, hx⟩ : ∃ x, x = f u := ⟨_, rfl⟩
        obtain ⟨y, hy⟩ : ∃ y, y = f c := ⟨_, rfl⟩
        rw [← hx] at cj
        rw [← hy] at ca
        rw [← hx, ← hy] at hc
        have HC2 := Lib.hid hc
        by_cases hlv : cf x y < 0
        · have hd : decide (cf x y < 0) = true := decide_eq_true hlv
          have S : Seek cf f pp lo hi s c := ⟨HS.out.ls, hsc, by have := HS.out.rh; omega, HS.out.dn, Or.inr (by rw [← huc, ← hx, ← hy]; exact hlv)⟩
          have HS2 := Lib.hid S
          clear S hlv hc hx hy huc HS
          go_wp2_with fail
          go_quiet (first | (go_at_call 96; refine Calls.quiet_of (HC2.out _)))
          go_wp2
          go_light
          exact ⟨⟨s, c, rfl, rfl, by omega, by omega, by omega, HW.out.drewN _, HS2.out⟩, by simp [intOf]; omega⟩
        · have hd : decide (cf x y < 0) = false := decide_eq_false hlv
          have S : Seek cf f pp lo hi (c + 1) r := ⟨by have := HS.out.ls; omega, by omega, HS.out.rh, Or.inr (by rw [Nat.add_sub_cancel, ← huc, ← hx, ← hy]; exact hlv), HS.out.up⟩
          have HS2 := Lib.hid S
          clear S hlv hc hx hy huc HS
          go_wp2_with fail
          go_quiet (first | (go_at_call 96; refine Calls.quiet_of (HC2.out _)))
          go_wp2
          go_light
          exact ⟨⟨c + 1, r, by go_num, rfl, by omega, by omega, by omega, HW.out.drewN _, HS2.out⟩, by simp [intOf]; omega⟩
      · obtain rfl : s = r := by omega
        obtain ⟨ee, hee⟩ : ∃ ee, pp + 1 = s + ee := ⟨pp + 1 - s, by have := HL.out; have := HPP.out; omega⟩
        have eee : (pp : Int) + 1 - (s : Int) = (ee : Int) := by omega
        obtain ⟨cut, hsm, hmee⟩ := HS.out.cut HO.out HM.out (by omega) (by omega) m3 m4 HL.out HPP.out hee
        have cee := cut.cee
        have cas := cut.cas
        have HK := Lib.hid cut
        clear cut hee hlt hsr
        by_cases k1 : s < m ∧ m < ee
        · obtain ⟨k1a, k1b⟩ := k1
          by_cases k2 : a < s ∧ s < mid
          · obtain ⟨k2a, k2b⟩ := k2
            by_cases k3 : mid < ee ∧ ee < e
            · obtain ⟨k3a, k3b⟩ := k3
              go_wp2_with fail
              go_at_call 131
              refine (rotate_at HW.out rfl rfl rfl k1a k1b (by omega) hn).mono ?_
              rintro e1 W1 ⟨rfl, G⟩
              have HG := Lib.hid G
              clear G HW
              go_wp2_with fail
              go_at_call 128
              refine (IH.out a s mid _ _ _ _ _ HG.out (HP.out.sub HK.out.sub hen) HK.out.lo rfl rfl rfl k2a k2b (by omega) (by omega)).mono ?_
              rintro e2 W2 ⟨rfl, g1, G, X, Y⟩
              have HG1 := Lib.hid G
              have HX1 := Lib.hid X
              have HY1 := Lib.hid Y
              clear G X Y HG
              go_wp2_with fail
              go_at_call 128
              refine (IH.out mid ee e _ _ _ _ _ HG1.out ((HP.out.sub HK.out.sub hen).sub HX1.out (by omega)) (HK.out.hi_next HX1.out) rfl rfl rfl k3a k3b (by omega) (by omega)).mono ?_
              rintro e3 W3 ⟨rfl, g2, G, X, Y⟩
              have HG2 := Lib.hid G
              have HX2 := Lib.hid X
              have HY2 := Lib.hid Y
              clear G X Y
              go_wp2
              go_end0
              have F := HK.out.fin HX1.out HY1.out HX2.out HY2.out
              exact ⟨rfl, _, HG2.out, F.1, F.2⟩
            · have k3h := Lib.hid k3
              clear k3
              rcases (show ¬ mid < ee ∨ (mid < ee ∧ ¬ ee < e) by have := k3h.out; omega) with g5 | ⟨g5, g6⟩
              all_goals
                go_wp2_with fail
                go_at_call 131
                refine (rotate_at HW.out rfl rfl rfl k1a k1b (by omega) hn).mono ?_
                rintro e1 W1 ⟨rfl, G⟩
                have HG := Lib.hid G
                clear G HW
                go_wp2_with fail
                go_at_call 128
                refine (IH.out a s mid _ _ _ _ _ HG.out (HP.out.sub HK.out.sub hen) HK.out.lo rfl rfl rfl k2a k2b (by omega) (by omega)).mono ?_
                rintro e2 W2 ⟨rfl, g1, G, X, Y⟩
                have HG1 := Lib.hid G
                have HX1 := Lib.hid X
                have HY1 := Lib.hid Y
                clear G X Y HG
                go_wp2
                go_end0
                have F := HK.out.fin HX1.out HY1.out (Sub.refl _ _ _) (HK.out.hi_done HX1.out k3h.out)
                exact ⟨rfl, _, HG1.out, F.1, F.2⟩
          · have k2h := Lib.hid k2
            by_cases k3 : mid < ee ∧ ee < e
            · obtain ⟨k3a, k3b⟩ := k3
              have HK2 := Lib.hid (HK.out.lo_done k2)
              clear k2
              rcases (show ¬ a < s ∨ (a < s ∧ ¬ s < mid) by have := k2h.out; omega) with g3 | ⟨g3, g4⟩
              all_goals
                go_wp2_with fail
                go_at_call 131
                refine (rotate_at HW.out rfl rfl rfl k1a k1b (by omega) hn).mono ?_
                rintro e1 W1 ⟨rfl, G⟩
                have HG := Lib.hid G
                clear G HW
                go_wp2_with fail
                go_at_call 128
                refine (IH.out mid ee e _ _ _ _ _ HG.out ((HP.out.sub HK.out.sub hen).sub (Sub.refl a mid _) (by omega)) (HK.out.hi_next (Sub.refl a mid _)) rfl rfl rfl k3a k3b (by omega) (by omega)).mono ?_
                rintro e3 W3 ⟨rfl, g2, G, X, Y⟩
                have HG2 := Lib.hid G
                have HX2 := Lib.hid X
                have HY2 := Lib.hid Y
                clear G X Y
                go_wp2
                go_end0
                have F := HK.out.fin (Sub.refl a mid _) HK2.out HX2.out HY2.out
                exact ⟨rfl, _, HG2.out, F.1, F.2⟩
            · have k3h := Lib.hid k3
              have HK2 := Lib.hid (HK.out.lo_done k2)
              clear k2
              clear k3
              rcases (show ¬ a < s ∨ (a < s ∧ ¬ s < mid) by have := k2h.out; omega) with g3 | ⟨g3, g4⟩
              all_goals rcases (show ¬ mid < ee ∨ (mid < ee ∧ ¬ ee < e) by have := k3h.out; omega) with g5 | ⟨g5, g6⟩
              all_goals
                go_wp2_with fail
                go_at_call 131
                refine (rotate_at HW.out rfl rfl rfl k1a k1b (by omega) hn).mono ?_
                rintro e1 W1 ⟨rfl, G⟩
                have HG := Lib.hid G
                clear G HW
                go_wp2
                go_end0
                have F := HK.out.fin (Sub.refl a mid _) HK2.out (Sub.refl _ _ _) (HK.out.hi_done (Sub.refl a mid _) k3h.out)
                exact ⟨rfl, _, HG.out, F.1, F.2⟩
        · have hg : rot f s m ee = f := rot_nil hsm hmee (by omega)
          have HG : Hid (Ord w0 b n (rot f s m ee) wr) := by rw [hg]; exact HW.out
          clear HW hg
          have k1h := Lib.hid k1
          clear k1
          by_cases k2 : a < s ∧ s < mid
          · obtain ⟨k2a, k2b⟩ := k2
            by_cases k3 : mid < ee ∧ ee < e
            · obtain ⟨k3a, k3b⟩ := k3
              rcases (show ¬ s < m ∨ (s < m ∧ ¬ m < ee) by have := k1h.out; omega) with g1 | ⟨g1, g2⟩
              all_goals
                go_wp2_with fail
                go_at_call 128
                refine (IH.out a s mid _ _ _ _ _ HG.out (HP.out.sub HK.out.sub hen) HK.out.lo rfl rfl rfl k2a k2b (by omega) (by omega)).mono ?_
                rintro e2 W2 ⟨rfl, g1, G, X, Y⟩
                have HG1 := Lib.hid G
                have HX1 := Lib.hid X
                have HY1 := Lib.hid Y
                clear G X Y HG
                go_wp2_with fail
                go_at_call 128
                refine (IH.out mid ee e _ _ _ _ _ HG1.out ((HP.out.sub HK.out.sub hen).sub HX1.out (by omega)) (HK.out.hi_next HX1.out) rfl rfl rfl k3a k3b (by omega) (by omega)).mono ?_
                rintro e3 W3 ⟨rfl, g2, G, X, Y⟩
                have HG2 := Lib.hid G
                have HX2 := Lib.hid X
                have HY2 := Lib.hid Y
                clear G X Y
                go_wp2
                go_end0
                have F := HK.out.fin HX1.out HY1.out HX2.out HY2.out
                exact ⟨rfl, _, HG2.out, F.1, F.2⟩
            · have k3h := Lib.hid k3
              clear k3
              rcases (show ¬ s < m ∨ (s < m ∧ ¬ m < ee) by have := k1h.out; omega) with g1 | ⟨g1, g2⟩
              all_goals rcases (show ¬ mid < ee ∨ (mid < ee ∧ ¬ ee < e) by have := k3h.out; omega) with g5 | ⟨g5, g6⟩
              all_goals
                go_wp2_with fail
                go_at_call 128
                refine (IH.out a s mid _ _ _ _ _ HG.out (HP.out.sub HK.out.sub hen) HK.out.lo rfl rfl rfl k2a k2b (by omega) (by omega)).mono ?_
                rintro e2 W2 ⟨rfl, g1, G, X, Y⟩
                have HG1 := Lib.hid G
                have HX1 := Lib.hid X
                have HY1 := Lib.hid Y
                clear G X Y HG
                go_wp2
                go_end0
                have F := HK.out.fin HX1.out HY1.out (Sub.refl _ _ _) (HK.out.hi_done HX1.out k3h.out)
                exact ⟨rfl, _, HG1.out, F.1, F.2⟩
          · have k2h := Lib.hid k2
            by_cases k3 : mid < ee ∧ ee < e
            · obtain ⟨k3a, k3b⟩ := k3
              have HK2 := Lib.hid (HK.out.lo_done k2)
              clear k2
              rcases (show ¬ s < m ∨ (s < m ∧ ¬ m < ee) by have := k1h.out; omega) with g1 | ⟨g1, g2⟩
              all_goals rcases (show ¬ a < s ∨ (a < s ∧ ¬ s < mid) by have := k2h.out; omega) with g3 | ⟨g3, g4⟩
              all_goals
                go_wp2_with fail
                go_at_call 128
                refine (IH.out mid ee e _ _ _ _ _ HG.out ((HP.out.sub HK.out.sub hen).sub (Sub.refl a mid _) (by omega)) (HK.out.hi_next (Sub.refl a mid _)) rfl rfl rfl k3a k3b (by omega) (by omega)).mono ?_
                rintro e3 W3 ⟨rfl, g2, G, X, Y⟩
                have HG2 := Lib.hid G
                have HX2 := Lib.hid X
                have HY2 := Lib.hid Y
                clear G X Y
                go_wp2
                go_end0
                have F := HK.out.fin (Sub.refl a mid _) HK2.out HX2.out HY2.out
                exact ⟨rfl, _, HG2.out, F.1, F.2⟩
            · have k3h := Lib.hid k3
              have HK2 := Lib.hid (HK.out.lo_done k2)
              clear k2
              clear k3
              rcases (show ¬ s < m ∨ (s < m ∧ ¬ m < ee) by have := k1h.out; omega) with g1 | ⟨g1, g2⟩
              all_goals rcases (show ¬ a < s ∨ (a < s ∧ ¬ s < mid) by have := k2h.out; omega) with g3 | ⟨g3, g4⟩
              all_goals rcases (show ¬ mid < ee ∨ (mid < ee ∧ ¬ ee < e) by have := k3h.out; omega) with g5 | ⟨g5, g6⟩
              all_goals
                go_wp2
                go_end0
                have F := HK.out.fin (Sub.refl a mid _) HK2.out (Sub.refl _ _ _) (HK.out.hi_done (Sub.refl a mid _) k3h.out)
                exact ⟨rfl, _, HG.out, F.1, F.2⟩
theorem sym_any {cap b n p : Nat} {cf : Nat → Nat → Int} {w0 : World} (hc : CmpA p w0 b n cf) (o : Ordr (Lt cf)) (hn : n < 8796093022208) : ∀ k, SymOk cap b n p cf w0 k
  | 0 => fun a m e f W x y z h hp hm hx hy hz ham hme hen hk => by omega
  | k + 1 => fun a m e f W x y z h hp hm hx hy hz ham hme hen hk => by
    subst hx hy hz
    by_cases h1 : m = a + 1
    · exact sym_left cap b n a m e p f cf w0 W hc o h hp hm h1 hme hen hn
    · by_cases h2 : e = m + 1
      · exact sym_right cap b n a m e p f cf w0 W hc o h hp hm (by omega) h2 hen hn
      · by_cases h3 : (a + e) / 2 < m
        · exact sym_gen cap b n a m e p k ((a + e) / 2) ((a + e) / 2 + m - e) ((a + e) / 2) f cf w0 W (sym_any hc o hn k) hc o h hp hm (by omega) (by omega) hen hn hk rfl (Or.inl ⟨h3, by omega, rfl⟩)
        · exact sym_gen cap b n a m e p k ((a + e) / 2) a m f cf w0 W (sym_any hc o hn k) hc o h hp hm (by omega) (by omega) hen hn hk rfl (Or.inr ⟨by omega, rfl, rfl⟩)
end Go.Proofs.Ytjkoceacjbhblaa
namespace Go.Proofs.Ytjkoceacjbhblaa
open Go.RowKit

theorem insertionN_at {cap b n a e p : Nat} {f : Nat → Nat} {cf : Nat → Nat → Int} {w0 W : World} {x y : Int} (hc : CmpA p w0 b n cf) (o : Ordr (Lt cf)) (h : Ord w0 b n f W) (hp : Plc n f) (hid : ∀ k, a ≤ k → k < e → f k = k) (hx : x = (a : Int)) (hy : y = (e : Int)) (hae : a ≤ e) (hen : e ≤ n) (hn : n < 8796093022208) :
    Calls Try.prog 127 #[.slice (some ⟨b, 0, none⟩) n cap, .int .i64 x, .int .i64 y, cmpV p] W fun e' w' => e' = .returned (.tuple #[]) ∧ ∃ g, Ord w0 b n g w' ∧ Sub a e f g ∧ Srt (Lt cf) g a e := by
  subst hx hy
  exact insertionN_any cap b n a e p f cf w0 W hc o h hp hid hae hen hn
def Sorted (w0 : World) (b n : Nat) (cf : Nat → Nat → Int) (e : Ending) (w' : World) : Prop := e = .returned (.tuple #[]) ∧ ∃ g, Ord w0 b n g w' ∧ Srt (Lt cf) g 0 n ∧ ∀ k, k < n → g k < n

set_option maxRecDepth 100000 in
set_option maxHeartbeats 8000000 in
theorem stable_any (cap b n p : Nat) (cf : Nat → Nat → Int) (w0 W : World) (hc : CmpA p w0 b n cf) (o : Ordr (Lt cf)) (h : Ord w0 b n id W) (hn : n < 8796093022208) :
    Calls Try.prog 119 #[.slice (some ⟨b, 0, none⟩) n cap, .int .i64 n, cmpV p] W (Sorted w0 b n cf) := by
  have H := Lib.hid h
  have HC := Lib.hid hc
  have HO := Lib.hid o
  clear h hc o
  unfold cmpV
  go_enter Try.func119, Try.ntmps119
  go_wp2
  go_loopw [7, 8] (fun x y wr => ∃ (c d : Nat) (f : Nat → Nat), c ≤ n ∧ Hid (d = c + 20) ∧ x = .int .i64 c ∧ y = .int .i64 d ∧ Hid (Ord w0 b n f wr) ∧ Hid (Plc n f) ∧ Hid (Ins (Lt cf) n c f)) (fun x _ _ => n - (intOf x).toNat)
  case atStart => exact ⟨0, 20, id, by omega, rfl, rfl, rfl, H.out, fun k hk => hk, Ins.start _ _⟩
  case round =>
    obtain ⟨c, d, f, hcn, HD, rfl, rfl, HW, HP, HI⟩ := hrel
    have hcd : c < d := by have := HD.out; omega
    have hdc : d ≤ c + 20 := by have := HD.out; omega
    clear H
    by_cases hlt : d ≤ n
    · have hz : (d : Int) ≤ (n : Int) := by omega
      go_wp2_with fail
      go_at_call 127
      refine (insertionN_at (a := c) (e := d) HC.out HO.out HW.out HP.out (fun k k1 _ => HI.out.id_ k k1) rfl rfl (by omega) hlt hn).mono ?_
      rintro e1 W1 ⟨rfl, g, G, X, Y⟩
      have HG := Lib.hid G
      have HX := Lib.hid X
      have HY := Lib.hid Y
      clear G X Y
      go_wp2
      go_light
      refine ⟨⟨d, d + 20, g, hlt, rfl, rfl, by go_num, HG.out, HP.out.sub HX.out hlt, ?_⟩, by simp [intOf]; omega⟩
      have hd := HD.out
      subst hd
      exact HI.out.step hlt HX.out HY.out
    · have hz : ¬ (d : Int) ≤ (n : Int) := by omega
      go_wp2_with fail
      go_at_call 127
      refine (insertionN_at (a := c) (e := n) HC.out HO.out HW.out HP.out (fun k k1 _ => HI.out.id_ k k1) rfl rfl hcn (Nat.le_refl _) hn).mono ?_
      rintro e1 W1 ⟨rfl, g, G, X, Y⟩
      have HG := Lib.hid G
      have HQ := Lib.hid (HP.out.sub X (Nat.le_refl _))
      have HGd := Lib.hid (HI.out.last hcn (by have := HD.out; omega) X Y)
      clear G X Y HI HP HW
      go_wp2
      clear hz hlt hcn hcd hdc HD
      go_loopw [6] (fun x wr2 => ∃ (B : Nat) (f : Nat → Nat), 20 ≤ B ∧ (B = 20 ∨ B < 2 * n) ∧ x = .int .i64 B ∧ Hid (Ord w0 b n f wr2) ∧ Hid (Plc n f) ∧ Hid (Good (Lt cf) B n f)) (fun x _ => n - (intOf x).toNat)
      case atStart => exact ⟨20, g, Nat.le_refl _, Or.inl rfl, rfl, HG.out, HQ.out, HGd.out⟩
      case round =>
        obtain ⟨B, f, hB, hB2, rfl, HW, HP, HI⟩ := hrel
        clear HG HQ HGd
        by_cases hlt : B < n
        · have hz : (B : Int) < (n : Int) := by omega
          go_wp2
          go_loopw [7, 8] (fun x y wr3 => ∃ (c d : Nat) (f : Nat → Nat), c ≤ n ∧ Hid (d = c + B * 2) ∧ x = .int .i64 c ∧ y = .int .i64 d ∧ Hid (Ord w0 b n f wr3) ∧ Hid (Plc n f) ∧ Hid (Half (Lt cf) B n c f)) (fun x _ _ => n - (intOf x).toNat)
          case atStart => exact ⟨0, B * 2, f, by omega, (by show _ = _; omega), rfl, by go_num, HW.out, HP.out, HI.out.half⟩
          case round =>
            obtain ⟨c, d, f', hcn, HD, rfl, rfl, HW3, HP3, HI3⟩ := hrel
            have hcd : c + B < d := by have := HD.out; omega
            have hdc : d ≤ c + B * 2 := by have := HD.out; omega
            clear HW HP HI
            by_cases hlt3 : d ≤ n
            · have hz3 : (d : Int) ≤ (n : Int) := by omega
              go_wp2_with fail
              go_at_call 128
              refine (sym_any HC.out HO.out hn n c (c + B) d _ _ _ _ _ HW3.out HP3.out (HI3.out.pre (by omega) (by omega) hlt3 (by omega)) rfl (by omega) rfl (by omega) (by omega) hlt3 (by omega)).mono ?_
              rintro e1 W1 ⟨rfl, g, G, X, Y⟩
              have HG := Lib.hid G
              have HX := Lib.hid X
              have HY := Lib.hid Y
              clear G X Y
              go_wp2
              go_light
              refine ⟨⟨d, d + B * 2, g, hlt3, rfl, rfl, by go_num, HG.out, HP3.out.sub HX.out hlt3, ?_⟩, by simp [intOf]; omega⟩
              have hd := HD.out
              subst hd
              exact HI3.out.step (by omega) hlt3 HX.out HY.out
            · have hz3 : ¬ (d : Int) ≤ (n : Int) := by omega
              by_cases hm : c + B < n
              · have hz4 : (c : Int) + (B : Int) < (n : Int) := by omega
                go_wp2_with fail
                go_at_call 128
                refine (sym_any HC.out HO.out hn n c (c + B) n _ _ _ _ _ HW3.out HP3.out (HI3.out.pre (by omega) (by omega) (Nat.le_refl _) (by omega)) rfl (by omega) rfl (by omega) (by omega) (Nat.le_refl _) (by omega)).mono ?_
                rintro e1 W1 ⟨rfl, g, G, X, Y⟩
                have HG := Lib.hid G
                have HX := Lib.hid X
                have HY := Lib.hid Y
                clear G X Y
                go_wp2
                go_light
                exact ⟨⟨B * 2, g, by omega, Or.inr (by omega), by go_num, HG.out, HP3.out.sub HX.out (Nat.le_refl _), HI3.out.last (by omega) (by have := HD.out; omega) HX.out HY.out⟩, by simp [intOf]; omega⟩
              · have hz4 : ¬ (c : Int) + (B : Int) < (n : Int) := by omega
                go_wp2
                go_light
                exact ⟨⟨B * 2, f', by omega, Or.inr (by omega), by go_num, HW3.out, HP3.out, HI3.out.rest (by omega) (by omega)⟩, by simp [intOf]; omega⟩
        · have hz : ¬ (B : Int) < (n : Int) := by omega
          go_wp2
          go_end0
          have F := HI.out.whole (by omega)
          exact ⟨rfl, f, HW.out, F.1, F.2⟩

set_option maxRecDepth 100000 in
set_option maxHeartbeats 4000000 in
theorem sortStable_any (cap b n p : Nat) (cf : Nat → Nat → Int) (w0 W : World) (hc : CmpA p w0 b n cf) (o : Ordr (Lt cf)) (h : Ord w0 b n id W) (hn : n < 8796093022208) :
    Calls Try.prog 95 #[.slice (some ⟨b, 0, none⟩) n cap, cmpV p] W (Sorted w0 b n cf) := by
  have H := Lib.hid h
  have HC := Lib.hid hc
  have HO := Lib.hid o
  clear h hc o
  unfold cmpV
  go_enter Try.func95, Try.ntmps95
  go_wp2_with fail
  go_at_call 119
  refine (stable_any cap b n p cf w0 _ HC.out HO.out H.out hn).mono ?_
  rintro e1 W1 ⟨rfl, G⟩
  have HG := Lib.hid G
  clear G
  go_wp2
  go_end0
  exact ⟨rfl, HG.out⟩
end Go.Proofs.Ytjkoceacjbhblaa
namespace Go.Proofs.Ytjkoceacjbhblaa
open Go.RowKit

theorem less_asym : ∀ (x y : List UInt8), Op.bytesLess x y = true → Op.bytesLess y x = false
  | _, [], h => by simp [Op.bytesLess] at h
  | [], _ :: _, _ => by simp [Op.bytesLess]
  | a :: x, b :: y, h => by
    simp only [Op.bytesLess, Bool.or_eq_true, Bool.and_eq_true, decide_eq_true_eq, beq_iff_eq] at h
    have ih := less_asym x y
    rcases h with h | ⟨rfl, h⟩
    · have h2 : a.toNat < b.toNat := UInt8.lt_iff_toNat_lt.1 h
      have h3 : ¬ b < a := fun e => by have := UInt8.lt_iff_toNat_lt.1 e; omega
      have h4 : ¬ b = a := fun e => by subst e; omega
      simp [Op.bytesLess, h3, h4]
    · simp [Op.bytesLess, ih h, UInt8.lt_irrefl]
theorem less_total : ∀ (x y : List UInt8), Op.bytesLess x y = false → Op.bytesLess y x = false → x = y
  | [], [], _, _ => rfl
  | _ :: _, [], _, h => by simp [Op.bytesLess] at h
  | [], _ :: _, h, _ => by simp [Op.bytesLess] at h
  | a :: x, b :: y, h, k => by
    simp only [Op.bytesLess, Bool.or_eq_false_iff, Bool.and_eq_false_iff, decide_eq_false_iff_not, beq_eq_false_iff_ne] at h k
    have h1 : a = b := by
      have n1 : ¬ a.toNat < b.toNat := fun e => h.1 (UInt8.lt_iff_toNat_lt.2 e)
      have n2 : ¬ b.toNat < a.toNat := fun e => k.1 (UInt8.lt_iff_toNat_lt.2 e)
      exact UInt8.toNat_inj.1 (by omega)
    subst h1
    congr 1
    exact less_total x y (h.2.resolve_left fun e => e rfl) (k.2.resolve_left fun e => e rfl)
theorem less_trans : ∀ (x y z : List UInt8), Op.bytesLess x y = true → Op.bytesLess y z = true → Op.bytesLess x z = true
  | _, [], _, h, _ => by simp [Op.bytesLess] at h
  | _, _ :: _, [], _, k => by simp [Op.bytesLess] at k
  | [], _ :: _, _ :: _, _, _ => by simp [Op.bytesLess]
  | a :: x, b :: y, c :: z, h, k => by
    simp only [Op.bytesLess, Bool.or_eq_true, Bool.and_eq_true, decide_eq_true_eq, beq_iff_eq] at h k ⊢
    have ih := less_trans x y z
    rcases h with h | ⟨rfl, h⟩
    · rcases k with k | ⟨rfl, k⟩
      · exact Or.inl (UInt8.lt_trans h k)
      · exact Or.inl h
    · rcases k with k | ⟨rfl, k⟩
      · exact Or.inl k
      · exact Or.inr ⟨rfl, ih h k⟩
/-- the k-th of some names -/
def nth (N : List ByteArray) (k : Nat) : ByteArray := N[k]?.getD ByteArray.empty
theorem nth_get {N : List ByteArray} {k : Nat} (h : k < N.length) : nth N k = N[k] := by simp [nth, h]
def lessN (N : List ByteArray) (x y : Nat) : Bool := Op.bytesLess (nth N x).toList (nth N y).toList
/-- what the comparison tells -/
def cmpF (N : List ByteArray) (x y : Nat) : Int := if lessN N x y = true then -1 else if ((nth N x).toList == (nth N y).toList) = true then 0 else 1
theorem lt_cmpF (N : List ByteArray) (x y : Nat) : Lt (cmpF N) x y ↔ lessN N x y = true := by
  unfold Lt cmpF
  split
  · rename_i h; simp [h]
  · split <;> rename_i h _ <;> simp [h]
theorem ordr_cmpF (N : List ByteArray) : Ordr (Lt (cmpF N)) := by
  refine ⟨fun x y h k => ?_, fun x y z h => ?_⟩
  · rw [lt_cmpF] at h k
    have := less_asym _ _ h
    unfold lessN at k
    rw [this] at k
    cases k
  · rw [lt_cmpF] at *
    rw [lt_cmpF]
    cases h1 : lessN N x y with
    | true => exact Or.inl rfl
    | false =>
      right
      cases h2 : lessN N y x with
      | true => exact less_trans _ _ _ h2 h
      | false =>
        have e := less_total _ _ h1 h2
        unfold lessN at *
        rw [← e]
        exact h
/-- which of two comes first: by name, else by place -/
theorem tie_cmpF (N : List ByteArray) (x y : Nat) : Tie (Lt (cmpF N)) x y ↔ lessN N x y = true ∨ (((nth N x).toList == (nth N y).toList) = true ∧ x < y) := by
  unfold Tie
  rw [lt_cmpF, lt_cmpF]
  constructor
  · rintro (h | ⟨h, hx⟩)
    · exact Or.inl h
    · cases h1 : lessN N x y with
      | true => exact Or.inl rfl
      | false => exact Or.inr ⟨beq_iff_eq.2 (less_total _ _ h1 (Bool.eq_false_iff.2 h)), hx⟩
  · rintro (h | ⟨h, hx⟩)
    · exact Or.inl h
    · refine Or.inr ⟨fun k => ?_, hx⟩
      have e := beq_iff_eq.1 h
      unfold lessN at k
      rw [e] at k
      have := less_asym _ _ k
      rw [k] at this
      cases this
/-- the names lie in memory, the pointer's cell holds their slice -/
structure NamesAt (w0 : World) (p b n : Nat) (N : List ByteArray) (A : Option Addr) (c : Nat) : Prop where
  len : N.length = n
  ptr : w0.cell? ⟨p, 0, none⟩ = some (.slice A n c)
  ne : p ≠ b
  at_ : 0 < n → ∃ nb off, A = some ⟨nb, off, none⟩ ∧ nb ≠ b ∧ ∀ k (h : k < N.length), w0.cell? ⟨nb, off + k, none⟩ = some (.string N[k])

set_option maxRecDepth 100000 in
set_option maxHeartbeats 4000000 in
theorem cmp_names (w0 : World) (p b n c : Nat) (N : List ByteArray) (A : Option Addr) (hn : n < 8796093022208) (h : NamesAt w0 p b n N A c) : CmpA p w0 b n (cmpF N) := by
  intro f W hW x y hx hy
  obtain ⟨nb, off, rfl, hne, hcell⟩ := h.at_ (by omega)
  have cp : W.cell? ⟨p, 0, none⟩ = some (.slice (some ⟨nb, off, none⟩) n c) := (World.cell?_of_block (hW.far p h.ne)).trans h.ptr
  have cx : W.cell? ⟨nb, off + x, none⟩ = some (.string (nth N x)) := by
    rw [nth_get (by rw [h.len]; exact hx)]
    exact (World.cell?_of_block (hW.far nb hne)).trans (hcell x (by rw [h.len]; exact hx))
  have cy : W.cell? ⟨nb, off + y, none⟩ = some (.string (nth N y)) := by
    rw [nth_get (by rw [h.len]; exact hy)]
    exact (World.cell?_of_block (hW.far nb hne)).trans (hcell y (by rw [h.len]; exact hy))
  obtain ⟨s, hs⟩ : ∃ s, s = nth N x := ⟨_, rfl⟩
  obtain ⟨t, ht⟩ : ∃ t, t = nth N y := ⟨_, rfl⟩
  rw [← hs] at cx
  rw [← ht] at cy
  have hcf : cmpF N x y = if Op.bytesLess s.toList t.toList = true then -1 else if (s.toList == t.toList) = true then 0 else 1 := by rw [hs, ht]; rfl
  have HCF := Lib.hid hcf
  clear hs ht hcf h hcell hne hW
  have bx : (x : Int) < (n : Int) := by omega
  have by_ : (y : Int) < (n : Int) := by omega
  show Calls Try.prog 96 #[.int .i64 x, .int .i64 y, .pointer (some ⟨p, 0, none⟩)] W _
  cases h1 : Op.bytesLess s.toList t.toList with
  | true =>
    go_enter Try.func96, Try.ntmps96
    go_wp2
    go_quiet (fail)
    go_wp2
    go_ret
    exact ⟨by rw [HCF.out, h1]; rfl, _, rfl⟩
  | false =>
    cases h2 : s.toList == t.toList with
    | true =>
      go_enter Try.func96, Try.ntmps96
      go_wp2
      go_quiet (fail)
      go_wp2
      go_quiet (fail)
      go_wp2
      go_ret
      exact ⟨by rw [HCF.out, h1, h2]; rfl, _, World.drewN_drewN _ _ _⟩
    | false =>
      go_enter Try.func96, Try.ntmps96
      go_wp2
      go_quiet (fail)
      go_wp2
      go_quiet (fail)
      go_wp2
      go_ret
      exact ⟨by rw [HCF.out, h1, h2]; rfl, _, World.drewN_drewN _ _ _⟩
end Go.Proofs.Ytjkoceacjbhblaa
namespace Go.Proofs.Ytjkoceacjbhblaa
open Go.RowKit

theorem below_then {a b c : World} (h : Below a.heap.size a b) (k : Below b.heap.size b c) : Below a.heap.size a c := h.trans (k.mono h.size)
/-- the call says whether P holds; memory only grows -/
def Tells (P : Prop) (w : World) (e : Ending) (w' : World) : Prop := ∃ b : Bool, e = .returned (.bool b) ∧ (b = true ↔ P) ∧ Below w.heap.size w w'
theorem Tells.yes {P : Prop} {w w' : World} {e : Ending} (h : Tells P w e w') (hp : P) : e = .returned (.bool true) ∧ Below w.heap.size w w' := by
  obtain ⟨b, rfl, hb, hw⟩ := h
  rw [hb.2 hp]
  exact ⟨rfl, hw⟩
theorem Tells.no {P : Prop} {w w' : World} {e : Ending} (h : Tells P w e w') (hp : ¬ P) : e = .returned (.bool false) ∧ Below w.heap.size w w' := by
  obtain ⟨b, rfl, hb, hw⟩ := h
  rcases b with _ | _
  · exact ⟨rfl, hw⟩
  · exact absurd (hb.1 rfl) hp
theorem Tells.mk_yes {P : Prop} {w w' : World} (hp : P) (hw : Below w.heap.size w w') : Tells P w (.returned (.bool true)) w' := ⟨true, rfl, by simp [hp], hw⟩
theorem Tells.mk_no {P : Prop} {w w' : World} (hp : ¬ P) (hw : Below w.heap.size w w') : Tells P w (.returned (.bool false)) w' := ⟨false, rfl, by simp [hp], hw⟩
theorem Tells.cong {P Q : Prop} {w w' : World} {e : Ending} (h : Tells P w e w') (hp : P ↔ Q) : Tells Q w e w' := by
  obtain ⟨b, he, hb, hw⟩ := h
  exact ⟨b, he, hb.trans hp, hw⟩
/-- the call gives the first place below n at which P holds, or -1; memory only grows -/
def Finds (P : Nat → Prop) (n : Nat) (w : World) (e : Ending) (w' : World) : Prop :=
  ∃ r : Int, e = .returned (.int .i64 r) ∧ Below w.heap.size w w' ∧ ((∃ k : Nat, k < n ∧ r = k ∧ P k ∧ ∀ j, j < k → ¬ P j) ∨ (r = -1 ∧ ∀ j, j < n → ¬ P j))
end Go.Proofs.Ytjkoceacjbhblaa
namespace Go.Proofs.Ytjkoceacjbhblaa
open Go.RowKit

theorem CloneInt_info : (Try.prog.info? 3).map (fun i => (i.zero, i.size, i.bytes)) = some (some (.int .i64 0), 1, 8) := by kernel_rfl
set_option maxRecDepth 100000 in
set_option maxHeartbeats 1000000 in
theorem CloneInt_any (v : Value) (n : Nat) (xs : List Value) (w : World) (h : Sl w 1 v n xs) (h1 : ∀ x ∈ xs, x.oneCell' = true) (hm : n ≤ maxLen) (hb : n * 8 ≤ 140737488355328) :
    Calls Try.prog 67 #[v] w fun e w' => ∃ v', e = .returned v' ∧ w'.ownsRow w.heap.size 3 1 v' n xs ∧ Below w.heap.size w w' := by
  obtain ⟨i0, hi0, hz0, hz1, hz2⟩ := info_parts CloneInt_info
  obtain ⟨hl, A, c, rfl, hc, hcl⟩ := h
  rcases A with _ | a
  · have hn : n = 0 := by
      rcases Nat.eq_zero_or_pos n with h0 | h0
      · exact h0
      · obtain ⟨_, _, e, _⟩ := hcl h0
        cases e
    subst hn
    have hx : xs = [] := List.eq_nil_of_length_eq_zero (by simpa using hl)
    have HX := Lib.hid hx
    clear hx
    have hnil := fun W => Lib.run_eql_slice_nil (P := Try.prog) W 24 3 none 0 c 0 0 Try.underlying24
    go_enter Try.func67, Try.ntmps67
    go_wp2
    go_ret
    exact ⟨_, rfl, by rw [HX.out]; exact World.ownsRow_nil _ _ _ _, Below.refl _ _⟩
  · have hsl : Sl w 1 (.slice (some a) n c) n xs := ⟨hl, some a, c, rfl, hc, hcl⟩
    have hnil := fun W => Lib.run_eql_slice_nil (P := Try.prog) W 24 3 (some a) n c 0 0 Try.underlying24
    go_enter Try.func67, Try.ntmps67
    go_wp2_with (at_builtin; go_must (refine wpList_append_sl _ rfl (.tmp 5) (.tmp 6) 24 rfl w.heap.size 3 i0 (.int .i64 0) 1 8 Try.underlying24 hi0 hz0 hz1 hz2 rfl (by decide) _ _ _ (by rfl) (own_lit (base := w.heap.size) w 3 _ 1 0 (Nat.le_refl _) (by simp [maxLen]) rfl) _ n xs (by rfl) (hsl.alloc _) h1 (by omega) (by omega) (by simp) ?_; intro v1 w1 ho1 hg1 ha1))
    go_ret
    exact ⟨v1, rfl, own_eq ho1 (by omega) (by simp), ((Below.refl _ _).alloc (Nat.le_refl _) _).grown hg1 (by simp) (by intro k hk; simp [Value.ownBlock] at hk; omega)⟩

end Go.Proofs.Ytjkoceacjbhblaa
namespace Go.Proofs.Ytjkoceacjbhblaa
open Go.RowKit
attribute [local go_sem ↓] Go.wp_at_zero Go.wp_at_succ

theorem Sl.oneCell {w : World} {size n : Nat} {v : Value} {xs : List Value} (h : Sl w size v n xs) : v.oneCell' = true := by
  obtain ⟨_, A, c, rfl, _⟩ := h
  rfl
/-- the rows with new parts at place k -/
def setParts (rows : List (TxnD × Value)) (k : Nat) (v : Value) : List (TxnD × Value) := rows.modify k fun t => (t.1, v)
theorem setParts_fst : ∀ (rows : List (TxnD × Value)) (k : Nat) (v : Value), (setParts rows k v).map Prod.fst = rows.map Prod.fst
  | [], k, v => by simp [setParts]
  | t :: rows, 0, v => by simp [setParts]
  | t :: rows, k + 1, v => by
    have := setParts_fst rows k v
    simp only [setParts] at *
    simp [this]
theorem setParts_cells : ∀ (rows : List (TxnD × Value)) (k : Nat) (v : Value), k < rows.length → (setParts rows k v).flatMap tcells = (rows.flatMap tcells).set (k * 7 + 4) v
  | [], k, v, h => by simp at h
  | t :: rows, 0, v, h => by simp [setParts, tcells]
  | t :: rows, k + 1, v, h => by
    have ih := setParts_cells rows k v (by simpa using h)
    simp only [setParts] at ih
    have hl : (tcells t).length = 7 := rfl
    simp only [setParts, List.modify_succ_cons, List.flatMap_cons, ih]
    rw [List.set_append_right _ _ (by rw [hl]; omega), hl, show (k + 1) * 7 + 4 - 7 = k * 7 + 4 from by omega]
theorem setParts_take (rows : List (TxnD × Value)) (k : Nat) (v : Value) (h : k < rows.length) : (setParts rows k v).take (k + 1) = rows.take k ++ [(rows[k].1, v)] := by
  have hl : k < (setParts rows k v).length := by simp [setParts]; exact h
  rw [List.take_succ_eq_append_getElem hl]
  congr 1
  · simp only [setParts, List.take_modify]
    exact List.modify_eq_self (by simp; omega)
  · simp [setParts]
theorem setParts_drop (rows : List (TxnD × Value)) (k : Nat) (v : Value) : (setParts rows k v).drop (k + 1) = rows.drop (k + 1) := by
  simp [setParts, List.drop_modify_of_lt]

/-- a row of its own stays while a block of another element type is written -/
theorem own_far {w : World} {base : Nat} {e t : TypeId} {size n : Nat} {v : Value} {xs : List Value} (h : w.ownsRow base e size v n xs) {g : Nat} {cs : Array Value} {fr : Nat × Nat} (hg : w.heap[g]? = some (.cells cs t fr)) (ht : t ≠ e) (j : Nat) (u : Value) : (w.setCell ⟨g, j, none⟩ u).ownsRow base e size v n xs := by
  obtain ⟨h1, h2⟩ := h
  refine ⟨h1, ?_⟩
  rcases h2 with h2 | ⟨g', cap, cur, hv, hb, hh, r⟩
  · exact Or.inl h2
  · refine Or.inr ⟨g', cap, cur, hv, hb, ?_, r⟩
    have hne : g' ≠ g := by
      intro e'
      subst e'
      rw [hg] at hh
      injection hh with hh
      injection hh with _ he
      exact ht he
    rw [Below.heap_setCell _ _ _ _ hne]
    exact hh

/-- v is a row of transactions of the call's own (the call began in w0); the first k have parts of their own, no two in one block; the others have the parts that they had -/
structure Own (w0 w : World) (base : Nat) (v : Value) (ds : List TxnD) (rows : List (TxnD × Value)) (k : Nat) : Prop where
  fst : rows.map Prod.fst = ds
  own : w.ownsRow base 76 7 v ds.length (rows.flatMap tcells)
  bel : Below w0.heap.size w0 w
  old : ∀ t ∈ rows.drop k, Is w0 t.2 t.1.parts
  parts : ∀ t ∈ rows.take k, w.ownsRow base 3 1 t.2 t.1.parts.length (t.1.parts.map (Value.int .i64))
  apart : (rows.take k).Pairwise fun a b => a.2.ownBlock = none ∨ a.2.ownBlock ≠ b.2.ownBlock

theorem Own.step {w0 w w5 : World} {base g c k : Nat} {ds : List TxnD} {rows : List (TxnD × Value)} {v5 : Value} (h : Own w0 w base (.slice (some ⟨g, 0, none⟩) ds.length c) ds rows k) (hk : k < rows.length) (hb0 : w0.heap.size ≤ base) (hb : base ≤ w.heap.size)
    (hbel : Below w.heap.size w w5) (ho : w5.ownsRow w.heap.size 3 1 v5 rows[k].1.parts.length (rows[k].1.parts.map (Value.int .i64))) :
    Own w0 (w5.setCell ⟨g, k * 7 + 4, none⟩ v5) base (.slice (some ⟨g, 0, none⟩) ds.length c) ds (setParts rows k v5) (k + 1) := by
  have hgl := h.own.lt g rfl
  have hown5 := own_keep h.own hbel (fun b hb => (h.own.lt b hb).2)
  have hg5 : ∃ cs fr, w5.heap[g]? = some (.cells cs 76 fr) := by
    rcases hown5.2 with ⟨e, _⟩ | ⟨g', cap, cur, e, _, hh, _⟩
    · cases e
    · injection e with e1
      injection e1 with e1
      injection e1 with e1
      subst e1
      exact ⟨_, _, hh⟩
  obtain ⟨cs, fr, hg5⟩ := hg5
  refine ⟨(setParts_fst rows k v5).trans h.fst, ?_, ?_, ?_, ?_, ?_⟩
  · rw [setParts_cells rows k v5 hk]
    exact (World.ownsRow.stored hown5 _ _).1
  · exact (h.bel.trans (hbel.mono h.bel.size)).setCell (by show w0.heap.size ≤ g; omega) _
  · intro t ht
    rw [setParts_drop] at ht
    refine h.old t ?_
    have : rows.drop (k + 1) = (rows.drop k).drop 1 := by simp [List.drop_drop]
    rw [this] at ht
    exact List.mem_of_mem_drop ht
  · intro t ht
    rw [setParts_take rows k v5 hk] at ht
    rcases List.mem_append.1 ht with ht | ht
    · exact own_far (own_keep (h.parts t ht) hbel (fun b hb => ((h.parts t ht).lt b hb).2)) hg5 (by decide) _ _
    · simp only [List.mem_singleton] at ht
      subst ht
      exact own_far (own_base ho hb) hg5 (by decide) _ _
  · rw [setParts_take rows k v5 hk]
    refine List.pairwise_append.2 ⟨h.apart, by simp, fun a ha b hb' => ?_⟩
    simp only [List.mem_singleton] at hb'
    subst hb'
    rcases hab : a.2.ownBlock with _ | x
    · exact Or.inl rfl
    · refine Or.inr fun e => ?_
      have h1 := (h.parts a ha).lt x hab
      have h2 := ho.lt x e.symm
      omega
theorem Own.more {w0 w : World} {base base' k : Nat} {v : Value} {ds : List TxnD} {rows : List (TxnD × Value)} (h : Own w0 w base v ds rows k) (hb : base' ≤ base) : Own w0 w base' v ds rows k :=
  ⟨h.fst, own_base h.own hb, h.bel, h.old, fun t ht => own_base (h.parts t ht) hb, h.apart⟩

theorem Own.under {w0 w : World} {base k : Nat} {v : Value} {ds : List TxnD} {rows : List (TxnD × Value)} (h : Own w0 w base v ds rows k) {a : Addr} (ha : a.block < base ∧ w0.heap.size ≤ a.block) (u : Value) : Own w0 (w.setCell a u) base v ds rows k :=
  ⟨h.fst, ownsRow_setCell_below h.own ha.1 u, h.bel.setCell ha.2 u, h.old, fun t ht => ownsRow_setCell_below (h.parts t ht) ha.1 u, h.apart⟩

theorem ints_one (l : List Int) : ∀ x ∈ l.map (Value.int .i64), x.oneCell' = true := by
  intro x hx
  obtain ⟨b, _, rfl⟩ := List.mem_map.1 hx
  rfl
/-- the loop of coord.Copy -/
def CopyLp (w : World) (bc zc : Array Value) (tv : Value) (ds : List TxnD) (i : Value) (wr : World) : Prop :=
  ∃ (k : Nat) (rows : List (TxnD × Value)), k ≤ ds.length ∧ i = .int .i64 k ∧ Own w wr (w.heap.size + 2) tv ds rows k ∧ Blk wr w.heap.size 28 bc ∧ Blk wr (w.heap.size + 1) 28 zc ∧ Below w.heap.size w wr
theorem Own.at_ {w0 w : World} {base : Nat} {v : Value} {ds : List TxnD} {rows : List (TxnD × Value)} {k : Nat} (h : Own w0 w base v ds rows k) (hn : 0 < ds.length) : ∃ g c, v = .slice (some ⟨g, 0, none⟩) ds.length c ∧ base ≤ g ∧ g < w.heap.size ∧ ds.length ≤ c ∧ ∀ i (hi : i < rows.length) (j : Nat), j < 7 → w.cell? ⟨g, i * 7 + j, none⟩ = (tcells rows[i])[j]? ∧ w.frozen? ⟨g, i * 7 + j, none⟩ = false := by
  obtain ⟨g, c, hv, hb, hlt⟩ := h.own.form hn
  subst hv
  have hle : ds.length ≤ c := by
    obtain ⟨_, A, c', he, hc, _⟩ := Sl.of_own h.own
    injection he with _ _ e; omega
  refine ⟨g, c, rfl, hb, hlt, hle, fun i hi j hj => ⟨?_, World.ownsRow.frozenAt h.own _⟩⟩
  have hl : rows.length = ds.length := by rw [← h.fst]; simp
  rw [World.ownsRow.cellAt h.own _ (by omega)]
  exact tcells_get rows i hi j hj

/-- what coord.Copy leaves -/
def CopyPost (w : World) (c : CoordD) (e : Ending) (w' : World) : Prop := ∃ tv rows, e = .returned (coordV c tv) ∧ Own w w' w.heap.size tv c.txns rows c.txns.length ∧ Below w.heap.size w w'

theorem CopyPost.cv {w w' : World} {c : CoordD} {e : Ending} (h : CopyPost w c e w') (hc : c.txns.length ≤ 9223372036854775807) (hp : ∀ t ∈ c.txns, t.parts.length ≤ 9223372036854775807) : ∃ tv, e = .returned (coordV c tv) ∧ Cv w' (coordV c tv) c ∧ Below w.heap.size w w' := by
  obtain ⟨tv, rows, rfl, ho, hb⟩ := h
  have hl : rows.length = c.txns.length := by rw [← ho.fst]; simp
  refine ⟨_, rfl, ⟨tv, rfl, ⟨rows, ho.fst, Sl.of_own ho.own, fun t ht => ?_⟩, hc⟩, hb⟩
  have ht' : t ∈ rows.take c.txns.length := by rw [← hl, List.take_length]; exact ht
  refine ⟨?_, hp _ (by rw [← ho.fst]; exact List.mem_map_of_mem ht)⟩
  have := Sl.of_own (ho.parts t ht')
  exact this
end Go.Proofs.Ytjkoceacjbhblaa
namespace Go.Proofs.Ytjkoceacjbhblaa
open Go.RowKit

def rowV (vs : Nat → Value) (n : Nat) : Array Value := ((List.range n).map vs).toArray
theorem rowV_get {vs : Nat → Value} {n i : Nat} (h : i < n) : (rowV vs n)[i]? = some (vs i) := by simp [rowV, h]
theorem rowV_set (vs : Nat → Value) (n i : Nat) (v : Value) : (rowV vs n).setIfInBounds i v = rowV (fun k => if k = i then v else vs k) n := by
  apply Array.ext
  · simp [rowV]
  · intro k h1 h2
    have hk : k < (rowV vs n).size := by simpa using h1
    rw [Array.getElem_setIfInBounds hk]
    by_cases e : i = k
    · subst e; simp [rowV]
    · simp [rowV, e, Ne.symm e]
/-- block bo holds n rows of the call's own -/
structure Lst (w0 w : World) (base bo n : Nat) (vs : Nat → Value) (ls : Nat → List Int) : Prop where
  bel : Below base w0 w
  ge : base ≤ bo
  blk : Blk w bo 24 (rowV vs n)
  own : ∀ i, i < n → w.ownsRow base 3 1 (vs i) (ls i).length ((ls i).map (Value.int .i64))
  apart : ∀ i j, i < n → j < n → i ≠ j → (vs i).ownBlock = none ∨ (vs i).ownBlock ≠ (vs j).ownBlock
section
variable {w0 w w1 : World} {base bo n i : Nat} {vs : Nat → Value} {ls : Nat → List Int}
theorem Lst.lt (h : Lst w0 w base bo n vs ls) : bo < w.heap.size := h.blk.lt
theorem Lst.keep (h : Lst w0 w base bo n vs ls) (hb : Below w.heap.size w w1) : Lst w0 w1 base bo n vs ls :=
  ⟨h.bel.trans (hb.mono (by have := h.lt; have := h.ge; omega)), h.ge, h.blk.below hb h.lt, fun i hi => own_keep (h.own i hi) hb fun b hb2 => ((h.own i hi).lt b hb2).2, h.apart⟩
theorem Lst.cell (h : Lst w0 w base bo n vs ls) (hi : i < n) : w.cell? ⟨bo, i, none⟩ = some (vs i) := (h.blk.cell i).trans (rowV_get hi)
theorem Lst.off (h : Lst w0 w base bo n vs ls) (hi : i < n) : some bo ≠ (vs i).ownBlock := by
  rcases (h.own i hi).2 with ⟨e, _⟩ | ⟨g, c, cur, e, _, hg, _⟩
  · rw [e]; simp [Value.ownBlock]
  · rw [e]
    intro k
    injection k with k
    subst k
    have hb := h.blk
    unfold Blk at hb
    rw [hg] at hb
    injection hb with hb
    injection hb with _ hb _
    revert hb
    decide
theorem Lst.push (h : Lst w0 w base bo n vs ls) (hi : i < n) {o : Obj} {v1 : Value} {x : Int} (hg : (w.alloc o).grownBy w1 (vs i).ownBlock) (ho : w1.ownsRow base 3 1 v1 ((ls i).length + 1) ((ls i).map (Value.int .i64) ++ [.int .i64 x]))
    (ha : v1.ownBlock = (vs i).ownBlock ∨ v1.ownBlock = some (w.alloc o).heap.size) :
    Blk w1 bo 24 (rowV vs n) ∧ Lst w0 (w1.setCell ⟨bo, i, none⟩ v1) base bo n (fun k => if k = i then v1 else vs k) (fun k => if k = i then ls i ++ [x] else ls k) := by
  have hbl := (h.blk.alloc o).grown hg (h.off hi)
  have hsz : base ≤ w.heap.size := by have := h.lt; have := h.ge; omega
  have hlt : ∀ j, j < n → ∀ k, (vs j).ownBlock = some k → base ≤ k ∧ k < w.heap.size := fun j hj => (h.own j hj).lt
  refine ⟨hbl, ((h.bel.alloc hsz o).grown hg (by simp; omega) fun k hk => (hlt i hi k hk).1).setCell h.ge v1, h.ge, ?_, fun j hj => ?_, fun j k hj hk hjk => ?_⟩
  · have := hbl.set_ i v1
    rw [rowV_set] at this
    exact this
  · by_cases e : j = i
    · subst e
      simp only [if_true]
      have := own_far ho hbl (by decide) j v1
      simpa using this
    · simp only [if_neg e]
      exact own_far (((h.own j hj).alloc o).kept hg (h.apart j i hj hi e)) hbl (by decide) i v1
  · have fresh : ∀ j, j < n → v1.ownBlock = some (w.alloc o).heap.size → v1.ownBlock ≠ (vs j).ownBlock := fun j hj e1 e2 => by
      have := (hlt j hj _ (e2.symm.trans e1)).2
      simp at this
      omega
    by_cases e1 : j = i
    · have e2 : ¬ k = i := fun e => hjk (e1.trans e.symm)
      simp only [if_pos e1, if_neg e2]
      rcases ha with ha | ha
      · rw [ha, ← e1]
        exact h.apart j k hj hk hjk
      · exact Or.inr (fresh k hk ha)
    · by_cases e2 : k = i
      · simp only [if_neg e1, if_pos e2]
        rcases ha with ha | ha
        · rw [ha, ← e2]
          exact h.apart j k hj hk hjk
        · exact Or.inr fun e => fresh j hj ha e.symm
      · simp only [if_neg e1, if_neg e2]
        exact h.apart j k hj hk hjk
theorem Lst.made (w0 w : World) (base n : Nat) (hb : Below base w0 w) (hs : base ≤ w.heap.size) : Lst w0 (w.alloc (.cells (rowV (fun _ => .slice none 0 0) n) 24)) base w.heap.size n (fun _ => .slice none 0 0) (fun _ => []) :=
  ⟨hb.alloc hs _, hs, Blk.new _ _ _, fun _ _ => World.ownsRow_nil _ _ _ _, fun _ _ _ _ _ => Or.inl rfl⟩
theorem Lst.cong {ms : Nat → List Int} (h : Lst w0 w base bo n vs ls) (e : ∀ i, i < n → ls i = ms i) : Lst w0 w base bo n vs ms :=
  ⟨h.bel, h.ge, h.blk, fun i hi => by rw [← e i hi]; exact h.own i hi, h.apart⟩
theorem Lst.is (h : Lst w0 w base bo n vs ls) (hi : i < n) : Is w (vs i) (ls i) := by
  have := Sl.of_own (h.own i hi)
  exact this
end
theorem made_nil (n : Nat) : madeCells #[Value.slice none 0 0] n = rowV (fun _ => .slice none 0 0) n := by
  apply Array.ext
  · simp [madeCells, rowV]
  · intro k h1 h2
    simp [madeCells, rowV, Nat.mod_one]
theorem made_zero (n : Nat) : madeCells #[Value.int .i64 0] n = rowOf (fun _ => 0) n := by
  apply Array.ext
  · simp [madeCells, rowOf]
  · intro k h1 h2
    simp [madeCells, rowOf, Nat.mod_one]

def casts (l : List Nat) : List Int := l.map fun q : Nat => (q : Int)
noncomputable def pts (L : Nat → Nat → Prop) (n P i : Nat) : List Int := casts ((List.range P).filter fun q => decide (q % n = ahead L n i))
def prg (f : Nat → Nat) (n k i : Nat) : List Int := casts ((List.range k).filter fun q => decide (f (q % n) = i))
theorem prg_succ (f : Nat → Nat) (n k i : Nat) : prg f n (k + 1) i = if i = f (k % n) then prg f n k (f (k % n)) ++ [(k : Int)] else prg f n k i := by
  unfold prg casts
  rw [List.range_succ, List.filter_append, List.map_append]
  by_cases h : i = f (k % n)
  · subst h
    simp
  · rw [if_neg h]
    simp [Ne.symm h]
theorem ahead_inj {L : Nat → Nat → Prop} (o : Ordr L) {n x y : Nat} (hx : x < n) (hy : y < n) (h : ahead L n x = ahead L n y) : x = y := by
  have key : ∀ x y, x < n → y < n → x < y → ahead L n x ≠ ahead L n y := fun x y hx hy hxy h => by
    by_cases c : L y x
    · have := ahead_lt o hy (Tie.hi c); omega
    · have := ahead_lt o hx (Tie.lo hxy c); omega
  rcases Nat.lt_trichotomy x y with c | c | c
  · exact absurd h (key x y hx hy c)
  · exact c
  · exact absurd h.symm (key y x hy hx c)
theorem prg_pts {L : Nat → Nat → Prop} (o : Ordr L) {n : Nat} {f : Nat → Nat} (h : Srt L f 0 n) (hb : ∀ k, k < n → f k < n) (P i : Nat) (hi : i < n) : prg f n P i = pts L n P i := by
  unfold prg pts
  congr 1
  refine List.filter_congr fun q _ => ?_
  have hq : q % n < n := Nat.mod_lt _ (by omega)
  have e1 := ahead_sorted o h hb (q % n) hq
  have : f (q % n) = i ↔ q % n = ahead L n i := by
    constructor
    · intro e; rw [← e, e1]
    · intro e
      exact ahead_inj o (hb _ hq) hi (e1.trans e)
  simp [this]
/-- round and round -/
theorem pts_step {n a p P : Nat} (hn : 0 < n) (ha : p % n = a) (hp : p < P) :
    ((List.range (min (p + n) P)).filter fun q => decide (q % n = a)) = ((List.range (min p P)).filter fun q => decide (q % n = a)) ++ [p] := by
  have e0 : min p P = p := by omega
  obtain ⟨d, hd, hdn⟩ : ∃ d, min (p + n) P = p + (d + 1) ∧ d + 1 ≤ n := ⟨min (p + n) P - p - 1, by omega, by omega⟩
  rw [e0, hd, List.range_add, List.filter_append]
  congr 1
  rw [List.range_succ_eq_map, List.map_cons, List.filter_cons_of_pos (by simpa using ha)]
  simp only [Nat.add_zero, List.cons.injEq, true_and]
  rw [List.filter_eq_nil_iff]
  intro q hq
  simp only [List.map_map, List.mem_map, List.mem_range, Function.comp] at hq
  obtain ⟨x, hx, rfl⟩ := hq
  simp only [decide_eq_true_eq]
  intro e
  have h1 := Nat.div_add_mod p n
  have h2 := Nat.div_add_mod (p + (x + 1)) n
  rw [ha] at h1
  rw [e] at h2
  have h3 : p / n ≤ (p + (x + 1)) / n := Nat.div_le_div_right (by omega)
  rcases Nat.eq_or_lt_of_le h3 with h4 | h4
  · rw [← h4] at h2; omega
  · have h5 : n * (p / n + 1) ≤ n * ((p + (x + 1)) / n) := Nat.mul_le_mul_left n h4
    rw [Nat.mul_add] at h5
    omega
theorem pts_none {n a P : Nat} (ha : a < n) : ((List.range (min a P)).filter fun q => decide (q % n = a)) = [] := by
  rw [List.filter_eq_nil_iff]
  intro q hq
  rw [List.mem_range] at hq
  have : q % n = q := Nat.mod_eq_of_lt (by omega)
  simp only [decide_eq_true_eq]
  omega
end Go.Proofs.Ytjkoceacjbhblaa
