/- slices.insertionSortCmpFunc at int: it sorts a stretch, stably. -/
import Derived.Test.YtjkoceacjbhblaaSrtC
namespace Go.Proofs.Ytjkoceacjbhblaa
open Go.RowKit

/-- the comparison of group.Assign, over names that lie behind the pointer p -/
def cmpV (p : Nat) : Value := .func (.func 96) #[] #[.pointer (some ⟨p, 0, none⟩)]
abbrev CmpA (p : Nat) (w0 : World) (b n : Nat) (cf : Nat → Nat → Int) : Prop := CmpN Try.prog 96 #[.pointer (some ⟨p, 0, none⟩)] w0 b n cf
theorem CmpA.at_ {p b n : Nat} {w0 W : World} {cf : Nat → Nat → Int} {f : Nat → Nat} (h : CmpA p w0 b n cf) (k : Ord w0 b n f W) {x y : Nat} (hx : x < n) (hy : y < n) (m : Nat) :
    Calls Try.prog 96 #[.int .i64 x, .int .i64 y, .pointer (some ⟨p, 0, none⟩)] (W.drewN m) fun e w' => e = .returned (.int .i64 (cf x y)) ∧ ∃ q, w' = (W.drewN m).drewN q := h f _ (k.drewN m) x y hx hy
/-- a row of places: each of the numbers is one -/
def Plc (n : Nat) (f : Nat → Nat) : Prop := ∀ k, k < n → f k < n
theorem Plc.sub {n a b : Nat} {f g : Nat → Nat} (h : Plc n f) (x : Sub a b f g) (hb : b ≤ n) : Plc n g := by
  intro k hk
  by_cases c : a ≤ k ∧ k < b
  · obtain ⟨j, _, j2, e⟩ := x.2 k c.1 c.2
    rw [e]
    exact h j (by omega)
  · rw [x.1 k (by omega)]
    exact h k hk
/-- while one element is carried down -/
structure Sink (cf : Nat → Nat → Int) (a i : Nat) (f : Nat → Nat) (j : Nat) : Prop where
  aj : a ≤ j
  ji : j ≤ i
  up : j = i ∨ Lt cf (f i) (f j)
/-- the rounds that are done -/
structure Done (cf : Nat → Nat → Int) (n a i : Nat) (f0 f : Nat → Nat) : Prop where
  srt : Srt (Lt cf) f a i
  sub : Sub a i f0 f
theorem Done.start (cf : Nat → Nat → Int) (n a : Nat) (f : Nat → Nat) : Done cf n a a f f := ⟨Srt.one (by omega), Sub.refl _ _ _⟩
theorem Done.first {cf : Nat → Nat → Int} {n a : Nat} {f : Nat → Nat} : Done cf n a (a + 1) f f := ⟨Srt.one (by omega), Sub.refl _ _ _⟩
theorem Done.next {cf : Nat → Nat → Int} {n a i j : Nat} {f0 f : Nat → Nat} (o : Ordr (Lt cf)) (h : Done cf n a i f0 f) (hid : ∀ k, a ≤ k → k ≤ i → f0 k = k) (hj : Sink cf a i f j) (hs : j = a ∨ ¬ Lt cf (f i) (f (j - 1))) : Done cf n a (i + 1) f0 (downTo f j i) := by
  have hi : f i = i := (h.sub.1 i (by omega)).trans (hid i (by have := hj.aj; have := hj.ji; omega) (Nat.le_refl _))
  refine ⟨one_right o h.srt (fun k k1 k2 => ?_) hj.aj hj.ji hs hj.up, (h.sub.wide (Nat.le_refl _) (Nat.le_succ _)).trans (Sub.downTo hj.aj hj.ji (Nat.lt_succ_self _))⟩
  obtain ⟨q, q1, q2, e⟩ := h.sub.2 k k1 k2
  rw [e, hid q q1 (by omega), hi]
  exact q2
theorem Sink.start {cf : Nat → Nat → Int} {a i : Nat} {f : Nat → Nat} (h : a ≤ i) : Sink cf a i f i := ⟨h, Nat.le_refl _, Or.inl rfl⟩
theorem Sink.step {cf : Nat → Nat → Int} {a i j : Nat} {f : Nat → Nat} (h : Sink cf a i f (j + 1)) (ha : a ≤ j) (hl : Lt cf (f i) (f j)) : Sink cf a i f j := ⟨ha, by have := h.ji; omega, Or.inr hl⟩
theorem downTo_at {f : Nat → Nat} {j i : Nat} : downTo f j i j = f i := by simp [downTo]
theorem downTo_lo {f : Nat → Nat} {j i : Nat} : downTo f (j + 1) i j = f j := by
  unfold downTo
  rw [if_neg (by omega), if_neg (by omega)]

set_option maxRecDepth 100000 in
set_option maxHeartbeats 4000000 in
theorem insertionN_any (cap b n a e p : Nat) (f : Nat → Nat) (cf : Nat → Nat → Int) (w0 W : World) (hc : CmpA p w0 b n cf) (o : Ordr (Lt cf)) (h : Ord w0 b n f W) (hp : Plc n f) (hid : ∀ k, a ≤ k → k < e → f k = k) (hae : a ≤ e) (hen : e ≤ n) (hn : n < 8796093022208) :
    Calls Try.prog 127 #[.slice (some ⟨b, 0, none⟩) n cap, .int .i64 a, .int .i64 e, cmpV p] W fun e' w' => e' = .returned (.tuple #[]) ∧ ∃ g, Ord w0 b n g w' ∧ Sub a e f g ∧ Srt (Lt cf) g a e := by
  have H := Lib.hid h
  have HC := Lib.hid hc
  have HP := Lib.hid hp
  have HO := Lib.hid o
  have HI := Lib.hid hid
  clear h hc hp o hid
  unfold cmpV
  go_enter Try.func127, Try.ntmps127
  go_wp2
  go_loopw [8] (fun x wr => ∃ (i : Nat) (g : Nat → Nat), a < i ∧ i ≤ e + 1 ∧ x = .int .i64 i ∧ Hid (Ord w0 b n g wr) ∧ Hid (Plc n g) ∧ Hid (i ≤ e → Done cf n a i f g) ∧ Hid (e ≤ i → Srt (Lt cf) g a e ∧ Sub a e f g)) (fun x _ => e + 1 - (intOf x).toNat)
  case atStart => exact ⟨a + 1, f, by omega, by omega, by go_num, H.out, HP.out, fun _ => Done.first, fun _ => ⟨Srt.one (by omega), Sub.refl _ _ _⟩⟩
  case round =>
    obtain ⟨i, g, hai, hie, rfl, HW, HG, HD, HE⟩ := hrel
    clear H HP
    by_cases hlt : i < e
    · have hz : (i : Int) < (e : Int) := by omega
      go_wp2
      go_loopw [9] (fun x wr2 => ∃ j : Nat, a ≤ j ∧ j ≤ i ∧ x = .int .i64 j ∧ Hid (Ord w0 b n (downTo g j i) wr2) ∧ Hid (Sink cf a i g j)) (fun x _ => (intOf x).toNat)
      case atStart => exact ⟨i, by omega, Nat.le_refl _, rfl, by rw [downTo_self]; exact HW.out, Sink.start (by omega)⟩
      case round =>
        obtain ⟨j, haj, hji, rfl, HV, HS⟩ := hrel
        clear HW
        have out : (j = a ∨ ¬ Lt cf (g i) (g (j - 1))) → Done cf n a (i + 1) f (downTo g j i) := fun hs => Done.next HO.out (HD.out (by omega)) (fun k k1 k2 => HI.out k k1 (by omega)) HS.out hs
        have OUT := Lib.hid out
        clear out
        have fin : ∀ W2, Ord w0 b n (downTo g j i) W2 → (j = a ∨ ¬ Lt cf (g i) (g (j - 1))) → (∃ (i' : Nat) (g' : Nat → Nat), a < i' ∧ i' ≤ e + 1 ∧ i + 1 = i' ∧ Hid (Ord w0 b n g' W2) ∧ Hid (Plc n g') ∧ Hid (i' ≤ e → Done cf n a i' f g') ∧ Hid (e ≤ i' → Srt (Lt cf) g' a e ∧ Sub a e f g')) := fun W2 h2 hs =>
          ⟨i + 1, downTo g j i, by omega, by omega, rfl, h2, HG.out.sub (Sub.downTo haj hji (Nat.lt_succ_self i)) (by omega), fun _ => OUT.out hs, fun hh => by
            obtain rfl : e = i + 1 := by omega
            exact ⟨(OUT.out hs).srt, (OUT.out hs).sub⟩⟩
        have FIN := Lib.hid fin
        clear fin OUT
        by_cases hja : a < j
        · obtain ⟨q, rfl⟩ : ∃ q, j = q + 1 := ⟨j - 1, by omega⟩
          have cj := HV.out.cell (i := q + 1) (by omega)
          have cq := HV.out.cell (i := q) (by omega)
          rw [downTo_at] at cj
          rw [downTo_lo] at cq
          have hgi := HG.out i (by omega)
          have hgq := HG.out q (by omega)
          have hc := fun m => HC.out.at_ HV.out hgi hgq m
          obtain ⟨x, hx⟩ : ∃ x, x = g i := ⟨_, rfl⟩
          obtain ⟨y, hy⟩ : ∃ y, y = g q := ⟨_, rfl⟩
          rw [← hx] at cj
          rw [← hy] at cq
          rw [← hx, ← hy] at hc
          have dja : decide ((q : Int) + 1 > (a : Int)) = true := decide_eq_true (by omega)
          have hja' : (a : Int) < (q : Int) + 1 := by omega
          have b1 : (q : Int) + 1 < (n : Int) := by omega
          have b0 : (q : Int) < (n : Int) := by omega
          have p1 : (0 : Int) ≤ (q : Int) + 1 := by omega
          have w1 : IntKind.i64.wrap (q : Int) = (q : Int) := by rw [IntKind.wrap_i64]; omega
          have e1 : ((q : Int) + 1).toNat = q + 1 := by omega
          have HX := Lib.hid hx
          have HY := Lib.hid hy
          have HC2 := Lib.hid hc
          clear hc hx hy hgi hgq
          by_cases hlv : cf x y < 0
          · have hd : decide (cf x y < 0) = true := decide_eq_true hlv
            have S := Sink.step HS.out (by omega) (show Lt cf (g i) (g q) by rw [← HX.out, ← HY.out]; exact hlv)
            have HS2 := Lib.hid S
            clear S HS hlv
            go_wp2_with fail
            go_quiet (first | (go_at_call 96; refine Calls.quiet_of (HC2.out _)))
            have h2 := HV.out.drewN nq
            clear cj cq HC2
            generalize wr.drewN nq = w2 at h2 ⊢
            have cj := h2.cell (i := q + 1) (by omega)
            have cq := h2.cell (i := q) (by omega)
            rw [downTo_at, ← HX.out] at cj
            rw [downTo_lo, ← HY.out] at cq
            have fj := h2.frozen (q + 1)
            have fq := h2.frozen q
            obtain ⟨u, cu⟩ := h2.c2 (i := q + 1) (j := q) (by omega) y
            have S := h2.swap (q + 1) q
            rw [downTo_step (by omega), downTo_at, downTo_lo, ← HX.out, ← HY.out] at S
            have S2 := Lib.hid S
            clear S h2 HV FIN HX HY hd
            go_wp2_with fail
            go_big_region
            all_goals go_wp2
            all_goals go_light
            all_goals exact ⟨⟨q, by omega, by omega, by first | rfl | go_num, S2.out.drew, HS2.out⟩, by simp [intOf]⟩
          · have hd : decide (cf x y < 0) = false := decide_eq_false hlv
            have F := fun m => FIN.out _ (HV.out.drewN m) (Or.inr (show ¬ Lt cf (g i) (g q) by rw [← HX.out, ← HY.out]; exact hlv))
            have HF := Lib.hid F
            clear F FIN HV hlv HX HY
            go_wp2_with fail
            go_quiet (first | (go_at_call 96; refine Calls.quiet_of (HC2.out _)))
            go_wp2
            go_light
            obtain ⟨i', g', h1, h2, rfl, h3, h4, h5, h6⟩ := HF.out nq
            exact ⟨⟨_, g', h1, h2, by go_num, h3, h4, h5, h6⟩, by simp [intOf]; omega⟩
        · obtain rfl : j = a := by omega
          have dja : decide ((j : Int) > (j : Int)) = false := decide_eq_false (by omega)
          have F := FIN.out _ HV.out.drew (Or.inl rfl)
          have HF := Lib.hid F
          clear F FIN HV
          go_wp2_with fail
          go_big_region
          all_goals go_wp2
          all_goals go_light
          all_goals obtain ⟨i', g', h1, h2, rfl, h3, h4, h5, h6⟩ := HF.out
          all_goals exact ⟨⟨_, g', h1, h2, by go_num, h3, h4, h5, h6⟩, by simp [intOf]; omega⟩
    · have hz : ¬ (i : Int) < (e : Int) := by omega
      go_wp2
      go_end0
      exact ⟨rfl, g, HW.out, (HE.out (by omega)).2, (HE.out (by omega)).1⟩
end Go.Proofs.Ytjkoceacjbhblaa
