/- slices.stableCmpFunc, SortStableFunc at int: the places of names sorted, stably. -/
import Derived.Test.YtjkoceacjbhblaaSrtG
namespace Go.Proofs.Ytjkoceacjbhblaa
open Go.RowKit

theorem insertionN_at {cap b n a e p : Nat} {f : Nat → Nat} {cf : Nat → Nat → Int} {w0 W : World} {x y : Int} (hc : CmpA p w0 b n cf) (o : Ordr (Lt cf)) (h : Ord w0 b n f W) (hp : Plc n f) (hid : ∀ k, a ≤ k → k < e → f k = k) (hx : x = (a : Int)) (hy : y = (e : Int)) (hae : a ≤ e) (hen : e ≤ n) (hn : n < 8796093022208) :
    Calls Try.prog 127 #[.slice (some ⟨b, 0, none⟩) n cap, .int .i64 x, .int .i64 y, cmpV p] W fun e' w' => e' = .returned (.tuple #[]) ∧ ∃ g, Ord w0 b n g w' ∧ Sub a e f g ∧ Srt (Lt cf) g a e := by
  subst hx hy
  exact insertionN_any cap b n a e p f cf w0 W hc o h hp hid hae hen hn
def Sorted (w0 : World) (b n : Nat) (cf : Nat → Nat → Int) (e : Ending) (w' : World) : Prop := e = .returned (.tuple #[]) ∧ ∃ g, Ord w0 b n g w' ∧ Srt (Lt cf) g 0 n ∧ ∀ k, k < n → g k < n

set_option maxRecDepth 100000 in
set_option maxHeartbeats 8000000 in
theorem stable_any (cap b n p : Nat) (cf : Nat → Nat → Int) (w0 W : World) (hc : CmpA p w0 b n cf) (o : Ordr (Lt cf)) (h : Ord w0 b n id W) (hn : n < 8796093022208) :
    Calls Try.prog 119 #[.slice (some ⟨b, 0, none⟩) n cap, .int .i64 n, cmpV p] W (Sorted w0 b n cf) := by
  have H := Lib.hid h
  have HC := Lib.hid hc
  have HO := Lib.hid o
  clear h hc o
  unfold cmpV
  go_enter Try.func119, Try.ntmps119
  go_wp2
  go_loopw [7, 8] (fun x y wr => ∃ (c d : Nat) (f : Nat → Nat), c ≤ n ∧ Hid (d = c + 20) ∧ x = .int .i64 c ∧ y = .int .i64 d ∧ Hid (Ord w0 b n f wr) ∧ Hid (Plc n f) ∧ Hid (Ins (Lt cf) n c f)) (fun x _ _ => n - (intOf x).toNat)
  case atStart => exact ⟨0, 20, id, by omega, rfl, rfl, rfl, H.out, fun k hk => hk, Ins.start _ _⟩
  case round =>
    obtain ⟨c, d, f, hcn, HD, rfl, rfl, HW, HP, HI⟩ := hrel
    have hcd : c < d := by have := HD.out; omega
    have hdc : d ≤ c + 20 := by have := HD.out; omega
    clear H
    by_cases hlt : d ≤ n
    · have hz : (d : Int) ≤ (n : Int) := by omega
      go_wp2_with fail
      go_at_call 127
      refine (insertionN_at (a := c) (e := d) HC.out HO.out HW.out HP.out (fun k k1 _ => HI.out.id_ k k1) rfl rfl (by omega) hlt hn).mono ?_
      rintro e1 W1 ⟨rfl, g, G, X, Y⟩
      have HG := Lib.hid G
      have HX := Lib.hid X
      have HY := Lib.hid Y
      clear G X Y
      go_wp2
      go_light
      refine ⟨⟨d, d + 20, g, hlt, rfl, rfl, by go_num, HG.out, HP.out.sub HX.out hlt, ?_⟩, by simp [intOf]; omega⟩
      have hd := HD.out
      subst hd
      exact HI.out.step hlt HX.out HY.out
    · have hz : ¬ (d : Int) ≤ (n : Int) := by omega
      go_wp2_with fail
      go_at_call 127
      refine (insertionN_at (a := c) (e := n) HC.out HO.out HW.out HP.out (fun k k1 _ => HI.out.id_ k k1) rfl rfl hcn (Nat.le_refl _) hn).mono ?_
      rintro e1 W1 ⟨rfl, g, G, X, Y⟩
      have HG := Lib.hid G
      have HQ := Lib.hid (HP.out.sub X (Nat.le_refl _))
      have HGd := Lib.hid (HI.out.last hcn (by have := HD.out; omega) X Y)
      clear G X Y HI HP HW
      go_wp2
      clear hz hlt hcn hcd hdc HD
      go_loopw [6] (fun x wr2 => ∃ (B : Nat) (f : Nat → Nat), 20 ≤ B ∧ (B = 20 ∨ B < 2 * n) ∧ x = .int .i64 B ∧ Hid (Ord w0 b n f wr2) ∧ Hid (Plc n f) ∧ Hid (Good (Lt cf) B n f)) (fun x _ => n - (intOf x).toNat)
      case atStart => exact ⟨20, g, Nat.le_refl _, Or.inl rfl, rfl, HG.out, HQ.out, HGd.out⟩
      case round =>
        obtain ⟨B, f, hB, hB2, rfl, HW, HP, HI⟩ := hrel
        clear HG HQ HGd
        by_cases hlt : B < n
        · have hz : (B : Int) < (n : Int) := by omega
          go_wp2
          go_loopw [7, 8] (fun x y wr3 => ∃ (c d : Nat) (f : Nat → Nat), c ≤ n ∧ Hid (d = c + B * 2) ∧ x = .int .i64 c ∧ y = .int .i64 d ∧ Hid (Ord w0 b n f wr3) ∧ Hid (Plc n f) ∧ Hid (Half (Lt cf) B n c f)) (fun x _ _ => n - (intOf x).toNat)
          case atStart => exact ⟨0, B * 2, f, by omega, (by show _ = _; omega), rfl, by go_num, HW.out, HP.out, HI.out.half⟩
          case round =>
            obtain ⟨c, d, f', hcn, HD, rfl, rfl, HW3, HP3, HI3⟩ := hrel
            have hcd : c + B < d := by have := HD.out; omega
            have hdc : d ≤ c + B * 2 := by have := HD.out; omega
            clear HW HP HI
            by_cases hlt3 : d ≤ n
            · have hz3 : (d : Int) ≤ (n : Int) := by omega
              go_wp2_with fail
              go_at_call 128
              refine (sym_any HC.out HO.out hn n c (c + B) d _ _ _ _ _ HW3.out HP3.out (HI3.out.pre (by omega) (by omega) hlt3 (by omega)) rfl (by omega) rfl (by omega) (by omega) hlt3 (by omega)).mono ?_
              rintro e1 W1 ⟨rfl, g, G, X, Y⟩
              have HG := Lib.hid G
              have HX := Lib.hid X
              have HY := Lib.hid Y
              clear G X Y
              go_wp2
              go_light
              refine ⟨⟨d, d + B * 2, g, hlt3, rfl, rfl, by go_num, HG.out, HP3.out.sub HX.out hlt3, ?_⟩, by simp [intOf]; omega⟩
              have hd := HD.out
              subst hd
              exact HI3.out.step (by omega) hlt3 HX.out HY.out
            · have hz3 : ¬ (d : Int) ≤ (n : Int) := by omega
              by_cases hm : c + B < n
              · have hz4 : (c : Int) + (B : Int) < (n : Int) := by omega
                go_wp2_with fail
                go_at_call 128
                refine (sym_any HC.out HO.out hn n c (c + B) n _ _ _ _ _ HW3.out HP3.out (HI3.out.pre (by omega) (by omega) (Nat.le_refl _) (by omega)) rfl (by omega) rfl (by omega) (by omega) (Nat.le_refl _) (by omega)).mono ?_
                rintro e1 W1 ⟨rfl, g, G, X, Y⟩
                have HG := Lib.hid G
                have HX := Lib.hid X
                have HY := Lib.hid Y
                clear G X Y
                go_wp2
                go_light
                exact ⟨⟨B * 2, g, by omega, Or.inr (by omega), by go_num, HG.out, HP3.out.sub HX.out (Nat.le_refl _), HI3.out.last (by omega) (by have := HD.out; omega) HX.out HY.out⟩, by simp [intOf]; omega⟩
              · have hz4 : ¬ (c : Int) + (B : Int) < (n : Int) := by omega
                go_wp2
                go_light
                exact ⟨⟨B * 2, f', by omega, Or.inr (by omega), by go_num, HW3.out, HP3.out, HI3.out.rest (by omega) (by omega)⟩, by simp [intOf]; omega⟩
        · have hz : ¬ (B : Int) < (n : Int) := by omega
          go_wp2
          go_end0
          have F := HI.out.whole (by omega)
          exact ⟨rfl, f, HW.out, F.1, F.2⟩

set_option maxRecDepth 100000 in
set_option maxHeartbeats 4000000 in
theorem sortStable_any (cap b n p : Nat) (cf : Nat → Nat → Int) (w0 W : World) (hc : CmpA p w0 b n cf) (o : Ordr (Lt cf)) (h : Ord w0 b n id W) (hn : n < 8796093022208) :
    Calls Try.prog 95 #[.slice (some ⟨b, 0, none⟩) n cap, cmpV p] W (Sorted w0 b n cf) := by
  have H := Lib.hid h
  have HC := Lib.hid hc
  have HO := Lib.hid o
  clear h hc o
  unfold cmpV
  go_enter Try.func95, Try.ntmps95
  go_wp2_with fail
  go_at_call 119
  refine (stable_any cap b n p cf w0 _ HC.out HO.out H.out hn).mono ?_
  rintro e1 W1 ⟨rfl, G⟩
  have HG := Lib.hid G
  clear G
  go_wp2
  go_end0
  exact ⟨rfl, HG.out⟩
end Go.Proofs.Ytjkoceacjbhblaa
