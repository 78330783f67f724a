/- tailracelaw.sameInts, sameTexts: are two lists the same? Memory is only read. -/
import Derived.Test.YtjkoceacjbhblaaMem
namespace Go.Proofs.Ytjkoceacjbhblaa
open Go.RowKit

/-- v reads as the list l, one cell each -/
def L1 {α : Type} (f : α → Value) (w : World) (v : Value) (l : List α) : Prop := Sl w 1 v l.length (l.map f)
theorem L1.at_ {α : Type} {f : α → Value} {w : World} {v : Value} {l : List α} (h : L1 f w v l) : ∃ A c, v = .slice A l.length c ∧ l.length ≤ c ∧ (0 < l.length → ∃ b off, A = some ⟨b, off, none⟩ ∧ b < w.heap.size ∧ ∀ i (hi : i < l.length), w.cell? ⟨b, off + i, none⟩ = some (f l[i])) := by
  obtain ⟨_, A, c, hv, hc, h2⟩ := h
  refine ⟨A, c, hv, hc, fun hn => ?_⟩
  obtain ⟨b, off, hA, hb, hcell⟩ := h2 hn
  exact ⟨b, off, hA, hb, fun i hi => hcell i _ (by simp [List.getElem?_eq_getElem hi])⟩
theorem L1.below {α : Type} {f : α → Value} {w w' : World} {v : Value} {l : List α} (h : L1 f w v l) (hb : Below w.heap.size w w') : L1 f w' v l := Sl.below h hb
abbrev Is := L1 (Value.int .i64)
abbrev Bs := L1 Value.bool
abbrev Ss := L1 Value.string

/-- the first k are the same -/
def agree {α : Type} (xs ys : List α) (k : Nat) : Prop := xs.take k = ys.take k
theorem agree_step {α : Type} {xs ys : List α} {k : Nat} (h : agree xs ys k) (hx : k < xs.length) (hy : k < ys.length) (he : xs[k] = ys[k]) : agree xs ys (k + 1) := by
  unfold agree at *
  rw [List.take_succ_eq_append_getElem hx, List.take_succ_eq_append_getElem hy, h, he]
theorem agree_all {α : Type} {xs ys : List α} (h : agree xs ys xs.length) (hl : xs.length = ys.length) : xs = ys := by
  unfold agree at h
  rwa [List.take_length, hl, List.take_length] at h

theorem below_drewN_ (w : World) (n : Nat) : Below w.heap.size w (w.drewN n) := ⟨rfl, rfl, rfl, Nat.le_refl _, fun _ _ => rfl⟩

set_option maxRecDepth 100000 in
set_option maxHeartbeats 1000000 in
theorem sameInts_any (u v : Value) (xs ys : List Int) (w : World) (hu : Is w u xs) (hv : Is w v ys) (hx : xs.length ≤ 9223372036854775807) (hy : ys.length ≤ 9223372036854775807) :
    Calls Try.prog 65 #[u, v] w fun e w' => e = .returned (.bool (decide (xs = ys))) ∧ ∃ n, w' = w.drewN n := by
  obtain ⟨A, c, rfl, hc, hcx⟩ := hu.at_
  obtain ⟨B, d, rfl, hd, hcy⟩ := hv.at_
  by_cases hl : xs.length = ys.length
  · have hl1 : ((xs.length : Int) != (ys.length : Int)) = false := by rw [hl]; simp
    have HL := Lib.hid hl
    clear hl
    go_enter Try.func65, Try.ntmps65
    go_wp2
    clear hl1
    go_loopw [5] (fun i wr => ∃ k : Nat, k ≤ xs.length ∧ i = .int .i64 k ∧ Hid (agree xs ys k) ∧ ∃ n, wr = w.drewN n) (fun i _ => xs.length - (intOf i).toNat)
    case atStart => exact ⟨0, by omega, rfl, rfl, 0, rfl⟩
    case round =>
      obtain ⟨k, hk, rfl, hag, n, rfl⟩ := hrel
      by_cases hlt : k < xs.length
      · have hlt' : k < ys.length := by have := HL.out; omega
        obtain ⟨b1, o1, rfl, hb1, hc1⟩ := hcx (by omega)
        obtain ⟨b2, o2, rfl, hb2, hc2⟩ := hcy (by omega)
        have h1 := hc1 k hlt
        have h2 := hc2 k hlt'
        have i0 : (0 : Int) ≤ (k : Int) := by omega
        have i1 : (k : Int) < (xs.length : Int) := by omega
        have i2 : (k : Int) < (ys.length : Int) := by omega
        clear hcx hcy hc1 hc2
        by_cases he : xs[k] = ys[k]
        · have he1 : (xs[k] != ys[k]) = false := by rw [he]; simp
          have HE := Lib.hid he
          clear he
          go_wp2
          go_quiet (fail)
          go_wp2
          go_light
          refine ⟨⟨k + 1, by omega, by go_num, agree_step hag.out hlt hlt' HE.out, _, by first | rfl | exact World.drewN_drewN _ _ _⟩, by simp [intOf]; omega⟩
        · have he1 : (xs[k] != ys[k]) = true := by rw [bne_iff_ne]; exact he
          have hne : xs ≠ ys := fun e => he (by subst e; rfl)
          have HE := Lib.hid hne
          clear he hne
          go_wp2
          go_quiet (fail)
          go_wp2
          go_ret
          refine ⟨ret_bool ?_, _, by first | rfl | exact World.drewN_drewN _ _ _⟩
          simp [HE.out]
      · obtain rfl : k = xs.length := by omega
        have he := agree_all hag.out HL.out
        have HE := Lib.hid he
        clear he hlt
        go_wp2
        go_ret
        refine ⟨ret_bool ?_, _, by first | rfl | exact World.drewN_drewN _ _ _⟩
        simp [HE.out]
  · have hl1 : ((xs.length : Int) != (ys.length : Int)) = true := by rw [bne_iff_ne]; omega
    have hne : xs ≠ ys := fun e => hl (by rw [e])
    have HE := Lib.hid hne
    clear hl hne
    go_enter Try.func65, Try.ntmps65
    go_wp2
    go_ret
    refine ⟨ret_bool ?_, 0, rfl⟩
    simp [HE.out]

end Go.Proofs.Ytjkoceacjbhblaa
