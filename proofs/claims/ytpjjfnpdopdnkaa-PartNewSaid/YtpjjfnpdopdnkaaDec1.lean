/- (*wire.reader).number and tailraceref.numberAt: numbers in bytes of seven bits, read back. -/
import Derived.Test.YtpjjfnpdopdnkaaWire2
import Derived.IntWalk
namespace Go.Proofs.Ytpjjfnpdopdnkaa
open Go.RowKit

/-- so many bytes at most, the place, what is known, the bytes: the number and what is behind it -/
def numGo : Nat → Nat → Nat → List UInt8 → Option (Nat × List UInt8)
  | 0, _, _, _ => none
  | _ + 1, _, _, [] => none
  | f + 1, i, n, c :: r =>
    if c.toNat < 128 then (if c.toNat = 0 ∧ 0 < i then none else some (n + c.toNat % 128 * 128 ^ i, r)) else numGo f (i + 1) (n + c.toNat % 128 * 128 ^ i) r
def numP (l : List UInt8) : Option (Nat × List UInt8) := numGo 5 0 0 l

theorem numGo_nil (f i n : Nat) : numGo f i n [] = none := by cases f <;> rfl
theorem numGo_last {f i n : Nat} {c : UInt8} {r : List UInt8} (h : c.toNat < 128) (h0 : ¬ (c.toNat = 0 ∧ 0 < i)) : numGo (f + 1) i n (c :: r) = some (n + c.toNat % 128 * 128 ^ i, r) := by
  simp only [numGo, if_pos h, if_neg h0]
theorem numGo_zero {f i n : Nat} {c : UInt8} {r : List UInt8} (h0 : c.toNat = 0) (hi : 0 < i) : numGo (f + 1) i n (c :: r) = none := by
  simp only [numGo, if_pos (show c.toNat < 128 by omega), if_pos (show c.toNat = 0 ∧ 0 < i from ⟨h0, hi⟩)]
theorem numGo_more {f i n : Nat} {c : UInt8} {r : List UInt8} (h : ¬ c.toNat < 128) : numGo (f + 1) i n (c :: r) = numGo f (i + 1) (n + c.toNat % 128 * 128 ^ i) r := by
  simp only [numGo, if_neg h]
/-- what is behind a number is an end of the bytes -/
theorem numGo_suffix : ∀ (f i n : Nat) (l : List UInt8) (m : Nat) (r : List UInt8), numGo f i n l = some (m, r) → ∃ p, l = p ++ r ∧ 0 < p.length
  | 0, _, _, _, _, _, h => by simp [numGo] at h
  | f + 1, i, n, [], m, r, h => by simp [numGo] at h
  | f + 1, i, n, c :: l, m, r, h => by
    by_cases hc : c.toNat < 128
    · by_cases h0 : c.toNat = 0 ∧ 0 < i
      · rw [numGo_zero h0.1 h0.2] at h; cases h
      · rw [numGo_last hc h0] at h
        simp only [Option.some.injEq, Prod.mk.injEq] at h
        exact ⟨[c], by simp [h.2], by simp⟩
    · rw [numGo_more hc] at h
      obtain ⟨p, hp, hl⟩ := numGo_suffix f (i + 1) _ l m r h
      exact ⟨c :: p, by simp [hp], by simp⟩
theorem numGo_bound : ∀ (f i n : Nat) (l : List UInt8) (m : Nat) (r : List UInt8), n < 128 ^ i → numGo f i n l = some (m, r) → m < 128 ^ (i + f)
  | 0, _, _, _, _, _, _, h => by simp [numGo] at h
  | f + 1, i, n, [], m, r, _, h => by simp [numGo] at h
  | f + 1, i, n, c :: l, m, r, hn, h => by
    have hs : n + c.toNat % 128 * 128 ^ i < 128 ^ (i + 1) := by
      have h1 : c.toNat % 128 * 128 ^ i ≤ 127 * 128 ^ i := Nat.mul_le_mul_right _ (by omega)
      rw [Nat.pow_succ]; omega
    by_cases hc : c.toNat < 128
    · by_cases h0 : c.toNat = 0 ∧ 0 < i
      · rw [numGo_zero h0.1 h0.2] at h; cases h
      · rw [numGo_last hc h0] at h
        simp only [Option.some.injEq, Prod.mk.injEq] at h
        have : 128 ^ (i + 1) ≤ 128 ^ (i + (f + 1)) := Nat.pow_le_pow_right (by omega) (by omega)
        omega
    · rw [numGo_more hc] at h
      have := numGo_bound f (i + 1) _ l m r hs h
      rwa [show i + (f + 1) = i + 1 + f from by omega]

/-- what (*reader).number leaves -/
def NumPost (bad : Bool) (l : List UInt8) (n : Int) (bad' : Bool) (l' : List UInt8) : Prop :=
  (bad = true → bad' = true) ∧ (bad = false → (∃ m r, numP l = some (m, r) ∧ n = (m : Int) ∧ l' = r ∧ bad' = false) ∨ (numP l = none ∧ bad' = true))

def RPost (g : Nat) (v : Value) (w : World) (bad : Bool) (l : List UInt8) (e : Ending) (w' : World) : Prop := ∃ (n : Int) (v' : Value) (bad' : Bool) (l' : List UInt8), e = .returned (.int .i64 n) ∧ Blk w' g 97 #[v', .bool bad'] ∧ By w' v' l' ∧ v'.ownBlock = v.ownBlock ∧ w.grownBy w' (some g) ∧ w'.heap.size = w.heap.size ∧ NumPost bad l n bad' l'
theorem np_bad {l : List UInt8} {n : Int} {l' : List UInt8} : NumPost true l n true l' := ⟨fun _ => rfl, fun h => by simp at h⟩
theorem np_none {l : List UInt8} {n : Int} {l' : List UInt8} (h : numP l = none) : NumPost false l n true l' := ⟨fun _ => rfl, fun _ => Or.inr ⟨h, rfl⟩⟩
theorem np_some {l : List UInt8} {m : Nat} {r : List UInt8} (h : numP l = some (m, r)) : NumPost false l m false r := ⟨fun e => by simp at e, fun _ => Or.inl ⟨m, r, h, rfl, rfl, rfl⟩⟩

theorem byte_cons {l : List UInt8} {w : World} {v : Value} (h : By w v l) (hl : 0 < l.length) : ∃ b off c u r, v = .slice (some ⟨b, off, none⟩) l.length c ∧ l.length ≤ c ∧ l = u :: r ∧ b < w.heap.size ∧ w.cell? ⟨b, off, none⟩ = some (.int .u8 u.toNat) ∧
    ∀ w', (∀ p : Addr, p.block = b → w'.cell? p = w.cell? p) → w.heap.size ≤ w'.heap.size → (c = 1 → By w' (.slice (some ⟨b, off, none⟩) r.length 0) r) ∧ (c ≠ 1 → By w' (.slice (some ⟨b, off + 1, none⟩) r.length (c - 1)) r) := by
  obtain ⟨h1, A, c, hv, hc, h2⟩ := h
  obtain ⟨b, off, rfl, hb, hcell⟩ := h2 hl
  rcases l with _ | ⟨u, r⟩
  · simp at hl
  · refine ⟨b, off, c, u, r, hv, hc, rfl, hb, by have := hcell 0 _ rfl; simpa using this, fun w' hk hs => ?_⟩
    simp only [List.length_cons] at hc
    refine ⟨fun e => ?_, fun e => ?_⟩
    · have : r = [] := List.eq_nil_of_length_eq_zero (by omega)
      subst this
      exact ⟨by simp [bvs], _, _, rfl, by simp, fun hn => absurd hn (by simp)⟩
    · refine ⟨by simp [bvs], _, _, rfl, by omega, fun hn => ⟨b, off + 1, rfl, by omega, fun j x hx => ?_⟩⟩
      rw [hk _ rfl, Nat.add_assoc, Nat.add_comm 1 j]
      exact hcell (j + 1) x (by simpa [bvs] using hx)

theorem or_shift (acc u k : Nat) (ha : acc < 128 ^ k) (hk : k < 5) (_hu : u < 256) : bits .or .i64 (acc : Int) (wrap64 (bits .and .i64 (u : Int) 127 * 2 ^ (7 * k))) = ((acc + u % 128 * 128 ^ k : Nat) : Int) := by
  have h1 : ((u : Int) % 128) = ((u % 128 : Nat) : Int) := by omega
  have h2 : (2 : Int) ^ (7 * k) = ((128 ^ k : Nat) : Int) := by rw [Int.pow_mul]; simp
  have h3 : (128 : Nat) ^ k = 2 ^ (7 * k) := by rw [Nat.pow_mul]
  have hp : (128 : Nat) ^ k ≤ 128 ^ 4 := Nat.pow_le_pow_right (by omega) (by omega)
  have hm : u % 128 * 128 ^ k ≤ 127 * 128 ^ 4 := Nat.mul_le_mul (by omega) hp
  rw [i64_and127, h1, h2]
  have h4 : (((u % 128 : Nat) : Int) * ((128 ^ k : Nat) : Int)) = ((u % 128 * 128 ^ k : Nat) : Int) := by push_cast; rfl
  rw [h4]
  have h5 : wrap64 ((u % 128 * 128 ^ k : Nat) : Int) = ((u % 128 * 128 ^ k : Nat) : Int) := by unfold wrap64; omega
  rw [h5, bits_or_i64_nat _ _ (by omega) (by omega)]
  have h := Nat.two_pow_add_eq_or_of_lt (i := 7 * k) (b := acc) (by rw [← h3]; exact ha) (u % 128)
  rw [Nat.or_comm, h3, Nat.mul_comm (u % 128), ← h, Nat.add_comm]

theorem grown_set {w wr : World} {g : Nat} (h : w.grownBy wr (some g)) (i : Nat) (u : Value) : w.grownBy (wr.setCell ⟨g, i, none⟩ u) (some g) :=
  ⟨h.os, h.tape, h.output, by simpa [World.setCell] using h.size, fun k hk hne => (Below.heap_setCell wr ⟨g, i, none⟩ u k (fun e => hne (by rw [e]))).trans (h.block k hk hne)⟩
theorem By.grown {w w' : World} {v : Value} {l : List UInt8} {g : Nat} (h : By w v l) (hg : w.grownBy w' (some g)) (hne : v.ownBlock ≠ some g) : By w' v l := by
  obtain ⟨h1, A, c, rfl, hc, h2⟩ := h
  refine ⟨h1, A, c, rfl, hc, fun hn => ?_⟩
  obtain ⟨b, off, rfl, hb, hcell⟩ := h2 hn
  refine ⟨b, off, rfl, Nat.lt_of_lt_of_le hb hg.size, fun j u hu => hg.cell (hcell j u hu) (fun e => hne e)⟩
theorem size_setCell (w : World) (a : Addr) (u : Value) : (w.setCell a u).heap.size = w.heap.size := by simp [World.setCell]

set_option maxRecDepth 100000 in
set_option maxHeartbeats 4000000 in
theorem rnum_bad (g : Nat) (v : Value) (l : List UInt8) (w : World) (hg : Blk w g 97 #[v, .bool true]) (hv : By w v l) (hne : v.ownBlock ≠ some g) :
    Calls Try.prog 99 #[.pointer (some ⟨g, 0, none⟩)] w (RPost g v w true l) := by
  have g0 := hg.cell 0
  have g1 := hg.cell 1
  have f1 := hg.frozen 1
  obtain ⟨A, c, rfl, hc, -⟩ := hv.at_
  go_enter Try.func99, Try.ntmps99
  go_wp2
  go_loop [3, 4] (fun n i => True) (fun _ _ => 0)
  case atStart => trivial
  case round =>
    go_wp2
    go_ret
    exact ⟨0, _, true, l, rfl, hg.set_ 1 _, By.grown hv (grown_set (World.grownBy.refl w _) 1 _) hne, rfl, grown_set (World.grownBy.refl w _) 1 _, size_setCell _ _ _, np_bad⟩

set_option maxRecDepth 100000 in
set_option maxHeartbeats 4000000 in
theorem rnum_good (g : Nat) (v : Value) (l : List UInt8) (w : World) (hg : Blk w g 97 #[v, .bool false]) (hv : By w v l) (hne : v.ownBlock ≠ some g) :
    Calls Try.prog 99 #[.pointer (some ⟨g, 0, none⟩)] w (RPost g v w false l) := by
  go_enter Try.func99, Try.ntmps99
  go_wp2
  go_loopw [3, 4] (fun n i wr => ∃ (k acc : Nat) (v' : Value) (l' : List UInt8), k ≤ 5 ∧ i = .int .i64 k ∧ n = .int .i64 acc ∧ Hid (acc < 128 ^ k) ∧ Blk wr g 97 #[v', .bool false] ∧ By wr v' l' ∧ Hid (v'.ownBlock = v.ownBlock) ∧ w.grownBy wr (some g) ∧ Hid (wr.heap.size = w.heap.size) ∧ Hid (numGo (5 - k) k acc l' = numP l)) (fun _ i _ => 5 - (intOf i).toNat)
  case atStart => exact ⟨0, 0, v, l, by omega, rfl, rfl, (show 0 < 128 ^ 0 by decide), hg, hv, rfl, World.grownBy.refl w _, rfl, rfl⟩
  case round =>
    obtain ⟨k, acc, v', l', hk, rfl, rfl, hacc, hb, hv', HQ, hgr, hsz, hnum⟩ := hrel
    have hne' : v'.ownBlock ≠ some g := by rw [HQ.out]; exact hne
    have g0 := hb.cell 0
    have g1 := hb.cell 1
    have f0 := hb.frozen 0
    have f1 := hb.frozen 1
    rcases l' with _ | ⟨u, r⟩
    · obtain ⟨A, c, rfl, hc, -⟩ := hv'.at_
      go_wp2
      go_ret
      exact ⟨0, _, true, [], rfl, hb.set_ 1 _, By.grown hv' (grown_set (World.grownBy.refl wr _) 1 _) hne', HQ.out, grown_set hgr 1 _, (size_setCell _ _ _).trans hsz.out, np_none (by rw [← hnum.out]; exact numGo_nil _ _ _)⟩
    · obtain ⟨b, off, c, u', r', rfl, hc, hur, hbl, hcell, hcut⟩ := byte_cons hv' (by simp)
      injection hur with hu' hr'
      subst hu' hr'
      simp only [List.length_cons] at hc
      have hbg : b ≠ g := fun e => hne' (by rw [e]; rfl)
      by_cases h5 : k = 5
      · subst h5
        go_wp2
        go_ret
        exact ⟨0, _, true, _, rfl, hb.set_ 1 _, By.grown hv' (grown_set (World.grownBy.refl wr _) 1 _) hne', HQ.out, grown_set hgr 1 _, (size_setCell _ _ _).trans hsz.out, np_none (by rw [← hnum.out]; rfl)⟩
      · have hor := or_shift acc u.toNat k hacc.out (by omega) (by have := u.toNat_lt; omega)
        have hu256 : u.toNat < 256 := by have := u.toNat_lt; omega
        have hA := Lib.hid hcut
        have HC := Lib.hid hc
        clear hcut
        have hk5 : ((k : Int) == 5) = false := by rw [beq_eq_false_iff_ne]; omega
        have hbig0 : u.toNat < 128 ∨ ¬ u.toNat < 128 := by omega
        have hf5 : 5 - k = (5 - (k + 1)) + 1 := by omega
        have HF := Lib.hid hf5
        clear hf5
        have hcm : 1 ≤ c := by omega
        by_cases hc1 : c = 1
        · have hy := ((hA.out (wr.setCell ⟨g, 0, none⟩ (.slice (some ⟨b, off, none⟩) r.length 0)) (fun p hp => World.cell?_setCell_other wr ⟨g, 0, none⟩ p _ (fun e => hbg (by have h := hp; rw [← e] at h; exact h.symm))) (by rw [size_setCell]; exact Nat.le_refl _)).1 hc1 : By (wr.setCell ⟨g, 0, none⟩ (.slice (some ⟨b, off, none⟩) r.length 0)) (.slice (some ⟨b, off, none⟩) r.length 0) r)
          have HY := Lib.hid hy
          clear hy
          have hr0 : r.length = 0 := by have := HC.out; omega
          have hr1 : r = [] := List.eq_nil_of_length_eq_zero hr0
          subst hr1
          subst hc1
          rcases hbig0 with hbig | hbig
          · by_cases hz : u.toNat = 0 ∧ 0 < k
            · have hz1 : ((u.toNat : Int) == 0) = true := by rw [beq_iff_eq]; omega
              have hz2 : (0 : Int) < (k : Int) := by omega
              have hz3 : decide (0 < k) = true := by simp; omega
              have HZ := Lib.hid hz
              clear hz
              go_wp2
              go_ret
              exact ⟨_, _, true, [], rfl, (hb.set_ 0 _).set_ 1 _, By.grown HY.out (grown_set (World.grownBy.refl _ _) 1 _) (by simp [Value.ownBlock]; exact hbg), HQ.out, grown_set (grown_set hgr 0 _) 1 _, (size_setCell _ _ _).trans ((size_setCell _ _ _).trans hsz.out), np_none (by rw [← hnum.out, HF.out]; exact numGo_zero HZ.out.1 HZ.out.2)⟩
            · have hz1 : (((u.toNat : Int) == 0) = true ∧ k = 0) ∨ ((u.toNat : Int) == 0) = false := by
                by_cases h0 : u.toNat = 0
                · exact Or.inl ⟨by rw [beq_iff_eq]; omega, by omega⟩
                · exact Or.inr (by rw [beq_eq_false_iff_ne]; omega)
              have HZ := Lib.hid hz
              clear hz
              rcases hz1 with ⟨hz1, hk0⟩ | hz1
              · subst hk0
                simp only [Nat.mul_zero, Int.pow_zero, Int.mul_one] at hor
                go_wp2
                go_ret
                exact ⟨_, _, false, [], rfl, (hb.set_ 0 _).set_ 1 _, By.grown HY.out (grown_set (World.grownBy.refl _ _) 1 _) (by simp [Value.ownBlock]; exact hbg), HQ.out, grown_set (grown_set hgr 0 _) 1 _, (size_setCell _ _ _).trans ((size_setCell _ _ _).trans hsz.out), by have h := np_some (l := l) (m := acc + u.toNat % 128 * 128 ^ 0) (by rw [← hnum.out]; exact numGo_last (f := 4) hbig HZ.out); simpa using h⟩
              · go_wp2
                go_ret
                exact ⟨_, _, false, [], rfl, (hb.set_ 0 _).set_ 1 _, By.grown HY.out (grown_set (World.grownBy.refl _ _) 1 _) (by simp [Value.ownBlock]; exact hbg), HQ.out, grown_set (grown_set hgr 0 _) 1 _, (size_setCell _ _ _).trans ((size_setCell _ _ _).trans hsz.out), np_some (by rw [← hnum.out, HF.out]; exact numGo_last hbig HZ.out)⟩
          · go_wp2
            go_light
            refine ⟨⟨k + 1, acc + u.toNat % 128 * 128 ^ k, _, [], by omega, by go_num, rfl, ?_, hb.set_ 0 _, HY.out, HQ.out, grown_set hgr 0 _, (size_setCell _ _ _).trans hsz.out, ?_⟩, by simp [intOf]; omega⟩
            · have h1 : u.toNat % 128 * 128 ^ k ≤ 127 * 128 ^ k := Nat.mul_le_mul_right _ (by omega)
              have h2 := hacc.out
              show _ < _
              rw [Nat.pow_succ]; omega
            · show _ = _
              rw [← hnum.out, HF.out, numGo_more hbig]
        · have hy := ((hA.out (wr.setCell ⟨g, 0, none⟩ (.slice (some ⟨b, off + 1, none⟩) r.length (c - 1))) (fun p hp => World.cell?_setCell_other wr ⟨g, 0, none⟩ p _ (fun e => hbg (by have h := hp; rw [← e] at h; exact h.symm))) (by rw [size_setCell]; exact Nat.le_refl _)).2 hc1 : By (wr.setCell ⟨g, 0, none⟩ (.slice (some ⟨b, off + 1, none⟩) r.length (c - 1))) (.slice (some ⟨b, off + 1, none⟩) r.length (c - 1)) r)
          have HY := Lib.hid hy
          clear hy
          have hc2 : 2 ≤ c := by omega
          have HC1 := Lib.hid hc1
          clear hc1
          rcases hbig0 with hbig | hbig
          · by_cases hz : u.toNat = 0 ∧ 0 < k
            · have hz1 : ((u.toNat : Int) == 0) = true := by rw [beq_iff_eq]; omega
              have hz2 : (0 : Int) < (k : Int) := by omega
              have hz3 : decide (0 < k) = true := by simp; omega
              have HZ := Lib.hid hz
              clear hz
              go_wp2
              go_ret
              exact ⟨_, _, true, r, rfl, (hb.set_ 0 _).set_ 1 _, By.grown HY.out (grown_set (World.grownBy.refl _ _) 1 _) (by simp [Value.ownBlock]; exact hbg), HQ.out, grown_set (grown_set hgr 0 _) 1 _, (size_setCell _ _ _).trans ((size_setCell _ _ _).trans hsz.out), np_none (by rw [← hnum.out, HF.out]; exact numGo_zero HZ.out.1 HZ.out.2)⟩
            · have hz1 : (((u.toNat : Int) == 0) = true ∧ k = 0) ∨ ((u.toNat : Int) == 0) = false := by
                by_cases h0 : u.toNat = 0
                · exact Or.inl ⟨by rw [beq_iff_eq]; omega, by omega⟩
                · exact Or.inr (by rw [beq_eq_false_iff_ne]; omega)
              have HZ := Lib.hid hz
              clear hz
              rcases hz1 with ⟨hz1, hk0⟩ | hz1
              · subst hk0
                simp only [Nat.mul_zero, Int.pow_zero, Int.mul_one] at hor
                go_wp2
                go_ret
                exact ⟨_, _, false, r, rfl, (hb.set_ 0 _).set_ 1 _, By.grown HY.out (grown_set (World.grownBy.refl _ _) 1 _) (by simp [Value.ownBlock]; exact hbg), HQ.out, grown_set (grown_set hgr 0 _) 1 _, (size_setCell _ _ _).trans ((size_setCell _ _ _).trans hsz.out), by have h := np_some (l := l) (m := acc + u.toNat % 128 * 128 ^ 0) (by rw [← hnum.out]; exact numGo_last (f := 4) hbig HZ.out); simpa using h⟩
              · go_wp2
                go_ret
                exact ⟨_, _, false, r, rfl, (hb.set_ 0 _).set_ 1 _, By.grown HY.out (grown_set (World.grownBy.refl _ _) 1 _) (by simp [Value.ownBlock]; exact hbg), HQ.out, grown_set (grown_set hgr 0 _) 1 _, (size_setCell _ _ _).trans ((size_setCell _ _ _).trans hsz.out), np_some (by rw [← hnum.out, HF.out]; exact numGo_last hbig HZ.out)⟩
          · go_wp2
            go_light
            refine ⟨⟨k + 1, acc + u.toNat % 128 * 128 ^ k, _, r, by omega, by go_num, rfl, ?_, hb.set_ 0 _, HY.out, HQ.out, grown_set hgr 0 _, (size_setCell _ _ _).trans hsz.out, ?_⟩, by simp [intOf]; omega⟩
            · have h1 : u.toNat % 128 * 128 ^ k ≤ 127 * 128 ^ k := Nat.mul_le_mul_right _ (by omega)
              have h2 := hacc.out
              show _ < _
              rw [Nat.pow_succ]; omega
            · show _ = _
              rw [← hnum.out, HF.out, numGo_more hbig]

/-- what numberAt answers -/
def natRes (l : List UInt8) (at_ : Nat) : Value := match numP (l.drop at_) with
  | some (m, r) => .tuple #[.int .i64 m, .int .i64 ((l.length - r.length : Nat) : Int)]
  | none => .tuple #[.int .i64 0, .int .i64 (-1)]

set_option maxRecDepth 100000 in
set_option maxHeartbeats 4000000 in
theorem numberAt_any (v : Value) (l : List UInt8) (at_ : Nat) (w : World) (hv : By w v l) (hat : at_ ≤ l.length) (hl : l.length ≤ 65536) :
    Calls Try.prog 100 #[v, .int .i64 at_] w fun e w' => e = .returned (natRes l at_) ∧ w = w' := by
  obtain ⟨A, c, rfl, hc, hcell⟩ := hv.at_
  go_enter Try.func100, Try.ntmps100
  go_wp2
  go_loop [6, 7, 8] (fun n u i => ∃ (k acc : Nat), k ≤ 5 ∧ i = .int .i64 k ∧ u = .int .i64 ((128 ^ k : Nat) : Int) ∧ n = .int .i64 acc ∧ at_ + k ≤ l.length ∧ Hid (acc < 128 ^ k) ∧ Hid (numGo (5 - k) k acc (l.drop (at_ + k)) = numP (l.drop at_))) (fun _ _ i => 5 - (intOf i).toNat)
  case atStart => exact ⟨0, 0, by omega, rfl, rfl, rfl, by omega, (show 0 < 128 ^ 0 by decide), rfl⟩
  case round =>
    obtain ⟨k, acc, hk, rfl, rfl, rfl, hle, hacc, hnum⟩ := hrel
    by_cases h5 : k = 5
    · subst h5
      go_wp2
      exact bodyPost_ret (v := .tuple #[.int .i64 0, .int .i64 (-1)]) (by simp [results, Try.results100, go_sem]) rfl ⟨by rw [natRes, ← hnum.out]; rfl, rfl⟩
    · by_cases hlt : at_ + k < l.length
      · obtain ⟨b, off, rfl, hb, hcs⟩ := hcell (by omega)
        have X := hcs (at_ + k) hlt
        have hdr : l.drop (at_ + k) = l[at_ + k] :: l.drop (at_ + k + 1) := List.drop_eq_getElem_cons hlt
        have hnm := hnum.out
        rw [hdr] at hnm
        have hf5 : 5 - k = (5 - (k + 1)) + 1 := by omega
        rw [hf5] at hnm
        have HN := Lib.hid hnm
        have hac := hacc.out
        have hU : 128 ^ k ≤ 128 ^ 4 := Nat.pow_le_pow_right (by omega) (by omega)
        have hUs : 128 ^ (k + 1) = 128 ^ k * 128 := Nat.pow_succ _ _
        have HU := Lib.hid hUs
        have hu : (l[at_ + k]).toNat < 256 := (l[at_ + k]).toNat_lt
        clear hdr hnm hf5 hUs hcs hcell hnum hacc
        generalize l[at_ + k] = u at *
        generalize hUe : 128 ^ k = U at *
        have HUE := Lib.hid hUe
        clear hUe
        have hpn : u.toNat % 128 * U ≤ 127 * 128 ^ 4 := Nat.mul_le_mul (by omega) hU
        have hp0 : (0 : Int) ≤ (u.toNat : Int) % 128 * (U : Int) := Int.mul_nonneg (by omega) (by omega)
        have hp1 : (u.toNat : Int) % 128 * (U : Int) ≤ 127 * 268435456 := Int.mul_le_mul (by omega) (by omega) (by omega) (by omega)
        have hpe : (u.toNat : Int) % 128 * (U : Int) = ((u.toNat % 128 * U : Nat) : Int) := by push_cast; rfl
        have HPE := Lib.hid hpe
        clear hpe
        have i0 : (0 : Int) ≤ (at_ : Int) + (k : Int) := by omega
        have i1 : (at_ : Int) + (k : Int) < (l.length : Int) := by omega
        have i2 : decide ((k : Int) < 5) = true := decide_eq_true (by omega)
        have i3 : decide ((at_ : Int) + (k : Int) < (l.length : Int)) = true := decide_eq_true i1
        by_cases hc : u.toNat < 128
        · by_cases hz : u.toNat = 0 ∧ 0 < k
          · have HZ := Lib.hid hz
            go_wp2
            exact bodyPost_ret (v := .tuple #[.int .i64 0, .int .i64 (-1)]) (by simp [results, Try.results100, go_sem]) rfl ⟨by rw [natRes, ← HN.out, numGo_zero HZ.out.1 HZ.out.2], rfl⟩
          · have hz1 : (((u.toNat : Int) == 0) = true ∧ k = 0) ∨ ((u.toNat : Int) == 0) = false := by
              by_cases h0 : u.toNat = 0
              · exact Or.inl ⟨by rw [beq_iff_eq]; omega, by omega⟩
              · exact Or.inr (by rw [beq_eq_false_iff_ne]; omega)
            have HZ := Lib.hid hz
            clear hz
            have hres : natRes l at_ = .tuple #[.int .i64 ((acc : Int) + (u.toNat : Int) % 128 * (U : Int)), .int .i64 ((at_ : Int) + (k : Int) + 1)] := by
              rw [natRes, ← HN.out, numGo_last hc HZ.out, HUE.out, HPE.out]
              have e1 : l.length - (l.drop (at_ + k + 1)).length = at_ + k + 1 := by rw [List.length_drop]; omega
              simp only [e1]
              push_cast
              rfl
            have HR := Lib.hid hres
            clear hres
            rcases hz1 with ⟨hz1, hk0⟩ | hz1
            · subst hk0
              simp only [Nat.add_zero] at X
              go_wp2
              exact bodyPost_ret (v := .tuple #[.int .i64 ((acc : Int) + (u.toNat : Int) % 128 * (U : Int)), .int .i64 ((at_ : Int) + 1)]) (by simp [results, Try.results100, go_sem]) rfl ⟨by rw [HR.out]; rfl, rfl⟩
            · go_wp2
              exact bodyPost_ret (v := .tuple #[.int .i64 ((acc : Int) + (u.toNat : Int) % 128 * (U : Int)), .int .i64 ((at_ : Int) + (k : Int) + 1)]) (by simp [results, Try.results100, go_sem]) rfl ⟨by rw [HR.out], rfl⟩
        · go_wp2
          go_light
          refine ⟨⟨k + 1, acc + u.toNat % 128 * 128 ^ k, by omega, by go_num, ?_, ?_, by omega, ?_, ?_⟩, by simp [intOf]; omega⟩
          · rw [HU.out]; push_cast; rfl
          · rw [HUE.out, HPE.out]; push_cast; rfl
          · have h1 : u.toNat % 128 * 128 ^ k ≤ 127 * 128 ^ k := Nat.mul_le_mul_right _ (by omega)
            rw [HUE.out] at h1
            show _ < _
            rw [HU.out, HUE.out]; omega
          · show _ = _
            rw [← HN.out, numGo_more hc, Nat.add_assoc]
      · obtain rfl : k = l.length - at_ := by omega
        have hdr : l.drop (at_ + (l.length - at_)) = [] := List.drop_of_length_le (by omega)
        have hnm := hnum.out
        rw [hdr, numGo_nil] at hnm
        have HN := Lib.hid hnm
        clear hnm
        go_wp2
        exact bodyPost_ret (v := .tuple #[.int .i64 0, .int .i64 (-1)]) (by simp [results, Try.results100, go_sem]) rfl ⟨by rw [natRes, ← HN.out], rfl⟩

end Go.Proofs.Ytpjjfnpdopdnkaa
