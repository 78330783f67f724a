/- Parts of a proof, merged: Dec1, EntD, Ent, MemX, Conv, CloneByte, SameE, PartS, PartO, CloneBool, CloneInt, CloneRep, PartC, Wire4. No condition. -/
import Derived.Test.YtpjjfnpdopdnkaaPf1
import Derived.IntWalk
import Derived.Deep.RegionHeld3
import Derived.Deep.DrawnRows
import Derived.Deep.RegionLaw
import Derived.Laws.BytesString
namespace Go.Proofs.Ytpjjfnpdopdnkaa
open Go.RowKit

/-- so many bytes at most, the place, what is known, the bytes: the number and what is behind it -/
def numGo : Nat → Nat → Nat → List UInt8 → Option (Nat × List UInt8)
  | 0, _, _, _ => none
  | _ + 1, _, _, [] => none
  | f + 1, i, n, c :: r =>
    if c.toNat < 128 then (if c.toNat = 0 ∧ 0 < i then none else some (n + c.toNat % 128 * 128 ^ i, r)) else numGo f (i + 1) (n + c.toNat % 128 * 128 ^ i) r
def numP (l : List UInt8) : Option (Nat × List UInt8) := numGo 5 0 0 l

theorem numGo_nil (f i n : Nat) : numGo f i n [] = none := by cases f <;> rfl
theorem numGo_last {f i n : Nat} {c : UInt8} {r : List UInt8} (h : c.toNat < 128) (h0 : ¬ (c.toNat = 0 ∧ 0 < i)) : numGo (f + 1) i n (c :: r) = some (n + c.toNat % 128 * 128 ^ i, r) := by
  simp only [numGo, if_pos h, if_neg h0]
theorem numGo_zero {f i n : Nat} {c : UInt8} {r : List UInt8} (h0 : c.toNat = 0) (hi : 0 < i) : numGo (f + 1) i n (c :: r) = none := by
  simp only [numGo, if_pos (show c.toNat < 128 by omega), if_pos (show c.toNat = 0 ∧ 0 < i from ⟨h0, hi⟩)]
theorem numGo_more {f i n : Nat} {c : UInt8} {r : List UInt8} (h : ¬ c.toNat < 128) : numGo (f + 1) i n (c :: r) = numGo f (i + 1) (n + c.toNat % 128 * 128 ^ i) r := by
  simp only [numGo, if_neg h]
/-- what is behind a number is an end of the bytes -/
theorem numGo_suffix : ∀ (f i n : Nat) (l : List UInt8) (m : Nat) (r : List UInt8), numGo f i n l = some (m, r) → ∃ p, l = p ++ r ∧ 0 < p.length
  | 0, _, _, _, _, _, h => by simp [numGo] at h
  | f + 1, i, n, [], m, r, h => by simp [numGo] at h
  | f + 1, i, n, c :: l, m, r, h => by
    by_cases hc : c.toNat < 128
    · by_cases h0 : c.toNat = 0 ∧ 0 < i
      · rw [numGo_zero h0.1 h0.2] at h; cases h
      · rw [numGo_last hc h0] at h
        simp only [Option.some.injEq, Prod.mk.injEq] at h
        exact ⟨[c], by simp [h.2], by simp⟩
    · rw [numGo_more hc] at h
      obtain ⟨p, hp, hl⟩ := numGo_suffix f (i + 1) _ l m r h
      exact ⟨c :: p, by simp [hp], by simp⟩
/-- what (*reader).number leaves -/
def NumPost (bad : Bool) (l : List UInt8) (n : Int) (bad' : Bool) (l' : List UInt8) : Prop :=
  (bad = true → bad' = true) ∧ (bad = false → (∃ m r, numP l = some (m, r) ∧ n = (m : Int) ∧ l' = r ∧ bad' = false) ∨ (numP l = none ∧ bad' = true))

def RPost (g : Nat) (v : Value) (w : World) (bad : Bool) (l : List UInt8) (e : Ending) (w' : World) : Prop := ∃ (n : Int) (v' : Value) (bad' : Bool) (l' : List UInt8), e = .returned (.int .i64 n) ∧ Blk w' g 97 #[v', .bool bad'] ∧ By w' v' l' ∧ v'.ownBlock = v.ownBlock ∧ w.grownBy w' (some g) ∧ w'.heap.size = w.heap.size ∧ NumPost bad l n bad' l'
theorem np_bad {l : List UInt8} {n : Int} {l' : List UInt8} : NumPost true l n true l' := ⟨fun _ => rfl, fun h => by simp at h⟩
theorem np_none {l : List UInt8} {n : Int} {l' : List UInt8} (h : numP l = none) : NumPost false l n true l' := ⟨fun _ => rfl, fun _ => Or.inr ⟨h, rfl⟩⟩
theorem np_some {l : List UInt8} {m : Nat} {r : List UInt8} (h : numP l = some (m, r)) : NumPost false l m false r := ⟨fun e => by simp at e, fun _ => Or.inl ⟨m, r, h, rfl, rfl, rfl⟩⟩

theorem byte_cons {l : List UInt8} {w : World} {v : Value} (h : By w v l) (hl : 0 < l.length) : ∃ b off c u r, v = .slice (some ⟨b, off, none⟩) l.length c ∧ l.length ≤ c ∧ l = u :: r ∧ b < w.heap.size ∧ w.cell? ⟨b, off, none⟩ = some (.int .u8 u.toNat) ∧
    ∀ w', (∀ p : Addr, p.block = b → w'.cell? p = w.cell? p) → w.heap.size ≤ w'.heap.size → (c = 1 → By w' (.slice (some ⟨b, off, none⟩) r.length 0) r) ∧ (c ≠ 1 → By w' (.slice (some ⟨b, off + 1, none⟩) r.length (c - 1)) r) := by
  obtain ⟨h1, A, c, hv, hc, h2⟩ := h
  obtain ⟨b, off, rfl, hb, hcell⟩ := h2 hl
  rcases l with _ | ⟨u, r⟩
  · simp at hl
  · refine ⟨b, off, c, u, r, hv, hc, rfl, hb, by have := hcell 0 _ rfl; simpa using this, fun w' hk hs => ?_⟩
    simp only [List.length_cons] at hc
    refine ⟨fun e => ?_, fun e => ?_⟩
    · have : r = [] := List.eq_nil_of_length_eq_zero (by omega)
      subst this
      exact ⟨by simp [bvs], _, _, rfl, by simp, fun hn => absurd hn (by simp)⟩
    · refine ⟨by simp [bvs], _, _, rfl, by omega, fun hn => ⟨b, off + 1, rfl, by omega, fun j x hx => ?_⟩⟩
      rw [hk _ rfl, Nat.add_assoc, Nat.add_comm 1 j]
      exact hcell (j + 1) x (by simpa [bvs] using hx)

theorem or_shift (acc u k : Nat) (ha : acc < 128 ^ k) (hk : k < 5) (_hu : u < 256) : bits .or .i64 (acc : Int) (wrap64 (bits .and .i64 (u : Int) 127 * 2 ^ (7 * k))) = ((acc + u % 128 * 128 ^ k : Nat) : Int) := by
  have h1 : ((u : Int) % 128) = ((u % 128 : Nat) : Int) := by omega
  have h2 : (2 : Int) ^ (7 * k) = ((128 ^ k : Nat) : Int) := by rw [Int.pow_mul]; simp
  have h3 : (128 : Nat) ^ k = 2 ^ (7 * k) := by rw [Nat.pow_mul]
  have hp : (128 : Nat) ^ k ≤ 128 ^ 4 := Nat.pow_le_pow_right (by omega) (by omega)
  have hm : u % 128 * 128 ^ k ≤ 127 * 128 ^ 4 := Nat.mul_le_mul (by omega) hp
  rw [i64_and127, h1, h2]
  have h4 : (((u % 128 : Nat) : Int) * ((128 ^ k : Nat) : Int)) = ((u % 128 * 128 ^ k : Nat) : Int) := by push_cast; rfl
  rw [h4]
  have h5 : wrap64 ((u % 128 * 128 ^ k : Nat) : Int) = ((u % 128 * 128 ^ k : Nat) : Int) := by unfold wrap64; omega
  rw [h5, bits_or_i64_nat _ _ (by omega) (by omega)]
  have h := Nat.two_pow_add_eq_or_of_lt (i := 7 * k) (b := acc) (by rw [← h3]; exact ha) (u % 128)
  rw [Nat.or_comm, h3, Nat.mul_comm (u % 128), ← h, Nat.add_comm]

theorem grown_set {w wr : World} {g : Nat} (h : w.grownBy wr (some g)) (i : Nat) (u : Value) : w.grownBy (wr.setCell ⟨g, i, none⟩ u) (some g) :=
  ⟨h.os, h.tape, h.output, by simpa [World.setCell] using h.size, fun k hk hne => (Below.heap_setCell wr ⟨g, i, none⟩ u k (fun e => hne (by rw [e]))).trans (h.block k hk hne)⟩
theorem By.grown {w w' : World} {v : Value} {l : List UInt8} {g : Nat} (h : By w v l) (hg : w.grownBy w' (some g)) (hne : v.ownBlock ≠ some g) : By w' v l := by
  obtain ⟨h1, A, c, rfl, hc, h2⟩ := h
  refine ⟨h1, A, c, rfl, hc, fun hn => ?_⟩
  obtain ⟨b, off, rfl, hb, hcell⟩ := h2 hn
  refine ⟨b, off, rfl, Nat.lt_of_lt_of_le hb hg.size, fun j u hu => hg.cell (hcell j u hu) (fun e => hne e)⟩
theorem size_setCell (w : World) (a : Addr) (u : Value) : (w.setCell a u).heap.size = w.heap.size := by simp [World.setCell]

set_option maxRecDepth 100000 in
set_option maxHeartbeats 4000000 in
theorem rnum_bad (g : Nat) (v : Value) (l : List UInt8) (w : World) (hg : Blk w g 97 #[v, .bool true]) (hv : By w v l) (hne : v.ownBlock ≠ some g) :
    Calls Try.prog 99 #[.pointer (some ⟨g, 0, none⟩)] w (RPost g v w true l) := by
  have g0 := hg.cell 0
  have g1 := hg.cell 1
  have f1 := hg.frozen 1
  obtain ⟨A, c, rfl, hc, -⟩ := hv.at_
  go_enter Try.func99, Try.ntmps99
  go_wp2
  go_loop [3, 4] (fun n i => True) (fun _ _ => 0)
  case atStart => trivial
  case round =>
    go_wp2
    go_ret
    exact ⟨0, _, true, l, rfl, hg.set_ 1 _, By.grown hv (grown_set (World.grownBy.refl w _) 1 _) hne, rfl, grown_set (World.grownBy.refl w _) 1 _, size_setCell _ _ _, np_bad⟩

set_option maxRecDepth 100000 in
set_option maxHeartbeats 4000000 in
theorem rnum_good (g : Nat) (v : Value) (l : List UInt8) (w : World) (hg : Blk w g 97 #[v, .bool false]) (hv : By w v l) (hne : v.ownBlock ≠ some g) :
    Calls Try.prog 99 #[.pointer (some ⟨g, 0, none⟩)] w (RPost g v w false l) := by
  go_enter Try.func99, Try.ntmps99
  go_wp2
  go_loopw [3, 4] (fun n i wr => ∃ (k acc : Nat) (v' : Value) (l' : List UInt8), k ≤ 5 ∧ i = .int .i64 k ∧ n = .int .i64 acc ∧ Hid (acc < 128 ^ k) ∧ Blk wr g 97 #[v', .bool false] ∧ By wr v' l' ∧ Hid (v'.ownBlock = v.ownBlock) ∧ w.grownBy wr (some g) ∧ Hid (wr.heap.size = w.heap.size) ∧ Hid (numGo (5 - k) k acc l' = numP l)) (fun _ i _ => 5 - (intOf i).toNat)
  case atStart => exact ⟨0, 0, v, l, by omega, rfl, rfl, (show 0 < 128 ^ 0 by decide), hg, hv, rfl, World.grownBy.refl w _, rfl, rfl⟩
  case round =>
    obtain ⟨k, acc, v', l', hk, rfl, rfl, hacc, hb, hv', HQ, hgr, hsz, hnum⟩ := hrel
    have hne' : v'.ownBlock ≠ some g := by rw [HQ.out]; exact hne
    have g0 := hb.cell 0
    have g1 := hb.cell 1
    have f0 := hb.frozen 0
    have f1 := hb.frozen 1
    rcases l' with _ | ⟨u, r⟩
    · obtain ⟨A, c, rfl, hc, -⟩ := hv'.at_
      go_wp2
      go_ret
      exact ⟨0, _, true, [], rfl, hb.set_ 1 _, By.grown hv' (grown_set (World.grownBy.refl wr _) 1 _) hne', HQ.out, grown_set hgr 1 _, (size_setCell _ _ _).trans hsz.out, np_none (by rw [← hnum.out]; exact numGo_nil _ _ _)⟩
    · obtain ⟨b, off, c, u', r', rfl, hc, hur, hbl, hcell, hcut⟩ := byte_cons hv' (by simp)
      injection hur with hu' hr'
      subst hu' hr'
      simp only [List.length_cons] at hc
      have hbg : b ≠ g := fun e => hne' (by rw [e]; rfl)
      by_cases h5 : k = 5
      · subst h5
        go_wp2
        go_ret
        exact ⟨0, _, true, _, rfl, hb.set_ 1 _, By.grown hv' (grown_set (World.grownBy.refl wr _) 1 _) hne', HQ.out, grown_set hgr 1 _, (size_setCell _ _ _).trans hsz.out, np_none (by rw [← hnum.out]; rfl)⟩
      · have hor := or_shift acc u.toNat k hacc.out (by omega) (by have := u.toNat_lt; omega)
        have hu256 : u.toNat < 256 := by have := u.toNat_lt; omega
        have hA := Lib.hid hcut
        have HC := Lib.hid hc
        clear hcut
        have hk5 : ((k : Int) == 5) = false := by rw [beq_eq_false_iff_ne]; omega
        have hbig0 : u.toNat < 128 ∨ ¬ u.toNat < 128 := by omega
        have hf5 : 5 - k = (5 - (k + 1)) + 1 := by omega
        have HF := Lib.hid hf5
        clear hf5
        have hcm : 1 ≤ c := by omega
        by_cases hc1 : c = 1
        · have hy := ((hA.out (wr.setCell ⟨g, 0, none⟩ (.slice (some ⟨b, off, none⟩) r.length 0)) (fun p hp => World.cell?_setCell_other wr ⟨g, 0, none⟩ p _ (fun e => hbg (by have h := hp; rw [← e] at h; exact h.symm))) (by rw [size_setCell]; exact Nat.le_refl _)).1 hc1 : By (wr.setCell ⟨g, 0, none⟩ (.slice (some ⟨b, off, none⟩) r.length 0)) (.slice (some ⟨b, off, none⟩) r.length 0) r)
          have HY := Lib.hid hy
          clear hy
          have hr0 : r.length = 0 := by have := HC.out; omega
          have hr1 : r = [] := List.eq_nil_of_length_eq_zero hr0
          subst hr1
          subst hc1
          rcases hbig0 with hbig | hbig
          · by_cases hz : u.toNat = 0 ∧ 0 < k
            · have hz1 : ((u.toNat : Int) == 0) = true := by rw [beq_iff_eq]; omega
              have hz2 : (0 : Int) < (k : Int) := by omega
              have hz3 : decide (0 < k) = true := by simp; omega
              have HZ := Lib.hid hz
              clear hz
              go_wp2
              go_ret
              exact ⟨_, _, true, [], rfl, (hb.set_ 0 _).set_ 1 _, By.grown HY.out (grown_set (World.grownBy.refl _ _) 1 _) (by simp [Value.ownBlock]; exact hbg), HQ.out, grown_set (grown_set hgr 0 _) 1 _, (size_setCell _ _ _).trans ((size_setCell _ _ _).trans hsz.out), np_none (by rw [← hnum.out, HF.out]; exact numGo_zero HZ.out.1 HZ.out.2)⟩
            · have hz1 : (((u.toNat : Int) == 0) = true ∧ k = 0) ∨ ((u.toNat : Int) == 0) = false := by
                by_cases h0 : u.toNat = 0
                · exact Or.inl ⟨by rw [beq_iff_eq]; omega, by omega⟩
                · exact Or.inr (by rw [beq_eq_false_iff_ne]; omega)
              have HZ := Lib.hid hz
              clear hz
              rcases hz1 with ⟨hz1, hk0⟩ | hz1
              · subst hk0
                simp only [Nat.mul_zero, Int.pow_zero, Int.mul_one] at hor
                go_wp2
                go_ret
                exact ⟨_, _, false, [], rfl, (hb.set_ 0 _).set_ 1 _, By.grown HY.out (grown_set (World.grownBy.refl _ _) 1 _) (by simp [Value.ownBlock]; exact hbg), HQ.out, grown_set (grown_set hgr 0 _) 1 _, (size_setCell _ _ _).trans ((size_setCell _ _ _).trans hsz.out), by have h := np_some (l := l) (m := acc + u.toNat % 128 * 128 ^ 0) (by rw [← hnum.out]; exact numGo_last (f := 4) hbig HZ.out); simpa using h⟩
              · go_wp2
                go_ret
                exact ⟨_, _, false, [], rfl, (hb.set_ 0 _).set_ 1 _, By.grown HY.out (grown_set (World.grownBy.refl _ _) 1 _) (by simp [Value.ownBlock]; exact hbg), HQ.out, grown_set (grown_set hgr 0 _) 1 _, (size_setCell _ _ _).trans ((size_setCell _ _ _).trans hsz.out), np_some (by rw [← hnum.out, HF.out]; exact numGo_last hbig HZ.out)⟩
          · go_wp2
            go_light
            refine ⟨⟨k + 1, acc + u.toNat % 128 * 128 ^ k, _, [], by omega, by go_num, rfl, ?_, hb.set_ 0 _, HY.out, HQ.out, grown_set hgr 0 _, (size_setCell _ _ _).trans hsz.out, ?_⟩, by simp [intOf]; omega⟩
            · have h1 : u.toNat % 128 * 128 ^ k ≤ 127 * 128 ^ k := Nat.mul_le_mul_right _ (by omega)
              have h2 := hacc.out
              show _ < _
              rw [Nat.pow_succ]; omega
            · show _ = _
              rw [← hnum.out, HF.out, numGo_more hbig]
        · have hy := ((hA.out (wr.setCell ⟨g, 0, none⟩ (.slice (some ⟨b, off + 1, none⟩) r.length (c - 1))) (fun p hp => World.cell?_setCell_other wr ⟨g, 0, none⟩ p _ (fun e => hbg (by have h := hp; rw [← e] at h; exact h.symm))) (by rw [size_setCell]; exact Nat.le_refl _)).2 hc1 : By (wr.setCell ⟨g, 0, none⟩ (.slice (some ⟨b, off + 1, none⟩) r.length (c - 1))) (.slice (some ⟨b, off + 1, none⟩) r.length (c - 1)) r)
          have HY := Lib.hid hy
          clear hy
          have hc2 : 2 ≤ c := by omega
          have HC1 := Lib.hid hc1
          clear hc1
          rcases hbig0 with hbig | hbig
          · by_cases hz : u.toNat = 0 ∧ 0 < k
            · have hz1 : ((u.toNat : Int) == 0) = true := by rw [beq_iff_eq]; omega
              have hz2 : (0 : Int) < (k : Int) := by omega
              have hz3 : decide (0 < k) = true := by simp; omega
              have HZ := Lib.hid hz
              clear hz
              go_wp2
              go_ret
              exact ⟨_, _, true, r, rfl, (hb.set_ 0 _).set_ 1 _, By.grown HY.out (grown_set (World.grownBy.refl _ _) 1 _) (by simp [Value.ownBlock]; exact hbg), HQ.out, grown_set (grown_set hgr 0 _) 1 _, (size_setCell _ _ _).trans ((size_setCell _ _ _).trans hsz.out), np_none (by rw [← hnum.out, HF.out]; exact numGo_zero HZ.out.1 HZ.out.2)⟩
            · have hz1 : (((u.toNat : Int) == 0) = true ∧ k = 0) ∨ ((u.toNat : Int) == 0) = false := by
                by_cases h0 : u.toNat = 0
                · exact Or.inl ⟨by rw [beq_iff_eq]; omega, by omega⟩
                · exact Or.inr (by rw [beq_eq_false_iff_ne]; omega)
              have HZ := Lib.hid hz
              clear hz
              rcases hz1 with ⟨hz1, hk0⟩ | hz1
              · subst hk0
                simp only [Nat.mul_zero, Int.pow_zero, Int.mul_one] at hor
                go_wp2
                go_ret
                exact ⟨_, _, false, r, rfl, (hb.set_ 0 _).set_ 1 _, By.grown HY.out (grown_set (World.grownBy.refl _ _) 1 _) (by simp [Value.ownBlock]; exact hbg), HQ.out, grown_set (grown_set hgr 0 _) 1 _, (size_setCell _ _ _).trans ((size_setCell _ _ _).trans hsz.out), by have h := np_some (l := l) (m := acc + u.toNat % 128 * 128 ^ 0) (by rw [← hnum.out]; exact numGo_last (f := 4) hbig HZ.out); simpa using h⟩
              · go_wp2
                go_ret
                exact ⟨_, _, false, r, rfl, (hb.set_ 0 _).set_ 1 _, By.grown HY.out (grown_set (World.grownBy.refl _ _) 1 _) (by simp [Value.ownBlock]; exact hbg), HQ.out, grown_set (grown_set hgr 0 _) 1 _, (size_setCell _ _ _).trans ((size_setCell _ _ _).trans hsz.out), np_some (by rw [← hnum.out, HF.out]; exact numGo_last hbig HZ.out)⟩
          · go_wp2
            go_light
            refine ⟨⟨k + 1, acc + u.toNat % 128 * 128 ^ k, _, r, by omega, by go_num, rfl, ?_, hb.set_ 0 _, HY.out, HQ.out, grown_set hgr 0 _, (size_setCell _ _ _).trans hsz.out, ?_⟩, by simp [intOf]; omega⟩
            · have h1 : u.toNat % 128 * 128 ^ k ≤ 127 * 128 ^ k := Nat.mul_le_mul_right _ (by omega)
              have h2 := hacc.out
              show _ < _
              rw [Nat.pow_succ]; omega
            · show _ = _
              rw [← hnum.out, HF.out, numGo_more hbig]

/-- what numberAt answers -/
def natRes (l : List UInt8) (at_ : Nat) : Value := match numP (l.drop at_) with
  | some (m, r) => .tuple #[.int .i64 m, .int .i64 ((l.length - r.length : Nat) : Int)]
  | none => .tuple #[.int .i64 0, .int .i64 (-1)]

set_option maxRecDepth 100000 in
set_option maxHeartbeats 4000000 in
theorem numberAt_any (v : Value) (l : List UInt8) (at_ : Nat) (w : World) (hv : By w v l) (hat : at_ ≤ l.length) (hl : l.length ≤ 65536) :
    Calls Try.prog 100 #[v, .int .i64 at_] w fun e w' => e = .returned (natRes l at_) ∧ w = w' := by
  obtain ⟨A, c, rfl, hc, hcell⟩ := hv.at_
  go_enter Try.func100, Try.ntmps100
  go_wp2
  go_loop [6, 7, 8] (fun n u i => ∃ (k acc : Nat), k ≤ 5 ∧ i = .int .i64 k ∧ u = .int .i64 ((128 ^ k : Nat) : Int) ∧ n = .int .i64 acc ∧ at_ + k ≤ l.length ∧ Hid (acc < 128 ^ k) ∧ Hid (numGo (5 - k) k acc (l.drop (at_ + k)) = numP (l.drop at_))) (fun _ _ i => 5 - (intOf i).toNat)
  case atStart => exact ⟨0, 0, by omega, rfl, rfl, rfl, by omega, (show 0 < 128 ^ 0 by decide), rfl⟩
  case round =>
    obtain ⟨k, acc, hk, rfl, rfl, rfl, hle, hacc, hnum⟩ := hrel
    by_cases h5 : k = 5
    · subst h5
      go_wp2
      exact bodyPost_ret (v := .tuple #[.int .i64 0, .int .i64 (-1)]) (by simp [results, Try.results100, go_sem]) rfl ⟨by rw [natRes, ← hnum.out]; rfl, rfl⟩
    · by_cases hlt : at_ + k < l.length
      · obtain ⟨b, off, rfl, hb, hcs⟩ := hcell (by omega)
        have X := hcs (at_ + k) hlt
        have hdr : l.drop (at_ + k) = l[at_ + k] :: l.drop (at_ + k + 1) := List.drop_eq_getElem_cons hlt
        have hnm := hnum.out
        rw [hdr] at hnm
        have hf5 : 5 - k = (5 - (k + 1)) + 1 := by omega
        rw [hf5] at hnm
        have HN := Lib.hid hnm
        have hac := hacc.out
        have hU : 128 ^ k ≤ 128 ^ 4 := Nat.pow_le_pow_right (by omega) (by omega)
        have hUs : 128 ^ (k + 1) = 128 ^ k * 128 := Nat.pow_succ _ _
        have HU := Lib.hid hUs
        have hu : (l[at_ + k]).toNat < 256 := (l[at_ + k]).toNat_lt
        clear hdr hnm hf5 hUs hcs hcell hnum hacc
        generalize l[at_ + k] = u at *
        generalize hUe : 128 ^ k = U at *
        have HUE := Lib.hid hUe
        clear hUe
        have hpn : u.toNat % 128 * U ≤ 127 * 128 ^ 4 := Nat.mul_le_mul (by omega) hU
        have hp0 : (0 : Int) ≤ (u.toNat : Int) % 128 * (U : Int) := Int.mul_nonneg (by omega) (by omega)
        have hp1 : (u.toNat : Int) % 128 * (U : Int) ≤ 127 * 268435456 := Int.mul_le_mul (by omega) (by omega) (by omega) (by omega)
        have hpe : (u.toNat : Int) % 128 * (U : Int) = ((u.toNat % 128 * U : Nat) : Int) := by push_cast; rfl
        have HPE := Lib.hid hpe
        clear hpe
        have i0 : (0 : Int) ≤ (at_ : Int) + (k : Int) := by omega
        have i1 : (at_ : Int) + (k : Int) < (l.length : Int) := by omega
        have i2 : decide ((k : Int) < 5) = true := decide_eq_true (by omega)
        have i3 : decide ((at_ : Int) + (k : Int) < (l.length : Int)) = true := decide_eq_true i1
        by_cases hc : u.toNat < 128
        · by_cases hz : u.toNat = 0 ∧ 0 < k
          · have HZ := Lib.hid hz
            go_wp2
            exact bodyPost_ret (v := .tuple #[.int .i64 0, .int .i64 (-1)]) (by simp [results, Try.results100, go_sem]) rfl ⟨by rw [natRes, ← HN.out, numGo_zero HZ.out.1 HZ.out.2], rfl⟩
          · have hz1 : (((u.toNat : Int) == 0) = true ∧ k = 0) ∨ ((u.toNat : Int) == 0) = false := by
              by_cases h0 : u.toNat = 0
              · exact Or.inl ⟨by rw [beq_iff_eq]; omega, by omega⟩
              · exact Or.inr (by rw [beq_eq_false_iff_ne]; omega)
            have HZ := Lib.hid hz
            clear hz
            have hres : natRes l at_ = .tuple #[.int .i64 ((acc : Int) + (u.toNat : Int) % 128 * (U : Int)), .int .i64 ((at_ : Int) + (k : Int) + 1)] := by
              rw [natRes, ← HN.out, numGo_last hc HZ.out, HUE.out, HPE.out]
              have e1 : l.length - (l.drop (at_ + k + 1)).length = at_ + k + 1 := by rw [List.length_drop]; omega
              simp only [e1]
              push_cast
              rfl
            have HR := Lib.hid hres
            clear hres
            rcases hz1 with ⟨hz1, hk0⟩ | hz1
            · subst hk0
              simp only [Nat.add_zero] at X
              go_wp2
              exact bodyPost_ret (v := .tuple #[.int .i64 ((acc : Int) + (u.toNat : Int) % 128 * (U : Int)), .int .i64 ((at_ : Int) + 1)]) (by simp [results, Try.results100, go_sem]) rfl ⟨by rw [HR.out]; rfl, rfl⟩
            · go_wp2
              exact bodyPost_ret (v := .tuple #[.int .i64 ((acc : Int) + (u.toNat : Int) % 128 * (U : Int)), .int .i64 ((at_ : Int) + (k : Int) + 1)]) (by simp [results, Try.results100, go_sem]) rfl ⟨by rw [HR.out], rfl⟩
        · go_wp2
          go_light
          refine ⟨⟨k + 1, acc + u.toNat % 128 * 128 ^ k, by omega, by go_num, ?_, ?_, by omega, ?_, ?_⟩, by simp [intOf]; omega⟩
          · rw [HU.out]; push_cast; rfl
          · rw [HUE.out, HPE.out]; push_cast; rfl
          · have h1 : u.toNat % 128 * 128 ^ k ≤ 127 * 128 ^ k := Nat.mul_le_mul_right _ (by omega)
            rw [HUE.out] at h1
            show _ < _
            rw [HU.out, HUE.out]; omega
          · show _ = _
            rw [← HN.out, numGo_more hc, Nat.add_assoc]
      · obtain rfl : k = l.length - at_ := by omega
        have hdr : l.drop (at_ + (l.length - at_)) = [] := List.drop_of_length_le (by omega)
        have hnm := hnum.out
        rw [hdr, numGo_nil] at hnm
        have HN := Lib.hid hnm
        clear hnm
        go_wp2
        exact bodyPost_ret (v := .tuple #[.int .i64 0, .int .i64 (-1)]) (by simp [results, Try.results100, go_sem]) rfl ⟨by rw [natRes, ← HN.out], rfl⟩

end Go.Proofs.Ytpjjfnpdopdnkaa
namespace Go.Proofs.Ytpjjfnpdopdnkaa
open Go.RowKit

structure Ent where
  ep : Int
  pid : Int
  ver : Int
  seq : Int
  kind : Int
  txn : Bool
  text : ByteArray
def Ent.cells (e : Ent) : List Value := [.int .i64 e.ep, .int .i64 e.pid, .int .i64 e.ver, .int .i64 e.seq, .int .i64 e.kind, .bool e.txn, .string e.text]
def ecs (l : List Ent) : List Value := l.flatMap Ent.cells
theorem ecs_append (l r : List Ent) : ecs (l ++ r) = ecs l ++ ecs r := by simp [ecs]
theorem ecs_get : ∀ (l : List Ent) (i : Nat) (h : i < l.length) (j : Nat), j < 7 → (ecs l)[i * 7 + j]? = (l[i].cells)[j]?
  | e :: l, 0, _, j, hj => by
    have : (ecs (e :: l)) = e.cells ++ ecs l := rfl
    rw [this, List.getElem?_append_left (by simp [Ent.cells]; omega)]
    simp
  | e :: l, i + 1, h, j, hj => by
    have e1 : (ecs (e :: l)) = e.cells ++ ecs l := rfl
    have hl : e.cells.length = 7 := rfl
    rw [e1, List.getElem?_append_right (by rw [hl]; omega), hl, show (i + 1) * 7 + j - 7 = i * 7 + j from by omega]
    exact ecs_get l i (by simpa using h) j hj
/-- v reads as the entries l -/
def Es (w : World) (v : Value) (l : List Ent) : Prop := Sl w 7 v l.length (ecs l)
theorem Es.below {w w' : World} {v : Value} {l : List Ent} (h : Es w v l) (hb : Below w.heap.size w w') : Es w' v l := Sl.below h hb
theorem Es.at_ {w : World} {v : Value} {l : List Ent} (h : Es w v l) : ∃ A c, v = .slice A l.length c ∧ l.length ≤ c ∧ (0 < l.length → ∃ b off, A = some ⟨b, off, none⟩ ∧ b < w.heap.size ∧
    ∀ i (hi : i < l.length), w.cell? ⟨b, off + i * 7, none⟩ = some (.int .i64 l[i].ep) ∧ w.cell? ⟨b, off + i * 7 + 1, none⟩ = some (.int .i64 l[i].pid) ∧ w.cell? ⟨b, off + i * 7 + 2, none⟩ = some (.int .i64 l[i].ver) ∧ w.cell? ⟨b, off + i * 7 + 3, none⟩ = some (.int .i64 l[i].seq) ∧
      w.cell? ⟨b, off + i * 7 + 4, none⟩ = some (.int .i64 l[i].kind) ∧ w.cell? ⟨b, off + i * 7 + 5, none⟩ = some (.bool l[i].txn) ∧ w.cell? ⟨b, off + i * 7 + 6, none⟩ = some (.string l[i].text)) := by
  obtain ⟨_, A, c, hv, hc, h2⟩ := h
  refine ⟨A, c, hv, hc, fun hn => ?_⟩
  obtain ⟨b, off, hA, hb, hcell⟩ := h2 hn
  refine ⟨b, off, hA, hb, fun i hi => ?_⟩
  have key : ∀ j u, j < 7 → (l[i].cells)[j]? = some u → w.cell? ⟨b, off + i * 7 + j, none⟩ = some u := fun j u hj hu => by
    rw [Nat.add_assoc]
    exact hcell (i * 7 + j) u ((ecs_get l i hi j hj).trans hu)
  exact ⟨key 0 _ (by omega) rfl, key 1 _ (by omega) rfl, key 2 _ (by omega) rfl, key 3 _ (by omega) rfl, key 4 _ (by omega) rfl, key 5 _ (by omega) rfl, key 6 _ (by omega) rfl⟩
end Go.Proofs.Ytpjjfnpdopdnkaa
namespace Go.Proofs.Ytpjjfnpdopdnkaa
open Go.RowKit

/-- what a body says -/
def entP : List UInt8 → Option Ent
  | [] => none
  | k :: r0 =>
    if 32 ≤ k.toNat then none else
    match numP r0 with
    | none => none
    | some (a, r1) => match numP r1 with
      | none => none
      | some (b, r2) => match numP r2 with
        | none => none
        | some (c, r3) => match numP r3 with
          | none => none
          | some (d, r4) =>
            let e : Ent := ⟨a, b, c, d, (k.toNat % 16 : Nat), decide (k.toNat / 16 = 1), ⟨r4.toArray⟩⟩
            if entryFault e.ep e.pid e.ver e.seq e.kind e.txn e.text.size = 0 then some e else none

/-- what bytes say as far as they go, and how many these are -/
def decGo : Nat → List UInt8 → List Ent × Nat
  | 0, _ => ([], 0)
  | _ + 1, [] => ([], 0)
  | f + 1, k :: r =>
    if k.toNat = 0 ∨ r.length < k.toNat + 2 then ([], 0) else
    if wsum (r.take k.toNat) k.toNat % 65521 ≠ (r.getD k.toNat 0).toNat * 256 + (r.getD (k.toNat + 1) 0).toNat then ([], 0) else
    match entP (r.take k.toNat) with
    | none => ([], 0)
    | some e => (e :: (decGo f (r.drop (k.toNat + 2))).1, k.toNat + 3 + (decGo f (r.drop (k.toNat + 2))).2)
def dec (l : List UInt8) : List Ent × Nat := decGo l.length l
theorem decGo_fuel : ∀ (f f' : Nat) (l : List UInt8), l.length ≤ f → l.length ≤ f' → decGo f l = decGo f' l
  | 0, 0, _, _, _ => rfl
  | 0, f' + 1, l, h, _ => by
    have : l = [] := List.eq_nil_of_length_eq_zero (by omega)
    subst this; rfl
  | f + 1, 0, l, _, h => by
    have : l = [] := List.eq_nil_of_length_eq_zero (by omega)
    subst this; rfl
  | f + 1, f' + 1, [], _, _ => rfl
  | f + 1, f' + 1, k :: r, h, h' => by
    simp only [decGo]
    have hd : (r.drop (k.toNat + 2)).length ≤ f := by simp only [List.length_drop, List.length_cons] at *; omega
    have hd' : (r.drop (k.toNat + 2)).length ≤ f' := by simp only [List.length_drop, List.length_cons] at *; omega
    rw [decGo_fuel f f' _ hd hd']
theorem dec_nil : dec [] = ([], 0) := rfl
theorem dec_bad {k : UInt8} {r : List UInt8} (h : k.toNat = 0 ∨ r.length < k.toNat + 2) : dec (k :: r) = ([], 0) := by
  simp only [dec, List.length_cons, decGo, if_pos h]
theorem dec_sum {k : UInt8} {r : List UInt8} (h : ¬ (k.toNat = 0 ∨ r.length < k.toNat + 2)) (hs : wsum (r.take k.toNat) k.toNat % 65521 ≠ (r.getD k.toNat 0).toNat * 256 + (r.getD (k.toNat + 1) 0).toNat) : dec (k :: r) = ([], 0) := by
  simp only [dec, List.length_cons, decGo, if_neg h, if_pos hs]
theorem dec_body {k : UInt8} {r : List UInt8} (h : ¬ (k.toNat = 0 ∨ r.length < k.toNat + 2)) (he : entP (r.take k.toNat) = none) : dec (k :: r) = ([], 0) := by
  simp only [dec, List.length_cons, decGo, if_neg h, he]
  split <;> rfl
theorem dec_step {k : UInt8} {r : List UInt8} {e : Ent} (h : ¬ (k.toNat = 0 ∨ r.length < k.toNat + 2)) (hs : wsum (r.take k.toNat) k.toNat % 65521 = (r.getD k.toNat 0).toNat * 256 + (r.getD (k.toNat + 1) 0).toNat) (he : entP (r.take k.toNat) = some e) :
    dec (k :: r) = (e :: (dec (r.drop (k.toNat + 2))).1, k.toNat + 3 + (dec (r.drop (k.toNat + 2))).2) := by
  have hf : decGo r.length (r.drop (k.toNat + 2)) = dec (r.drop (k.toNat + 2)) := decGo_fuel _ _ _ (by simp) (Nat.le_refl _)
  have hs' : ¬ (wsum (r.take k.toNat) k.toNat % 65521 ≠ (r.getD k.toNat 0).toNat * 256 + (r.getD (k.toNat + 1) 0).toNat) := fun hn => hn hs
  simp only [dec, List.length_cons, decGo, if_neg h, if_neg hs', he]
  simp only [dec] at hf
  rw [hf]

end Go.Proofs.Ytpjjfnpdopdnkaa
namespace Go.Proofs.Ytpjjfnpdopdnkaa
open Go.RowKit

theorem cells_get {α : Type} (f : α → List Value) (s : Nat) (hf : ∀ a, (f a).length = s) : ∀ (l : List α) (i : Nat) (h : i < l.length) (j : Nat), j < s → (l.flatMap f)[i * s + j]? = (f l[i])[j]?
  | e :: l, 0, _, j, hj => by
    rw [List.flatMap_cons, List.getElem?_append_left (by rw [hf]; omega)]
    simp
  | e :: l, i + 1, h, j, hj => by
    have hl : (f e).length = s := hf e
    have e1 : (i + 1) * s + j = s + (i * s + j) := by rw [Nat.add_mul]; omega
    rw [List.flatMap_cons, List.getElem?_append_right (by rw [hl]; omega), hl, show (i + 1) * s + j - s = i * s + j from by omega]
    exact cells_get f s hf l i (by simpa using h) j hj
theorem Sl.oneCell {w : World} {size n : Nat} {v : Value} {xs : List Value} (h : Sl w size v n xs) : v.oneCell' = true := by
  obtain ⟨_, A, c, rfl, _⟩ := h
  rfl
/-- a row of its own stays while a block of another element type is written -/
theorem own_far {w : World} {base : Nat} {e t : TypeId} {size n : Nat} {v : Value} {xs : List Value} (h : w.ownsRow base e size v n xs) {g : Nat} {cs : Array Value} {fr : Nat × Nat} (hg : w.heap[g]? = some (.cells cs t fr)) (ht : t ≠ e) (j : Nat) (u : Value) : (w.setCell ⟨g, j, none⟩ u).ownsRow base e size v n xs := by
  obtain ⟨h1, h2⟩ := h
  refine ⟨h1, ?_⟩
  rcases h2 with h2 | ⟨g', cap, cur, hv, hb, hh, r⟩
  · exact Or.inl h2
  · refine Or.inr ⟨g', cap, cur, hv, hb, ?_, r⟩
    have hne : g' ≠ g := by
      intro e'
      subst e'
      rw [hg] at hh
      injection hh with hh
      injection hh with _ he
      exact ht he
    rw [Below.heap_setCell _ _ _ _ hne]
    exact hh

theorem ints_one (l : List Int) : ∀ x ∈ l.map (Value.int .i64), x.oneCell' = true := by
  intro x hx
  obtain ⟨b, _, rfl⟩ := List.mem_map.1 hx
  rfl
/-- rows of two element types lie in two blocks -/
theorem own_apart {w : World} {b1 b2 : Nat} {e1 e2 : TypeId} {s1 s2 n1 n2 : Nat} {v1 v2 : Value} {x1 x2 : List Value} (h1 : w.ownsRow b1 e1 s1 v1 n1 x1) (h2 : w.ownsRow b2 e2 s2 v2 n2 x2) (he : e1 ≠ e2) : v1.ownBlock = none ∨ v1.ownBlock ≠ v2.ownBlock := by
  rcases h1.2 with ⟨hv, _⟩ | ⟨g1, cap1, cur1, hv, _, hh1, _⟩
  · left; rw [hv]; rfl
  · right
    rcases h2.2 with ⟨hv2, _⟩ | ⟨g2, cap2, cur2, hv2, _, hh2, _⟩
    · rw [hv, hv2]
      exact fun h => by cases h
    · rw [hv, hv2]
      intro h
      have hg : g1 = g2 := by injection h
      subst hg
      rw [hh1] at hh2
      injection hh2 with hh2
      injection hh2 with _ h3
      exact he h3
theorem Sl.lit' (w : World) (e : TypeId) (cs : Array Value) (size n g : Nat) (h : cs.size = n * size) (hg : g = w.heap.size) : Sl (w.alloc (.cells cs e)) size (.slice (some ⟨g, 0, none⟩) n n) n cs.toList := by
  subst hg
  exact Sl.lit w e cs size n h
theorem step_append_sl {w : World} {ops : Array Oper} {o : Oper} {a : Act} {K : Act → World → Prop} {Q : Exit → Act → World → Prop} {E : Prop} (hgd : o.guard = none) (s x : Operand) (t : TypeId)
    (ho : o.op = .call { callee := .builtin .append, args := #[s, x], argTypes := #[t, t] })
    (base : Nat) (e : TypeId) (i : TypeInfo) (z : Value) (size bytes : Nat) (ht : Try.prog.underlying t = some (.slice e)) (hi : Try.prog.info? e = some i) (hz : i.zero = some z)
    (hsize : i.size = size) (hby : i.bytes = bytes) (hzs : z.cells.size = size) (hsz : 0 < size)
    (v : Value) (n : Nat) (xs : List Value) (hs : a.eval s = v) (hown : w.ownsRow base e size v n xs)
    (u : Value) (m : Nat) (news : List Value) (hx : a.eval x = u) (hr : Sl w size u m news) (h1 : ∀ x ∈ news, x.oneCell' = true)
    (h63 : n + m ≤ maxLen) (hbytes : (n + m) * bytes ≤ 140737488355328) (hbase : base ≤ w.heap.size)
    (h : ∀ v' w', w'.ownsRow base e size v' (n + m) (xs ++ news) → w.grownBy w' v.ownBlock → (v'.ownBlock = v.ownBlock ∨ v'.ownBlock = some w.heap.size) → K (a.put o.dst v') w') :
    if Region.wanted o (yielded ops a.tmps) = true then Oper.wp Try.prog o a w K Q else E := by
  have hw : Region.wanted o (yielded ops a.tmps) = true := by simp [Region.wanted, hgd]
  rw [if_pos hw]
  exact wp_append_sl w s x t ho base e i z size bytes ht hi hz hsize hby hzs hsz v n xs hs hown u m news hx hr h1 h63 hbytes hbase h

end Go.Proofs.Ytpjjfnpdopdnkaa
namespace Go.Proofs.Ytpjjfnpdopdnkaa
open Go.RowKit

theorem foldl_push (l : List UInt8) : ∀ s : ByteArray, (l.map fun b => (b.toNat : Int)).foldl (fun r n => r.push (UInt8.ofNat n.toNat)) s = ⟨(s.data.toList ++ l).toArray⟩ := by
  induction l with
  | nil => intro s; simp
  | cons b l ih =>
    intro s
    simp only [List.map_cons, List.foldl_cons, Int.toNat_natCast, UInt8.ofNat_toNat]
    rw [ih]
    simp [ByteArray.push]

theorem By.convert_ {w : World} {v : Value} {l : List UInt8} (h : By w v l) : (convert 34 9 v).run Try.prog w = .ok (.string ⟨l.toArray⟩) w := by
  obtain ⟨hl, A, c, rfl, hc, hcl⟩ := h
  rw [run_convert_bytes_string (P := Try.prog) w 34 9 5 A l.length c Try.underlying34 Try.underlying5 Try.underlying9]
  rcases A with _ | a
  · have : l = [] := by
      rcases l with _ | ⟨b, l⟩
      · rfl
      · obtain ⟨_, _, h, _⟩ := hcl (by simp)
        cases h
    subst this
    simp [Conv.bytesToString]
    rfl
  · have hload : (loadCells a l.length).run Try.prog w = .ok ((l.map fun b => (b.toNat : Int)).map (Value.int .u8)).toArray w := by
      have hm : ((l.map fun b => (b.toNat : Int)).map (Value.int .u8)) = bvs l := by simp [bvs]
      rw [hm]
      have := run_loadCells_list (P := Try.prog) (w := w) a (bvs l) (by
        intro j u hu
        have hj : 0 < l.length := by
          rcases Nat.eq_zero_or_pos l.length with h0 | h0
          · have : l = [] := List.eq_nil_of_length_eq_zero h0
            subst this
            simp [bvs] at hu
          · exact h0
        obtain ⟨b, off, ha, _, hq⟩ := hcl hj
        injection ha with ha
        subst ha
        by_cases h0 : j = 0
        · subst h0; simpa [Addr.add] using hq 0 u hu
        · simpa [Addr.add, h0] using hq j u hu)
      rw [bvs_length] at this
      exact this
    rw [run_bytesToString w a l.length c _ hload, foldl_push]
    simp

end Go.Proofs.Ytpjjfnpdopdnkaa
namespace Go.Proofs.Ytpjjfnpdopdnkaa
open Go.RowKit

theorem CloneByte_info : (Try.prog.info? 5).map (fun i => (i.zero, i.size, i.bytes)) = some (some (.int .u8 0), 1, 1) := by kernel_rfl
set_option maxRecDepth 100000 in
set_option maxHeartbeats 1000000 in
theorem CloneByte_any (v : Value) (n : Nat) (xs : List Value) (w : World) (h : Sl w 1 v n xs) (h1 : ∀ x ∈ xs, x.oneCell' = true) (hm : n ≤ maxLen) (hb : n * 1 ≤ 140737488355328) :
    Calls Try.prog 74 #[v] w fun e w' => ∃ v', e = .returned v' ∧ w'.ownsRow w.heap.size 5 1 v' n xs ∧ Below w.heap.size w w' := by
  obtain ⟨i0, hi0, hz0, hz1, hz2⟩ := info_parts CloneByte_info
  obtain ⟨hl, A, c, rfl, hc, hcl⟩ := h
  rcases A with _ | a
  · have hn : n = 0 := by
      rcases Nat.eq_zero_or_pos n with h0 | h0
      · exact h0
      · obtain ⟨_, _, e, _⟩ := hcl h0
        cases e
    subst hn
    have hx : xs = [] := List.eq_nil_of_length_eq_zero (by simpa using hl)
    have HX := Lib.hid hx
    clear hx
    have hnil := fun W => Lib.run_eql_slice_nil (P := Try.prog) W 34 5 none 0 c 0 0 Try.underlying34
    go_enter Try.func74, Try.ntmps74
    go_wp2
    go_ret
    exact ⟨_, rfl, by rw [HX.out]; exact World.ownsRow_nil _ _ _ _, Below.refl _ _⟩
  · have hsl : Sl w 1 (.slice (some a) n c) n xs := ⟨hl, some a, c, rfl, hc, hcl⟩
    have hnil := fun W => Lib.run_eql_slice_nil (P := Try.prog) W 34 5 (some a) n c 0 0 Try.underlying34
    go_enter Try.func74, Try.ntmps74
    go_wp2_with (at_builtin; go_must (refine wpList_append_sl _ rfl (.tmp 5) (.tmp 6) 34 rfl w.heap.size 5 i0 (.int .u8 0) 1 1 Try.underlying34 hi0 hz0 hz1 hz2 rfl (by decide) _ _ _ (by rfl) (own_lit (base := w.heap.size) w 5 _ 1 0 (Nat.le_refl _) (by simp [maxLen]) rfl) _ n xs (by rfl) (hsl.alloc _) h1 (by omega) (by omega) (by simp) ?_; intro v1 w1 ho1 hg1 ha1))
    go_ret
    exact ⟨v1, rfl, own_eq ho1 (by omega) (by simp), ((Below.refl _ _).alloc (Nat.le_refl _) _).grown hg1 (by simp) (by intro k hk; simp [Value.ownBlock] at hk; omega)⟩

end Go.Proofs.Ytpjjfnpdopdnkaa
namespace Go.Proofs.Ytpjjfnpdopdnkaa
open Go.RowKit

set_option maxRecDepth 100000 in
set_option maxHeartbeats 1000000 in
theorem sameLog_same (u v : Value) (l : List UInt8) (s : Int) (w : World) (hu : By w u l) (hv : By w v l) :
    Calls Try.prog 38 #[.agg #[u, .int .i64 s], .agg #[v, .int .i64 s]] w fun e w' => e = .returned (.bool true) ∧ Below w.heap.size w w' := by
  have c1 := ((hu.below ((Below.refl w.heap.size w).alloc (Nat.le_refl _) (.cells #[u, .int .i64 s] 42))).below ((Below.refl _ _).alloc (Nat.le_refl _) (.cells #[v, .int .i64 s] 42))).convert_
  have c2 := ((hv.below ((Below.refl w.heap.size w).alloc (Nat.le_refl _) (.cells #[u, .int .i64 s] 42))).below ((Below.refl _ _).alloc (Nat.le_refl _) (.cells #[v, .int .i64 s] 42))).convert_
  obtain ⟨A1, k1, rfl, -, -⟩ := hu.at_
  obtain ⟨A2, k2, rfl, -, -⟩ := hv.at_
  go_enter Try.func38, Try.ntmps38
  go_wp2
  go_ret
  exact ⟨rfl, ((Below.refl _ _).alloc (Nat.le_refl _) _).alloc (by simp) _⟩

end Go.Proofs.Ytpjjfnpdopdnkaa
namespace Go.Proofs.Ytpjjfnpdopdnkaa
open Go.RowKit

set_option maxRecDepth 100000 in
set_option maxHeartbeats 4000000 in
theorem samePart_same (x y : Value) (c : PartD) (w : World) (hx : Pv w x c) (hy : Pv w y c) :
    Calls Try.prog 25 #[x, y] w fun e w' => e = .returned (.bool true) ∧ Below w.heap.size w w' := by
  obtain ⟨xi, xk, xr, rfl, ix, kx, rx, hli, hlk, hlr⟩ := hx
  obtain ⟨yi, yk, yr, rfl, iy, ky, ry, -⟩ := hy
  obtain ⟨A1, c1, rfl, hc1, hx1⟩ := ix.at_
  obtain ⟨A2, c2, rfl, hc2, hy1⟩ := iy.at_
  obtain ⟨A3, c3, rfl, hc3, -⟩ := kx.at_
  obtain ⟨A4, c4, rfl, hc4, -⟩ := ky.at_
  obtain ⟨A5, c5, rfl, hc5, hx2⟩ := rx.at_
  obtain ⟨A6, c6, rfl, hc6, hy2⟩ := ry.at_
  unfold partV
  obtain ⟨ep, ld, is, ks, rs, fw, ba⟩ := c
  simp only at *
  have HX := Lib.hid hx1
  have HY := Lib.hid hy1
  have HX2 := Lib.hid hx2
  have HY2 := Lib.hid hy2
  have hbl : Below w.heap.size w ((w.alloc (.cells #[.int .i64 ep, .int .i64 ld, .slice A1 is.length c1, .slice A3 ks.length c3, .slice A5 rs.length c5, .int .i64 fw, .int .i64 ba] 26)).alloc (.cells #[.int .i64 ep, .int .i64 ld, .slice A2 is.length c2, .slice A4 ks.length c4, .slice A6 rs.length c6, .int .i64 fw, .int .i64 ba] 26)) :=
    ((Below.refl _ _).alloc (Nat.le_refl _) _).alloc (by simp) _
  have hb1 := (Blk.new w 26 #[.int .i64 ep, .int .i64 ld, .slice A1 is.length c1, .slice A3 ks.length c3, .slice A5 rs.length c5, .int .i64 fw, .int .i64 ba]).alloc (.cells #[.int .i64 ep, .int .i64 ld, .slice A2 is.length c2, .slice A4 ks.length c4, .slice A6 rs.length c6, .int .i64 fw, .int .i64 ba] 26)
  have hb2 := Blk.new (w.alloc (.cells #[.int .i64 ep, .int .i64 ld, .slice A1 is.length c1, .slice A3 ks.length c3, .slice A5 rs.length c5, .int .i64 fw, .int .i64 ba] 26)) 26 #[.int .i64 ep, .int .i64 ld, .slice A2 is.length c2, .slice A4 ks.length c4, .slice A6 rs.length c6, .int .i64 fw, .int .i64 ba]
  simp only [World.size_alloc] at hb2
  have hk1 := L1.below kx hbl
  have hk2 := L1.below ky hbl
  clear hx1 hy1 hx2 hy2 ix iy rx ry kx ky
  have HLR := Lib.hid hlr
  go_enter Try.func25, Try.ntmps25
  go_wp2_with fail
  refine (sameInts_any _ _ ks ks _ hk1 hk2 hlk hlk).mono ?_
  rintro e w' ⟨rfl, n, rfl⟩
  have hb1' := hb1.below (below_drewN_ _ n) hb1.lt
  have hb2' := hb2.below (below_drewN_ _ n) hb2.lt
  have hbl' := hbl.trans ((below_drewN_ _ n).mono hbl.size)
  clear hb1 hb2 hbl hk1 hk2
  generalize ((w.alloc (.cells #[.int .i64 ep, .int .i64 ld, .slice A1 is.length c1, .slice A3 ks.length c3, .slice A5 rs.length c5, .int .i64 fw, .int .i64 ba] 26)).alloc (.cells #[.int .i64 ep, .int .i64 ld, .slice A2 is.length c2, .slice A4 ks.length c4, .slice A6 rs.length c6, .int .i64 fw, .int .i64 ba] 26)).drewN n = W0 at *
  have HBL := Lib.hid hbl'
  have HB1 := Lib.hid hb1'
  have HB2 := Lib.hid hb2'
  clear hbl' hb1' hb2'
  have ht : decide (ks = ks) = true := by simp
  go_wp2
  go_loopw [5] (fun i wr => ∃ k : Nat, k ≤ is.length ∧ i = .int .i64 k ∧ Hid (Below W0.heap.size W0 wr)) (fun i _ => is.length - (intOf i).toNat)
  case atStart => exact ⟨0, by omega, rfl, Below.refl _ _⟩
  case round =>
    obtain ⟨k, hk, rfl, hbw⟩ := hrel
    have g1 := (HB1.out.below hbw.out HB1.out.lt).cell 2
    have g2 := (HB2.out.below hbw.out HB2.out.lt).cell 2
    have HBW := Lib.hid (HBL.out.trans (hbw.out.mono HBL.out.size))
    by_cases hlt : k < is.length
    · obtain ⟨b1, o1, rfl, hbb1, q1⟩ := HX.out (by omega)
      obtain ⟨b2, o2, rfl, hbb2, q2⟩ := HY.out (by omega)
      have X0 := (HBW.out.cell (p := ⟨b1, o1 + k, none⟩) hbb1).trans (q1 k hlt)
      have Y0 := (HBW.out.cell (p := ⟨b2, o2 + k, none⟩) hbb2).trans (q2 k hlt)
      have hj0 : (0 : Int) ≤ (k : Int) := by omega
      have hj1 : (k : Int) < (is.length : Int) := by omega
      clear q1 q2
      generalize is[k] = bk at *
      have hbk : (bk != bk) = false := by simp
      go_wp2
      go_quiet (fail)
      go_wp2
      go_light
      refine ⟨⟨k + 1, by omega, by go_num, ?_⟩, by simp [intOf]; omega⟩
      exact hbw.out.trans ((below_drewN_ _ _).mono (by have := hbw.out.size; omega))
    · obtain rfl : k = is.length := by omega
      go_wp2
      clear g1 g2
      go_loopw [6] (fun i wq => ∃ j : Nat, j ≤ rs.length ∧ i = .int .i64 j ∧ Hid (Below W0.heap.size W0 wq)) (fun i _ => rs.length - (intOf i).toNat)
      case atStart => exact ⟨0, by omega, rfl, hbw⟩
      case round =>
        clear hbw HBW
        obtain ⟨k, hk, rfl, hbw⟩ := hrel
        have g1 := (HB1.out.below hbw.out HB1.out.lt).cell 4
        have g2 := (HB2.out.below hbw.out HB2.out.lt).cell 4
        have HBW := Lib.hid (HBL.out.trans (hbw.out.mono HBL.out.size))
        by_cases hlt : k < rs.length
        · obtain ⟨b1, o1, rfl, hbb1, q1⟩ := HX2.out (by omega)
          obtain ⟨b2, o2, rfl, hbb2, q2⟩ := HY2.out (by omega)
          obtain ⟨p1, x0, x1, x2, x3, xi, xl⟩ := q1 k hlt
          obtain ⟨p2, y0, y1, y2, y3, yi, -⟩ := q2 k hlt
          have k1 : ∀ o, wr.cell? ⟨b1, o, none⟩ = w.cell? ⟨b1, o, none⟩ := fun o => HBW.out.cell (p := ⟨b1, o, none⟩) hbb1
          have k2 : ∀ o, wr.cell? ⟨b2, o, none⟩ = w.cell? ⟨b2, o, none⟩ := fun o => HBW.out.cell (p := ⟨b2, o, none⟩) hbb2
          replace x0 := (k1 _).trans x0
          replace x1 := (k1 _).trans x1
          replace x2 := (k1 _).trans x2
          replace x3 := (k1 _).trans x3
          replace y0 := (k2 _).trans y0
          replace y1 := (k2 _).trans y1
          replace y2 := (k2 _).trans y2
          replace y3 := (k2 _).trans y3
          have hlb1 : b1 < wr.heap.size := by have := HBW.out.size; omega
          have hlb2 : b2 < wr.heap.size := by have := HBW.out.size; omega
          have hw1 : w.heap.size + 1 < wr.heap.size := (HB2.out.below hbw.out HB2.out.lt).lt
          have hw0 : w.heap.size < wr.heap.size := by omega
          have xi' := xi.below HBW.out
          have yi' := yi.below HBW.out
          obtain ⟨A7, c7, rfl, hc7, -⟩ := xi.at_
          obtain ⟨A8, c8, rfl, hc8, -⟩ := yi.at_
          have XI := Lib.hid xi'
          have YI := Lib.hid yi'
          have hj0 : (0 : Int) ≤ (k : Int) := by omega
          have hj1 : (k : Int) < (rs.length : Int) := by omega
          clear k1 k2 q1 q2 xi yi xi' yi' xl
          generalize rs[k] = t at *
          have hbk : (t.up != t.up) = false := by simp
          go_wp2_with fail
          refine (sameLog_same _ _ t.bytes t.synced _ (Sl.alloc (Sl.alloc XI.out _) _) (Sl.alloc (Sl.alloc YI.out _) _)).mono ?_
          rintro e w' ⟨rfl, hb'⟩
          go_wp2
          go_light
          refine ⟨⟨k + 1, by omega, by go_num, ?_⟩, by simp [intOf]; omega⟩
          exact ((hbw.out.alloc hbw.out.size _).alloc (by have := hbw.out.size; simp; omega) _).trans (hb'.mono (by have := hbw.out.size; simp; omega))
        · obtain rfl : k = rs.length := by omega
          go_wp2
          go_ret
          exact ⟨rfl, HBW.out⟩
end Go.Proofs.Ytpjjfnpdopdnkaa
namespace Go.Proofs.Ytpjjfnpdopdnkaa
open Go.RowKit

theorem rcells_one (l : List (RepD × Value)) (h : ∀ t ∈ l, t.2.oneCell' = true) : ∀ x ∈ l.flatMap rcells, x.oneCell' = true := by
  intro x hx
  simp only [List.mem_flatMap] at hx
  obtain ⟨e, he, hx⟩ := hx
  simp only [rcells, List.mem_cons, List.not_mem_nil, or_false] at hx
  rcases hx with rfl | rfl | rfl | rfl <;> first | rfl | exact h e he
theorem bools_one (l : List Bool) : ∀ x ∈ l.map Value.bool, x.oneCell' = true := by
  intro x hx
  obtain ⟨b, _, rfl⟩ := List.mem_map.1 hx
  rfl
/-- the rows with new parts at place k -/
def setPartsP (rows : List (RepD × Value)) (k : Nat) (v : Value) : List (RepD × Value) := rows.modify k fun t => (t.1, v)
theorem setPartsP_fst : ∀ (rows : List (RepD × Value)) (k : Nat) (v : Value), (setPartsP rows k v).map Prod.fst = rows.map Prod.fst
  | [], k, v => by simp [setPartsP]
  | t :: rows, 0, v => by simp [setPartsP]
  | t :: rows, k + 1, v => by
    have := setPartsP_fst rows k v
    simp only [setPartsP] at *
    simp [this]
theorem setPartsP_cells : ∀ (rows : List (RepD × Value)) (k : Nat) (v : Value), k < rows.length → (setPartsP rows k v).flatMap rcells = (rows.flatMap rcells).set (k * 4 + 1) v
  | [], k, v, h => by simp at h
  | t :: rows, 0, v, h => by simp [setPartsP, rcells]
  | t :: rows, k + 1, v, h => by
    have ih := setPartsP_cells rows k v (by simpa using h)
    simp only [setPartsP] at ih
    have hl : (rcells t).length = 4 := rfl
    simp only [setPartsP, List.modify_succ_cons, List.flatMap_cons, ih]
    rw [List.set_append_right _ _ (by rw [hl]; omega), hl, show (k + 1) * 4 + 1 - 4 = k * 4 + 1 from by omega]
theorem setPartsP_take (rows : List (RepD × Value)) (k : Nat) (v : Value) (h : k < rows.length) : (setPartsP rows k v).take (k + 1) = rows.take k ++ [(rows[k].1, v)] := by
  have hl : k < (setPartsP rows k v).length := by simp [setPartsP]; exact h
  rw [List.take_succ_eq_append_getElem hl]
  congr 1
  · simp only [setPartsP, List.take_modify]
    exact List.modify_eq_self (by simp; omega)
  · simp [setPartsP]
theorem setPartsP_drop (rows : List (RepD × Value)) (k : Nat) (v : Value) : (setPartsP rows k v).drop (k + 1) = rows.drop (k + 1) := by
  simp [setPartsP, List.drop_modify_of_lt]

/-- v is a row of replicas of the call's own (the call began in w0); the first k have bytes of their own, no two in one block; the others have the bytes that they had -/
structure OwnP (w0 w : World) (base : Nat) (v : Value) (ds : List RepD) (rows : List (RepD × Value)) (k : Nat) : Prop where
  fst : rows.map Prod.fst = ds
  own : w.ownsRow base 71 4 v ds.length (rows.flatMap rcells)
  bel : Below w0.heap.size w0 w
  old : ∀ t ∈ rows.drop k, By w0 t.2 t.1.bytes
  parts : ∀ t ∈ rows.take k, w.ownsRow base 5 1 t.2 t.1.bytes.length (bvs t.1.bytes)
  apart : (rows.take k).Pairwise fun a b => a.2.ownBlock = none ∨ a.2.ownBlock ≠ b.2.ownBlock

theorem OwnP.step {w0 w w5 : World} {base g c k : Nat} {ds : List RepD} {rows : List (RepD × Value)} {v5 : Value} (h : OwnP w0 w base (.slice (some ⟨g, 0, none⟩) ds.length c) ds rows k) (hk : k < rows.length) (hb0 : w0.heap.size ≤ base) (hb : base ≤ w.heap.size)
    (hbel : Below w.heap.size w w5) (ho : w5.ownsRow w.heap.size 5 1 v5 rows[k].1.bytes.length (bvs rows[k].1.bytes)) :
    OwnP w0 (w5.setCell ⟨g, k * 4 + 1, none⟩ v5) base (.slice (some ⟨g, 0, none⟩) ds.length c) ds (setPartsP rows k v5) (k + 1) := by
  have hgl := h.own.lt g rfl
  have hown5 := own_keep h.own hbel (fun b hb => (h.own.lt b hb).2)
  have hg5 : ∃ cs fr, w5.heap[g]? = some (.cells cs 71 fr) := by
    rcases hown5.2 with ⟨e, _⟩ | ⟨g', cap, cur, e, _, hh, _⟩
    · cases e
    · injection e with e1
      injection e1 with e1
      injection e1 with e1
      subst e1
      exact ⟨_, _, hh⟩
  obtain ⟨cs, fr, hg5⟩ := hg5
  refine ⟨(setPartsP_fst rows k v5).trans h.fst, ?_, ?_, ?_, ?_, ?_⟩
  · rw [setPartsP_cells rows k v5 hk]
    exact (World.ownsRow.stored hown5 _ _).1
  · exact (h.bel.trans (hbel.mono h.bel.size)).setCell (by show w0.heap.size ≤ g; omega) _
  · intro t ht
    rw [setPartsP_drop] at ht
    refine h.old t ?_
    have : rows.drop (k + 1) = (rows.drop k).drop 1 := by simp [List.drop_drop]
    rw [this] at ht
    exact List.mem_of_mem_drop ht
  · intro t ht
    rw [setPartsP_take rows k v5 hk] at ht
    rcases List.mem_append.1 ht with ht | ht
    · exact own_far (own_keep (h.parts t ht) hbel (fun b hb => ((h.parts t ht).lt b hb).2)) hg5 (by decide) _ _
    · simp only [List.mem_singleton] at ht
      subst ht
      exact own_far (own_base ho hb) hg5 (by decide) _ _
  · rw [setPartsP_take rows k v5 hk]
    refine List.pairwise_append.2 ⟨h.apart, by simp, fun a ha b hb' => ?_⟩
    simp only [List.mem_singleton] at hb'
    subst hb'
    rcases hab : a.2.ownBlock with _ | x
    · exact Or.inl rfl
    · refine Or.inr fun e => ?_
      have h1 := (h.parts a ha).lt x hab
      have h2 := ho.lt x e.symm
      omega
theorem OwnP.more {w0 w : World} {base base' k : Nat} {v : Value} {ds : List RepD} {rows : List (RepD × Value)} (h : OwnP w0 w base v ds rows k) (hb : base' ≤ base) : OwnP w0 w base' v ds rows k :=
  ⟨h.fst, own_base h.own hb, h.bel, h.old, fun t ht => own_base (h.parts t ht) hb, h.apart⟩

theorem OwnP.under {w0 w : World} {base k : Nat} {v : Value} {ds : List RepD} {rows : List (RepD × Value)} (h : OwnP w0 w base v ds rows k) {a : Addr} (ha : a.block < base ∧ w0.heap.size ≤ a.block) (u : Value) : OwnP w0 (w.setCell a u) base v ds rows k :=
  ⟨h.fst, ownsRow_setCell_below h.own ha.1 u, h.bel.setCell ha.2 u, h.old, fun t ht => ownsRow_setCell_below (h.parts t ht) ha.1 u, h.apart⟩

theorem OwnP.at_ {w0 w : World} {base : Nat} {v : Value} {ds : List RepD} {rows : List (RepD × Value)} {k : Nat} (h : OwnP w0 w base v ds rows k) (hn : 0 < ds.length) : ∃ g c, v = .slice (some ⟨g, 0, none⟩) ds.length c ∧ base ≤ g ∧ g < w.heap.size ∧ ds.length ≤ c ∧ ∀ i (hi : i < rows.length) (j : Nat), j < 4 → w.cell? ⟨g, i * 4 + j, none⟩ = (rcells rows[i])[j]? ∧ w.frozen? ⟨g, i * 4 + j, none⟩ = false := by
  obtain ⟨g, c, hv, hb, hlt⟩ := h.own.form hn
  subst hv
  have hle : ds.length ≤ c := by
    obtain ⟨_, A, c', he, hc, _⟩ := Sl.of_own h.own
    injection he with _ _ e; omega
  refine ⟨g, c, rfl, hb, hlt, hle, fun i hi j hj => ⟨?_, World.ownsRow.frozenAt h.own _⟩⟩
  have hl : rows.length = ds.length := by rw [← h.fst]; simp
  rw [World.ownsRow.cellAt h.own _ (by omega)]
  exact cells_get rcells 4 (fun _ => rfl) rows i hi j hj

/-- a row of another element type, of the call's own, stays while a row's slice is replaced -/
theorem OwnP.offs {w0 w w5 : World} {base base' g c k j n sz : Nat} {e : TypeId} {ds : List RepD} {rows : List (RepD × Value)} {u : Value} {xs : List Value} (h : OwnP w0 w base (.slice (some ⟨g, 0, none⟩) ds.length c) ds rows k) (hbel : Below w.heap.size w w5) (hof : w5.ownsRow base' e sz u n xs) (he : 71 ≠ e) (v5 : Value) : (w5.setCell ⟨g, j, none⟩ v5).ownsRow base' e sz u n xs := by
  have hown5 := own_keep h.own hbel (fun b hb => (h.own.lt b hb).2)
  rcases hown5.2 with ⟨e', _⟩ | ⟨g', cap, cur, e', _, hh, _⟩
  · cases e'
  · injection e' with e1
    injection e1 with e1
    injection e1 with e1
    subst e1
    exact own_far hof hh he _ _
/-- the three rows of a part of the call's own -/
structure OwnPart (w0 w : World) (base : Nat) (c : PartD) (iv kv rv : Value) (rows : List (RepD × Value)) (k : Nat) : Prop where
  isr : w.ownsRow base 4 1 iv c.isr.length (c.isr.map Value.bool)
  known : w.ownsRow base 3 1 kv c.known.length (c.known.map (Value.int .i64))
  reps : OwnP w0 w base rv c.reps rows k
theorem OwnPart.under {w0 w : World} {base k : Nat} {c : PartD} {iv kv rv : Value} {rows : List (RepD × Value)} (h : OwnPart w0 w base c iv kv rv rows k) {a : Addr} (ha : a.block < base ∧ w0.heap.size ≤ a.block) (u : Value) : OwnPart w0 (w.setCell a u) base c iv kv rv rows k :=
  ⟨ownsRow_setCell_below h.isr ha.1 u, ownsRow_setCell_below h.known ha.1 u, h.reps.under ha u⟩
theorem OwnPart.more {w0 w : World} {base base' k : Nat} {c : PartD} {iv kv rv : Value} {rows : List (RepD × Value)} (h : OwnPart w0 w base c iv kv rv rows k) (hb : base' ≤ base) : OwnPart w0 w base' c iv kv rv rows k :=
  ⟨own_base h.isr hb, own_base h.known hb, h.reps.more hb⟩
/-- what part.Copy leaves -/
def CopyPostP (w : World) (c : PartD) (e : Ending) (w' : World) : Prop := ∃ iv kv rv rows, e = .returned (partV c iv kv rv) ∧ OwnPart w w' w.heap.size c iv kv rv rows c.reps.length ∧ Below w.heap.size w w'
theorem OwnPart.pv {w0 w : World} {base : Nat} {c : PartD} {iv kv rv : Value} {rows : List (RepD × Value)} (h : OwnPart w0 w base c iv kv rv rows c.reps.length) (h1 : c.isr.length ≤ 9223372036854775807) (h2 : c.known.length ≤ 9223372036854775807) (h3 : c.reps.length ≤ 9223372036854775807) (h4 : ∀ t ∈ c.reps, t.bytes.length ≤ 9223372036854775807) : Pv w (partV c iv kv rv) c := by
  have hl : rows.length = c.reps.length := by rw [← h.reps.fst]; simp
  refine ⟨iv, kv, rv, rfl, Sl.of_own h.isr, Sl.of_own h.known, ⟨rows, h.reps.fst, Sl.of_own h.reps.own, fun t ht => ?_⟩, h1, h2, h3⟩
  have ht' : t ∈ rows.take c.reps.length := by rw [← hl, List.take_length]; exact ht
  refine ⟨?_, h4 _ (by rw [← h.reps.fst]; exact List.mem_map_of_mem ht)⟩
  have := Sl.of_own (h.reps.parts t ht')
  exact this
end Go.Proofs.Ytpjjfnpdopdnkaa
namespace Go.Proofs.Ytpjjfnpdopdnkaa
open Go.RowKit

theorem CloneBool_info : (Try.prog.info? 4).map (fun i => (i.zero, i.size, i.bytes)) = some (some (.bool false), 1, 1) := by kernel_rfl
set_option maxRecDepth 100000 in
set_option maxHeartbeats 1000000 in
theorem CloneBool_any (v : Value) (n : Nat) (xs : List Value) (w : World) (h : Sl w 1 v n xs) (h1 : ∀ x ∈ xs, x.oneCell' = true) (hm : n ≤ maxLen) (hb : n * 1 ≤ 140737488355328) :
    Calls Try.prog 71 #[v] w fun e w' => ∃ v', e = .returned v' ∧ w'.ownsRow w.heap.size 4 1 v' n xs ∧ Below w.heap.size w w' := by
  obtain ⟨i0, hi0, hz0, hz1, hz2⟩ := info_parts CloneBool_info
  obtain ⟨hl, A, c, rfl, hc, hcl⟩ := h
  rcases A with _ | a
  · have hn : n = 0 := by
      rcases Nat.eq_zero_or_pos n with h0 | h0
      · exact h0
      · obtain ⟨_, _, e, _⟩ := hcl h0
        cases e
    subst hn
    have hx : xs = [] := List.eq_nil_of_length_eq_zero (by simpa using hl)
    have HX := Lib.hid hx
    clear hx
    have hnil := fun W => Lib.run_eql_slice_nil (P := Try.prog) W 22 4 none 0 c 0 0 Try.underlying22
    go_enter Try.func71, Try.ntmps71
    go_wp2
    go_ret
    exact ⟨_, rfl, by rw [HX.out]; exact World.ownsRow_nil _ _ _ _, Below.refl _ _⟩
  · have hsl : Sl w 1 (.slice (some a) n c) n xs := ⟨hl, some a, c, rfl, hc, hcl⟩
    have hnil := fun W => Lib.run_eql_slice_nil (P := Try.prog) W 22 4 (some a) n c 0 0 Try.underlying22
    go_enter Try.func71, Try.ntmps71
    go_wp2_with (at_builtin; go_must (refine wpList_append_sl _ rfl (.tmp 5) (.tmp 6) 22 rfl w.heap.size 4 i0 (.bool false) 1 1 Try.underlying22 hi0 hz0 hz1 hz2 rfl (by decide) _ _ _ (by rfl) (own_lit (base := w.heap.size) w 4 _ 1 0 (Nat.le_refl _) (by simp [maxLen]) rfl) _ n xs (by rfl) (hsl.alloc _) h1 (by omega) (by omega) (by simp) ?_; intro v1 w1 ho1 hg1 ha1))
    go_ret
    exact ⟨v1, rfl, own_eq ho1 (by omega) (by simp), ((Below.refl _ _).alloc (Nat.le_refl _) _).grown hg1 (by simp) (by intro k hk; simp [Value.ownBlock] at hk; omega)⟩

end Go.Proofs.Ytpjjfnpdopdnkaa
namespace Go.Proofs.Ytpjjfnpdopdnkaa
open Go.RowKit

theorem CloneInt_info : (Try.prog.info? 3).map (fun i => (i.zero, i.size, i.bytes)) = some (some (.int .i64 0), 1, 8) := by kernel_rfl
set_option maxRecDepth 100000 in
set_option maxHeartbeats 1000000 in
theorem CloneInt_any (v : Value) (n : Nat) (xs : List Value) (w : World) (h : Sl w 1 v n xs) (h1 : ∀ x ∈ xs, x.oneCell' = true) (hm : n ≤ maxLen) (hb : n * 8 ≤ 140737488355328) :
    Calls Try.prog 72 #[v] w fun e w' => ∃ v', e = .returned v' ∧ w'.ownsRow w.heap.size 3 1 v' n xs ∧ Below w.heap.size w w' := by
  obtain ⟨i0, hi0, hz0, hz1, hz2⟩ := info_parts CloneInt_info
  obtain ⟨hl, A, c, rfl, hc, hcl⟩ := h
  rcases A with _ | a
  · have hn : n = 0 := by
      rcases Nat.eq_zero_or_pos n with h0 | h0
      · exact h0
      · obtain ⟨_, _, e, _⟩ := hcl h0
        cases e
    subst hn
    have hx : xs = [] := List.eq_nil_of_length_eq_zero (by simpa using hl)
    have HX := Lib.hid hx
    clear hx
    have hnil := fun W => Lib.run_eql_slice_nil (P := Try.prog) W 23 3 none 0 c 0 0 Try.underlying23
    go_enter Try.func72, Try.ntmps72
    go_wp2
    go_ret
    exact ⟨_, rfl, by rw [HX.out]; exact World.ownsRow_nil _ _ _ _, Below.refl _ _⟩
  · have hsl : Sl w 1 (.slice (some a) n c) n xs := ⟨hl, some a, c, rfl, hc, hcl⟩
    have hnil := fun W => Lib.run_eql_slice_nil (P := Try.prog) W 23 3 (some a) n c 0 0 Try.underlying23
    go_enter Try.func72, Try.ntmps72
    go_wp2_with (at_builtin; go_must (refine wpList_append_sl _ rfl (.tmp 5) (.tmp 6) 23 rfl w.heap.size 3 i0 (.int .i64 0) 1 8 Try.underlying23 hi0 hz0 hz1 hz2 rfl (by decide) _ _ _ (by rfl) (own_lit (base := w.heap.size) w 3 _ 1 0 (Nat.le_refl _) (by simp [maxLen]) rfl) _ n xs (by rfl) (hsl.alloc _) h1 (by omega) (by omega) (by simp) ?_; intro v1 w1 ho1 hg1 ha1))
    go_ret
    exact ⟨v1, rfl, own_eq ho1 (by omega) (by simp), ((Below.refl _ _).alloc (Nat.le_refl _) _).grown hg1 (by simp) (by intro k hk; simp [Value.ownBlock] at hk; omega)⟩

end Go.Proofs.Ytpjjfnpdopdnkaa
namespace Go.Proofs.Ytpjjfnpdopdnkaa
open Go.RowKit

theorem CloneRep_info : (Try.prog.info? 71).map (fun i => (i.zero, i.size, i.bytes)) = some (some (.agg #[.bool false, .slice none 0 0, .int .i64 0, .int .i64 0]), 4, 48) := by kernel_rfl
set_option maxRecDepth 100000 in
set_option maxHeartbeats 1000000 in
theorem CloneRep_any (v : Value) (n : Nat) (xs : List Value) (w : World) (h : Sl w 4 v n xs) (h1 : ∀ x ∈ xs, x.oneCell' = true) (hm : n ≤ maxLen) (hb : n * 48 ≤ 140737488355328) :
    Calls Try.prog 73 #[v] w fun e w' => ∃ v', e = .returned v' ∧ w'.ownsRow w.heap.size 71 4 v' n xs ∧ Below w.heap.size w w' := by
  obtain ⟨i0, hi0, hz0, hz1, hz2⟩ := info_parts CloneRep_info
  obtain ⟨hl, A, c, rfl, hc, hcl⟩ := h
  rcases A with _ | a
  · have hn : n = 0 := by
      rcases Nat.eq_zero_or_pos n with h0 | h0
      · exact h0
      · obtain ⟨_, _, e, _⟩ := hcl h0
        cases e
    subst hn
    have hx : xs = [] := List.eq_nil_of_length_eq_zero (by simpa using hl)
    have HX := Lib.hid hx
    clear hx
    have hnil := fun W => Lib.run_eql_slice_nil (P := Try.prog) W 24 71 none 0 c 0 0 Try.underlying24
    go_enter Try.func73, Try.ntmps73
    go_wp2
    go_ret
    exact ⟨_, rfl, by rw [HX.out]; exact World.ownsRow_nil _ _ _ _, Below.refl _ _⟩
  · have hsl : Sl w 4 (.slice (some a) n c) n xs := ⟨hl, some a, c, rfl, hc, hcl⟩
    have hnil := fun W => Lib.run_eql_slice_nil (P := Try.prog) W 24 71 (some a) n c 0 0 Try.underlying24
    go_enter Try.func73, Try.ntmps73
    go_wp2_with (at_builtin; go_must (refine wpList_append_sl _ rfl (.tmp 5) (.tmp 6) 24 rfl w.heap.size 71 i0 (.agg #[.bool false, .slice none 0 0, .int .i64 0, .int .i64 0]) 4 48 Try.underlying24 hi0 hz0 hz1 hz2 rfl (by decide) _ _ _ (by rfl) (own_lit (base := w.heap.size) w 71 _ 4 0 (Nat.le_refl _) (by simp [maxLen]) rfl) _ n xs (by rfl) (hsl.alloc _) h1 (by omega) (by omega) (by simp) ?_; intro v1 w1 ho1 hg1 ha1))
    go_ret
    exact ⟨v1, rfl, own_eq ho1 (by omega) (by simp), ((Below.refl _ _).alloc (Nat.le_refl _) _).grown hg1 (by simp) (by intro k hk; simp [Value.ownBlock] at hk; omega)⟩

end Go.Proofs.Ytpjjfnpdopdnkaa
namespace Go.Proofs.Ytpjjfnpdopdnkaa
open Go.RowKit
attribute [local go_sem ↓] Go.wp_at_zero Go.wp_at_succ

/-- what the first lines of part.Copy leave -/
def CutP (w : World) (c : PartD) (rows : List (RepD × Value)) (wx : World) : Prop := ∃ iv kv rv, OwnPart w wx (w.heap.size + 2) c iv kv rv rows 0 ∧ Blk wx w.heap.size 26 #[.int .i64 c.epoch, .int .i64 c.leader, iv, kv, rv, .int .i64 c.few, .int .i64 c.base] ∧ Blk wx (w.heap.size + 1) 26 #[.int .i64 0, .int .i64 0, .slice none 0 0, .slice none 0 0, .slice none 0 0, .int .i64 0, .int .i64 0] ∧ Below w.heap.size w wx
/-- the loop of part.Copy -/
def CopyLpP (w : World) (c : PartD) (iv kv rv : Value) (i : Value) (wr : World) : Prop :=
  ∃ (k : Nat) (rows : List (RepD × Value)), k ≤ c.reps.length ∧ i = .int .i64 k ∧ OwnPart w wr (w.heap.size + 2) c iv kv rv rows k ∧ Blk wr w.heap.size 26 #[.int .i64 c.epoch, .int .i64 c.leader, iv, kv, rv, .int .i64 c.few, .int .i64 c.base] ∧ Blk wr (w.heap.size + 1) 26 #[.int .i64 0, .int .i64 0, .slice none 0 0, .slice none 0 0, .slice none 0 0, .int .i64 0, .int .i64 0] ∧ Below w.heap.size w wr

set_option maxRecDepth 100000 in
set_option maxHeartbeats 16000000 in
theorem partCopy_any (v : Value) (c : PartD) (w : World) (h : Pv w v c) (h1 : c.isr.length ≤ 140737488355328) (h2 : c.known.length * 8 ≤ 140737488355328) (h3 : c.reps.length * 48 ≤ 140737488355328) (h4 : ∀ t ∈ c.reps, t.bytes.length ≤ 140737488355328) :
    Calls Try.prog 26 #[v] w (CopyPostP w c) := by
  obtain ⟨xi, xk, xr, rfl, hi, hk, ⟨rows, hfst, hsl, hparts⟩, hli, hlk, hlr⟩ := h
  unfold partV
  obtain ⟨ep, ld, is, ks, rs, fw, ba⟩ := c
  simp only at *
  obtain ⟨Ai, ci, rfl, hci⟩ := Sl.form hi
  obtain ⟨Ak, ck, rfl, hck⟩ := Sl.form hk
  obtain ⟨Ar, cr, rfl, hcr⟩ := Sl.form hsl
  have HI := Lib.hid hi
  have HK := Lib.hid hk
  have H1 := Lib.hid hsl
  have H2 := Lib.hid hparts
  have H3 := Lib.hid hfst
  have H4 := Lib.hid h4
  have HONE := Lib.hid (rcells_one rows (fun t ht => Sl.oneCell (H2.out t ht).1))
  have hm1 : is.length ≤ maxLen := by simp only [maxLen]; omega
  have hm2 : ks.length ≤ maxLen := by simp only [maxLen]; omega
  have hm3 : rs.length ≤ maxLen := by simp only [maxLen]; omega
  have HM1 := Lib.hid hm1
  have HM2 := Lib.hid hm2
  have HM3 := Lib.hid hm3
  have HB1 := Lib.hid (show is.length * 1 ≤ 140737488355328 by omega)
  have HB2 := Lib.hid h2
  have HB3 := Lib.hid h3
  clear hi hk hsl hparts hfst h4 hm1 hm2 hm3 h1 h2 h3
  go_enter Try.func26, Try.ntmps26
  go_upto_region 1 with fail
  go_cut [] from 4 (fun wx => CutP w ⟨ep, ld, is, ks, rs, fw, ba⟩ rows wx)
  case first =>
    have hbd : Below w.heap.size w (((w.alloc (.cells #[.int .i64 ep, .int .i64 ld, .slice Ai is.length ci, .slice Ak ks.length ck, .slice Ar rs.length cr, .int .i64 fw, .int .i64 ba] 26)).alloc (.cells #[.int .i64 0, .int .i64 0, .slice none 0 0, .slice none 0 0, .slice none 0 0, .int .i64 0, .int .i64 0] 26))).drew := (((Below.refl _ _).alloc (Nat.le_refl _) _).alloc (by simp) _).drew
    have bxd := ((Blk.new w 26 #[.int .i64 ep, .int .i64 ld, .slice Ai is.length ci, .slice Ak ks.length ck, .slice Ar rs.length cr, .int .i64 fw, .int .i64 ba]).alloc (.cells #[.int .i64 0, .int .i64 0, .slice none 0 0, .slice none 0 0, .slice none 0 0, .int .i64 0, .int .i64 0] 26)).below (B := w.heap.size + 2) ((Below.refl _ _).drew) (by omega)
    go_region_with (first
      | (go_at_call 71; refine (CloneBool_any (.slice Ai is.length ci) is.length (is.map Value.bool) _ (Sl.below HI.out hbd) (bools_one is) HM1.out HB1.out).mono ?_; rintro e w5 ⟨v5, rfl, how5, hbw5⟩; obtain ⟨A5, c5, rfl, hc5⟩ := (Sl.of_own how5).form; have bw5 := bxd.below hbw5 (by simp; omega); have k2w5 := bw5.cell 2; have k3w5 := bw5.cell 3; have k4w5 := bw5.cell 4; have f2w5 := bw5.frozen 2; have f3w5 := bw5.frozen 3; have f4w5 := bw5.frozen 4; have ltw5 : w.heap.size < w5.heap.size := bw5.lt)
      | (go_at_call 72; refine (CloneInt_any (.slice Ak ks.length ck) ks.length (ks.map (Value.int .i64)) _ (Sl.below HK.out (below_then hbd hbw5)) (ints_one ks) HM2.out HB2.out).mono ?_; rintro e w6 ⟨v6, rfl, how6, hbw6⟩; obtain ⟨A6, c6, rfl, hc6⟩ := (Sl.of_own how6).form; have bw6 := bw5.below hbw6 ltw5; have k2w6 := bw6.cell 2; have k3w6 := bw6.cell 3; have k4w6 := bw6.cell 4; have f2w6 := bw6.frozen 2; have f3w6 := bw6.frozen 3; have f4w6 := bw6.frozen 4; have ltw6 : w.heap.size < w6.heap.size := bw6.lt)
      | (go_at_call 73; refine (CloneRep_any (.slice Ar rs.length cr) rs.length (rows.flatMap rcells) _ (Sl.below H1.out (below_then (below_then hbd hbw5) hbw6)) HONE.out HM3.out HB3.out).mono ?_; rintro e w7 ⟨v7, rfl, how7, hbw7⟩; obtain ⟨A7, c7, rfl, hc7⟩ := (Sl.of_own how7).form; have bw7 := bw6.below hbw7 ltw6; have k2w7 := bw7.cell 2; have k3w7 := bw7.cell 3; have k4w7 := bw7.cell 4; have f2w7 := bw7.frozen 2; have f3w7 := bw7.frozen 3; have f4w7 := bw7.frozen 4; have ltw7 : w.heap.size < w7.heap.size := bw7.lt))
    all_goals (
      have rx := (Blk.new (w.alloc (.cells #[.int .i64 ep, .int .i64 ld, .slice Ai is.length ci, .slice Ak ks.length ck, .slice Ar rs.length cr, .int .i64 fw, .int .i64 ba] 26)) 26 #[.int .i64 0, .int .i64 0, .slice none 0 0, .slice none 0 0, .slice none 0 0, .int .i64 0, .int .i64 0]).below (B := w.heap.size + 2) ((Below.refl _ _).drew) (by simp)
      have sz5 := hbw5.size
      have sz6 := hbw6.size
      have bl7 := below_then (below_then (below_then hbd hbw5) hbw6) hbw7
      simp only [World.size_alloc, World.size_drew] at rx how5 hbw5 sz5
      have rx7 := ((rx.below hbw5 (by omega)).below hbw6 (by omega)).below hbw7 (by omega)
      have own5 := own_keep (own_keep how5 hbw6 (fun b hb => (how5.lt b hb).2)) hbw7 (fun b hb => by have := (how5.lt b hb).2; omega)
      have own6 := own_base (base' := w.heap.size + 2) (own_keep how6 hbw7 (fun b hb => (how6.lt b hb).2)) (by omega)
      have own7 := own_base (base' := w.heap.size + 2) how7 (by omega)
      have bx8 := ((bw7.set_ 2 (.slice A5 is.length c5)).set_ 3 (.slice A6 ks.length c6)).set_ 4 (.slice A7 rs.length c7)
      simp only [List.setIfInBounds_toArray, List.set_cons_succ, List.set_cons_zero] at bx8
      have rx8 := ((rx7.far (p := ⟨w.heap.size, 2, none⟩) (by simp) (.slice A5 is.length c5)).far (p := ⟨w.heap.size, 3, none⟩) (by simp) (.slice A6 ks.length c6)).far (p := ⟨w.heap.size, 4, none⟩) (by simp) (.slice A7 rs.length c7)
      have bl8 := ((bl7.setCell (p := ⟨w.heap.size, 2, none⟩) (Nat.le_refl _) (.slice A5 is.length c5)).setCell (p := ⟨w.heap.size, 3, none⟩) (Nat.le_refl _) (.slice A6 ks.length c6)).setCell (p := ⟨w.heap.size, 4, none⟩) (Nat.le_refl _) (.slice A7 rs.length c7)
      have up : ∀ {e sz u n xs}, w7.ownsRow (w.heap.size + 2) e sz u n xs → (((w7.setCell ⟨w.heap.size, 2, none⟩ (.slice A5 is.length c5)).setCell ⟨w.heap.size, 3, none⟩ (.slice A6 ks.length c6)).setCell ⟨w.heap.size, 4, none⟩ (.slice A7 rs.length c7)).ownsRow (w.heap.size + 2) e sz u n xs := fun h => ownsRow_setCell_below (ownsRow_setCell_below (ownsRow_setCell_below h (a := ⟨w.heap.size, 2, none⟩) (by simp) _) (a := ⟨w.heap.size, 3, none⟩) (by simp) _) (a := ⟨w.heap.size, 4, none⟩) (by simp) _
      have o5 := up own5
      have o6 := up own6
      have o7 := up own7
      clear up
      generalize (((w7.setCell ⟨w.heap.size, 2, none⟩ (.slice A5 is.length c5)).setCell ⟨w.heap.size, 3, none⟩ (.slice A6 ks.length c6)).setCell ⟨w.heap.size, 4, none⟩ (.slice A7 rs.length c7)) = W8 at *
      have hown : OwnPart w W8 (w.heap.size + 2) ⟨ep, ld, is, ks, rs, fw, ba⟩ (.slice A5 is.length c5) (.slice A6 ks.length c6) (.slice A7 rs.length c7) rows 0 := ⟨o5, o6, ⟨H3.out, o7, bl8, fun t ht => (H2.out t (by simpa using ht)).1, by simp, by simp⟩⟩
      go_wp2_with fail
      go_meet
      exact ⟨_, _, _, hown, bx8, rx8, bl8⟩)
  case rest =>
    obtain ⟨iv, kv, rv, hown, hbx, hrx, hbl⟩ := hcut
    simp only at hbx
    obtain ⟨A5, c5, rfl, hc5⟩ := (Sl.of_own hown.isr).form
    obtain ⟨A6, c6, rfl, hc6⟩ := (Sl.of_own hown.known).form
    obtain ⟨A7, c7, rfl, hc7⟩ := (Sl.of_own hown.reps.own).form
    simp only at hc5 hc6 hc7 hbx hown
    have q4 := hbx.cell 4
    have ql := hbx.lt
    have PO := Lib.hid hown
    have PB := Lib.hid hbx
    have PR := Lib.hid hrx
    have PL := Lib.hid hbl
    clear hown hbx hrx hbl
    go_wp2
    go_loopw [19] (fun i wr => CopyLpP w ⟨ep, ld, is, ks, rs, fw, ba⟩ (.slice A5 is.length c5) (.slice A6 ks.length c6) (.slice A7 rs.length c7) i wr) (fun i _ => rs.length - (intOf i).toNat)
    case atStart => exact ⟨0, rows, Nat.zero_le _, rfl, PO.out, PB.out, PR.out, PL.out⟩
    case round =>
      obtain ⟨k, rows', hk, rfl, ho, hbx, hrx, hbl⟩ := hrel
      simp only at hk hbx
      clear q4 ql
      have q4 := hbx.cell 4
      have ql := hbx.lt
      by_cases hlt : k < rs.length
      · have hl : rows'.length = rs.length := by have h := congrArg List.length ho.reps.fst; simpa using h
        obtain ⟨g, c2, hv, hg1, hg2, hc2, hcell⟩ := ho.reps.at_ (by simp only; omega)
        injection hv with hA hlen' hcc
        clear hlen'
        simp only at hc2
        subst hA hcc
        have hr := (ho.reps.old rows'[k] (List.mem_drop_iff_getElem.2 ⟨0, by omega, by simp⟩)).below ho.reps.bel
        have h4 := (hcell k (by omega) 1 (by omega)).1
        have f4 := (hcell k (by omega) 1 (by omega)).2
        have h4' : wr.cell? ⟨g, k * 4 + 1, none⟩ = some rows'[k].2 := h4
        have HRD := Lib.hid hr
        have HOW := Lib.hid ho
        have hpl : rows'[k].1.bytes.length ≤ 140737488355328 := by
          have he : rs[k] = rows'[k].1 := by have := HOW.out.reps.fst; simp only at this; simp [← this]
          rw [← he]; exact H4.out _ (List.getElem_mem _)
        generalize hpv : rows'[k].2 = pv at h4' HRD
        have HPV := Lib.hid hpv
        clear hpv
        obtain ⟨A3, c3, rfl, hc3⟩ := Sl.form HRD.out
        have hk0 : (0 : Int) ≤ (k : Int) := by omega
        have hk1 : (k : Int) < (rs.length : Int) := by omega
        clear h4 hcell hr ho
        go_wp2
        have hrd := HRD.out
        have hbd : Below wr.heap.size wr wr.drew := (Below.refl _ _).drew
        have hpm : rows'[k].1.bytes.length ≤ maxLen := by simp only [maxLen]; omega
        go_region_with ((go_at_call 74; refine (CloneByte_any (.slice A3 rows'[k].1.bytes.length c3) rows'[k].1.bytes.length (bvs rows'[k].1.bytes) _ (Sl.below hrd hbd) (bvs_one _) hpm (by omega)).mono ?_; rintro e w5 ⟨v5, rfl, ho5, hb5⟩; obtain ⟨A5, c5, rfl, hc5⟩ := (Sl.of_own ho5).form; have hbel := below_then hbd hb5; have k1 := (hbx.below hbel hbx.lt).cell 4; have kl := (hbx.below hbel hbx.lt).lt; have k2 := (hbel.cell (p := ⟨g, k * 4 + 1, none⟩) hg2).trans h4'; have k3 := (hbel.frozen (p := ⟨g, k * 4 + 1, none⟩) hg2).trans f4; have k5 : g < w5.heap.size := by have := hbel.size; omega))
        all_goals go_wp2
        all_goals go_light
        all_goals refine ⟨?_, by simp [intOf]; omega⟩
        all_goals have ho5' : w5.ownsRow wr.heap.size 5 1 _ rows'[k].1.bytes.length (bvs rows'[k].1.bytes) := ho5
        all_goals have hs5 := HOW.out.reps.step (k := k) (by omega) (by omega) (by omega) hbel ho5'
        all_goals have hi5 := HOW.out.reps.offs (j := k * 4 + 1) hbel (own_keep HOW.out.isr hbel (fun b hb => (HOW.out.isr.lt b hb).2)) (by decide) (.slice A5 rows'[k].1.bytes.length c5)
        all_goals have hk5 := HOW.out.reps.offs (j := k * 4 + 1) hbel (own_keep HOW.out.known hbel (fun b hb => (HOW.out.known.lt b hb).2)) (by decide) (.slice A5 rows'[k].1.bytes.length c5)
        all_goals exact ⟨k + 1, setPartsP rows' k _, by simp only; omega, by go_num, ⟨hi5, hk5, hs5⟩, ((hbx.below hbel hbx.lt).far (by show w.heap.size ≠ g; omega) _), ((hrx.below hbel hrx.lt).far (by show w.heap.size + 1 ≠ g; omega) _), (HOW.out.reps.bel.trans (hbel.mono HOW.out.reps.bel.size)).setCell (by show w.heap.size ≤ g; omega) _⟩
      · obtain rfl : k = rs.length := by omega
        have q0 := hbx.cell 0
        have q1 := hbx.cell 1
        have q2 := hbx.cell 2
        have q3 := hbx.cell 3
        have q5 := hbx.cell 5
        have q6 := hbx.cell 6
        have zl := hrx.lt
        have z0 := hrx.cell 0
        have f0 := hrx.frozen 0
        have z1 := hrx.cell 1
        have f1 := hrx.frozen 1
        have z2 := hrx.cell 2
        have f2 := hrx.frozen 2
        have z3 := hrx.cell 3
        have f3 := hrx.frozen 3
        have z4 := hrx.cell 4
        have f4 := hrx.frozen 4
        have z5 := hrx.cell 5
        have f5 := hrx.frozen 5
        have z6 := hrx.cell 6
        have f6 := hrx.frozen 6
        have HOW := Lib.hid ho
        clear ho
        go_wp2
        have HB5 := ((((((hrx.set_ 0 (.int .i64 ep)).set_ 1 (.int .i64 ld)).set_ 2 (.slice A5 is.length c5)).set_ 3 (.slice A6 ks.length c6)).set_ 4 (.slice A7 rs.length c7)).set_ 5 (.int .i64 fw)).set_ 6 (.int .i64 ba)
        have HO5 := ((((((HOW.out.under (a := ⟨w.heap.size + 1, 0, none⟩) (by simp) (.int .i64 ep)).under (a := ⟨w.heap.size + 1, 1, none⟩) (by simp) (.int .i64 ld)).under (a := ⟨w.heap.size + 1, 2, none⟩) (by simp) (.slice A5 is.length c5)).under (a := ⟨w.heap.size + 1, 3, none⟩) (by simp) (.slice A6 ks.length c6)).under (a := ⟨w.heap.size + 1, 4, none⟩) (by simp) (.slice A7 rs.length c7)).under (a := ⟨w.heap.size + 1, 5, none⟩) (by simp) (.int .i64 fw)).under (a := ⟨w.heap.size + 1, 6, none⟩) (by simp) (.int .i64 ba)
        have HL5 := ((((((hbl.setCell (p := ⟨w.heap.size + 1, 0, none⟩) (Nat.le_succ _) (.int .i64 ep)).setCell (p := ⟨w.heap.size + 1, 1, none⟩) (Nat.le_succ _) (.int .i64 ld)).setCell (p := ⟨w.heap.size + 1, 2, none⟩) (Nat.le_succ _) (.slice A5 is.length c5)).setCell (p := ⟨w.heap.size + 1, 3, none⟩) (Nat.le_succ _) (.slice A6 ks.length c6)).setCell (p := ⟨w.heap.size + 1, 4, none⟩) (Nat.le_succ _) (.slice A7 rs.length c7)).setCell (p := ⟨w.heap.size + 1, 5, none⟩) (Nat.le_succ _) (.int .i64 fw)).setCell (p := ⟨w.heap.size + 1, 6, none⟩) (Nat.le_succ _) (.int .i64 ba)
        generalize (((((((wr.setCell ⟨w.heap.size + 1, 0, none⟩ (.int .i64 ep)).setCell ⟨w.heap.size + 1, 1, none⟩ (.int .i64 ld)).setCell ⟨w.heap.size + 1, 2, none⟩ (.slice A5 is.length c5)).setCell ⟨w.heap.size + 1, 3, none⟩ (.slice A6 ks.length c6)).setCell ⟨w.heap.size + 1, 4, none⟩ (.slice A7 rs.length c7)).setCell ⟨w.heap.size + 1, 5, none⟩ (.int .i64 fw)).setCell ⟨w.heap.size + 1, 6, none⟩ (.int .i64 ba)) = W5 at *
        simp only [List.setIfInBounds_toArray, List.set_cons_succ, List.set_cons_zero] at HB5
        have y0 := HB5.cell 0
        have y1 := HB5.cell 1
        have y2 := HB5.cell 2
        have y3 := HB5.cell 3
        have y4 := HB5.cell 4
        have y5 := HB5.cell 5
        have y6 := HB5.cell 6
        exact bodyPost_ret (v := .agg #[.int .i64 ep, .int .i64 ld, .slice A5 is.length c5, .slice A6 ks.length c6, .slice A7 rs.length c7, .int .i64 fw, .int .i64 ba]) (by simp [results, Try.results26, go_sem, y0, y1, y2, y3, y4, y5, y6]) rfl ⟨_, _, _, rows', rfl, HO5.more (by omega), HL5⟩
end Go.Proofs.Ytpjjfnpdopdnkaa
namespace Go.Proofs.Ytpjjfnpdopdnkaa
open Go.RowKit

theorem body_len (ep pid ver seq kind : Nat) (txn : Bool) (text : ByteArray) (h1 : ep ≤ 1073741824) (h2 : pid ≤ 1073741824) (h3 : ver ≤ 1073741824) (h4 : seq ≤ 1073741824) (ht : text.size ≤ 40) : 1 ≤ (bodyB ep pid ver seq kind txn text).length ∧ (bodyB ep pid ver seq kind txn text).length ≤ 61 := by
  have := svs_len ep pid ver seq 4 h1 h2 h3 h4
  have e : text.data.toList.length = text.size := by rw [Array.length_toList]; rfl
  simp only [bodyB, List.length_append, List.length_cons, List.length_nil, e]
  omega
theorem fault_kind {ep pid ver seq kind : Int} {txn : Bool} {ts : Nat} (h : entryFault ep pid ver seq kind txn ts = 0) : 1 ≤ kind ∧ kind ≤ 3 ∧ 0 ≤ ep ∧ ep ≤ 1073741824 ∧ 0 ≤ pid ∧ pid ≤ 1073741824 ∧ 0 ≤ ver ∧ ver ≤ 1073741824 ∧ 0 ≤ seq ∧ seq ≤ 1073741824 ∧ ts ≤ 40 := by
  unfold entryFault at h
  split at h
  · omega
  · split at h
    · omega
    · split at h
      · omega
      · rename_i h1 h2 h3
        simp [inB] at h1 h2
        omega

set_option maxRecDepth 100000 in
set_option maxHeartbeats 2000000 in
theorem EntryBytes_ok (ep pid ver seq kind : Nat) (txn : Bool) (text : ByteArray) (w : World) (hf : entryFault ep pid ver seq kind txn text.size = 0) :
    Calls Try.prog 85 #[.agg #[.int .i64 ep, .int .i64 pid, .int .i64 ver, .int .i64 seq, .int .i64 kind, .bool txn, .string text]] w fun e w' => ∃ v', e = .returned (.tuple #[v', .int .i64 0]) ∧ w'.ownsRow w.heap.size 5 1 v' (encB ep pid ver seq kind txn text).length (bvs (encB ep pid ver seq kind txn text)) ∧ Below w.heap.size w w' := by
  obtain ⟨i0, hi0, hz0, hz1, hz2⟩ := info_parts u8info
  obtain ⟨f1, f2, f3, f4, f5, f6, f7, f8, f9, f10, f11⟩ := fault_kind hf
  obtain ⟨bl1, bl2⟩ := body_len ep pid ver seq kind txn text (by omega) (by omega) (by omega) (by omega) f11
  generalize hB : bodyB ep pid ver seq kind txn text = B at bl1 bl2
  have HB := Lib.hid hB
  have HF := Lib.hid hf
  clear hB hf
  go_enter Try.func85, Try.ntmps85
  go_wp2_with fail
  refine (EntryFault_any _ _ _ _ _ _ _ _).mono ?_
  rintro e w1 ⟨rfl, hb⟩
  simp only [World.size_alloc] at hb
  rw [HF.out]
  have b1 := (Blk.new w 55 #[.int .i64 ep, .int .i64 pid, .int .i64 ver, .int .i64 seq, .int .i64 kind, .bool txn, .string text]).below hb (by simp)
  have c0 := b1.cell 0
  have c1 := b1.cell 1
  have c2 := b1.cell 2
  have c3 := b1.cell 3
  have c4 := b1.cell 4
  have c5 := b1.cell 5
  have c6 := b1.cell 6
  go_wp2_with fail
  refine (bodyOf_any ep pid ver seq kind txn text _ (by omega) (by omega) (by omega) (by omega) (by omega) f11).mono ?_
  rintro e w2 ⟨x2, rfl, hx2, hb2⟩
  rw [HB.out] at hx2
  clear c0 c1 c2 c3 c4 c5 c6
  have hby2 : By w2 x2 B := Sl.of_own hx2
  obtain ⟨A2, k2, e2, hk2, -⟩ := hby2.at_
  have h256 : (B.length : Int) % 256 = B.length := by omega
  subst e2
  have hz2' : w.heap.size ≤ w2.heap.size := by have := hb.size; have := hb2.size; simp at *; omega
  have hbw2 : Below w.heap.size w w2 := (((Below.refl _ _).alloc (Nat.le_refl _) _).trans (hb.mono (by omega))).trans (hb2.mono (by have := hb.size; simp at this; omega))
  go_wp2_with (at_builtin; go_must (refine wpList_append_sl _ rfl (.tmp 18) (.tmp 19) 34 rfl w.heap.size 5 i0 (.int .u8 0) 1 1 Try.underlying34 hi0 hz0 hz1 hz2 rfl (by decide) _ _ _ (by rfl) (own_lit (base := w.heap.size) w2 5 _ 1 1 hz2' (by simp [maxLen]) rfl) _ _ _ (by rfl) (hby2.alloc _) (bvs_one _) (by simp only [maxLen]; omega) (by omega) (by simp; omega) ?_; intro v3 w3 ho3 hg3 ha3; have hb23 : Below w2.heap.size w2 w3 := ((Below.refl _ _).alloc (Nat.le_refl _) _).grown hg3 (by simp) (by intro k hk; simp [Value.ownBlock] at hk; omega)))
  have hby3 := hby2.below hb23
  have hw := wsum_le B B.length
  have hw2 : wsum B B.length % 65521 < 65521 := Nat.mod_lt _ (by omega)
  refine (sumOf_any _ B _ hby3 (by omega)).mono ?_
  rintro e w' ⟨rfl, rfl⟩
  go_wp2_with fail
  refine (sumOf_any _ B _ hby3 (by omega)).mono ?_
  rintro e w' ⟨rfl, rfl⟩
  have hq : (wsum B B.length : Int) % 65521 / 256 % 256 = (wsum B B.length : Int) % 65521 / 256 := by omega
  have hz3 : w.heap.size ≤ w3.heap.size := by have := hb23.size; omega
  go_wp2_with (at_builtin; go_must (refine wpList_append_sl _ rfl (.tmp 21) (.tmp 30) 34 rfl w.heap.size 5 i0 (.int .u8 0) 1 1 Try.underlying34 hi0 hz0 hz1 hz2 rfl (by decide) _ _ _ (by rfl) (ho3.alloc _) _ 2 _ (by rfl) (Sl.lit _ _ _ 1 2 rfl) (by intro x hx; simp at hx; rcases hx with rfl | rfl <;> rfl) (by simp only [maxLen]; omega) (by omega) (by simp; omega) ?_; intro v4 w4 ho4 hg4 ha4))
  refine bodyPost_ret (v := .tuple #[v4, .int .i64 0]) (by simp [results, Try.results85, go_sem]) rfl ⟨v4, rfl, own_eq ho4 ?_ ?_, own_below (hbw2.trans (hb23.mono hz2')) (Nat.le_refl _) ho3 _ hg4⟩
  · simp only [encB, HB.out]; simp; omega
  · simp only [encB, HB.out]; simp [bvs]
    omega

def natk (a b c d : Nat) (k : Nat) : Nat := match k with | 0 => a | 1 => b | 2 => c | _ => d
theorem svs_step (a b c d k : Nat) (hk : k < 4) : svs a b c d (k + 1) = svs a b c d k ++ sv (natk a b c d k) := by
  match k, hk with
  | 0, _ | 1, _ | 2, _ | 3, _ => simp [svs, natk]

set_option maxRecDepth 100000 in
set_option maxHeartbeats 4000000 in
theorem Encode_ok (ep pid ver seq kind : Nat) (txn : Bool) (text : ByteArray) (w : World) (hf : entryFault ep pid ver seq kind txn text.size = 0) :
    Calls Try.prog 83 #[.agg #[.int .i64 ep, .int .i64 pid, .int .i64 ver, .int .i64 seq, .int .i64 kind, .bool txn, .string text]] w fun e w' => ∃ v', e = .returned (.tuple #[v', .int .i64 0]) ∧ w'.ownsRow w.heap.size 5 1 v' (encB ep pid ver seq kind txn text).length (bvs (encB ep pid ver seq kind txn text)) ∧ Below w.heap.size w w' := by
  obtain ⟨i0, hi0, hz0, hz1, hz2⟩ := info_parts u8info
  obtain ⟨f1, f2, f3, f4, f5, f6, f7, f8, f9, f10, f11⟩ := fault_kind hf
  obtain ⟨bl1, bl2⟩ := body_len ep pid ver seq kind txn text (by omega) (by omega) (by omega) (by omega) f11
  have HF := Lib.hid hf
  clear hf
  have hk16 : bits .or .i64 (kind : Int) 16 = (kind : Int) + 16 := by
    rcases (by omega : kind = 1 ∨ kind = 2 ∨ kind = 3) with rfl | rfl | rfl <;> decide
  have hk256 : (kind : Int) % 256 = kind := by omega
  have hk256' : ((kind : Int) + 16) % 256 = kind + 16 := by omega
  go_enter Try.func83, Try.ntmps83
  go_wp2_with fail
  refine (wireCheck_any _ _ _ _ _ _ _ _).mono ?_
  rintro e w1 ⟨rfl, hb⟩
  simp only [World.size_alloc] at hb
  rw [HF.out]
  have hs1 := hb.size
  simp only [World.size_alloc] at hs1
  have hs1' : w.heap.size < w1.heap.size := hs1
  have b1 := (Blk.new w 55 #[.int .i64 ep, .int .i64 pid, .int .i64 ver, .int .i64 seq, .int .i64 kind, .bool txn, .string text]).below hb (by simp)
  have c0 := b1.cell 0
  have c1 := b1.cell 1
  have c2 := b1.cell 2
  have c3 := b1.cell 3
  have c4 := b1.cell 4
  have c5 := b1.cell 5
  cases txn
  · go_wp2
    have hkb : (kind : Int) = ((kindByte kind false).toNat : Int) := by rw [kindByte_nat (by omega)]; simp
    have W0 : ∃ W0, W0 = (w1.alloc (.cells #[.int .u8 (kind : Int)] 5)).alloc (.cells #[.int .i64 ep, .int .i64 pid, .int .i64 ver, .int .i64 seq] 3) := ⟨_, rfl⟩
    obtain ⟨W0, hW0⟩ := W0
    have hbox : Blk W0 w.heap.size 55 #[.int .i64 ep, .int .i64 pid, .int .i64 ver, .int .i64 seq, .int .i64 kind, .bool false, .string text] := by rw [hW0]; exact (b1.alloc _).alloc _
    have harr : Blk W0 (w1.heap.size + 1) 3 #[.int .i64 ep, .int .i64 pid, .int .i64 ver, .int .i64 seq] := by
      have := Blk.new (w1.alloc (.cells #[.int .u8 (kind : Int)] 5)) 3 #[.int .i64 ep, .int .i64 pid, .int .i64 ver, .int .i64 seq]
      rw [hW0]; simpa using this
    have hown0 : W0.ownsRow w.heap.size 5 1 (.slice (some ⟨w1.heap.size, 0, none⟩) 1 1) ([kindByte kind false] ++ svs ep pid ver seq 0).length (bvs ([kindByte kind false] ++ svs ep pid ver seq 0)) := by
      rw [hW0]
      refine own_eq ((own_lit (base := w.heap.size) w1 5 #[.int .u8 (kind : Int)] 1 1 (by omega) (by simp [maxLen]) rfl).alloc _) (by simp [svs]) (by rw [hkb]; simp [svs, bvs])
    have hbel0 : Below w.heap.size w W0 := by
      rw [hW0]
      exact ((((Below.refl _ _).alloc (Nat.le_refl _) _).trans (hb.mono (by omega))).alloc (by omega) _).alloc (by simp; omega) _
    have hz0' : w1.heap.size + 2 ≤ W0.heap.size := by rw [hW0]; simp
    rw [← hW0]
    have HB := Lib.hid hbox
    have HA := Lib.hid harr
    have HL := Lib.hid hbel0
    clear hkb hW0 hbox harr hbel0 c0 c1 c2 c3 c4 c5
    go_loopw [6, 34] (fun b i wr => ∃ k : Nat, k ≤ 4 ∧ i = .int .i64 k ∧ wr.ownsRow w.heap.size 5 1 b ([kindByte kind false] ++ svs ep pid ver seq k).length (bvs ([kindByte kind false] ++ svs ep pid ver seq k)) ∧ Hid (OwnStep W0 wr (.slice (some ⟨w1.heap.size, 0, none⟩) 1 1) b)) (fun _ i _ => 4 - (intOf i).toNat)
    case atStart => exact ⟨0, by omega, rfl, hown0, OwnStep.refl _ _⟩
    case round =>
      obtain ⟨k, hk, rfl, ho, hst⟩ := hrel
      have hbx := hst.out.blk HB.out (by simp [Value.ownBlock]; omega)
      have hax := hst.out.blk HA.out (by simp [Value.ownBlock])
      have hsz := hst.out.size
      have hsv := svs_len ep pid ver seq k (by omega) (by omega) (by omega) (by omega)
      by_cases h4 : k < 4
      · have hnum := fun (n : Nat) (hn : n ≤ 1073741824) => number_any n hn w.heap.size _ _ wr (by simp; omega) (by omega) ho
        have hstep := svs_step ep pid ver seq k h4
        have HN := Lib.hid hnum
        have HS := Lib.hid hstep
        clear hnum hstep
        have a0 := hax.1.cell 0
        have a1 := hax.1.cell 1
        have a2 := hax.1.cell 2
        have a3 := hax.1.cell 3
        rcases (by omega : k = 0 ∨ k = 1 ∨ k = 2 ∨ k = 3) with rfl | rfl | rfl | rfl
        all_goals go_wp2_with fail
        all_goals refine (HN.out _ (by omega)).mono ?_
        all_goals rintro e w2 ⟨x2, rfl, hx2, hs2⟩
        all_goals go_wp2
        all_goals go_light
        all_goals refine ⟨⟨_, ?_, rfl, own_eq hx2 ?_ ?_, OwnStep.trans hst.out hs2⟩, by simp [intOf]⟩
        all_goals first | decide | omega | (rw [HS.out]; simp [natk]; done) | (rw [HS.out]; simp [natk, bvs]; done)
      · obtain rfl : k = 4 := by omega
        have a6 := hbx.1.cell 6
        have hsw : w.heap.size ≤ wr.heap.size := by omega
        have htx : text.data.toList.length = text.size := by rw [Array.length_toList]; rfl
        go_wp2_with (at_builtin; go_must (refine Lib.wpList_append_own_string _ rfl (.tmp 42) (.tmp 44) 34 9 rfl w.heap.size 5 i0 Try.underlying34 Try.underlying9 hi0 hz0 hz1 hz2 _ _ _ (by rfl) ho text (by rfl) (by simp only [maxLen, List.length_append, List.length_cons, List.length_nil]; omega) (by simp only [List.length_append, List.length_cons, List.length_nil]; omega) hsw ?_; intro v5 u5 ho5 hg5 ha5))
        have hb5 : Below w.heap.size w u5 := own_below' (HL.out.trans (hst.out.below (by omega) (by intro k hk; simp [Value.ownBlock] at hk; omega))) (Nat.le_refl _) ho hg5
        generalize hB : bodyB ep pid ver seq kind false text = B at bl1 bl2
        have ho5' : u5.ownsRow w.heap.size 5 1 v5 B.length (bvs B) := own_eq ho5 (by rw [← hB]; simp [bodyB, htx]; omega) (by rw [← hB]; simp [bodyB, bvs, Lib.strCells])
        have HBB := Lib.hid hB
        clear hB a6 ha5 hg5 ho5
        have hby5 : By u5 v5 B := Sl.of_own ho5'
        obtain ⟨A5, k5, e5, hk5, -⟩ := hby5.at_
        subst e5
        refine (sum_any _ B _ hby5 (by omega)).mono ?_
        rintro e w' ⟨rfl, rfl⟩
        have hu5 : w.heap.size ≤ u5.heap.size := hb5.size
        have h256 : (B.length : Int) % 256 = B.length := by omega
        have hww : wsum B B.length % 65521 < 65521 := Nat.mod_lt _ (by omega)
        have hq : (wsum B B.length : Int) % 65521 / 256 % 256 = (wsum B B.length : Int) % 65521 / 256 := by omega
        go_wp2_with (first | (at_builtin; refine wpList_append_sl _ rfl (.tmp 51) (.tmp 52) 34 rfl w.heap.size 5 i0 (.int .u8 0) 1 1 Try.underlying34 hi0 hz0 hz1 hz2 rfl (by decide) _ _ _ (by rfl) (own_lit (base := w.heap.size) u5 5 _ 1 1 hu5 (by simp [maxLen]) rfl) _ _ _ (by rfl) (hby5.alloc _) (bvs_one _) (by simp only [maxLen]; omega) (by omega) (by simp; omega) ?_; intro v6 u6 ho6 hg6 ha6; have hb6 : Below w.heap.size w u6 := (hb5.alloc hu5 _).grown hg6 (by simp; omega) (by intro k hk; simp [Value.ownBlock] at hk; omega); have hu6 : w.heap.size ≤ u6.heap.size := hb6.size) | (at_builtin; go_must (refine wpList_append_sl _ rfl (.tmp 53) (.tmp 59) 34 rfl w.heap.size 5 i0 (.int .u8 0) 1 1 Try.underlying34 hi0 hz0 hz1 hz2 rfl (by decide) _ _ _ (by rfl) (ho6.alloc _) _ 2 _ (by rfl) (Sl.lit _ _ _ 1 2 rfl) (by intro x hx; simp at hx; rcases hx with rfl | rfl <;> rfl) (by simp only [maxLen]; omega) (by omega) (by simp; omega) ?_; intro v7 u7 ho7 hg7 ha7)))
        refine bodyPost_ret (v := .tuple #[v7, .int .i64 0]) (by simp [results, Try.results83, go_sem]) rfl ⟨v7, rfl, own_eq ho7 ?_ ?_, own_below hb6 (Nat.le_refl _) ho6 _ hg7⟩
        · simp only [encB, HBB.out]; simp; omega
        · simp only [encB, HBB.out]; simp [bvs]
          omega
  · go_wp2
    have hkb : ((kind : Int) + 16) = ((kindByte kind true).toNat : Int) := by rw [kindByte_nat (by omega)]; simp
    have W0 : ∃ W0, W0 = (w1.alloc (.cells #[.int .u8 ((kind : Int) + 16)] 5)).alloc (.cells #[.int .i64 ep, .int .i64 pid, .int .i64 ver, .int .i64 seq] 3) := ⟨_, rfl⟩
    obtain ⟨W0, hW0⟩ := W0
    have hbox : Blk W0 w.heap.size 55 #[.int .i64 ep, .int .i64 pid, .int .i64 ver, .int .i64 seq, .int .i64 kind, .bool true, .string text] := by rw [hW0]; exact (b1.alloc _).alloc _
    have harr : Blk W0 (w1.heap.size + 1) 3 #[.int .i64 ep, .int .i64 pid, .int .i64 ver, .int .i64 seq] := by
      have := Blk.new (w1.alloc (.cells #[.int .u8 ((kind : Int) + 16)] 5)) 3 #[.int .i64 ep, .int .i64 pid, .int .i64 ver, .int .i64 seq]
      rw [hW0]; simpa using this
    have hown0 : W0.ownsRow w.heap.size 5 1 (.slice (some ⟨w1.heap.size, 0, none⟩) 1 1) ([kindByte kind true] ++ svs ep pid ver seq 0).length (bvs ([kindByte kind true] ++ svs ep pid ver seq 0)) := by
      rw [hW0]
      refine own_eq ((own_lit (base := w.heap.size) w1 5 #[.int .u8 ((kind : Int) + 16)] 1 1 (by omega) (by simp [maxLen]) rfl).alloc _) (by simp [svs]) (by rw [hkb]; simp [svs, bvs])
    have hbel0 : Below w.heap.size w W0 := by
      rw [hW0]
      exact ((((Below.refl _ _).alloc (Nat.le_refl _) _).trans (hb.mono (by omega))).alloc (by omega) _).alloc (by simp; omega) _
    have hz0' : w1.heap.size + 2 ≤ W0.heap.size := by rw [hW0]; simp
    rw [← hW0]
    have HB := Lib.hid hbox
    have HA := Lib.hid harr
    have HL := Lib.hid hbel0
    clear hkb hW0 hbox harr hbel0 c0 c1 c2 c3 c4 c5
    go_loopw [6, 34] (fun b i wr => ∃ k : Nat, k ≤ 4 ∧ i = .int .i64 k ∧ wr.ownsRow w.heap.size 5 1 b ([kindByte kind true] ++ svs ep pid ver seq k).length (bvs ([kindByte kind true] ++ svs ep pid ver seq k)) ∧ Hid (OwnStep W0 wr (.slice (some ⟨w1.heap.size, 0, none⟩) 1 1) b)) (fun _ i _ => 4 - (intOf i).toNat)
    case atStart => exact ⟨0, by omega, rfl, hown0, OwnStep.refl _ _⟩
    case round =>
      obtain ⟨k, hk, rfl, ho, hst⟩ := hrel
      have hbx := hst.out.blk HB.out (by simp [Value.ownBlock]; omega)
      have hax := hst.out.blk HA.out (by simp [Value.ownBlock])
      have hsz := hst.out.size
      have hsv := svs_len ep pid ver seq k (by omega) (by omega) (by omega) (by omega)
      by_cases h4 : k < 4
      · have hnum := fun (n : Nat) (hn : n ≤ 1073741824) => number_any n hn w.heap.size _ _ wr (by simp; omega) (by omega) ho
        have hstep := svs_step ep pid ver seq k h4
        have HN := Lib.hid hnum
        have HS := Lib.hid hstep
        clear hnum hstep
        have a0 := hax.1.cell 0
        have a1 := hax.1.cell 1
        have a2 := hax.1.cell 2
        have a3 := hax.1.cell 3
        rcases (by omega : k = 0 ∨ k = 1 ∨ k = 2 ∨ k = 3) with rfl | rfl | rfl | rfl
        all_goals go_wp2_with fail
        all_goals refine (HN.out _ (by omega)).mono ?_
        all_goals rintro e w2 ⟨x2, rfl, hx2, hs2⟩
        all_goals go_wp2
        all_goals go_light
        all_goals refine ⟨⟨_, ?_, rfl, own_eq hx2 ?_ ?_, OwnStep.trans hst.out hs2⟩, by simp [intOf]⟩
        all_goals first | decide | omega | (rw [HS.out]; simp [natk]; done) | (rw [HS.out]; simp [natk, bvs]; done)
      · obtain rfl : k = 4 := by omega
        have a6 := hbx.1.cell 6
        have hsw : w.heap.size ≤ wr.heap.size := by omega
        have htx : text.data.toList.length = text.size := by rw [Array.length_toList]; rfl
        go_wp2_with (at_builtin; go_must (refine Lib.wpList_append_own_string _ rfl (.tmp 42) (.tmp 44) 34 9 rfl w.heap.size 5 i0 Try.underlying34 Try.underlying9 hi0 hz0 hz1 hz2 _ _ _ (by rfl) ho text (by rfl) (by simp only [maxLen, List.length_append, List.length_cons, List.length_nil]; omega) (by simp only [List.length_append, List.length_cons, List.length_nil]; omega) hsw ?_; intro v5 u5 ho5 hg5 ha5))
        have hb5 : Below w.heap.size w u5 := own_below' (HL.out.trans (hst.out.below (by omega) (by intro k hk; simp [Value.ownBlock] at hk; omega))) (Nat.le_refl _) ho hg5
        generalize hB : bodyB ep pid ver seq kind true text = B at bl1 bl2
        have ho5' : u5.ownsRow w.heap.size 5 1 v5 B.length (bvs B) := own_eq ho5 (by rw [← hB]; simp [bodyB, htx]; omega) (by rw [← hB]; simp [bodyB, bvs, Lib.strCells])
        have HBB := Lib.hid hB
        clear hB a6 ha5 hg5 ho5
        have hby5 : By u5 v5 B := Sl.of_own ho5'
        obtain ⟨A5, k5, e5, hk5, -⟩ := hby5.at_
        subst e5
        refine (sum_any _ B _ hby5 (by omega)).mono ?_
        rintro e w' ⟨rfl, rfl⟩
        have hu5 : w.heap.size ≤ u5.heap.size := hb5.size
        have h256 : (B.length : Int) % 256 = B.length := by omega
        have hww : wsum B B.length % 65521 < 65521 := Nat.mod_lt _ (by omega)
        have hq : (wsum B B.length : Int) % 65521 / 256 % 256 = (wsum B B.length : Int) % 65521 / 256 := by omega
        go_wp2_with (first | (at_builtin; refine wpList_append_sl _ rfl (.tmp 51) (.tmp 52) 34 rfl w.heap.size 5 i0 (.int .u8 0) 1 1 Try.underlying34 hi0 hz0 hz1 hz2 rfl (by decide) _ _ _ (by rfl) (own_lit (base := w.heap.size) u5 5 _ 1 1 hu5 (by simp [maxLen]) rfl) _ _ _ (by rfl) (hby5.alloc _) (bvs_one _) (by simp only [maxLen]; omega) (by omega) (by simp; omega) ?_; intro v6 u6 ho6 hg6 ha6; have hb6 : Below w.heap.size w u6 := (hb5.alloc hu5 _).grown hg6 (by simp; omega) (by intro k hk; simp [Value.ownBlock] at hk; omega); have hu6 : w.heap.size ≤ u6.heap.size := hb6.size) | (at_builtin; go_must (refine wpList_append_sl _ rfl (.tmp 53) (.tmp 59) 34 rfl w.heap.size 5 i0 (.int .u8 0) 1 1 Try.underlying34 hi0 hz0 hz1 hz2 rfl (by decide) _ _ _ (by rfl) (ho6.alloc _) _ 2 _ (by rfl) (Sl.lit _ _ _ 1 2 rfl) (by intro x hx; simp at hx; rcases hx with rfl | rfl <;> rfl) (by simp only [maxLen]; omega) (by omega) (by simp; omega) ?_; intro v7 u7 ho7 hg7 ha7)))
        refine bodyPost_ret (v := .tuple #[v7, .int .i64 0]) (by simp [results, Try.results83, go_sem]) rfl ⟨v7, rfl, own_eq ho7 ?_ ?_, own_below hb6 (Nat.le_refl _) ho6 _ hg7⟩
        · simp only [encB, HBB.out]; simp; omega
        · simp only [encB, HBB.out]; simp [bvs]
          omega
end Go.Proofs.Ytpjjfnpdopdnkaa
