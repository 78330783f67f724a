/- wire.body: what a body says. -/
import Derived.Test.YtpjjfnpdopdnkaaFr
import Derived.Test.YtpjjfnpdopdnkaaConv
import Derived.Test.YtpjjfnpdopdnkaaMemX
import Derived.BigRegion
namespace Go.Proofs.Ytpjjfnpdopdnkaa
open Go.RowKit

/-- the reader lies at g; it stands at l; nothing else has turned since w1 -/
structure RSt (w1 W : World) (g : Nat) (v0 : Value) (bad : Bool) (l : List UInt8) (v : Value) : Prop where
  blk : Blk W g 97 #[v, .bool bad]
  by_ : By W v l
  ob : v.ownBlock = v0.ownBlock
  gr : w1.grownBy W (some g)
  sz : W.heap.size = w1.heap.size
theorem grown_trans {a b c : World} {row : Option Nat} (h : a.grownBy b row) (k : b.grownBy c row) : a.grownBy c row :=
  ⟨k.os.trans h.os, k.tape.trans h.tape, k.output.trans h.output, Nat.le_trans h.size k.size, fun i hi hne => (k.block i (Nat.lt_of_lt_of_le hi h.size) hne).trans (h.block i hi hne)⟩
theorem rnum_step {w1 W : World} {g : Nat} {v0 v : Value} {bad : Bool} {l : List UInt8} (h : RSt w1 W g v0 bad l v) (hne : v0.ownBlock ≠ some g) :
    Calls Try.prog 99 #[.pointer (some ⟨g, 0, none⟩)] W fun e W' => ∃ (n : Int) (v' : Value) (bad' : Bool) (l' : List UInt8), e = .returned (.int .i64 n) ∧ RSt w1 W' g v0 bad' l' v' ∧ NumPost bad l n bad' l' := by
  have hn : v.ownBlock ≠ some g := by rw [h.ob]; exact hne
  have key : Calls Try.prog 99 #[.pointer (some ⟨g, 0, none⟩)] W (RPost g v W bad l) := by
    cases bad
    · exact rnum_good g v l W h.blk h.by_ hn
    · exact rnum_bad g v l W h.blk h.by_ hn
  refine key.mono ?_
  rintro e W' ⟨n, v', bad', l', rfl, h1, h2, h3, h4, h5, h6⟩
  exact ⟨n, v', bad', l', rfl, ⟨h1, h2, h3.trans h.ob, grown_trans h.gr h4, h5.trans h.sz⟩, h6⟩

theorem np_chain {r l1 l2 l3 l4 : List UInt8} {n1 n2 n3 n4 : Int} {b1 b2 b3 b4 : Bool} (h1 : NumPost false r n1 b1 l1) (h2 : NumPost b1 l1 n2 b2 l2) (h3 : NumPost b2 l2 n3 b3 l3) (h4 : NumPost b3 l3 n4 b4 l4) :
    (b4 = true ∧ ∀ k, entP (k :: r) = none) ∨ (b4 = false ∧ ∃ a b c d : Nat, n1 = a ∧ n2 = b ∧ n3 = c ∧ n4 = d ∧ numP r = some (a, l1) ∧ numP l1 = some (b, l2) ∧ numP l2 = some (c, l3) ∧ numP l3 = some (d, l4)) := by
  rcases h1.2 rfl with ⟨a, r1, p1, rfl, rfl, rfl⟩ | ⟨p1, rfl⟩
  · rcases h2.2 rfl with ⟨b, r2, p2, rfl, rfl, rfl⟩ | ⟨p2, rfl⟩
    · rcases h3.2 rfl with ⟨c, r3, p3, rfl, rfl, rfl⟩ | ⟨p3, rfl⟩
      · rcases h4.2 rfl with ⟨d, r4, p4, rfl, rfl, rfl⟩ | ⟨p4, rfl⟩
        · exact Or.inr ⟨rfl, a, b, c, d, rfl, rfl, rfl, rfl, p1, p2, p3, p4⟩
        · exact Or.inl ⟨rfl, fun k => by simp [entP, p1, p2, p3, p4]⟩
      · have e4 := h4.1 rfl
        exact Or.inl ⟨e4, fun k => by simp [entP, p1, p2, p3]⟩
    · have e4 := h4.1 (h3.1 rfl)
      exact Or.inl ⟨e4, fun k => by simp [entP, p1, p2]⟩
  · have e4 := h4.1 (h3.1 (h2.1 rfl))
    exact Or.inl ⟨e4, fun k => by simp [entP, p1]⟩

def entV (e : Ent) : Value := .agg #[.int .i64 e.ep, .int .i64 e.pid, .int .i64 e.ver, .int .i64 e.seq, .int .i64 e.kind, .bool e.txn, .string e.text]
/-- what a reading of a body leaves -/
def BodyPost (l : List UInt8) (w : World) (e : Ending) (w' : World) : Prop :=
  ∃ (y : Ent) (b : Bool), e = .returned (.tuple #[entV y, .bool b]) ∧ (b = true → entP l = some y) ∧ (b = false → entP l = none) ∧ Below w.heap.size w w'

theorem entP_val {k : UInt8} {r l1 l2 l3 l4 : List UInt8} {a b c d : Nat} (h32 : ¬ 32 ≤ k.toNat) (p1 : numP r = some (a, l1)) (p2 : numP l1 = some (b, l2)) (p3 : numP l2 = some (c, l3)) (p4 : numP l3 = some (d, l4)) :
    entP (k :: r) = if entryFault a b c d ((k.toNat : Int) % 16) (decide (k.toNat / 16 = 1)) (⟨l4.toArray⟩ : ByteArray).size = 0 then some ⟨a, b, c, d, (k.toNat : Int) % 16, decide (k.toNat / 16 = 1), ⟨l4.toArray⟩⟩ else none := by
  simp only [entP, if_neg h32, p1, p2, p3, p4]
  rfl
theorem entP_big {k : UInt8} {r : List UInt8} (h32 : 32 ≤ k.toNat) : entP (k :: r) = none := by simp [entP, h32]

theorem and15 (k : UInt8) : bits .and .u8 (k.toNat : Int) 15 = ((k.toNat % 16 : Nat) : Int) := by
  have h := k.toNat_lt
  generalize k.toNat = n at *
  have key : ∀ n : Nat, n < 256 → bits .and .u8 (n : Int) 15 = ((n % 16 : Nat) : Int) := by decide +kernel
  exact key n h
theorem and16 (k : UInt8) (h : k.toNat < 32) : (bits .and .u8 (k.toNat : Int) 16 != 0) = decide (k.toNat / 16 = 1) := by
  generalize k.toNat = n at *
  have key : ∀ n : Nat, n < 32 → (bits .and .u8 (n : Int) 16 != 0) = decide (n / 16 = 1) := by decide +kernel
  exact key n h

set_option maxRecDepth 100000 in
set_option maxHeartbeats 4000000 in
theorem body_any (v : Value) (k : UInt8) (r : List UInt8) (w : World) (hv : By w v (k :: r)) (hl : r.length ≤ 65536) :
    Calls Try.prog 76 #[v] w (BodyPost (k :: r) w) := by
  obtain ⟨b, off, c, u', r', rfl, hc, hur, hbl, hcell, hcut⟩ := byte_cons hv (by simp)
  injection hur with hu' hr'
  subst hu' hr'
  simp only [List.length_cons] at hc
  have h15 := and15 k
  have hk256 := k.toNat_lt
  have HA := Lib.hid hcut
  have HC := Lib.hid hc
  clear hcut
  by_cases hc1 : c = 1
  · obtain rfl : r = [] := List.eq_nil_of_length_eq_zero (by omega)
    subst hc1
    go_enter Try.func76, Try.ntmps76
    go_wp2
    have bE := (Blk.new w 55 #[.int .i64 0, .int .i64 0, .int .i64 0, .int .i64 0, .int .i64 0, .bool false, .string ⟨#[]⟩]).alloc (.cells #[(.slice (some ⟨b, off, none⟩) 0 0), .bool false] 97)
    have bR := Blk.new (w.alloc (.cells #[.int .i64 0, .int .i64 0, .int .i64 0, .int .i64 0, .int .i64 0, .bool false, .string ⟨#[]⟩] 55)) 97 #[(.slice (some ⟨b, off, none⟩) 0 0), .bool false]
    have hbw : Below w.heap.size w ((w.alloc (.cells #[.int .i64 0, .int .i64 0, .int .i64 0, .int .i64 0, .int .i64 0, .bool false, .string ⟨#[]⟩] 55)).alloc (.cells #[(.slice (some ⟨b, off, none⟩) 0 0), .bool false] 97)) := ((Below.refl _ _).alloc (Nat.le_refl _) _).alloc (by simp) _
    have hsz : ((w.alloc (.cells #[.int .i64 0, .int .i64 0, .int .i64 0, .int .i64 0, .int .i64 0, .bool false, .string ⟨#[]⟩] 55)).alloc (.cells #[(.slice (some ⟨b, off, none⟩) 0 0), .bool false] 97)).heap.size = w.heap.size + 2 := by simp
    simp only [World.size_alloc] at bR
    change Code.wp _ _ _ _ ((w.alloc (.cells #[.int .i64 0, .int .i64 0, .int .i64 0, .int .i64 0, .int .i64 0, .bool false, .string ⟨#[]⟩] 55)).alloc (.cells #[(.slice (some ⟨b, off, none⟩) 0 0), .bool false] 97))
    generalize (w.alloc (.cells #[.int .i64 0, .int .i64 0, .int .i64 0, .int .i64 0, .int .i64 0, .bool false, .string ⟨#[]⟩] 55)).alloc (.cells #[(.slice (some ⟨b, off, none⟩) 0 0), .bool false] 97) = W0 at *
    have X := (hbw.cell (p := ⟨b, off, none⟩) hbl).trans hcell
    have hlt : b < W0.heap.size := by omega
    have X2 : (W0.alloc (.cells #[.int .i64 0, .int .i64 0, .int .i64 0, .int .i64 0, .int .i64 0, .bool false, .string ⟨#[]⟩] 55)).cell? ⟨b, off, none⟩ = some (.int .u8 k.toNat) := (World.cell?_alloc_lt W0 _ _ hlt).trans X
    go_region
    go_wp2_with fail
    have bX : Blk (W0.alloc (.cells #[.int .i64 0, .int .i64 0, .int .i64 0, .int .i64 0, .int .i64 ((k.toNat : Int) % 16), .bool (bits .and .u8 (k.toNat : Int) 16 != 0), .string ⟨#[]⟩] 55)).drew (w.heap.size + 2) 55 #[.int .i64 0, .int .i64 0, .int .i64 0, .int .i64 0, .int .i64 ((k.toNat : Int) % 16), .bool (bits .and .u8 (k.toNat : Int) 16 != 0), .string ⟨#[]⟩] := by rw [← hsz]; exact Blk.new W0 _ _
    have bE1 : Blk (W0.alloc (.cells #[.int .i64 0, .int .i64 0, .int .i64 0, .int .i64 0, .int .i64 ((k.toNat : Int) % 16), .bool (bits .and .u8 (k.toNat : Int) 16 != 0), .string ⟨#[]⟩] 55)).drew w.heap.size 55 #[.int .i64 0, .int .i64 0, .int .i64 0, .int .i64 0, .int .i64 0, .bool false, .string ⟨#[]⟩] := bE.alloc _
    have bR1 : Blk (W0.alloc (.cells #[.int .i64 0, .int .i64 0, .int .i64 0, .int .i64 0, .int .i64 ((k.toNat : Int) % 16), .bool (bits .and .u8 (k.toNat : Int) 16 != 0), .string ⟨#[]⟩] 55)).drew (w.heap.size + 1) 97 #[(.slice (some ⟨b, off, none⟩) 0 0), .bool false] := bR.alloc _
    have hb1 : Below w.heap.size w (W0.alloc (.cells #[.int .i64 0, .int .i64 0, .int .i64 0, .int .i64 0, .int .i64 ((k.toNat : Int) % 16), .bool (bits .and .u8 (k.toNat : Int) 16 != 0), .string ⟨#[]⟩] 55)).drew := (hbw.alloc (by omega) _).drew
    have hs1 : (W0.alloc (.cells #[.int .i64 0, .int .i64 0, .int .i64 0, .int .i64 0, .int .i64 ((k.toNat : Int) % 16), .bool (bits .and .u8 (k.toNat : Int) 16 != 0), .string ⟨#[]⟩] 55)).drew.heap.size = w.heap.size + 3 := by simp [hsz]
    generalize (W0.alloc (.cells #[.int .i64 0, .int .i64 0, .int .i64 0, .int .i64 0, .int .i64 ((k.toNat : Int) % 16), .bool (bits .and .u8 (k.toNat : Int) 16 != 0), .string ⟨#[]⟩] 55)).drew = W1 at *
    generalize hT : (bits .and .u8 (k.toNat : Int) 16 != 0) = T at *
    have HT := Lib.hid hT
    clear hT
    have hy := (HA.out W1 (fun p hp => hb1.cell (p := p) (by rw [hp]; exact hbl)) hb1.size).1 (by trivial)
    have st0 : RSt W1 W1 (w.heap.size + 1) (.slice (some ⟨b, off, none⟩) 0 0) false [] (.slice (some ⟨b, off, none⟩) 0 0) := ⟨bR1, hy, rfl, World.grownBy.refl _ _, rfl⟩
    have hne : Value.ownBlock (.slice (some ⟨b, off, none⟩) 0 0) ≠ some (w.heap.size + 1) := by simp [Value.ownBlock]; omega
    clear bE bR hbw hsz X X2 hlt bR1 hy
    refine (rnum_step st0 hne).mono ?_
    rintro e W2 ⟨n1, v1, b1, l1, rfl, st1, np1⟩
    go_wp2_with fail
    refine (rnum_step st1 hne).mono ?_
    rintro e W3 ⟨n2, v2, b2, l2, rfl, st2, np2⟩
    go_wp2_with fail
    refine (rnum_step st2 hne).mono ?_
    rintro e W4 ⟨n3, v3, b3, l3, rfl, st3, np3⟩
    go_wp2_with fail
    refine (rnum_step st3 hne).mono ?_
    rintro e W5 ⟨n4, v4, b4, l4, rfl, st4, np4⟩
    have bE5 := bE1.grown st4.gr (by simp)
    have bX5 := bX.grown st4.gr (by simp)
    have bR5 := st4.blk
    have hb5 : Below w.heap.size w W5 := hb1.grown st4.gr hb1.size (fun k hk => by injection hk with hk; omega)
    have X5 : W5.cell? ⟨b, off, none⟩ = some (.int .u8 k.toNat) := (hb5.cell (p := ⟨b, off, none⟩) hbl).trans hcell
    have hs5 : W5.heap.size = w.heap.size + 3 := st4.sz.trans hs1
    have hch := np_chain np1 np2 np3 np4
    have hy5 := st4.by_
    have hob := st4.ob
    clear st0 st1 st2 st3 st4 np1 np2 np3 np4 bE1 bX hb1 hs1 hne
    have hbne : b ≠ w.heap.size + 2 := by omega
    have hyS : By ((((W5.setCell ⟨w.heap.size + 2, 0, none⟩ (.int .i64 n1)).setCell ⟨w.heap.size + 2, 1, none⟩ (.int .i64 n2)).setCell ⟨w.heap.size + 2, 2, none⟩ (.int .i64 n3)).setCell ⟨w.heap.size + 2, 3, none⟩ (.int .i64 n4)) v4 l4 := by
      have hn2 : v4.ownBlock ≠ some (w.heap.size + 2) := by rw [hob]; simp [Value.ownBlock]; omega
      exact By.grown hy5 (grown_set (grown_set (grown_set (grown_set (World.grownBy.refl _ _) 0 _) 1 _) 2 _) 3 _) hn2
    have hcv := By.convert_ hyS
    obtain ⟨A4, c4, rfl, hc4, -⟩ := hyS.at_
    have bX6 := (((((bX5.set_ 0 (.int .i64 n1)).set_ 1 (.int .i64 n2)).set_ 2 (.int .i64 n3)).set_ 3 (.int .i64 n4)).set_ 6 (.string ⟨l4.toArray⟩))
    have bE6 := (((((bE5.far (p := ⟨w.heap.size + 2, 0, none⟩) (by simp) (.int .i64 n1)).far (p := ⟨w.heap.size + 2, 1, none⟩) (by simp) (.int .i64 n2)).far (p := ⟨w.heap.size + 2, 2, none⟩) (by simp) (.int .i64 n3)).far (p := ⟨w.heap.size + 2, 3, none⟩) (by simp) (.int .i64 n4)).far (p := ⟨w.heap.size + 2, 6, none⟩) (by simp) (.string ⟨l4.toArray⟩))
    have x0 := bX5.cell 0
    have x1 := bX5.cell 1
    have x2 := bX5.cell 2
    have x3 := bX5.cell 3
    have x6 := bX5.cell 6
    have f0 := bX5.frozen 0
    have f1 := bX5.frozen 1
    have f2 := bX5.frozen 2
    have f3 := bX5.frozen 3
    have f6 := bX5.frozen 6
    have r0 := bR5.cell 0
    have HY5 := Lib.hid hy5
    have HCH := Lib.hid hch
    clear hy5 hch hob hyS
    have bR6 := (((((bR5.far (p := ⟨w.heap.size + 2, 0, none⟩) (by simp) (.int .i64 n1)).far (p := ⟨w.heap.size + 2, 1, none⟩) (by simp) (.int .i64 n2)).far (p := ⟨w.heap.size + 2, 2, none⟩) (by simp) (.int .i64 n3)).far (p := ⟨w.heap.size + 2, 3, none⟩) (by simp) (.int .i64 n4)).far (p := ⟨w.heap.size + 2, 6, none⟩) (by simp) (.string ⟨l4.toArray⟩))
    have hb6 : Below w.heap.size w (((((W5.setCell ⟨w.heap.size + 2, 0, none⟩ (.int .i64 n1)).setCell ⟨w.heap.size + 2, 1, none⟩ (.int .i64 n2)).setCell ⟨w.heap.size + 2, 2, none⟩ (.int .i64 n3)).setCell ⟨w.heap.size + 2, 3, none⟩ (.int .i64 n4)).setCell ⟨w.heap.size + 2, 6, none⟩ (.string ⟨l4.toArray⟩)) := ((((hb5.setCell (by simp) _).setCell (by simp) _).setCell (by simp) _).setCell (by simp) _).setCell (by simp) _
    have hs6 : ((((((W5.setCell ⟨w.heap.size + 2, 0, none⟩ (.int .i64 n1)).setCell ⟨w.heap.size + 2, 1, none⟩ (.int .i64 n2)).setCell ⟨w.heap.size + 2, 2, none⟩ (.int .i64 n3)).setCell ⟨w.heap.size + 2, 3, none⟩ (.int .i64 n4)).setCell ⟨w.heap.size + 2, 6, none⟩ (.string ⟨l4.toArray⟩))).heap.size = w.heap.size + 3 := by simp only [size_setCell]; exact hs5
    simp only [List.setIfInBounds_toArray, List.set_cons_succ, List.set_cons_zero] at bX6
    go_wp2
    clear x0 x1 x2 x3 x6 f0 f1 f2 f3 f6 r0 bX5 bR5 bE5 hcv X5
    generalize (((((W5.setCell ⟨w.heap.size + 2, 0, none⟩ (.int .i64 n1)).setCell ⟨w.heap.size + 2, 1, none⟩ (.int .i64 n2)).setCell ⟨w.heap.size + 2, 2, none⟩ (.int .i64 n3)).setCell ⟨w.heap.size + 2, 3, none⟩ (.int .i64 n4)).setCell ⟨w.heap.size + 2, 6, none⟩ (.string ⟨l4.toArray⟩)) = W6 at *
    have X := (hb6.cell (p := ⟨b, off, none⟩) hbl).trans hcell
    have x0 := bX6.cell 0
    have x1 := bX6.cell 1
    have x2 := bX6.cell 2
    have x3 := bX6.cell 3
    have x4 := bX6.cell 4
    have x5 := bX6.cell 5
    have x6 := bX6.cell 6
    have r1 := bR6.cell 1
    have e0 := bE6.cell 0
    have e1 := bE6.cell 1
    have e2 := bE6.cell 2
    have e3 := bE6.cell 3
    have e4 := bE6.cell 4
    have e5 := bE6.cell 5
    have e6 := bE6.cell 6
    have f0 := bE6.frozen 0
    have f1 := bE6.frozen 1
    have f2 := bE6.frozen 2
    have f3 := bE6.frozen 3
    have f4 := bE6.frozen 4
    have f5 := bE6.frozen 5
    have f6 := bE6.frozen 6
    have hlt2 : w.heap.size + 2 < W6.heap.size := by omega
    have hlt0 : w.heap.size < W6.heap.size := by omega
    have hltb : b < W6.heap.size := by omega
    rcases HCH.out with ⟨rfl, hno⟩ | ⟨rfl, a, b', c', d, rfl, rfl, rfl, rfl, p1, p2, p3, p4⟩
    · have HNO := Lib.hid hno
      clear hno
      go_region
      go_wp2
      have B7 := (((((((bE6.set_ 0 (.int .i64 n1)).set_ 1 (.int .i64 n2)).set_ 2 (.int .i64 n3)).set_ 3 (.int .i64 n4)).set_ 4 (.int .i64 ((k.toNat : Int) % 16))).set_ 5 (.bool T)).set_ 6 (.string ⟨l4.toArray⟩))
      have L7 := (((((((hb6.setCell (p := ⟨w.heap.size, 0, none⟩) (Nat.le_refl _) (.int .i64 n1)).setCell (p := ⟨w.heap.size, 1, none⟩) (Nat.le_refl _) (.int .i64 n2)).setCell (p := ⟨w.heap.size, 2, none⟩) (Nat.le_refl _) (.int .i64 n3)).setCell (p := ⟨w.heap.size, 3, none⟩) (Nat.le_refl _) (.int .i64 n4)).setCell (p := ⟨w.heap.size, 4, none⟩) (Nat.le_refl _) (.int .i64 ((k.toNat : Int) % 16))).setCell (p := ⟨w.heap.size, 5, none⟩) (Nat.le_refl _) (.bool T)).setCell (p := ⟨w.heap.size, 6, none⟩) (Nat.le_refl _) (.string ⟨l4.toArray⟩))
      simp only [List.setIfInBounds_toArray, List.set_cons_succ, List.set_cons_zero] at B7
      have y0 := B7.cell 0
      have y1 := B7.cell 1
      have y2 := B7.cell 2
      have y3 := B7.cell 3
      have y4 := B7.cell 4
      have y5 := B7.cell 5
      have y6 := B7.cell 6
      exact bodyPost_ret (v := .tuple #[entV ⟨n1, n2, n3, n4, (k.toNat : Int) % 16, T, ⟨l4.toArray⟩⟩, .bool false]) (by simp [results, Try.results76, go_sem, entV, y0, y1, y2, y3, y4, y5, y6]) rfl ⟨⟨n1, n2, n3, n4, (k.toNat : Int) % 16, T, ⟨l4.toArray⟩⟩, false, rfl, fun e => by simp at e, fun _ => HNO.out k, L7.drew⟩
    · simp [numP, numGo] at p1
  · have hc2 : 2 ≤ c := by omega
    go_enter Try.func76, Try.ntmps76
    go_wp2
    have bE := (Blk.new w 55 #[.int .i64 0, .int .i64 0, .int .i64 0, .int .i64 0, .int .i64 0, .bool false, .string ⟨#[]⟩]).alloc (.cells #[(.slice (some ⟨b, off + 1, none⟩) r.length (c - 1)), .bool false] 97)
    have bR := Blk.new (w.alloc (.cells #[.int .i64 0, .int .i64 0, .int .i64 0, .int .i64 0, .int .i64 0, .bool false, .string ⟨#[]⟩] 55)) 97 #[(.slice (some ⟨b, off + 1, none⟩) r.length (c - 1)), .bool false]
    have hbw : Below w.heap.size w ((w.alloc (.cells #[.int .i64 0, .int .i64 0, .int .i64 0, .int .i64 0, .int .i64 0, .bool false, .string ⟨#[]⟩] 55)).alloc (.cells #[(.slice (some ⟨b, off + 1, none⟩) r.length (c - 1)), .bool false] 97)) := ((Below.refl _ _).alloc (Nat.le_refl _) _).alloc (by simp) _
    have hsz : ((w.alloc (.cells #[.int .i64 0, .int .i64 0, .int .i64 0, .int .i64 0, .int .i64 0, .bool false, .string ⟨#[]⟩] 55)).alloc (.cells #[(.slice (some ⟨b, off + 1, none⟩) r.length (c - 1)), .bool false] 97)).heap.size = w.heap.size + 2 := by simp
    simp only [World.size_alloc] at bR
    change Code.wp _ _ _ _ ((w.alloc (.cells #[.int .i64 0, .int .i64 0, .int .i64 0, .int .i64 0, .int .i64 0, .bool false, .string ⟨#[]⟩] 55)).alloc (.cells #[(.slice (some ⟨b, off + 1, none⟩) r.length (c - 1)), .bool false] 97))
    generalize (w.alloc (.cells #[.int .i64 0, .int .i64 0, .int .i64 0, .int .i64 0, .int .i64 0, .bool false, .string ⟨#[]⟩] 55)).alloc (.cells #[(.slice (some ⟨b, off + 1, none⟩) r.length (c - 1)), .bool false] 97) = W0 at *
    have X := (hbw.cell (p := ⟨b, off, none⟩) hbl).trans hcell
    have hlt : b < W0.heap.size := by omega
    have X2 : (W0.alloc (.cells #[.int .i64 0, .int .i64 0, .int .i64 0, .int .i64 0, .int .i64 0, .bool false, .string ⟨#[]⟩] 55)).cell? ⟨b, off, none⟩ = some (.int .u8 k.toNat) := (World.cell?_alloc_lt W0 _ _ hlt).trans X
    go_region
    go_wp2_with fail
    have bX : Blk (W0.alloc (.cells #[.int .i64 0, .int .i64 0, .int .i64 0, .int .i64 0, .int .i64 ((k.toNat : Int) % 16), .bool (bits .and .u8 (k.toNat : Int) 16 != 0), .string ⟨#[]⟩] 55)).drew (w.heap.size + 2) 55 #[.int .i64 0, .int .i64 0, .int .i64 0, .int .i64 0, .int .i64 ((k.toNat : Int) % 16), .bool (bits .and .u8 (k.toNat : Int) 16 != 0), .string ⟨#[]⟩] := by rw [← hsz]; exact Blk.new W0 _ _
    have bE1 : Blk (W0.alloc (.cells #[.int .i64 0, .int .i64 0, .int .i64 0, .int .i64 0, .int .i64 ((k.toNat : Int) % 16), .bool (bits .and .u8 (k.toNat : Int) 16 != 0), .string ⟨#[]⟩] 55)).drew w.heap.size 55 #[.int .i64 0, .int .i64 0, .int .i64 0, .int .i64 0, .int .i64 0, .bool false, .string ⟨#[]⟩] := bE.alloc _
    have bR1 : Blk (W0.alloc (.cells #[.int .i64 0, .int .i64 0, .int .i64 0, .int .i64 0, .int .i64 ((k.toNat : Int) % 16), .bool (bits .and .u8 (k.toNat : Int) 16 != 0), .string ⟨#[]⟩] 55)).drew (w.heap.size + 1) 97 #[(.slice (some ⟨b, off + 1, none⟩) r.length (c - 1)), .bool false] := bR.alloc _
    have hb1 : Below w.heap.size w (W0.alloc (.cells #[.int .i64 0, .int .i64 0, .int .i64 0, .int .i64 0, .int .i64 ((k.toNat : Int) % 16), .bool (bits .and .u8 (k.toNat : Int) 16 != 0), .string ⟨#[]⟩] 55)).drew := (hbw.alloc (by omega) _).drew
    have hs1 : (W0.alloc (.cells #[.int .i64 0, .int .i64 0, .int .i64 0, .int .i64 0, .int .i64 ((k.toNat : Int) % 16), .bool (bits .and .u8 (k.toNat : Int) 16 != 0), .string ⟨#[]⟩] 55)).drew.heap.size = w.heap.size + 3 := by simp [hsz]
    generalize (W0.alloc (.cells #[.int .i64 0, .int .i64 0, .int .i64 0, .int .i64 0, .int .i64 ((k.toNat : Int) % 16), .bool (bits .and .u8 (k.toNat : Int) 16 != 0), .string ⟨#[]⟩] 55)).drew = W1 at *
    generalize hT : (bits .and .u8 (k.toNat : Int) 16 != 0) = T at *
    have HT := Lib.hid hT
    clear hT
    have hy := (HA.out W1 (fun p hp => hb1.cell (p := p) (by rw [hp]; exact hbl)) hb1.size).2 hc1
    have st0 : RSt W1 W1 (w.heap.size + 1) (.slice (some ⟨b, off + 1, none⟩) r.length (c - 1)) false r (.slice (some ⟨b, off + 1, none⟩) r.length (c - 1)) := ⟨bR1, hy, rfl, World.grownBy.refl _ _, rfl⟩
    have hne : Value.ownBlock (.slice (some ⟨b, off + 1, none⟩) r.length (c - 1)) ≠ some (w.heap.size + 1) := by simp [Value.ownBlock]; omega
    clear bE bR hbw hsz X X2 hlt bR1 hy
    refine (rnum_step st0 hne).mono ?_
    rintro e W2 ⟨n1, v1, b1, l1, rfl, st1, np1⟩
    go_wp2_with fail
    refine (rnum_step st1 hne).mono ?_
    rintro e W3 ⟨n2, v2, b2, l2, rfl, st2, np2⟩
    go_wp2_with fail
    refine (rnum_step st2 hne).mono ?_
    rintro e W4 ⟨n3, v3, b3, l3, rfl, st3, np3⟩
    go_wp2_with fail
    refine (rnum_step st3 hne).mono ?_
    rintro e W5 ⟨n4, v4, b4, l4, rfl, st4, np4⟩
    have bE5 := bE1.grown st4.gr (by simp)
    have bX5 := bX.grown st4.gr (by simp)
    have bR5 := st4.blk
    have hb5 : Below w.heap.size w W5 := hb1.grown st4.gr hb1.size (fun k hk => by injection hk with hk; omega)
    have X5 : W5.cell? ⟨b, off, none⟩ = some (.int .u8 k.toNat) := (hb5.cell (p := ⟨b, off, none⟩) hbl).trans hcell
    have hs5 : W5.heap.size = w.heap.size + 3 := st4.sz.trans hs1
    have hch := np_chain np1 np2 np3 np4
    have hy5 := st4.by_
    have hob := st4.ob
    clear st0 st1 st2 st3 st4 np1 np2 np3 np4 bE1 bX hb1 hs1 hne
    have hbne : b ≠ w.heap.size + 2 := by omega
    have hyS : By ((((W5.setCell ⟨w.heap.size + 2, 0, none⟩ (.int .i64 n1)).setCell ⟨w.heap.size + 2, 1, none⟩ (.int .i64 n2)).setCell ⟨w.heap.size + 2, 2, none⟩ (.int .i64 n3)).setCell ⟨w.heap.size + 2, 3, none⟩ (.int .i64 n4)) v4 l4 := by
      have hn2 : v4.ownBlock ≠ some (w.heap.size + 2) := by rw [hob]; simp [Value.ownBlock]; omega
      exact By.grown hy5 (grown_set (grown_set (grown_set (grown_set (World.grownBy.refl _ _) 0 _) 1 _) 2 _) 3 _) hn2
    have hcv := By.convert_ hyS
    obtain ⟨A4, c4, rfl, hc4, -⟩ := hyS.at_
    have bX6 := (((((bX5.set_ 0 (.int .i64 n1)).set_ 1 (.int .i64 n2)).set_ 2 (.int .i64 n3)).set_ 3 (.int .i64 n4)).set_ 6 (.string ⟨l4.toArray⟩))
    have bE6 := (((((bE5.far (p := ⟨w.heap.size + 2, 0, none⟩) (by simp) (.int .i64 n1)).far (p := ⟨w.heap.size + 2, 1, none⟩) (by simp) (.int .i64 n2)).far (p := ⟨w.heap.size + 2, 2, none⟩) (by simp) (.int .i64 n3)).far (p := ⟨w.heap.size + 2, 3, none⟩) (by simp) (.int .i64 n4)).far (p := ⟨w.heap.size + 2, 6, none⟩) (by simp) (.string ⟨l4.toArray⟩))
    have x0 := bX5.cell 0
    have x1 := bX5.cell 1
    have x2 := bX5.cell 2
    have x3 := bX5.cell 3
    have x6 := bX5.cell 6
    have f0 := bX5.frozen 0
    have f1 := bX5.frozen 1
    have f2 := bX5.frozen 2
    have f3 := bX5.frozen 3
    have f6 := bX5.frozen 6
    have r0 := bR5.cell 0
    have HY5 := Lib.hid hy5
    have HCH := Lib.hid hch
    clear hy5 hch hob hyS
    have bR6 := (((((bR5.far (p := ⟨w.heap.size + 2, 0, none⟩) (by simp) (.int .i64 n1)).far (p := ⟨w.heap.size + 2, 1, none⟩) (by simp) (.int .i64 n2)).far (p := ⟨w.heap.size + 2, 2, none⟩) (by simp) (.int .i64 n3)).far (p := ⟨w.heap.size + 2, 3, none⟩) (by simp) (.int .i64 n4)).far (p := ⟨w.heap.size + 2, 6, none⟩) (by simp) (.string ⟨l4.toArray⟩))
    have hb6 : Below w.heap.size w (((((W5.setCell ⟨w.heap.size + 2, 0, none⟩ (.int .i64 n1)).setCell ⟨w.heap.size + 2, 1, none⟩ (.int .i64 n2)).setCell ⟨w.heap.size + 2, 2, none⟩ (.int .i64 n3)).setCell ⟨w.heap.size + 2, 3, none⟩ (.int .i64 n4)).setCell ⟨w.heap.size + 2, 6, none⟩ (.string ⟨l4.toArray⟩)) := ((((hb5.setCell (by simp) _).setCell (by simp) _).setCell (by simp) _).setCell (by simp) _).setCell (by simp) _
    have hs6 : ((((((W5.setCell ⟨w.heap.size + 2, 0, none⟩ (.int .i64 n1)).setCell ⟨w.heap.size + 2, 1, none⟩ (.int .i64 n2)).setCell ⟨w.heap.size + 2, 2, none⟩ (.int .i64 n3)).setCell ⟨w.heap.size + 2, 3, none⟩ (.int .i64 n4)).setCell ⟨w.heap.size + 2, 6, none⟩ (.string ⟨l4.toArray⟩))).heap.size = w.heap.size + 3 := by simp only [size_setCell]; exact hs5
    simp only [List.setIfInBounds_toArray, List.set_cons_succ, List.set_cons_zero] at bX6
    go_wp2
    clear x0 x1 x2 x3 x6 f0 f1 f2 f3 f6 r0 bX5 bR5 bE5 hcv X5
    generalize (((((W5.setCell ⟨w.heap.size + 2, 0, none⟩ (.int .i64 n1)).setCell ⟨w.heap.size + 2, 1, none⟩ (.int .i64 n2)).setCell ⟨w.heap.size + 2, 2, none⟩ (.int .i64 n3)).setCell ⟨w.heap.size + 2, 3, none⟩ (.int .i64 n4)).setCell ⟨w.heap.size + 2, 6, none⟩ (.string ⟨l4.toArray⟩)) = W6 at *
    have X := (hb6.cell (p := ⟨b, off, none⟩) hbl).trans hcell
    have x0 := bX6.cell 0
    have x1 := bX6.cell 1
    have x2 := bX6.cell 2
    have x3 := bX6.cell 3
    have x4 := bX6.cell 4
    have x5 := bX6.cell 5
    have x6 := bX6.cell 6
    have r1 := bR6.cell 1
    have e0 := bE6.cell 0
    have e1 := bE6.cell 1
    have e2 := bE6.cell 2
    have e3 := bE6.cell 3
    have e4 := bE6.cell 4
    have e5 := bE6.cell 5
    have e6 := bE6.cell 6
    have f0 := bE6.frozen 0
    have f1 := bE6.frozen 1
    have f2 := bE6.frozen 2
    have f3 := bE6.frozen 3
    have f4 := bE6.frozen 4
    have f5 := bE6.frozen 5
    have f6 := bE6.frozen 6
    have hlt2 : w.heap.size + 2 < W6.heap.size := by omega
    have hlt0 : w.heap.size < W6.heap.size := by omega
    have hltb : b < W6.heap.size := by omega
    rcases HCH.out with ⟨rfl, hno⟩ | ⟨rfl, a, b', c', d, rfl, rfl, rfl, rfl, p1, p2, p3, p4⟩
    · have HNO := Lib.hid hno
      clear hno
      go_region
      go_wp2
      have B7 := (((((((bE6.set_ 0 (.int .i64 n1)).set_ 1 (.int .i64 n2)).set_ 2 (.int .i64 n3)).set_ 3 (.int .i64 n4)).set_ 4 (.int .i64 ((k.toNat : Int) % 16))).set_ 5 (.bool T)).set_ 6 (.string ⟨l4.toArray⟩))
      have L7 := (((((((hb6.setCell (p := ⟨w.heap.size, 0, none⟩) (Nat.le_refl _) (.int .i64 n1)).setCell (p := ⟨w.heap.size, 1, none⟩) (Nat.le_refl _) (.int .i64 n2)).setCell (p := ⟨w.heap.size, 2, none⟩) (Nat.le_refl _) (.int .i64 n3)).setCell (p := ⟨w.heap.size, 3, none⟩) (Nat.le_refl _) (.int .i64 n4)).setCell (p := ⟨w.heap.size, 4, none⟩) (Nat.le_refl _) (.int .i64 ((k.toNat : Int) % 16))).setCell (p := ⟨w.heap.size, 5, none⟩) (Nat.le_refl _) (.bool T)).setCell (p := ⟨w.heap.size, 6, none⟩) (Nat.le_refl _) (.string ⟨l4.toArray⟩))
      simp only [List.setIfInBounds_toArray, List.set_cons_succ, List.set_cons_zero] at B7
      have y0 := B7.cell 0
      have y1 := B7.cell 1
      have y2 := B7.cell 2
      have y3 := B7.cell 3
      have y4 := B7.cell 4
      have y5 := B7.cell 5
      have y6 := B7.cell 6
      exact bodyPost_ret (v := .tuple #[entV ⟨n1, n2, n3, n4, (k.toNat : Int) % 16, T, ⟨l4.toArray⟩⟩, .bool false]) (by simp [results, Try.results76, go_sem, entV, y0, y1, y2, y3, y4, y5, y6]) rfl ⟨⟨n1, n2, n3, n4, (k.toNat : Int) % 16, T, ⟨l4.toArray⟩⟩, false, rfl, fun e => by simp at e, fun _ => HNO.out k, L7.drew⟩
    · have HP := Lib.hid (And.intro p1 (And.intro p2 (And.intro p3 p4)))
      clear p1 p2 p3 p4
      by_cases h32 : 32 ≤ k.toNat
      · have d32 : decide ((k.toNat : Int) < 32) = false := decide_eq_false (by omega)
        go_region
        go_wp2
        have B7 := (((((((bE6.set_ 0 (.int .i64 (a : Int))).set_ 1 (.int .i64 (b' : Int))).set_ 2 (.int .i64 (c' : Int))).set_ 3 (.int .i64 (d : Int))).set_ 4 (.int .i64 ((k.toNat : Int) % 16))).set_ 5 (.bool T)).set_ 6 (.string ⟨l4.toArray⟩))
        have L7 := (((((((hb6.setCell (p := ⟨w.heap.size, 0, none⟩) (Nat.le_refl _) (.int .i64 (a : Int))).setCell (p := ⟨w.heap.size, 1, none⟩) (Nat.le_refl _) (.int .i64 (b' : Int))).setCell (p := ⟨w.heap.size, 2, none⟩) (Nat.le_refl _) (.int .i64 (c' : Int))).setCell (p := ⟨w.heap.size, 3, none⟩) (Nat.le_refl _) (.int .i64 (d : Int))).setCell (p := ⟨w.heap.size, 4, none⟩) (Nat.le_refl _) (.int .i64 ((k.toNat : Int) % 16))).setCell (p := ⟨w.heap.size, 5, none⟩) (Nat.le_refl _) (.bool T)).setCell (p := ⟨w.heap.size, 6, none⟩) (Nat.le_refl _) (.string ⟨l4.toArray⟩))
        simp only [List.setIfInBounds_toArray, List.set_cons_succ, List.set_cons_zero] at B7
        have y0 := B7.cell 0
        have y1 := B7.cell 1
        have y2 := B7.cell 2
        have y3 := B7.cell 3
        have y4 := B7.cell 4
        have y5 := B7.cell 5
        have y6 := B7.cell 6
        exact bodyPost_ret (v := .tuple #[entV ⟨(a : Int), (b' : Int), (c' : Int), (d : Int), (k.toNat : Int) % 16, T, ⟨l4.toArray⟩⟩, .bool false]) (by simp [results, Try.results76, go_sem, entV, y0, y1, y2, y3, y4, y5, y6]) rfl ⟨⟨(a : Int), (b' : Int), (c' : Int), (d : Int), (k.toNat : Int) % 16, T, ⟨l4.toArray⟩⟩, false, rfl, fun e => by simp at e, fun _ => entP_big h32, L7.drew⟩
      · have d32 : decide ((k.toNat : Int) < 32) = true := decide_eq_true (by omega)
        obtain rfl : decide (k.toNat / 16 = 1) = T := (and16 k (by omega)).symm.trans HT.out
        have hval := entP_val h32 HP.out.1 HP.out.2.1 HP.out.2.2.1 HP.out.2.2.2
        have HV := Lib.hid hval
        clear hval
        generalize hF : entryFault (a : Int) (b' : Int) (c' : Int) (d : Int) ((k.toNat : Int) % 16) (decide (k.toNat / 16 = 1)) (⟨l4.toArray⟩ : ByteArray).size = F at *
        have HF := Lib.hid hF
        clear hF
        generalize hTT : decide (k.toNat / 16 = 1) = T at *
        have HTT := Lib.hid hTT
        clear hTT
        have hq1 : (F == 0) = true → entP (k :: r) = some ⟨(a : Int), (b' : Int), (c' : Int), (d : Int), (k.toNat : Int) % 16, T, ⟨l4.toArray⟩⟩ := fun e => by rw [HV.out]; exact if_pos (by simpa using e)
        have hq2 : (F == 0) = false → entP (k :: r) = none := fun e => by rw [HV.out]; exact if_neg (by simpa using e)
        have HQ1 := Lib.hid hq1
        have HQ2 := Lib.hid hq2
        clear hq1 hq2
        have hsz4 : (⟨l4.toArray⟩ : ByteArray).size = l4.length := by simp [ByteArray.size]
        have HF2 := Lib.hid (hsz4 ▸ HF.out)
        clear hsz4
        go_region_with ((go_at_call 95; refine (wireCheck_any _ _ _ _ _ _ _ _).mono ?_; rintro e W7 ⟨rfl, hb7⟩; have hb67 := below_then ((Below.refl W6.heap.size W6).drew) hb7; have bX7 := bX6.below hb67 hlt2; have bE7 := bE6.below hb67 hlt0; have z0 := bX7.cell 0; have z1 := bX7.cell 1; have z2 := bX7.cell 2; have z3 := bX7.cell 3; have z4 := bX7.cell 4; have z5 := bX7.cell 5; have z6 := bX7.cell 6; have g0 := bE7.cell 0; have g1 := bE7.cell 1; have g2 := bE7.cell 2; have g3 := bE7.cell 3; have g4 := bE7.cell 4; have g5 := bE7.cell 5; have g6 := bE7.cell 6; have k0 := bE7.frozen 0; have k1 := bE7.frozen 1; have k2 := bE7.frozen 2; have k3 := bE7.frozen 3; have k4 := bE7.frozen 4; have k5 := bE7.frozen 5; have k6 := bE7.frozen 6; have hb07 := hb6.trans (hb67.mono hb6.size)))
        all_goals go_wp2
        all_goals (
          have B7 := (((((((bE7.set_ 0 (.int .i64 (a : Int))).set_ 1 (.int .i64 (b' : Int))).set_ 2 (.int .i64 (c' : Int))).set_ 3 (.int .i64 (d : Int))).set_ 4 (.int .i64 ((k.toNat : Int) % 16))).set_ 5 (.bool T)).set_ 6 (.string ⟨l4.toArray⟩))
          have L7 := (((((((hb07.setCell (p := ⟨w.heap.size, 0, none⟩) (Nat.le_refl _) (.int .i64 (a : Int))).setCell (p := ⟨w.heap.size, 1, none⟩) (Nat.le_refl _) (.int .i64 (b' : Int))).setCell (p := ⟨w.heap.size, 2, none⟩) (Nat.le_refl _) (.int .i64 (c' : Int))).setCell (p := ⟨w.heap.size, 3, none⟩) (Nat.le_refl _) (.int .i64 (d : Int))).setCell (p := ⟨w.heap.size, 4, none⟩) (Nat.le_refl _) (.int .i64 ((k.toNat : Int) % 16))).setCell (p := ⟨w.heap.size, 5, none⟩) (Nat.le_refl _) (.bool T)).setCell (p := ⟨w.heap.size, 6, none⟩) (Nat.le_refl _) (.string ⟨l4.toArray⟩))
          simp only [List.setIfInBounds_toArray, List.set_cons_succ, List.set_cons_zero] at B7
          have y0 := B7.cell 0
          have y1 := B7.cell 1
          have y2 := B7.cell 2
          have y3 := B7.cell 3
          have y4 := B7.cell 4
          have y5 := B7.cell 5
          have y6 := B7.cell 6
          exact bodyPost_ret (v := .tuple #[entV ⟨(a : Int), (b' : Int), (c' : Int), (d : Int), (k.toNat : Int) % 16, T, ⟨l4.toArray⟩⟩, .bool (F == 0)]) (by simp [results, Try.results76, go_sem, entV, y0, y1, y2, y3, y4, y5, y6, HF2.out]) rfl ⟨⟨(a : Int), (b' : Int), (c' : Int), (d : Int), (k.toNat : Int) % 16, T, ⟨l4.toArray⟩⟩, (F == 0), rfl, HQ1.out, HQ2.out, L7⟩)
end Go.Proofs.Ytpjjfnpdopdnkaa
