/- tailraceref.NewOf. -/
import Derived.Test.YtpjjfnpdopdnkaaPmNew
namespace Go.Proofs.Ytpjjfnpdopdnkaa
open Go.RowKit
attribute [local go_sem ↓] Go.wp_at_zero Go.wp_at_succ

theorem lit_n (w : World) (e : TypeId) (cs : Array Value) (size n g : Nat) (h : cs.size = n * size) (hg : g = w.heap.size) : Sl (w.alloc (.cells cs e)) size (.slice (some ⟨g, 0, none⟩) n n) n cs.toList := by
  subst hg
  exact Sl.lit w e cs size n h
def newP (a b c : Nat) (few : Int) : PartD := ⟨0, -1, List.replicate a true, List.replicate b 0, List.replicate c ⟨true, [], 0, 0⟩, few, 0⟩
theorem PO.formN {base : Nat} {w : World} {a b c : Nat} {few : Int} {iv kv rv : Value} (h : PO base w (newP a b c few) iv kv rv) : ∃ A1 c1 A3 c3 A5 c5, iv = .slice A1 a c1 ∧ kv = .slice A3 b c3 ∧ rv = .slice A5 c c5 := by
  obtain ⟨A1, c1, A3, c3, A5, c5, h1, h2, h3⟩ := h.form
  simp only [newP, List.length_replicate] at h1 h2 h3
  exact ⟨A1, c1, A3, c3, A5, c5, h1, h2, h3⟩
theorem PO.ownI {base : Nat} {w : World} {a b c : Nat} {few : Int} {iv kv rv : Value} (h : PO base w (newP a b c few) iv kv rv) : w.ownsRow base 4 1 iv a ((List.replicate a true).map Value.bool) := own_eq h.isr (by simp [newP]) rfl
theorem PO.ownK {base : Nat} {w : World} {a b c : Nat} {few : Int} {iv kv rv : Value} (h : PO base w (newP a b c few) iv kv rv) : w.ownsRow base 3 1 kv b ((List.replicate b (0 : Int)).map (Value.int .i64)) := own_eq h.known (by simp [newP]) rfl
theorem PO.pushI {base : Nat} {w w' : World} {a b c : Nat} {few : Int} {iv kv rv v7 : Value} {o : Obj} (h : PO base w (newP a b c few) iv kv rv) (hg : (w.alloc o).grownBy w' iv.ownBlock) (h7 : w'.ownsRow base 4 1 v7 (a + 1) ((List.replicate a true).map Value.bool ++ [.bool true])) : PO base w' (newP (a + 1) b c few) v7 kv rv := by
  have := h.pushIsr (x := true) (n := a) (by simp [newP]) hg h7
  simpa only [newP, List.replicate_succ'] using this
theorem PO.pushK {base : Nat} {w w' : World} {a b c : Nat} {few : Int} {iv kv rv v7 : Value} {o : Obj} (h : PO base w (newP a b c few) iv kv rv) (hg : (w.alloc o).grownBy w' kv.ownBlock) (h7 : w'.ownsRow base 3 1 v7 (b + 1) ((List.replicate b (0 : Int)).map (Value.int .i64) ++ [.int .i64 0])) : PO base w' (newP a (b + 1) c few) iv v7 rv := by
  have := h.pushKnown (x := 0) (n := b) (by simp [newP]) hg h7
  simpa only [newP, List.replicate_succ'] using this
set_option maxRecDepth 100000 in
set_option maxHeartbeats 4000000 in
theorem newOf_good (n : Nat) (few : Int) (h1 : 1 ≤ n) (h2 : n ≤ 5) (h3 : 1 ≤ few) (h4 : few ≤ n) (w : World) : Calls Try.prog 24 #[.int .i64 n, .int .i64 few] w (OwnsP (newD n few) w) := by
  obtain ⟨i0, hi0, hy0, hy1, hy2'⟩ := info_parts bool_info
  obtain ⟨j0, hj0, hx0, hx1', hx2'⟩ := info_parts int_info
  obtain ⟨m0, hm0, hz0, hz1, hz2'⟩ := info_parts rep_info
  have z1 : inB (n : Int) 1 5 = true := by
    unfold inB
    simp only [Bool.and_eq_true, decide_eq_true_eq]
    omega
  have z2 : inB few 1 n = true := by
    unfold inB
    simp only [Bool.and_eq_true, decide_eq_true_eq]
    omega
  have Z1 := Lib.hid z1
  have Z2 := Lib.hid z2
  clear z1 z2
  go_enter Try.func24, Try.ntmps24
  go_wp2_with (go_at_call 69; refine (In_any _ _ _ _).mono ?_; rintro e w9 ⟨rfl, rfl⟩; first | rw [Z1.out] | rw [Z2.out])
  have bz := (Blk.new w 26 #[.int .i64 0, .int .i64 0, .slice none 0 0, .slice none 0 0, .slice none 0 0, .int .i64 0, .int .i64 0]).alloc (.cells #[.int .i64 0, .int .i64 (-1), .slice none 0 0, .slice none 0 0, .slice none 0 0, .int .i64 few, .int .i64 0] 26)
  have bn := Blk.new_ (w.alloc (.cells #[.int .i64 0, .int .i64 0, .slice none 0 0, .slice none 0 0, .slice none 0 0, .int .i64 0, .int .i64 0] 26)) 26 #[.int .i64 0, .int .i64 (-1), .slice none 0 0, .slice none 0 0, .slice none 0 0, .int .i64 few, .int .i64 0] (g := w.heap.size + 1) (by simp)
  have hbl : Below w.heap.size w ((w.alloc (.cells #[.int .i64 0, .int .i64 0, .slice none 0 0, .slice none 0 0, .slice none 0 0, .int .i64 0, .int .i64 0] 26)).alloc (.cells #[.int .i64 0, .int .i64 (-1), .slice none 0 0, .slice none 0 0, .slice none 0 0, .int .i64 few, .int .i64 0] 26)) := ((Below.refl _ _).alloc (Nat.le_refl _) _).alloc (by simp) _
  have hsz0 : w.heap.size + 2 ≤ ((w.alloc (.cells #[.int .i64 0, .int .i64 0, .slice none 0 0, .slice none 0 0, .slice none 0 0, .int .i64 0, .int .i64 0] 26)).alloc (.cells #[.int .i64 0, .int .i64 (-1), .slice none 0 0, .slice none 0 0, .slice none 0 0, .int .i64 few, .int .i64 0] 26)).heap.size := by simp
  generalize (w.alloc (.cells #[.int .i64 0, .int .i64 0, .slice none 0 0, .slice none 0 0, .slice none 0 0, .int .i64 0, .int .i64 0] 26)).alloc (.cells #[.int .i64 0, .int .i64 (-1), .slice none 0 0, .slice none 0 0, .slice none 0 0, .int .i64 few, .int .i64 0] 26) = W0 at *
  have HBZ0 := Lib.hid bz
  have HBN0 := Lib.hid bn
  have HBL0 := Lib.hid hbl
  clear bz bn hbl Z1 Z2
  go_loopw [7] (fun i wr => ∃ (k : Nat) (iv kv rv : Value), k ≤ n ∧ i = .int .i64 k ∧ Hid (PO (w.heap.size + 2) wr (newP k k k few) iv kv rv) ∧ Hid (Blk wr (w.heap.size + 1) 26 #[.int .i64 0, .int .i64 (-1), iv, kv, rv, .int .i64 few, .int .i64 0]) ∧ Hid (Blk wr w.heap.size 26 #[.int .i64 0, .int .i64 0, .slice none 0 0, .slice none 0 0, .slice none 0 0, .int .i64 0, .int .i64 0]) ∧ Hid (Below w.heap.size w wr) ∧ w.heap.size + 2 ≤ wr.heap.size) (fun i _ => n - (intOf i).toNat)
  case atStart => exact ⟨0, _, _, _, Nat.zero_le _, rfl, Lib.hid (PO.nil _ _ _ _ _ _), HBN0, HBZ0, HBL0, hsz0⟩
  case round =>
    clear HBN0 HBZ0 HBL0 hsz0
    obtain ⟨k, iv, kv, rv, hk, rfl, HO, HN, HZ, HB, hs⟩ := hrel
    obtain ⟨B1, d1, B3, d3, B5, d5, rfl, rfl, rfl⟩ := HO.out.formN
    by_cases hlt : k < n
    · have k0 : (0 : Int) ≤ (k : Int) := by omega
      have k1 : (k : Int) < (n : Int) := by omega
      have HE := Lib.hid (show ∀ g, (Value.slice B1 k d1).ownBlock = some g → w.heap.size + 2 ≤ g from fun g hg => (HO.out.ownI.lt g hg).1)
      have q2 : wr.cell? ⟨w.heap.size + 1, 2, none⟩ = some (.slice B1 k d1) := HN.out.cell 2
      have ql : w.heap.size + 1 < wr.heap.size := HN.out.lt
      go_upto_region 8 with (at_builtin; go_must (refine wpList_append_sl _ rfl (.tmp 26) (.tmp 27) 22 rfl (w.heap.size + 2) 4 i0 (.bool false) 1 1 Try.underlying22 hi0 hy0 hy1 hy2' rfl (by decide) _ _ _ (by rfl) (HO.out.ownI.alloc _) _ 1 _ (by rfl) (lit_n _ _ _ 1 1 _ rfl (by simp)) (bools_one [true]) (by simp only [maxLen]; omega) (by omega) (by simp; omega) ?_; intro v7 w7 ho7 hg7 ha7; obtain ⟨A7, c7, rfl, hc7⟩ := (Sl.of_own ho7).form; have bn7 := (HN.out.alloc _).grown hg7 (fun e => by have := HE.out _ e.symm; omega); have c7' : w7.cell? ⟨w.heap.size + 1, 2, none⟩ = some (.slice B1 k d1) := bn7.cell 2; have f7 : w7.frozen? ⟨w.heap.size + 1, 2, none⟩ = false := bn7.frozen 2; have l7 : w.heap.size + 1 < w7.heap.size := bn7.lt))
      clear q2 ql c7' f7 l7
      have hpu := (HO.out.pushI hg7 ho7).under (a := ⟨w.heap.size + 1, 2, none⟩) (by show w.heap.size + 1 < w.heap.size + 2; omega) (.slice A7 (k + 1) c7)
      have hb7 : Below w.heap.size w w7 := (HB.out.alloc (by omega) _).grown hg7 (by simp; omega) (fun b hb => by have := HE.out b hb; omega)
      have hs7 := hg7.size
      have hz8 := ((HZ.out.alloc _).grown hg7 (fun e => by have := HE.out _ e.symm; omega)).far (p := ⟨w.heap.size + 1, 2, none⟩) (by show w.heap.size ≠ w.heap.size + 1; omega) (.slice A7 (k + 1) c7)
      have bn8 := bn7.set_ 2 (.slice A7 (k + 1) c7)
      simp only [List.setIfInBounds_toArray, List.set_cons_succ, List.set_cons_zero] at bn8
      have hb8 := hb7.setCell (p := ⟨w.heap.size + 1, 2, none⟩) (by show w.heap.size ≤ w.heap.size + 1; omega) (.slice A7 (k + 1) c7)
      have hsA : w.heap.size + 2 ≤ (w7.setCell ⟨w.heap.size + 1, 2, none⟩ (.slice A7 (k + 1) c7)).heap.size := by simp at hs7 ⊢; omega
      generalize w7.setCell ⟨w.heap.size + 1, 2, none⟩ (.slice A7 (k + 1) c7) = wrA at *
      have HOA := Lib.hid hpu
      have HNA := Lib.hid bn8
      have HZA := Lib.hid hz8
      have HBA := Lib.hid hb8
      clear hpu hb7 hs7 hz8 bn8 hb8 bn7 ho7 hg7 ha7 HO HN HZ HB HE
      obtain ⟨X2, hX2⟩ : ∃ X, X = A7 := ⟨_, rfl⟩
      obtain ⟨y2, hy2⟩ : ∃ y, y = c7 := ⟨_, rfl⟩
      rw [← hX2, ← hy2] at HOA HNA
      rw [← hX2, ← hy2]
      clear hX2 hy2
      have HEA := Lib.hid (show ∀ g, (Value.slice B3 k d3).ownBlock = some g → w.heap.size + 2 ≤ g from fun g hg => (HOA.out.ownK.lt g hg).1)
      have q3 : wrA.cell? ⟨w.heap.size + 1, 3, none⟩ = some (.slice B3 k d3) := HNA.out.cell 3
      have ql : w.heap.size + 1 < wrA.heap.size := HNA.out.lt
      go_upto_region 9 with (at_builtin; go_must (refine wpList_append_sl _ rfl (.tmp 31) (.tmp 32) 23 rfl (w.heap.size + 2) 3 j0 (.int .i64 0) 1 8 Try.underlying23 hj0 hx0 hx1' hx2' rfl (by decide) _ _ _ (by rfl) (HOA.out.ownK.alloc _) _ 1 _ (by rfl) (lit_n _ _ _ 1 1 _ rfl (by simp)) (ints_one [0]) (by simp only [maxLen]; omega) (by omega) (by simp; omega) ?_; intro v7 w7 ho7 hg7 ha7; obtain ⟨A7, c7, rfl, hc7⟩ := (Sl.of_own ho7).form; have bn7 := (HNA.out.alloc _).grown hg7 (fun e => by have := HEA.out _ e.symm; omega); have c7' : w7.cell? ⟨w.heap.size + 1, 3, none⟩ = some (.slice B3 k d3) := bn7.cell 3; have f7 : w7.frozen? ⟨w.heap.size + 1, 3, none⟩ = false := bn7.frozen 3; have l7 : w.heap.size + 1 < w7.heap.size := bn7.lt))
      clear q3 ql c7' f7 l7
      have hpu := (HOA.out.pushK hg7 ho7).under (a := ⟨w.heap.size + 1, 3, none⟩) (by show w.heap.size + 1 < w.heap.size + 2; omega) (.slice A7 (k + 1) c7)
      have hb7 : Below w.heap.size w w7 := (HBA.out.alloc (by omega) _).grown hg7 (by simp; omega) (fun b hb => by have := HEA.out b hb; omega)
      have hs7 := hg7.size
      have hz8 := ((HZA.out.alloc _).grown hg7 (fun e => by have := HEA.out _ e.symm; omega)).far (p := ⟨w.heap.size + 1, 3, none⟩) (by show w.heap.size ≠ w.heap.size + 1; omega) (.slice A7 (k + 1) c7)
      have bn8 := bn7.set_ 3 (.slice A7 (k + 1) c7)
      simp only [List.setIfInBounds_toArray, List.set_cons_succ, List.set_cons_zero] at bn8
      have hb8 := hb7.setCell (p := ⟨w.heap.size + 1, 3, none⟩) (by show w.heap.size ≤ w.heap.size + 1; omega) (.slice A7 (k + 1) c7)
      have hsB : w.heap.size + 2 ≤ (w7.setCell ⟨w.heap.size + 1, 3, none⟩ (.slice A7 (k + 1) c7)).heap.size := by simp at hs7 ⊢; omega
      generalize w7.setCell ⟨w.heap.size + 1, 3, none⟩ (.slice A7 (k + 1) c7) = wrB at *
      have HOB := Lib.hid hpu
      have HNB := Lib.hid bn8
      have HZB := Lib.hid hz8
      have HBB := Lib.hid hb8
      clear hpu hb7 hs7 hz8 bn8 hb8 bn7 ho7 hg7 ha7 HOA HNA HZA HBA HEA
      obtain ⟨X3, hX3⟩ : ∃ X, X = A7 := ⟨_, rfl⟩
      obtain ⟨y3, hy3⟩ : ∃ y, y = c7 := ⟨_, rfl⟩
      rw [← hX3, ← hy3] at HOB HNB
      rw [← hX3, ← hy3]
      clear hX3 hy3 A7 c7 hc7
      obtain ⟨q1, q2, rows, q3, q4, q5⟩ := HOB.out
      have hot := own_eq q4 (show (newP (k + 1) (k + 1) k few).reps.length = k by simp [newP]) rfl
      have HOT := Lib.hid hot
      have Q1 := Lib.hid q1
      have Q2 := Lib.hid q2
      have Q3 := Lib.hid q3
      have Q4 := Lib.hid q4
      have Q5 := Lib.hid q5
      clear q1 q2 q3 q4 q5 hot
      have HEB := Lib.hid (show ∀ g, (Value.slice B5 k d5).ownBlock = some g → w.heap.size + 2 ≤ g from fun g hg => (HOT.out.lt g hg).1)
      have q4 : wrB.cell? ⟨w.heap.size + 1, 4, none⟩ = some (.slice B5 k d5) := HNB.out.cell 4
      have ql : w.heap.size + 1 < wrB.heap.size := HNB.out.lt
      go_upto_region 6 with (at_builtin; go_must (refine wpList_append_sl _ rfl (.tmp 36) (.tmp 38) 24 rfl (w.heap.size + 2) 71 m0 (.agg #[.bool false, .slice none 0 0, .int .i64 0, .int .i64 0]) 4 48 Try.underlying24 hm0 hz0 hz1 hz2' rfl (by decide) _ _ _ (by rfl) (HOT.out.alloc _) _ 1 _ (by rfl) (lit_n _ _ _ 4 1 _ rfl (by simp)) (rcells_one [(⟨true, [], 0, 0⟩, .slice none 0 0)] (by intro t ht; simp only [List.mem_singleton] at ht; subst ht; rfl)) (by simp only [maxLen]; omega) (by omega) (by simp; omega) ?_; intro v7 w7 ho7 hg7 ha7; obtain ⟨A7, c7, rfl, hc7⟩ := (Sl.of_own ho7).form; have bn7 := (HNB.out.alloc _).grown hg7 (fun e => by have := HEB.out _ e.symm; omega); have c7' : w7.cell? ⟨w.heap.size + 1, 4, none⟩ = some (.slice B5 k d5) := bn7.cell 4; have f7 : w7.frozen? ⟨w.heap.size + 1, 4, none⟩ = false := bn7.frozen 4; have l7 : w.heap.size + 1 < w7.heap.size := bn7.lt))
      clear q4 ql c7' f7 l7
      have hp9 : PO (w.heap.size + 2) w7 (newP (k + 1) (k + 1) (k + 1) few) (.slice X2 (k + 1) y2) (.slice X3 (k + 1) y3) (.slice A7 (k + 1) c7) := by
        have := PO.pushRep (c := newP (k + 1) (k + 1) k few) (t := ⟨true, [], 0, 0⟩) (n := k) Q1.out Q2.out Q3.out Q4.out Q5.out (by simp [newP]) hg7 (World.ownsRow_nil _ _ _ _) ho7
        simpa only [newP, List.replicate_succ'] using this
      have hpu := hp9.under (a := ⟨w.heap.size + 1, 4, none⟩) (by show w.heap.size + 1 < w.heap.size + 2; omega) (.slice A7 (k + 1) c7)
      have hb7 : Below w.heap.size w w7 := (HBB.out.alloc (by omega) _).grown hg7 (by simp; omega) (fun b hb => by have := HEB.out b hb; omega)
      have hs7 := hg7.size
      have hz8 := ((HZB.out.alloc _).grown hg7 (fun e => by have := HEB.out _ e.symm; omega)).far (p := ⟨w.heap.size + 1, 4, none⟩) (by show w.heap.size ≠ w.heap.size + 1; omega) (.slice A7 (k + 1) c7)
      have bn8 := bn7.set_ 4 (.slice A7 (k + 1) c7)
      simp only [List.setIfInBounds_toArray, List.set_cons_succ, List.set_cons_zero] at bn8
      have hb8 := hb7.setCell (p := ⟨w.heap.size + 1, 4, none⟩) (by show w.heap.size ≤ w.heap.size + 1; omega) (.slice A7 (k + 1) c7)
      have hsC : w.heap.size + 2 ≤ (w7.setCell ⟨w.heap.size + 1, 4, none⟩ (.slice A7 (k + 1) c7)).heap.size := by simp at hs7 ⊢; omega
      generalize w7.setCell ⟨w.heap.size + 1, 4, none⟩ (.slice A7 (k + 1) c7) = wrC at *
      have HOC := Lib.hid hpu
      have HNC := Lib.hid bn8
      have HZC := Lib.hid hz8
      have HBC := Lib.hid hb8
      clear hpu hp9 hb7 hs7 hz8 bn8 hb8 bn7 ho7 hg7 ha7 HOB HNB HZB HBB HEB
      obtain ⟨X4, hX4⟩ : ∃ X, X = A7 := ⟨_, rfl⟩
      obtain ⟨y4, hy4⟩ : ∃ y, y = c7 := ⟨_, rfl⟩
      rw [← hX4, ← hy4] at HOC HNC
      rw [← hX4, ← hy4]
      clear hX4 hy4 A7 c7 hc7
      go_wp2
      go_light
      exact ⟨⟨k + 1, _, _, _, by omega, by go_num, HOC, HNC, HZC, HBC, hsC⟩, by simp [intOf]; omega⟩
    · obtain rfl : k = n := by omega
      have HPD := Lib.hid (show PO (w.heap.size + 2) wr (newD k few) (.slice B1 k d1) (.slice B3 k d3) (.slice B5 k d5) from HO.out)
      clear HO
      have c_bp0 := HN.out.cell 0
      have c_bp1 := HN.out.cell 1
      have c_bp2 := HN.out.cell 2
      have c_bp3 := HN.out.cell 3
      have c_bp4 := HN.out.cell 4
      have c_bp5 := HN.out.cell 5
      have c_bp6 := HN.out.cell 6
      have l_bp := HN.out.lt
      have c_bz0 := HZ.out.cell 0
      have f_bz0 := HZ.out.frozen 0
      have c_bz1 := HZ.out.cell 1
      have f_bz1 := HZ.out.frozen 1
      have c_bz2 := HZ.out.cell 2
      have f_bz2 := HZ.out.frozen 2
      have c_bz3 := HZ.out.cell 3
      have f_bz3 := HZ.out.frozen 3
      have c_bz4 := HZ.out.cell 4
      have f_bz4 := HZ.out.frozen 4
      have c_bz5 := HZ.out.cell 5
      have f_bz5 := HZ.out.frozen 5
      have c_bz6 := HZ.out.cell 6
      have f_bz6 := HZ.out.frozen 6
      have l_bz := HZ.out.lt
      go_wp2
      clear c_bp0 c_bp1 c_bp2 c_bp3 c_bp4 c_bp5 c_bp6 l_bp c_bz0 f_bz0 c_bz1 f_bz1 c_bz2 f_bz2 c_bz3 f_bz3 c_bz4 f_bz4 c_bz5 f_bz5 c_bz6 f_bz6 l_bz
      have hszF := HB.out.size
      have hbF : Below w.heap.size w (((((((wr.setCell ⟨w.heap.size, 0, none⟩ (.int .i64 0)).setCell ⟨w.heap.size, 1, none⟩ (.int .i64 (-1))).setCell ⟨w.heap.size, 2, none⟩ (.slice B1 k d1)).setCell ⟨w.heap.size, 3, none⟩ (.slice B3 k d3)).setCell ⟨w.heap.size, 4, none⟩ (.slice B5 k d5)).setCell ⟨w.heap.size, 5, none⟩ (.int .i64 few)).setCell ⟨w.heap.size, 6, none⟩ (.int .i64 0)) := (((((((HB.out).setCell (by show w.heap.size ≤ w.heap.size; omega) _).setCell (by show w.heap.size ≤ w.heap.size; omega) _).setCell (by show w.heap.size ≤ w.heap.size; omega) _).setCell (by show w.heap.size ≤ w.heap.size; omega) _).setCell (by show w.heap.size ≤ w.heap.size; omega) _).setCell (by show w.heap.size ≤ w.heap.size; omega) _).setCell (by show w.heap.size ≤ w.heap.size; omega) _
      have b_bpF : Blk (((((((wr.setCell ⟨w.heap.size, 0, none⟩ (.int .i64 0)).setCell ⟨w.heap.size, 1, none⟩ (.int .i64 (-1))).setCell ⟨w.heap.size, 2, none⟩ (.slice B1 k d1)).setCell ⟨w.heap.size, 3, none⟩ (.slice B3 k d3)).setCell ⟨w.heap.size, 4, none⟩ (.slice B5 k d5)).setCell ⟨w.heap.size, 5, none⟩ (.int .i64 few)).setCell ⟨w.heap.size, 6, none⟩ (.int .i64 0)) (w.heap.size + 1) 26 #[.int .i64 0, .int .i64 (-1), .slice B1 k d1, .slice B3 k d3, .slice B5 k d5, .int .i64 few, .int .i64 0] := (((((((HN.out).far (p := ⟨w.heap.size, 0, none⟩) (by show w.heap.size + 1 ≠ w.heap.size; omega) _).far (p := ⟨w.heap.size, 1, none⟩) (by show w.heap.size + 1 ≠ w.heap.size; omega) _).far (p := ⟨w.heap.size, 2, none⟩) (by show w.heap.size + 1 ≠ w.heap.size; omega) _).far (p := ⟨w.heap.size, 3, none⟩) (by show w.heap.size + 1 ≠ w.heap.size; omega) _).far (p := ⟨w.heap.size, 4, none⟩) (by show w.heap.size + 1 ≠ w.heap.size; omega) _).far (p := ⟨w.heap.size, 5, none⟩) (by show w.heap.size + 1 ≠ w.heap.size; omega) _).far (p := ⟨w.heap.size, 6, none⟩) (by show w.heap.size + 1 ≠ w.heap.size; omega) _
      have b_bzF : Blk (((((((wr.setCell ⟨w.heap.size, 0, none⟩ (.int .i64 0)).setCell ⟨w.heap.size, 1, none⟩ (.int .i64 (-1))).setCell ⟨w.heap.size, 2, none⟩ (.slice B1 k d1)).setCell ⟨w.heap.size, 3, none⟩ (.slice B3 k d3)).setCell ⟨w.heap.size, 4, none⟩ (.slice B5 k d5)).setCell ⟨w.heap.size, 5, none⟩ (.int .i64 few)).setCell ⟨w.heap.size, 6, none⟩ (.int .i64 0)) (w.heap.size) 26 #[.int .i64 0, .int .i64 (-1), .slice B1 k d1, .slice B3 k d3, .slice B5 k d5, .int .i64 few, .int .i64 0] := (((((((HZ.out).set_ 0 _).set_ 1 _).set_ 2 _).set_ 3 _).set_ 4 _).set_ 5 _).set_ 6 _
      have k_ownF := (((((((HPD.out).under (a := ⟨w.heap.size, 0, none⟩) (by (try dsimp only); omega) (.int .i64 0)).under (a := ⟨w.heap.size, 1, none⟩) (by (try dsimp only); omega) (.int .i64 (-1))).under (a := ⟨w.heap.size, 2, none⟩) (by (try dsimp only); omega) (.slice B1 k d1)).under (a := ⟨w.heap.size, 3, none⟩) (by (try dsimp only); omega) (.slice B3 k d3)).under (a := ⟨w.heap.size, 4, none⟩) (by (try dsimp only); omega) (.slice B5 k d5)).under (a := ⟨w.heap.size, 5, none⟩) (by (try dsimp only); omega) (.int .i64 few)).under (a := ⟨w.heap.size, 6, none⟩) (by (try dsimp only); omega) (.int .i64 0)
      have y0 := b_bzF.cell 0
      have y1 := b_bzF.cell 1
      have y2 := b_bzF.cell 2
      have y3 := b_bzF.cell 3
      have y4 := b_bzF.cell 4
      have y5 := b_bzF.cell 5
      have y6 := b_bzF.cell 6
      exact bodyPost_ret (v := .tuple #[.agg #[.int .i64 0, .int .i64 (-1), .slice B1 k d1, .slice B3 k d3, .slice B5 k d5, .int .i64 few, .int .i64 0], .int .i64 0]) (by simp [results, Try.results24, go_sem, y0, y1, y2, y3, y4, y5, y6]) rfl (⟨_, _, _, rfl, k_ownF.more (by omega), hbF⟩)
end Go.Proofs.Ytpjjfnpdopdnkaa
