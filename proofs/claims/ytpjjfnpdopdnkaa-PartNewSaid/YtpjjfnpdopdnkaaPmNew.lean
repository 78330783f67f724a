/- part.New, tailraceref.NewOf. -/
import Derived.Test.YtpjjfnpdopdnkaaPartU
import Derived.Test.YtpjjfnpdopdnkaaPartV
import Derived.Deep.RegionHeld3
import Derived.Deep.DrawnRows
import Derived.Deep.OwnRows
namespace Go.Proofs.Ytpjjfnpdopdnkaa
open Go.RowKit
attribute [local go_sem ↓] Go.wp_at_zero Go.wp_at_succ

/-- a new part of n replicas, of which the first k are up -/
def upTo2 {α : Type} (n k : Nat) (a b : α) : List α := List.replicate k a ++ List.replicate (n - k) b
theorem upTo2_len {α : Type} {n k : Nat} {a b : α} (h : k ≤ n) : (upTo2 n k a b).length = n := by simp [upTo2]; omega
theorem upTo2_zero {α : Type} (n : Nat) (a b : α) : upTo2 n 0 a b = List.replicate n b := by simp [upTo2]
theorem upTo2_all {α : Type} (n : Nat) (a b : α) : upTo2 n n a b = List.replicate n a := by simp [upTo2]
theorem upTo2_get {α : Type} {n k : Nat} {a b : α} (h : k < n) (h' : k < (upTo2 n k a b).length) : (upTo2 n k a b)[k] = b := by
  have h2 : (upTo2 n k a b)[k]? = some b := by
    unfold upTo2
    rw [List.getElem?_append_right (by simp), List.length_replicate, Nat.sub_self, List.getElem?_replicate, if_pos (by omega)]
  exact Option.some.inj ((List.getElem?_eq_getElem h').symm.trans h2)
theorem upTo2_set {α : Type} {n k : Nat} {a b : α} (h : k < n) : (upTo2 n k a b).set k a = upTo2 n (k + 1) a b := by
  unfold upTo2
  obtain ⟨m, hm⟩ : ∃ m, n - k = m + 1 := ⟨n - k - 1, by omega⟩
  rw [hm, show n - (k + 1) = m by omega, List.replicate_succ (n := m), List.set_append_right _ _ (by simp), List.length_replicate, Nat.sub_self, List.set_cons_zero, List.replicate_succ', List.append_assoc]
  rfl
def newK (n k : Nat) (few : Int) : PartD := ⟨0, -1, upTo2 n k true false, List.replicate n 0, upTo2 n k ⟨true, [], 0, 0⟩ ⟨false, [], 0, 0⟩, few, 0⟩
def newD (n : Nat) (few : Int) : PartD := ⟨0, -1, List.replicate n true, List.replicate n 0, List.replicate n ⟨true, [], 0, 0⟩, few, 0⟩
theorem newK_all (n : Nat) (few : Int) : newK n n few = newD n few := by simp [newK, newD, upTo2_all]
theorem newK_zero (n : Nat) (few : Int) : newK n 0 few = ⟨0, -1, List.replicate n false, List.replicate n 0, List.replicate n ⟨false, [], 0, 0⟩, few, 0⟩ := by simp [newK, upTo2_zero]
theorem PO.isrIn {base : Nat} {w : World} {c : PartD} {kv rv : Value} {gi d n : Nat} (h : PO base w c (.slice (some ⟨gi, 0, none⟩) n d) kv rv) (hn : c.isr.length = n) (k : Nat) (hk : k < n) : (∃ x, w.cell? ⟨gi, k, none⟩ = some x) ∧ w.frozen? ⟨gi, k, none⟩ = false ∧ ∀ x : Bool, PO base (w.setCell ⟨gi, k, none⟩ (.bool x)) { c with isr := c.isr.set k x } (.slice (some ⟨gi, 0, none⟩) n d) kv rv := by
  subst hn
  obtain ⟨x1, x2⟩ := h.isrAt k hk
  exact ⟨⟨_, x1⟩, x2, fun x => h.setIsr k x (by omega)⟩
theorem PO.upIn {base : Nat} {w : World} {c : PartD} {iv kv : Value} {gr d n : Nat} (h : PO base w c iv kv (.slice (some ⟨gr, 0, none⟩) n d)) (hn : c.reps.length = n) (k : Nat) (hk : k < n) (hk' : k < c.reps.length) : (∃ x, w.cell? ⟨gr, k * 4, none⟩ = some x) ∧ w.frozen? ⟨gr, k * 4, none⟩ = false ∧ ∀ x : Bool, PO base (w.setCell ⟨gr, k * 4, none⟩ (.bool x)) { c with reps := c.reps.set k { c.reps[k] with up := x } } iv kv (.slice (some ⟨gr, 0, none⟩) n d) := by
  subst hn
  obtain ⟨A, d7, ⟨x1, -⟩, ⟨x2, -⟩, -⟩ := h.repAt k hk
  exact ⟨⟨_, x1⟩, x2, fun x => h.setRep k 0 hk (.bool x) { c.reps[k] with up := x } (by decide) (fun _ => rfl) rfl⟩
def ZR (n : Nat) : Array Value := madeCells #[.bool false, .slice none 0 0, .int .i64 0, .int .i64 0] (n * 4)
theorem zr_list {n : Nat} (_hn : n ≤ 5) : (ZR n).toList = (List.replicate n ((⟨false, [], 0, 0⟩ : RepD), Value.slice none 0 0)).flatMap rcells := by
  apply List.ext_getElem?
  intro j
  by_cases hj : j < n * 4
  · have h1 : (ZR n).toList[j]? = some (#[Value.bool false, .slice none 0 0, .int .i64 0, .int .i64 0][j % 4]!) := by
      simp [ZR, madeCells, hj]
    have hi : j / 4 < (List.replicate n ((⟨false, [], 0, 0⟩ : RepD), Value.slice none 0 0)).length := by simp; omega
    have h2 := rcells_get (List.replicate n ((⟨false, [], 0, 0⟩ : RepD), Value.slice none 0 0)) (j / 4) hi (j % 4) (by omega)
    rw [show j / 4 * 4 + j % 4 = j by omega, List.getElem_replicate] at h2
    rw [h1, h2]
    have h3 : j % 4 = 0 ∨ j % 4 = 1 ∨ j % 4 = 2 ∨ j % 4 = 3 := by omega
    rcases h3 with h3 | h3 | h3 | h3 <;> rw [h3] <;> rfl
  · have hl : (ZR n).toList.length = n * 4 := by simp [ZR, madeCells]
    rw [List.getElem?_eq_none (by omega), List.getElem?_eq_none (by
      have : ∀ m : Nat, ((List.replicate m ((⟨false, [], 0, 0⟩ : RepD), Value.slice none 0 0)).flatMap rcells).length = m * 4 := by
        intro m
        induction m with
        | zero => rfl
        | succ m ih => rw [List.replicate_succ, List.flatMap_cons, List.length_append, ih]; simp [rcells]; omega
      rw [this]; omega)]
theorem make_reps (n : Nat) (hn : n ≤ 5) (W : World) : (Instr.makeSlice 24 (.int .i64 n) (.int .i64 n)).run Try.prog W = .ok (.slice (some ⟨W.heap.size, 0, none⟩) n n) (W.alloc (.cells (ZR n) 71)) := by
  obtain ⟨i, hi, hz, hs, hb⟩ := info_parts rep_info
  have hr := run_make (P := Try.prog) W 24 71 i _ Try.underlying24 hi hz .i64 .i64 n n (by omega) (Int.le_refl _) (by rw [hb]; omega) (by omega)
  simp only [Int.toNat_natCast, hs] at hr
  exact hr
theorem PO.newZ {base : Nat} {w : World} {n : Nat} {few : Int} {iv kv rv : Value} (h1 : w.ownsRow base 4 1 iv n (List.replicate n (.bool false))) (h2 : w.ownsRow base 3 1 kv n (List.replicate n (.int .i64 0))) (h3 : w.ownsRow base 71 4 rv n (ZR n).toList) (hn : n ≤ 5) : PO base w (newK n 0 few) iv kv rv := by
  rw [newK_zero]
  rw [zr_list hn] at h3
  refine ⟨own_eq h1 (by simp) (by simp), own_eq h2 (by simp) (by simp), List.replicate n (⟨false, [], 0, 0⟩, .slice none 0 0), by simp, own_eq h3 (by simp) rfl, fun t ht => ?_⟩
  obtain rfl := List.eq_of_mem_replicate ht
  exact World.ownsRow_nil _ _ _ _
set_option maxRecDepth 100000 in
set_option maxHeartbeats 4000000 in
theorem new_good (n : Nat) (few : Int) (h1 : 1 ≤ n) (h2 : n ≤ 5) (h3 : 1 ≤ few) (h4 : few ≤ n) (w : World) : Calls Try.prog 23 #[.int .i64 n, .int .i64 few] w (OwnsP (newD n few) w) := by
  have d1 : decide ((n : Int) < 1) = false := decide_eq_false (by omega)
  have d2 : decide ((5 : Int) < n) = false := decide_eq_false (by omega)
  have d3 : decide (few < 1) = false := decide_eq_false (by omega)
  have d4 : decide ((n : Int) < few) = false := decide_eq_false (by omega)
  have m1 : ∀ W, (Instr.makeSlice 22 (.int .i64 n) (.int .i64 n)).run Try.prog W = .ok (.slice (some ⟨W.heap.size, 0, none⟩) n n) (W.alloc (.cells (madeCells #[.bool false] n) 4)) := fun W => run_make_row' 22 4 (.bool false) 1 Try.underlying22 bool_info rfl .i64 .i64 n (by omega) (by omega) W
  have m2 : ∀ W, (Instr.makeSlice 23 (.int .i64 n) (.int .i64 n)).run Try.prog W = .ok (.slice (some ⟨W.heap.size, 0, none⟩) n n) (W.alloc (.cells (madeCells #[.int .i64 0] n) 3)) := fun W => run_make_row' 23 3 (.int .i64 0) 8 Try.underlying23 int_info rfl .i64 .i64 n (by omega) (by omega) W
  have m3 : ∀ W, (Instr.makeSlice 24 (.int .i64 n) (.int .i64 n)).run Try.prog W = .ok (.slice (some ⟨W.heap.size, 0, none⟩) n n) (W.alloc (.cells (ZR n) 71)) := make_reps n h2
  go_enter Try.func23, Try.ntmps23
  go_wp2_with fail
  have hb1 : Below w.heap.size w (w.alloc (.cells #[.int .i64 0, .int .i64 0, .slice none 0 0, .slice none 0 0, .slice none 0 0, .int .i64 0, .int .i64 0] 26)) := (Below.refl _ _).alloc (by first | omega | (simp; done) | (simp; omega)) _
  have hal1 : Below w.heap.size w (w.alloc (.cells #[.int .i64 0, .int .i64 0, .slice none 0 0, .slice none 0 0, .slice none 0 0, .int .i64 0, .int .i64 0] 26)) := (Below.refl _ _).alloc (by first | omega | (simp; done) | (simp; omega)) _
  have b_bz1 : Blk (w.alloc (.cells #[.int .i64 0, .int .i64 0, .slice none 0 0, .slice none 0 0, .slice none 0 0, .int .i64 0, .int .i64 0] 26)) (w.heap.size) 26 #[.int .i64 0, .int .i64 0, .slice none 0 0, .slice none 0 0, .slice none 0 0, .int .i64 0, .int .i64 0] := Blk.new_ _ 26 #[.int .i64 0, .int .i64 0, .slice none 0 0, .slice none 0 0, .slice none 0 0, .int .i64 0, .int .i64 0] (by first | rfl | (simp; done) | (simp; omega))
  have hz1 : w.heap.size + 1 ≤ (w.alloc (.cells #[.int .i64 0, .int .i64 0, .slice none 0 0, .slice none 0 0, .slice none 0 0, .int .i64 0, .int .i64 0] 26)).heap.size := by first | omega | (simp; done) | (simp; omega)
  generalize w.alloc (.cells #[.int .i64 0, .int .i64 0, .slice none 0 0, .slice none 0 0, .slice none 0 0, .int .i64 0, .int .i64 0] 26) = W1 at *
  have HB1 := Lib.hid hb1
  have B1_bz := Lib.hid b_bz1
  clear hb1 b_bz1
  go_upto_region 3 with fail
  go_cut [6] from 24 to 31 (fun s wx => ∃ g gi gk gr : Nat, s = .pointer (some ⟨g, 0, none⟩) ∧ Hid (PO W1.heap.size wx (newK n 0 few) (.slice (some ⟨gi, 0, none⟩) n n) (.slice (some ⟨gk, 0, none⟩) n n) (.slice (some ⟨gr, 0, none⟩) n n)) ∧ Hid (Blk wx g 26 #[.int .i64 0, .int .i64 (-1), .slice (some ⟨gi, 0, none⟩) n n, .slice (some ⟨gk, 0, none⟩) n n, .slice (some ⟨gr, 0, none⟩) n n, .int .i64 few, .int .i64 0]) ∧ Hid (Blk wx w.heap.size 26 #[.int .i64 0, .int .i64 0, .slice none 0 0, .slice none 0 0, .slice none 0 0, .int .i64 0, .int .i64 0]) ∧ Hid (Below w.heap.size w wx) ∧ W1.heap.size ≤ g ∧ W1.heap.size ≤ gi ∧ W1.heap.size ≤ gr ∧ g ≠ gi ∧ g ≠ gr)
  case first =>
    refine wp_region_held_drew (S := fun _ => True) (by kernel_rfl) trivial (fun hHeld => ?_)
    have hb : Below W1.heap.size W1 W1.drew := (Below.refl _ _).drew
    generalize W1.drew = U at *
    have HU := Lib.hid hb
    have us : W1.heap.size ≤ U.heap.size := hb.size
    clear hb
    refine wpAnyH_take (i := 0) (v := ?_) rfl (by kernel_rfl) (by kernel_rfl) (by kernel_rfl) (fun _ _ _ h => h) (Or.inl ⟨by rfl, ?_⟩) (by assumption) ?_
    rotate_left
    · intro w0 hSw
      (try dsimp only at hSw)
      go_simp
      all_goals with_reducible rfl
    try simp only [Act.put, List.getElem_toArray, List.getElem_cons_zero, List.setIfInBounds_toArray, List.set_cons_zero, List.set_cons_succ]
    refine wpAnyH_take (i := 2) (v := ?_) rfl (by kernel_rfl) (by kernel_rfl) (by kernel_rfl) (fun _ _ _ h => h) (Or.inl ⟨by rfl, ?_⟩) (by assumption) ?_
    rotate_left
    · intro w0 hSw
      (try dsimp only at hSw)
      go_simp
      all_goals with_reducible rfl
    try simp only [Act.put, List.getElem_toArray, List.getElem_cons_zero, List.getElem_cons_succ, List.setIfInBounds_toArray, List.set_cons_zero, List.set_cons_succ]
    refine wpAnyH_take (i := 4) (v := ?_) rfl (by kernel_rfl) (by kernel_rfl) (by kernel_rfl) (fun _ _ _ h => h) (Or.inl ⟨by rfl, ?_⟩) (by assumption) ?_
    rotate_left
    · intro w0 hSw
      (try dsimp only at hSw)
      go_simp
      all_goals with_reducible rfl
    try simp only [Act.put, List.getElem_toArray, List.getElem_cons_zero, List.getElem_cons_succ, List.setIfInBounds_toArray, List.set_cons_zero, List.set_cons_succ]
    refine wpAnyH_take (i := 6) (v := ?_) rfl (by kernel_rfl) (by kernel_rfl) (by kernel_rfl) (fun _ _ _ h => h) (Or.inl ⟨by rfl, ?_⟩) (by assumption) ?_
    rotate_left
    · intro w0 hSw
      (try dsimp only at hSw)
      go_simp
      all_goals with_reducible rfl
    try simp only [Act.put, List.getElem_toArray, List.getElem_cons_zero, List.getElem_cons_succ, List.setIfInBounds_toArray, List.set_cons_zero, List.set_cons_succ]
    refine wpAnyH_ready (rs := [1, 3, 5, 8]) (by kernel_rfl) (by simp) (AllReadyH.cons rfl (fun K hK => ?_) (AllReadyH.cons rfl (fun K hK => ?_) (AllReadyH.cons rfl (fun K hK => ?_) (AllReadyH.cons rfl (fun K hK => ?_) AllReadyH.nil))))
    · go_simp
      refine hK.out _ _ trivial (fun hHeld => ?_)
      clear hK K
      try simp only [Act.put, List.getElem_toArray, List.getElem_cons_zero, List.getElem_cons_succ, List.setIfInBounds_toArray, List.set_cons_zero, List.set_cons_succ]
      have hb : Below W1.heap.size W1 (U.alloc (.cells (madeCells #[.bool false] n) 4)) := HU.out.alloc us _
      have h1 := World.ownsRow_lit (base := W1.heap.size) (e := 4) (size := 1) U (madeCells #[.bool false] n) n us (by simp only [maxLen]; omega) (by simp [size_madeCells])
      rw [toList_madeCells_one] at h1
      have us1 : U.heap.size < (U.alloc (.cells (madeCells #[.bool false] n) 4)).heap.size := by simp
      generalize U.alloc (.cells (madeCells #[.bool false] n) 4) = U1 at *
      have us2 : W1.heap.size ≤ U1.heap.size := by omega
      have G1 := Lib.hid h1
      have HU2 := Lib.hid hb
      clear hb HU  h1
      have F1 := G1
      have HU := HU2
      have us := us2
      clear HU2 G1
      refine wpAnyH_ready (rs := [3, 5, 8]) (by kernel_rfl) (by simp) (AllReadyH.cons rfl (fun K hK => ?_) (AllReadyH.cons rfl (fun K hK => ?_) (AllReadyH.cons rfl (fun K hK => ?_) AllReadyH.nil)))
      · go_simp
        refine hK.out _ _ trivial (fun hHeld => ?_)
        clear hK K
        try simp only [Act.put, List.getElem_toArray, List.getElem_cons_zero, List.getElem_cons_succ, List.setIfInBounds_toArray, List.set_cons_zero, List.set_cons_succ]
        have hb : Below W1.heap.size W1 (U1.alloc (.cells (madeCells #[.int .i64 0] n) 3)) := HU.out.alloc us _
        have h3 := World.ownsRow_lit (base := W1.heap.size) (e := 3) (size := 1) U1 (madeCells #[.int .i64 0] n) n us (by simp only [maxLen]; omega) (by simp [size_madeCells])
        rw [toList_madeCells_one] at h3
        have h1 := F1.out.alloc (.cells (madeCells #[.int .i64 0] n) 3)
        have us1 : U1.heap.size < (U1.alloc (.cells (madeCells #[.int .i64 0] n) 3)).heap.size := by simp
        generalize U1.alloc (.cells (madeCells #[.int .i64 0] n) 3) = U13 at *
        have us2 : W1.heap.size ≤ U13.heap.size := by omega
        have G1 := Lib.hid h1
        have G3 := Lib.hid h3
        have HU2 := Lib.hid hb
        clear hb HU F1 h1 h3
        have F1 := G1
        have F3 := G3
        have HU := HU2
        have us := us2
        clear HU2 G1 G3
        refine wpAnyH_ready (rs := [5, 8]) (by kernel_rfl) (by simp) (AllReadyH.cons rfl (fun K hK => ?_) (AllReadyH.cons rfl (fun K hK => ?_) AllReadyH.nil))
        · go_simp
          refine hK.out _ _ trivial (fun hHeld => ?_)
          clear hK K
          try simp only [Act.put, List.getElem_toArray, List.getElem_cons_zero, List.getElem_cons_succ, List.setIfInBounds_toArray, List.set_cons_zero, List.set_cons_succ]
          have hb : Below W1.heap.size W1 (U13.alloc (.cells (ZR n) 71)) := HU.out.alloc us _
          have h5 := World.ownsRow_lit (base := W1.heap.size) (e := 71) (size := 4) U13 (ZR n) n us (by simp only [maxLen]; omega) (by simp [ZR, size_madeCells])
          have h1 := F1.out.alloc (.cells (ZR n) 71)
          have h3 := F3.out.alloc (.cells (ZR n) 71)
          have us1 : U13.heap.size < (U13.alloc (.cells (ZR n) 71)).heap.size := by simp
          generalize U13.alloc (.cells (ZR n) 71) = U135 at *
          have us2 : W1.heap.size ≤ U135.heap.size := by omega
          have G1 := Lib.hid h1
          have G3 := Lib.hid h3
          have G5 := Lib.hid h5
          have HU2 := Lib.hid hb
          clear hb HU F1 F3 h1 h3 h5
          have F1 := G1
          have F3 := G3
          have F5 := G5
          have HU := HU2
          have us := us2
          clear HU2 G1 G3 G5
          refine wpAnyH_take (i := 7) (v := ?_) rfl (by kernel_rfl) (by kernel_rfl) (by kernel_rfl) (fun _ _ _ h => h) (Or.inl ⟨by rfl, ?_⟩) (by assumption) ?_
          rotate_left
          · intro w0 hSw
            (try dsimp only at hSw)
            go_simp
            all_goals with_reducible rfl
          try simp only [Act.put, List.getElem_toArray, List.getElem_cons_zero, List.getElem_cons_succ, List.setIfInBounds_toArray, List.set_cons_zero, List.set_cons_succ]
          refine wpAnyH_ready (rs := [8]) (by kernel_rfl) (by simp) (AllReadyH.cons rfl (fun K hK => ?_) AllReadyH.nil)
          go_simp
          refine hK.out _ _ trivial (fun hHeld => ?_)
          clear hK K
          try simp only [Act.put, List.getElem_toArray, List.getElem_cons_zero, List.getElem_cons_succ, List.setIfInBounds_toArray, List.set_cons_zero, List.set_cons_succ]
          have hb : Below W1.heap.size W1 (U135.alloc (.cells (#[.int .i64 0, .int .i64 0, .slice none 0 0, .slice none 0 0, .slice none 0 0, .int .i64 0, .int .i64 0]) 26)) := HU.out.alloc us _
          have h8 : Blk (U135.alloc (.cells (#[.int .i64 0, .int .i64 0, .slice none 0 0, .slice none 0 0, .slice none 0 0, .int .i64 0, .int .i64 0]) 26)) U135.heap.size 26 #[.int .i64 0, .int .i64 0, .slice none 0 0, .slice none 0 0, .slice none 0 0, .int .i64 0, .int .i64 0] := Blk.new _ _ _
          have h1 := F1.out.alloc (.cells (#[.int .i64 0, .int .i64 0, .slice none 0 0, .slice none 0 0, .slice none 0 0, .int .i64 0, .int .i64 0]) 26)
          have h3 := F3.out.alloc (.cells (#[.int .i64 0, .int .i64 0, .slice none 0 0, .slice none 0 0, .slice none 0 0, .int .i64 0, .int .i64 0]) 26)
          have h5 := F5.out.alloc (.cells (#[.int .i64 0, .int .i64 0, .slice none 0 0, .slice none 0 0, .slice none 0 0, .int .i64 0, .int .i64 0]) 26)
          have us1 : U135.heap.size < (U135.alloc (.cells (#[.int .i64 0, .int .i64 0, .slice none 0 0, .slice none 0 0, .slice none 0 0, .int .i64 0, .int .i64 0]) 26)).heap.size := by simp
          generalize U135.alloc (.cells (#[.int .i64 0, .int .i64 0, .slice none 0 0, .slice none 0 0, .slice none 0 0, .int .i64 0, .int .i64 0]) 26) = U1358 at *
          have us2 : W1.heap.size ≤ U1358.heap.size := by omega
          have G1 := Lib.hid h1
          have G3 := Lib.hid h3
          have G5 := Lib.hid h5
          have G8 := Lib.hid h8
          have HU2 := Lib.hid hb
          clear hb HU F1 F3 F5 h1 h3 h5 h8
          have F1 := G1
          have F3 := G3
          have F5 := G5
          have F8 := G8
          have HU := HU2
          have us := us2
          clear HU2 G1 G3 G5 G8
          have c0 := F8.out.cell 0
          have f0 := F8.out.frozen 0
          have c1 := F8.out.cell 1
          have f1 := F8.out.frozen 1
          have c2 := F8.out.cell 2
          have f2 := F8.out.frozen 2
          have c3 := F8.out.cell 3
          have f3 := F8.out.frozen 3
          have c4 := F8.out.cell 4
          have f4 := F8.out.frozen 4
          have c5 := F8.out.cell 5
          have f5 := F8.out.frozen 5
          have c6 := F8.out.cell 6
          have f6 := F8.out.frozen 6
          have cl := F8.out.lt
          refine wpAnyH_ready (rs := [9]) (by kernel_rfl) (by simp) (AllReadyH.cons rfl (fun K hK => ?_) AllReadyH.nil)
          go_simp
          refine hK.out _ _ trivial (fun hHeld => ?_)
          clear hK K
          clear c0 f0 c1 f1 c2 f2 c3 f3 c4 f4 c5 f5 c6 f6 cl
          refine wpAnyH_done (by kernel_rfl) ?_ _
          go_wp2_with fail
          go_meet
          have q1 := PO.blk7 (PO.newZ (few := few) F1.out F3.out F5.out h2) F8.out (.int .i64 0) (.int .i64 (-1)) (.slice (some ⟨U.heap.size, 0, none⟩) n n) (.slice (some ⟨U1.heap.size, 0, none⟩) n n) (.slice (some ⟨U13.heap.size, 0, none⟩) n n) (.int .i64 few) (.int .i64 0)
          have q2 := (((((((F8.out.set_ 0 (.int .i64 0)).set_ 1 (.int .i64 (-1))).set_ 2 (.slice (some ⟨U.heap.size, 0, none⟩) n n)).set_ 3 (.slice (some ⟨U1.heap.size, 0, none⟩) n n)).set_ 4 (.slice (some ⟨U13.heap.size, 0, none⟩) n n)).set_ 5 (.int .i64 few)).set_ 6 (.int .i64 0))
          have q3 := ((((((((B1_bz.out.below HU.out B1_bz.out.lt).far (p := ⟨U135.heap.size, 0, none⟩) (by show w.heap.size ≠ U135.heap.size; omega) (.int .i64 0)).far (p := ⟨U135.heap.size, 1, none⟩) (by show w.heap.size ≠ U135.heap.size; omega) (.int .i64 (-1))).far (p := ⟨U135.heap.size, 2, none⟩) (by show w.heap.size ≠ U135.heap.size; omega) (.slice (some ⟨U.heap.size, 0, none⟩) n n)).far (p := ⟨U135.heap.size, 3, none⟩) (by show w.heap.size ≠ U135.heap.size; omega) (.slice (some ⟨U1.heap.size, 0, none⟩) n n)).far (p := ⟨U135.heap.size, 4, none⟩) (by show w.heap.size ≠ U135.heap.size; omega) (.slice (some ⟨U13.heap.size, 0, none⟩) n n)).far (p := ⟨U135.heap.size, 5, none⟩) (by show w.heap.size ≠ U135.heap.size; omega) (.int .i64 few)).far (p := ⟨U135.heap.size, 6, none⟩) (by show w.heap.size ≠ U135.heap.size; omega) (.int .i64 0))
          have q4 := ((((((((below_then HB1.out HU.out).setCell (p := ⟨U135.heap.size, 0, none⟩) (by show w.heap.size ≤ U135.heap.size; omega) (.int .i64 0)).setCell (p := ⟨U135.heap.size, 1, none⟩) (by show w.heap.size ≤ U135.heap.size; omega) (.int .i64 (-1))).setCell (p := ⟨U135.heap.size, 2, none⟩) (by show w.heap.size ≤ U135.heap.size; omega) (.slice (some ⟨U.heap.size, 0, none⟩) n n)).setCell (p := ⟨U135.heap.size, 3, none⟩) (by show w.heap.size ≤ U135.heap.size; omega) (.slice (some ⟨U1.heap.size, 0, none⟩) n n)).setCell (p := ⟨U135.heap.size, 4, none⟩) (by show w.heap.size ≤ U135.heap.size; omega) (.slice (some ⟨U13.heap.size, 0, none⟩) n n)).setCell (p := ⟨U135.heap.size, 5, none⟩) (by show w.heap.size ≤ U135.heap.size; omega) (.int .i64 few)).setCell (p := ⟨U135.heap.size, 6, none⟩) (by show w.heap.size ≤ U135.heap.size; omega) (.int .i64 0))
          exact ⟨U135.heap.size, U.heap.size, U1.heap.size, U13.heap.size, rfl, q1, q2, q3, q4, by omega, by omega, by omega, by omega, by omega⟩
        · go_simp
          refine hK.out _ _ trivial (fun hHeld => ?_)
          clear hK K
          try simp only [Act.put, List.getElem_toArray, List.getElem_cons_zero, List.getElem_cons_succ, List.setIfInBounds_toArray, List.set_cons_zero, List.set_cons_succ]
          have hb : Below W1.heap.size W1 (U13.alloc (.cells (#[.int .i64 0, .int .i64 0, .slice none 0 0, .slice none 0 0, .slice none 0 0, .int .i64 0, .int .i64 0]) 26)) := HU.out.alloc us _
          have h8 : Blk (U13.alloc (.cells (#[.int .i64 0, .int .i64 0, .slice none 0 0, .slice none 0 0, .slice none 0 0, .int .i64 0, .int .i64 0]) 26)) U13.heap.size 26 #[.int .i64 0, .int .i64 0, .slice none 0 0, .slice none 0 0, .slice none 0 0, .int .i64 0, .int .i64 0] := Blk.new _ _ _
          have h1 := F1.out.alloc (.cells (#[.int .i64 0, .int .i64 0, .slice none 0 0, .slice none 0 0, .slice none 0 0, .int .i64 0, .int .i64 0]) 26)
          have h3 := F3.out.alloc (.cells (#[.int .i64 0, .int .i64 0, .slice none 0 0, .slice none 0 0, .slice none 0 0, .int .i64 0, .int .i64 0]) 26)
          have us1 : U13.heap.size < (U13.alloc (.cells (#[.int .i64 0, .int .i64 0, .slice none 0 0, .slice none 0 0, .slice none 0 0, .int .i64 0, .int .i64 0]) 26)).heap.size := by simp
          generalize U13.alloc (.cells (#[.int .i64 0, .int .i64 0, .slice none 0 0, .slice none 0 0, .slice none 0 0, .int .i64 0, .int .i64 0]) 26) = U138 at *
          have us2 : W1.heap.size ≤ U138.heap.size := by omega
          have G1 := Lib.hid h1
          have G3 := Lib.hid h3
          have G8 := Lib.hid h8
          have HU2 := Lib.hid hb
          clear hb HU F1 F3 h1 h3 h8
          have F1 := G1
          have F3 := G3
          have F8 := G8
          have HU := HU2
          have us := us2
          clear HU2 G1 G3 G8
          refine wpAnyH_ready (rs := [5]) (by kernel_rfl) (by simp) (AllReadyH.cons rfl (fun K hK => ?_) AllReadyH.nil)
          go_simp
          refine hK.out _ _ trivial (fun hHeld => ?_)
          clear hK K
          try simp only [Act.put, List.getElem_toArray, List.getElem_cons_zero, List.getElem_cons_succ, List.setIfInBounds_toArray, List.set_cons_zero, List.set_cons_succ]
          have hb : Below W1.heap.size W1 (U138.alloc (.cells (ZR n) 71)) := HU.out.alloc us _
          have h5 := World.ownsRow_lit (base := W1.heap.size) (e := 71) (size := 4) U138 (ZR n) n us (by simp only [maxLen]; omega) (by simp [ZR, size_madeCells])
          have h1 := F1.out.alloc (.cells (ZR n) 71)
          have h3 := F3.out.alloc (.cells (ZR n) 71)
          have h8 := F8.out.alloc (.cells (ZR n) 71)
          have us1 : U138.heap.size < (U138.alloc (.cells (ZR n) 71)).heap.size := by simp
          generalize U138.alloc (.cells (ZR n) 71) = U1385 at *
          have us2 : W1.heap.size ≤ U1385.heap.size := by omega
          have G1 := Lib.hid h1
          have G3 := Lib.hid h3
          have G8 := Lib.hid h8
          have G5 := Lib.hid h5
          have HU2 := Lib.hid hb
          clear hb HU F1 F3 F8 h1 h3 h8 h5
          have F1 := G1
          have F3 := G3
          have F8 := G8
          have F5 := G5
          have HU := HU2
          have us := us2
          clear HU2 G1 G3 G8 G5
          refine wpAnyH_take (i := 7) (v := ?_) rfl (by kernel_rfl) (by kernel_rfl) (by kernel_rfl) (fun _ _ _ h => h) (Or.inl ⟨by rfl, ?_⟩) (by assumption) ?_
          rotate_left
          · intro w0 hSw
            (try dsimp only at hSw)
            go_simp
            all_goals with_reducible rfl
          try simp only [Act.put, List.getElem_toArray, List.getElem_cons_zero, List.getElem_cons_succ, List.setIfInBounds_toArray, List.set_cons_zero, List.set_cons_succ]
          have c0 := F8.out.cell 0
          have f0 := F8.out.frozen 0
          have c1 := F8.out.cell 1
          have f1 := F8.out.frozen 1
          have c2 := F8.out.cell 2
          have f2 := F8.out.frozen 2
          have c3 := F8.out.cell 3
          have f3 := F8.out.frozen 3
          have c4 := F8.out.cell 4
          have f4 := F8.out.frozen 4
          have c5 := F8.out.cell 5
          have f5 := F8.out.frozen 5
          have c6 := F8.out.cell 6
          have f6 := F8.out.frozen 6
          have cl := F8.out.lt
          refine wpAnyH_ready (rs := [9]) (by kernel_rfl) (by simp) (AllReadyH.cons rfl (fun K hK => ?_) AllReadyH.nil)
          go_simp
          refine hK.out _ _ trivial (fun hHeld => ?_)
          clear hK K
          clear c0 f0 c1 f1 c2 f2 c3 f3 c4 f4 c5 f5 c6 f6 cl
          refine wpAnyH_done (by kernel_rfl) ?_ _
          go_wp2_with fail
          go_meet
          have q1 := PO.blk7 (PO.newZ (few := few) F1.out F3.out F5.out h2) F8.out (.int .i64 0) (.int .i64 (-1)) (.slice (some ⟨U.heap.size, 0, none⟩) n n) (.slice (some ⟨U1.heap.size, 0, none⟩) n n) (.slice (some ⟨U138.heap.size, 0, none⟩) n n) (.int .i64 few) (.int .i64 0)
          have q2 := (((((((F8.out.set_ 0 (.int .i64 0)).set_ 1 (.int .i64 (-1))).set_ 2 (.slice (some ⟨U.heap.size, 0, none⟩) n n)).set_ 3 (.slice (some ⟨U1.heap.size, 0, none⟩) n n)).set_ 4 (.slice (some ⟨U138.heap.size, 0, none⟩) n n)).set_ 5 (.int .i64 few)).set_ 6 (.int .i64 0))
          have q3 := ((((((((B1_bz.out.below HU.out B1_bz.out.lt).far (p := ⟨U13.heap.size, 0, none⟩) (by show w.heap.size ≠ U13.heap.size; omega) (.int .i64 0)).far (p := ⟨U13.heap.size, 1, none⟩) (by show w.heap.size ≠ U13.heap.size; omega) (.int .i64 (-1))).far (p := ⟨U13.heap.size, 2, none⟩) (by show w.heap.size ≠ U13.heap.size; omega) (.slice (some ⟨U.heap.size, 0, none⟩) n n)).far (p := ⟨U13.heap.size, 3, none⟩) (by show w.heap.size ≠ U13.heap.size; omega) (.slice (some ⟨U1.heap.size, 0, none⟩) n n)).far (p := ⟨U13.heap.size, 4, none⟩) (by show w.heap.size ≠ U13.heap.size; omega) (.slice (some ⟨U138.heap.size, 0, none⟩) n n)).far (p := ⟨U13.heap.size, 5, none⟩) (by show w.heap.size ≠ U13.heap.size; omega) (.int .i64 few)).far (p := ⟨U13.heap.size, 6, none⟩) (by show w.heap.size ≠ U13.heap.size; omega) (.int .i64 0))
          have q4 := ((((((((below_then HB1.out HU.out).setCell (p := ⟨U13.heap.size, 0, none⟩) (by show w.heap.size ≤ U13.heap.size; omega) (.int .i64 0)).setCell (p := ⟨U13.heap.size, 1, none⟩) (by show w.heap.size ≤ U13.heap.size; omega) (.int .i64 (-1))).setCell (p := ⟨U13.heap.size, 2, none⟩) (by show w.heap.size ≤ U13.heap.size; omega) (.slice (some ⟨U.heap.size, 0, none⟩) n n)).setCell (p := ⟨U13.heap.size, 3, none⟩) (by show w.heap.size ≤ U13.heap.size; omega) (.slice (some ⟨U1.heap.size, 0, none⟩) n n)).setCell (p := ⟨U13.heap.size, 4, none⟩) (by show w.heap.size ≤ U13.heap.size; omega) (.slice (some ⟨U138.heap.size, 0, none⟩) n n)).setCell (p := ⟨U13.heap.size, 5, none⟩) (by show w.heap.size ≤ U13.heap.size; omega) (.int .i64 few)).setCell (p := ⟨U13.heap.size, 6, none⟩) (by show w.heap.size ≤ U13.heap.size; omega) (.int .i64 0))
          exact ⟨U13.heap.size, U.heap.size, U1.heap.size, U138.heap.size, rfl, q1, q2, q3, q4, by omega, by omega, by omega, by omega, by omega⟩
      · go_simp
        refine hK.out _ _ trivial (fun hHeld => ?_)
        clear hK K
        try simp only [Act.put, List.getElem_toArray, List.getElem_cons_zero, List.getElem_cons_succ, List.setIfInBounds_toArray, List.set_cons_zero, List.set_cons_succ]
        have hb : Below W1.heap.size W1 (U1.alloc (.cells (ZR n) 71)) := HU.out.alloc us _
        have h5 := World.ownsRow_lit (base := W1.heap.size) (e := 71) (size := 4) U1 (ZR n) n us (by simp only [maxLen]; omega) (by simp [ZR, size_madeCells])
        have h1 := F1.out.alloc (.cells (ZR n) 71)
        have us1 : U1.heap.size < (U1.alloc (.cells (ZR n) 71)).heap.size := by simp
        generalize U1.alloc (.cells (ZR n) 71) = U15 at *
        have us2 : W1.heap.size ≤ U15.heap.size := by omega
        have G1 := Lib.hid h1
        have G5 := Lib.hid h5
        have HU2 := Lib.hid hb
        clear hb HU F1 h1 h5
        have F1 := G1
        have F5 := G5
        have HU := HU2
        have us := us2
        clear HU2 G1 G5
        refine wpAnyH_ready (rs := [3, 8]) (by kernel_rfl) (by simp) (AllReadyH.cons rfl (fun K hK => ?_) (AllReadyH.cons rfl (fun K hK => ?_) AllReadyH.nil))
        · go_simp
          refine hK.out _ _ trivial (fun hHeld => ?_)
          clear hK K
          try simp only [Act.put, List.getElem_toArray, List.getElem_cons_zero, List.getElem_cons_succ, List.setIfInBounds_toArray, List.set_cons_zero, List.set_cons_succ]
          have hb : Below W1.heap.size W1 (U15.alloc (.cells (madeCells #[.int .i64 0] n) 3)) := HU.out.alloc us _
          have h3 := World.ownsRow_lit (base := W1.heap.size) (e := 3) (size := 1) U15 (madeCells #[.int .i64 0] n) n us (by simp only [maxLen]; omega) (by simp [size_madeCells])
          rw [toList_madeCells_one] at h3
          have h1 := F1.out.alloc (.cells (madeCells #[.int .i64 0] n) 3)
          have h5 := F5.out.alloc (.cells (madeCells #[.int .i64 0] n) 3)
          have us1 : U15.heap.size < (U15.alloc (.cells (madeCells #[.int .i64 0] n) 3)).heap.size := by simp
          generalize U15.alloc (.cells (madeCells #[.int .i64 0] n) 3) = U153 at *
          have us2 : W1.heap.size ≤ U153.heap.size := by omega
          have G1 := Lib.hid h1
          have G5 := Lib.hid h5
          have G3 := Lib.hid h3
          have HU2 := Lib.hid hb
          clear hb HU F1 F5 h1 h5 h3
          have F1 := G1
          have F5 := G5
          have F3 := G3
          have HU := HU2
          have us := us2
          clear HU2 G1 G5 G3
          refine wpAnyH_take (i := 7) (v := ?_) rfl (by kernel_rfl) (by kernel_rfl) (by kernel_rfl) (fun _ _ _ h => h) (Or.inl ⟨by rfl, ?_⟩) (by assumption) ?_
          rotate_left
          · intro w0 hSw
            (try dsimp only at hSw)
            go_simp
            all_goals with_reducible rfl
          try simp only [Act.put, List.getElem_toArray, List.getElem_cons_zero, List.getElem_cons_succ, List.setIfInBounds_toArray, List.set_cons_zero, List.set_cons_succ]
          refine wpAnyH_ready (rs := [8]) (by kernel_rfl) (by simp) (AllReadyH.cons rfl (fun K hK => ?_) AllReadyH.nil)
          go_simp
          refine hK.out _ _ trivial (fun hHeld => ?_)
          clear hK K
          try simp only [Act.put, List.getElem_toArray, List.getElem_cons_zero, List.getElem_cons_succ, List.setIfInBounds_toArray, List.set_cons_zero, List.set_cons_succ]
          have hb : Below W1.heap.size W1 (U153.alloc (.cells (#[.int .i64 0, .int .i64 0, .slice none 0 0, .slice none 0 0, .slice none 0 0, .int .i64 0, .int .i64 0]) 26)) := HU.out.alloc us _
          have h8 : Blk (U153.alloc (.cells (#[.int .i64 0, .int .i64 0, .slice none 0 0, .slice none 0 0, .slice none 0 0, .int .i64 0, .int .i64 0]) 26)) U153.heap.size 26 #[.int .i64 0, .int .i64 0, .slice none 0 0, .slice none 0 0, .slice none 0 0, .int .i64 0, .int .i64 0] := Blk.new _ _ _
          have h1 := F1.out.alloc (.cells (#[.int .i64 0, .int .i64 0, .slice none 0 0, .slice none 0 0, .slice none 0 0, .int .i64 0, .int .i64 0]) 26)
          have h5 := F5.out.alloc (.cells (#[.int .i64 0, .int .i64 0, .slice none 0 0, .slice none 0 0, .slice none 0 0, .int .i64 0, .int .i64 0]) 26)
          have h3 := F3.out.alloc (.cells (#[.int .i64 0, .int .i64 0, .slice none 0 0, .slice none 0 0, .slice none 0 0, .int .i64 0, .int .i64 0]) 26)
          have us1 : U153.heap.size < (U153.alloc (.cells (#[.int .i64 0, .int .i64 0, .slice none 0 0, .slice none 0 0, .slice none 0 0, .int .i64 0, .int .i64 0]) 26)).heap.size := by simp
          generalize U153.alloc (.cells (#[.int .i64 0, .int .i64 0, .slice none 0 0, .slice none 0 0, .slice none 0 0, .int .i64 0, .int .i64 0]) 26) = U1538 at *
          have us2 : W1.heap.size ≤ U1538.heap.size := by omega
          have G1 := Lib.hid h1
          have G5 := Lib.hid h5
          have G3 := Lib.hid h3
          have G8 := Lib.hid h8
          have HU2 := Lib.hid hb
          clear hb HU F1 F5 F3 h1 h5 h3 h8
          have F1 := G1
          have F5 := G5
          have F3 := G3
          have F8 := G8
          have HU := HU2
          have us := us2
          clear HU2 G1 G5 G3 G8
          have c0 := F8.out.cell 0
          have f0 := F8.out.frozen 0
          have c1 := F8.out.cell 1
          have f1 := F8.out.frozen 1
          have c2 := F8.out.cell 2
          have f2 := F8.out.frozen 2
          have c3 := F8.out.cell 3
          have f3 := F8.out.frozen 3
          have c4 := F8.out.cell 4
          have f4 := F8.out.frozen 4
          have c5 := F8.out.cell 5
          have f5 := F8.out.frozen 5
          have c6 := F8.out.cell 6
          have f6 := F8.out.frozen 6
          have cl := F8.out.lt
          refine wpAnyH_ready (rs := [9]) (by kernel_rfl) (by simp) (AllReadyH.cons rfl (fun K hK => ?_) AllReadyH.nil)
          go_simp
          refine hK.out _ _ trivial (fun hHeld => ?_)
          clear hK K
          clear c0 f0 c1 f1 c2 f2 c3 f3 c4 f4 c5 f5 c6 f6 cl
          refine wpAnyH_done (by kernel_rfl) ?_ _
          go_wp2_with fail
          go_meet
          have q1 := PO.blk7 (PO.newZ (few := few) F1.out F3.out F5.out h2) F8.out (.int .i64 0) (.int .i64 (-1)) (.slice (some ⟨U.heap.size, 0, none⟩) n n) (.slice (some ⟨U15.heap.size, 0, none⟩) n n) (.slice (some ⟨U1.heap.size, 0, none⟩) n n) (.int .i64 few) (.int .i64 0)
          have q2 := (((((((F8.out.set_ 0 (.int .i64 0)).set_ 1 (.int .i64 (-1))).set_ 2 (.slice (some ⟨U.heap.size, 0, none⟩) n n)).set_ 3 (.slice (some ⟨U15.heap.size, 0, none⟩) n n)).set_ 4 (.slice (some ⟨U1.heap.size, 0, none⟩) n n)).set_ 5 (.int .i64 few)).set_ 6 (.int .i64 0))
          have q3 := ((((((((B1_bz.out.below HU.out B1_bz.out.lt).far (p := ⟨U153.heap.size, 0, none⟩) (by show w.heap.size ≠ U153.heap.size; omega) (.int .i64 0)).far (p := ⟨U153.heap.size, 1, none⟩) (by show w.heap.size ≠ U153.heap.size; omega) (.int .i64 (-1))).far (p := ⟨U153.heap.size, 2, none⟩) (by show w.heap.size ≠ U153.heap.size; omega) (.slice (some ⟨U.heap.size, 0, none⟩) n n)).far (p := ⟨U153.heap.size, 3, none⟩) (by show w.heap.size ≠ U153.heap.size; omega) (.slice (some ⟨U15.heap.size, 0, none⟩) n n)).far (p := ⟨U153.heap.size, 4, none⟩) (by show w.heap.size ≠ U153.heap.size; omega) (.slice (some ⟨U1.heap.size, 0, none⟩) n n)).far (p := ⟨U153.heap.size, 5, none⟩) (by show w.heap.size ≠ U153.heap.size; omega) (.int .i64 few)).far (p := ⟨U153.heap.size, 6, none⟩) (by show w.heap.size ≠ U153.heap.size; omega) (.int .i64 0))
          have q4 := ((((((((below_then HB1.out HU.out).setCell (p := ⟨U153.heap.size, 0, none⟩) (by show w.heap.size ≤ U153.heap.size; omega) (.int .i64 0)).setCell (p := ⟨U153.heap.size, 1, none⟩) (by show w.heap.size ≤ U153.heap.size; omega) (.int .i64 (-1))).setCell (p := ⟨U153.heap.size, 2, none⟩) (by show w.heap.size ≤ U153.heap.size; omega) (.slice (some ⟨U.heap.size, 0, none⟩) n n)).setCell (p := ⟨U153.heap.size, 3, none⟩) (by show w.heap.size ≤ U153.heap.size; omega) (.slice (some ⟨U15.heap.size, 0, none⟩) n n)).setCell (p := ⟨U153.heap.size, 4, none⟩) (by show w.heap.size ≤ U153.heap.size; omega) (.slice (some ⟨U1.heap.size, 0, none⟩) n n)).setCell (p := ⟨U153.heap.size, 5, none⟩) (by show w.heap.size ≤ U153.heap.size; omega) (.int .i64 few)).setCell (p := ⟨U153.heap.size, 6, none⟩) (by show w.heap.size ≤ U153.heap.size; omega) (.int .i64 0))
          exact ⟨U153.heap.size, U.heap.size, U15.heap.size, U1.heap.size, rfl, q1, q2, q3, q4, by omega, by omega, by omega, by omega, by omega⟩
        · go_simp
          refine hK.out _ _ trivial (fun hHeld => ?_)
          clear hK K
          try simp only [Act.put, List.getElem_toArray, List.getElem_cons_zero, List.getElem_cons_succ, List.setIfInBounds_toArray, List.set_cons_zero, List.set_cons_succ]
          have hb : Below W1.heap.size W1 (U15.alloc (.cells (#[.int .i64 0, .int .i64 0, .slice none 0 0, .slice none 0 0, .slice none 0 0, .int .i64 0, .int .i64 0]) 26)) := HU.out.alloc us _
          have h8 : Blk (U15.alloc (.cells (#[.int .i64 0, .int .i64 0, .slice none 0 0, .slice none 0 0, .slice none 0 0, .int .i64 0, .int .i64 0]) 26)) U15.heap.size 26 #[.int .i64 0, .int .i64 0, .slice none 0 0, .slice none 0 0, .slice none 0 0, .int .i64 0, .int .i64 0] := Blk.new _ _ _
          have h1 := F1.out.alloc (.cells (#[.int .i64 0, .int .i64 0, .slice none 0 0, .slice none 0 0, .slice none 0 0, .int .i64 0, .int .i64 0]) 26)
          have h5 := F5.out.alloc (.cells (#[.int .i64 0, .int .i64 0, .slice none 0 0, .slice none 0 0, .slice none 0 0, .int .i64 0, .int .i64 0]) 26)
          have us1 : U15.heap.size < (U15.alloc (.cells (#[.int .i64 0, .int .i64 0, .slice none 0 0, .slice none 0 0, .slice none 0 0, .int .i64 0, .int .i64 0]) 26)).heap.size := by simp
          generalize U15.alloc (.cells (#[.int .i64 0, .int .i64 0, .slice none 0 0, .slice none 0 0, .slice none 0 0, .int .i64 0, .int .i64 0]) 26) = U158 at *
          have us2 : W1.heap.size ≤ U158.heap.size := by omega
          have G1 := Lib.hid h1
          have G5 := Lib.hid h5
          have G8 := Lib.hid h8
          have HU2 := Lib.hid hb
          clear hb HU F1 F5 h1 h5 h8
          have F1 := G1
          have F5 := G5
          have F8 := G8
          have HU := HU2
          have us := us2
          clear HU2 G1 G5 G8
          refine wpAnyH_ready (rs := [3]) (by kernel_rfl) (by simp) (AllReadyH.cons rfl (fun K hK => ?_) AllReadyH.nil)
          go_simp
          refine hK.out _ _ trivial (fun hHeld => ?_)
          clear hK K
          try simp only [Act.put, List.getElem_toArray, List.getElem_cons_zero, List.getElem_cons_succ, List.setIfInBounds_toArray, List.set_cons_zero, List.set_cons_succ]
          have hb : Below W1.heap.size W1 (U158.alloc (.cells (madeCells #[.int .i64 0] n) 3)) := HU.out.alloc us _
          have h3 := World.ownsRow_lit (base := W1.heap.size) (e := 3) (size := 1) U158 (madeCells #[.int .i64 0] n) n us (by simp only [maxLen]; omega) (by simp [size_madeCells])
          rw [toList_madeCells_one] at h3
          have h1 := F1.out.alloc (.cells (madeCells #[.int .i64 0] n) 3)
          have h5 := F5.out.alloc (.cells (madeCells #[.int .i64 0] n) 3)
          have h8 := F8.out.alloc (.cells (madeCells #[.int .i64 0] n) 3)
          have us1 : U158.heap.size < (U158.alloc (.cells (madeCells #[.int .i64 0] n) 3)).heap.size := by simp
          generalize U158.alloc (.cells (madeCells #[.int .i64 0] n) 3) = U1583 at *
          have us2 : W1.heap.size ≤ U1583.heap.size := by omega
          have G1 := Lib.hid h1
          have G5 := Lib.hid h5
          have G8 := Lib.hid h8
          have G3 := Lib.hid h3
          have HU2 := Lib.hid hb
          clear hb HU F1 F5 F8 h1 h5 h8 h3
          have F1 := G1
          have F5 := G5
          have F8 := G8
          have F3 := G3
          have HU := HU2
          have us := us2
          clear HU2 G1 G5 G8 G3
          refine wpAnyH_take (i := 7) (v := ?_) rfl (by kernel_rfl) (by kernel_rfl) (by kernel_rfl) (fun _ _ _ h => h) (Or.inl ⟨by rfl, ?_⟩) (by assumption) ?_
          rotate_left
          · intro w0 hSw
            (try dsimp only at hSw)
            go_simp
            all_goals with_reducible rfl
          try simp only [Act.put, List.getElem_toArray, List.getElem_cons_zero, List.getElem_cons_succ, List.setIfInBounds_toArray, List.set_cons_zero, List.set_cons_succ]
          have c0 := F8.out.cell 0
          have f0 := F8.out.frozen 0
          have c1 := F8.out.cell 1
          have f1 := F8.out.frozen 1
          have c2 := F8.out.cell 2
          have f2 := F8.out.frozen 2
          have c3 := F8.out.cell 3
          have f3 := F8.out.frozen 3
          have c4 := F8.out.cell 4
          have f4 := F8.out.frozen 4
          have c5 := F8.out.cell 5
          have f5 := F8.out.frozen 5
          have c6 := F8.out.cell 6
          have f6 := F8.out.frozen 6
          have cl := F8.out.lt
          refine wpAnyH_ready (rs := [9]) (by kernel_rfl) (by simp) (AllReadyH.cons rfl (fun K hK => ?_) AllReadyH.nil)
          go_simp
          refine hK.out _ _ trivial (fun hHeld => ?_)
          clear hK K
          clear c0 f0 c1 f1 c2 f2 c3 f3 c4 f4 c5 f5 c6 f6 cl
          refine wpAnyH_done (by kernel_rfl) ?_ _
          go_wp2_with fail
          go_meet
          have q1 := PO.blk7 (PO.newZ (few := few) F1.out F3.out F5.out h2) F8.out (.int .i64 0) (.int .i64 (-1)) (.slice (some ⟨U.heap.size, 0, none⟩) n n) (.slice (some ⟨U158.heap.size, 0, none⟩) n n) (.slice (some ⟨U1.heap.size, 0, none⟩) n n) (.int .i64 few) (.int .i64 0)
          have q2 := (((((((F8.out.set_ 0 (.int .i64 0)).set_ 1 (.int .i64 (-1))).set_ 2 (.slice (some ⟨U.heap.size, 0, none⟩) n n)).set_ 3 (.slice (some ⟨U158.heap.size, 0, none⟩) n n)).set_ 4 (.slice (some ⟨U1.heap.size, 0, none⟩) n n)).set_ 5 (.int .i64 few)).set_ 6 (.int .i64 0))
          have q3 := ((((((((B1_bz.out.below HU.out B1_bz.out.lt).far (p := ⟨U15.heap.size, 0, none⟩) (by show w.heap.size ≠ U15.heap.size; omega) (.int .i64 0)).far (p := ⟨U15.heap.size, 1, none⟩) (by show w.heap.size ≠ U15.heap.size; omega) (.int .i64 (-1))).far (p := ⟨U15.heap.size, 2, none⟩) (by show w.heap.size ≠ U15.heap.size; omega) (.slice (some ⟨U.heap.size, 0, none⟩) n n)).far (p := ⟨U15.heap.size, 3, none⟩) (by show w.heap.size ≠ U15.heap.size; omega) (.slice (some ⟨U158.heap.size, 0, none⟩) n n)).far (p := ⟨U15.heap.size, 4, none⟩) (by show w.heap.size ≠ U15.heap.size; omega) (.slice (some ⟨U1.heap.size, 0, none⟩) n n)).far (p := ⟨U15.heap.size, 5, none⟩) (by show w.heap.size ≠ U15.heap.size; omega) (.int .i64 few)).far (p := ⟨U15.heap.size, 6, none⟩) (by show w.heap.size ≠ U15.heap.size; omega) (.int .i64 0))
          have q4 := ((((((((below_then HB1.out HU.out).setCell (p := ⟨U15.heap.size, 0, none⟩) (by show w.heap.size ≤ U15.heap.size; omega) (.int .i64 0)).setCell (p := ⟨U15.heap.size, 1, none⟩) (by show w.heap.size ≤ U15.heap.size; omega) (.int .i64 (-1))).setCell (p := ⟨U15.heap.size, 2, none⟩) (by show w.heap.size ≤ U15.heap.size; omega) (.slice (some ⟨U.heap.size, 0, none⟩) n n)).setCell (p := ⟨U15.heap.size, 3, none⟩) (by show w.heap.size ≤ U15.heap.size; omega) (.slice (some ⟨U158.heap.size, 0, none⟩) n n)).setCell (p := ⟨U15.heap.size, 4, none⟩) (by show w.heap.size ≤ U15.heap.size; omega) (.slice (some ⟨U1.heap.size, 0, none⟩) n n)).setCell (p := ⟨U15.heap.size, 5, none⟩) (by show w.heap.size ≤ U15.heap.size; omega) (.int .i64 few)).setCell (p := ⟨U15.heap.size, 6, none⟩) (by show w.heap.size ≤ U15.heap.size; omega) (.int .i64 0))
          exact ⟨U15.heap.size, U.heap.size, U158.heap.size, U1.heap.size, rfl, q1, q2, q3, q4, by omega, by omega, by omega, by omega, by omega⟩
      · go_simp
        refine hK.out _ _ trivial (fun hHeld => ?_)
        clear hK K
        try simp only [Act.put, List.getElem_toArray, List.getElem_cons_zero, List.getElem_cons_succ, List.setIfInBounds_toArray, List.set_cons_zero, List.set_cons_succ]
        have hb : Below W1.heap.size W1 (U1.alloc (.cells (#[.int .i64 0, .int .i64 0, .slice none 0 0, .slice none 0 0, .slice none 0 0, .int .i64 0, .int .i64 0]) 26)) := HU.out.alloc us _
        have h8 : Blk (U1.alloc (.cells (#[.int .i64 0, .int .i64 0, .slice none 0 0, .slice none 0 0, .slice none 0 0, .int .i64 0, .int .i64 0]) 26)) U1.heap.size 26 #[.int .i64 0, .int .i64 0, .slice none 0 0, .slice none 0 0, .slice none 0 0, .int .i64 0, .int .i64 0] := Blk.new _ _ _
        have h1 := F1.out.alloc (.cells (#[.int .i64 0, .int .i64 0, .slice none 0 0, .slice none 0 0, .slice none 0 0, .int .i64 0, .int .i64 0]) 26)
        have us1 : U1.heap.size < (U1.alloc (.cells (#[.int .i64 0, .int .i64 0, .slice none 0 0, .slice none 0 0, .slice none 0 0, .int .i64 0, .int .i64 0]) 26)).heap.size := by simp
        generalize U1.alloc (.cells (#[.int .i64 0, .int .i64 0, .slice none 0 0, .slice none 0 0, .slice none 0 0, .int .i64 0, .int .i64 0]) 26) = U18 at *
        have us2 : W1.heap.size ≤ U18.heap.size := by omega
        have G1 := Lib.hid h1
        have G8 := Lib.hid h8
        have HU2 := Lib.hid hb
        clear hb HU F1 h1 h8
        have F1 := G1
        have F8 := G8
        have HU := HU2
        have us := us2
        clear HU2 G1 G8
        refine wpAnyH_ready (rs := [3, 5]) (by kernel_rfl) (by simp) (AllReadyH.cons rfl (fun K hK => ?_) (AllReadyH.cons rfl (fun K hK => ?_) AllReadyH.nil))
        · go_simp
          refine hK.out _ _ trivial (fun hHeld => ?_)
          clear hK K
          try simp only [Act.put, List.getElem_toArray, List.getElem_cons_zero, List.getElem_cons_succ, List.setIfInBounds_toArray, List.set_cons_zero, List.set_cons_succ]
          have hb : Below W1.heap.size W1 (U18.alloc (.cells (madeCells #[.int .i64 0] n) 3)) := HU.out.alloc us _
          have h3 := World.ownsRow_lit (base := W1.heap.size) (e := 3) (size := 1) U18 (madeCells #[.int .i64 0] n) n us (by simp only [maxLen]; omega) (by simp [size_madeCells])
          rw [toList_madeCells_one] at h3
          have h1 := F1.out.alloc (.cells (madeCells #[.int .i64 0] n) 3)
          have h8 := F8.out.alloc (.cells (madeCells #[.int .i64 0] n) 3)
          have us1 : U18.heap.size < (U18.alloc (.cells (madeCells #[.int .i64 0] n) 3)).heap.size := by simp
          generalize U18.alloc (.cells (madeCells #[.int .i64 0] n) 3) = U183 at *
          have us2 : W1.heap.size ≤ U183.heap.size := by omega
          have G1 := Lib.hid h1
          have G8 := Lib.hid h8
          have G3 := Lib.hid h3
          have HU2 := Lib.hid hb
          clear hb HU F1 F8 h1 h8 h3
          have F1 := G1
          have F8 := G8
          have F3 := G3
          have HU := HU2
          have us := us2
          clear HU2 G1 G8 G3
          refine wpAnyH_ready (rs := [5]) (by kernel_rfl) (by simp) (AllReadyH.cons rfl (fun K hK => ?_) AllReadyH.nil)
          go_simp
          refine hK.out _ _ trivial (fun hHeld => ?_)
          clear hK K
          try simp only [Act.put, List.getElem_toArray, List.getElem_cons_zero, List.getElem_cons_succ, List.setIfInBounds_toArray, List.set_cons_zero, List.set_cons_succ]
          have hb : Below W1.heap.size W1 (U183.alloc (.cells (ZR n) 71)) := HU.out.alloc us _
          have h5 := World.ownsRow_lit (base := W1.heap.size) (e := 71) (size := 4) U183 (ZR n) n us (by simp only [maxLen]; omega) (by simp [ZR, size_madeCells])
          have h1 := F1.out.alloc (.cells (ZR n) 71)
          have h8 := F8.out.alloc (.cells (ZR n) 71)
          have h3 := F3.out.alloc (.cells (ZR n) 71)
          have us1 : U183.heap.size < (U183.alloc (.cells (ZR n) 71)).heap.size := by simp
          generalize U183.alloc (.cells (ZR n) 71) = U1835 at *
          have us2 : W1.heap.size ≤ U1835.heap.size := by omega
          have G1 := Lib.hid h1
          have G8 := Lib.hid h8
          have G3 := Lib.hid h3
          have G5 := Lib.hid h5
          have HU2 := Lib.hid hb
          clear hb HU F1 F8 F3 h1 h8 h3 h5
          have F1 := G1
          have F8 := G8
          have F3 := G3
          have F5 := G5
          have HU := HU2
          have us := us2
          clear HU2 G1 G8 G3 G5
          refine wpAnyH_take (i := 7) (v := ?_) rfl (by kernel_rfl) (by kernel_rfl) (by kernel_rfl) (fun _ _ _ h => h) (Or.inl ⟨by rfl, ?_⟩) (by assumption) ?_
          rotate_left
          · intro w0 hSw
            (try dsimp only at hSw)
            go_simp
            all_goals with_reducible rfl
          try simp only [Act.put, List.getElem_toArray, List.getElem_cons_zero, List.getElem_cons_succ, List.setIfInBounds_toArray, List.set_cons_zero, List.set_cons_succ]
          have c0 := F8.out.cell 0
          have f0 := F8.out.frozen 0
          have c1 := F8.out.cell 1
          have f1 := F8.out.frozen 1
          have c2 := F8.out.cell 2
          have f2 := F8.out.frozen 2
          have c3 := F8.out.cell 3
          have f3 := F8.out.frozen 3
          have c4 := F8.out.cell 4
          have f4 := F8.out.frozen 4
          have c5 := F8.out.cell 5
          have f5 := F8.out.frozen 5
          have c6 := F8.out.cell 6
          have f6 := F8.out.frozen 6
          have cl := F8.out.lt
          refine wpAnyH_ready (rs := [9]) (by kernel_rfl) (by simp) (AllReadyH.cons rfl (fun K hK => ?_) AllReadyH.nil)
          go_simp
          refine hK.out _ _ trivial (fun hHeld => ?_)
          clear hK K
          clear c0 f0 c1 f1 c2 f2 c3 f3 c4 f4 c5 f5 c6 f6 cl
          refine wpAnyH_done (by kernel_rfl) ?_ _
          go_wp2_with fail
          go_meet
          have q1 := PO.blk7 (PO.newZ (few := few) F1.out F3.out F5.out h2) F8.out (.int .i64 0) (.int .i64 (-1)) (.slice (some ⟨U.heap.size, 0, none⟩) n n) (.slice (some ⟨U18.heap.size, 0, none⟩) n n) (.slice (some ⟨U183.heap.size, 0, none⟩) n n) (.int .i64 few) (.int .i64 0)
          have q2 := (((((((F8.out.set_ 0 (.int .i64 0)).set_ 1 (.int .i64 (-1))).set_ 2 (.slice (some ⟨U.heap.size, 0, none⟩) n n)).set_ 3 (.slice (some ⟨U18.heap.size, 0, none⟩) n n)).set_ 4 (.slice (some ⟨U183.heap.size, 0, none⟩) n n)).set_ 5 (.int .i64 few)).set_ 6 (.int .i64 0))
          have q3 := ((((((((B1_bz.out.below HU.out B1_bz.out.lt).far (p := ⟨U1.heap.size, 0, none⟩) (by show w.heap.size ≠ U1.heap.size; omega) (.int .i64 0)).far (p := ⟨U1.heap.size, 1, none⟩) (by show w.heap.size ≠ U1.heap.size; omega) (.int .i64 (-1))).far (p := ⟨U1.heap.size, 2, none⟩) (by show w.heap.size ≠ U1.heap.size; omega) (.slice (some ⟨U.heap.size, 0, none⟩) n n)).far (p := ⟨U1.heap.size, 3, none⟩) (by show w.heap.size ≠ U1.heap.size; omega) (.slice (some ⟨U18.heap.size, 0, none⟩) n n)).far (p := ⟨U1.heap.size, 4, none⟩) (by show w.heap.size ≠ U1.heap.size; omega) (.slice (some ⟨U183.heap.size, 0, none⟩) n n)).far (p := ⟨U1.heap.size, 5, none⟩) (by show w.heap.size ≠ U1.heap.size; omega) (.int .i64 few)).far (p := ⟨U1.heap.size, 6, none⟩) (by show w.heap.size ≠ U1.heap.size; omega) (.int .i64 0))
          have q4 := ((((((((below_then HB1.out HU.out).setCell (p := ⟨U1.heap.size, 0, none⟩) (by show w.heap.size ≤ U1.heap.size; omega) (.int .i64 0)).setCell (p := ⟨U1.heap.size, 1, none⟩) (by show w.heap.size ≤ U1.heap.size; omega) (.int .i64 (-1))).setCell (p := ⟨U1.heap.size, 2, none⟩) (by show w.heap.size ≤ U1.heap.size; omega) (.slice (some ⟨U.heap.size, 0, none⟩) n n)).setCell (p := ⟨U1.heap.size, 3, none⟩) (by show w.heap.size ≤ U1.heap.size; omega) (.slice (some ⟨U18.heap.size, 0, none⟩) n n)).setCell (p := ⟨U1.heap.size, 4, none⟩) (by show w.heap.size ≤ U1.heap.size; omega) (.slice (some ⟨U183.heap.size, 0, none⟩) n n)).setCell (p := ⟨U1.heap.size, 5, none⟩) (by show w.heap.size ≤ U1.heap.size; omega) (.int .i64 few)).setCell (p := ⟨U1.heap.size, 6, none⟩) (by show w.heap.size ≤ U1.heap.size; omega) (.int .i64 0))
          exact ⟨U1.heap.size, U.heap.size, U18.heap.size, U183.heap.size, rfl, q1, q2, q3, q4, by omega, by omega, by omega, by omega, by omega⟩
        · go_simp
          refine hK.out _ _ trivial (fun hHeld => ?_)
          clear hK K
          try simp only [Act.put, List.getElem_toArray, List.getElem_cons_zero, List.getElem_cons_succ, List.setIfInBounds_toArray, List.set_cons_zero, List.set_cons_succ]
          have hb : Below W1.heap.size W1 (U18.alloc (.cells (ZR n) 71)) := HU.out.alloc us _
          have h5 := World.ownsRow_lit (base := W1.heap.size) (e := 71) (size := 4) U18 (ZR n) n us (by simp only [maxLen]; omega) (by simp [ZR, size_madeCells])
          have h1 := F1.out.alloc (.cells (ZR n) 71)
          have h8 := F8.out.alloc (.cells (ZR n) 71)
          have us1 : U18.heap.size < (U18.alloc (.cells (ZR n) 71)).heap.size := by simp
          generalize U18.alloc (.cells (ZR n) 71) = U185 at *
          have us2 : W1.heap.size ≤ U185.heap.size := by omega
          have G1 := Lib.hid h1
          have G8 := Lib.hid h8
          have G5 := Lib.hid h5
          have HU2 := Lib.hid hb
          clear hb HU F1 F8 h1 h8 h5
          have F1 := G1
          have F8 := G8
          have F5 := G5
          have HU := HU2
          have us := us2
          clear HU2 G1 G8 G5
          refine wpAnyH_ready (rs := [3]) (by kernel_rfl) (by simp) (AllReadyH.cons rfl (fun K hK => ?_) AllReadyH.nil)
          go_simp
          refine hK.out _ _ trivial (fun hHeld => ?_)
          clear hK K
          try simp only [Act.put, List.getElem_toArray, List.getElem_cons_zero, List.getElem_cons_succ, List.setIfInBounds_toArray, List.set_cons_zero, List.set_cons_succ]
          have hb : Below W1.heap.size W1 (U185.alloc (.cells (madeCells #[.int .i64 0] n) 3)) := HU.out.alloc us _
          have h3 := World.ownsRow_lit (base := W1.heap.size) (e := 3) (size := 1) U185 (madeCells #[.int .i64 0] n) n us (by simp only [maxLen]; omega) (by simp [size_madeCells])
          rw [toList_madeCells_one] at h3
          have h1 := F1.out.alloc (.cells (madeCells #[.int .i64 0] n) 3)
          have h8 := F8.out.alloc (.cells (madeCells #[.int .i64 0] n) 3)
          have h5 := F5.out.alloc (.cells (madeCells #[.int .i64 0] n) 3)
          have us1 : U185.heap.size < (U185.alloc (.cells (madeCells #[.int .i64 0] n) 3)).heap.size := by simp
          generalize U185.alloc (.cells (madeCells #[.int .i64 0] n) 3) = U1853 at *
          have us2 : W1.heap.size ≤ U1853.heap.size := by omega
          have G1 := Lib.hid h1
          have G8 := Lib.hid h8
          have G5 := Lib.hid h5
          have G3 := Lib.hid h3
          have HU2 := Lib.hid hb
          clear hb HU F1 F8 F5 h1 h8 h5 h3
          have F1 := G1
          have F8 := G8
          have F5 := G5
          have F3 := G3
          have HU := HU2
          have us := us2
          clear HU2 G1 G8 G5 G3
          refine wpAnyH_take (i := 7) (v := ?_) rfl (by kernel_rfl) (by kernel_rfl) (by kernel_rfl) (fun _ _ _ h => h) (Or.inl ⟨by rfl, ?_⟩) (by assumption) ?_
          rotate_left
          · intro w0 hSw
            (try dsimp only at hSw)
            go_simp
            all_goals with_reducible rfl
          try simp only [Act.put, List.getElem_toArray, List.getElem_cons_zero, List.getElem_cons_succ, List.setIfInBounds_toArray, List.set_cons_zero, List.set_cons_succ]
          have c0 := F8.out.cell 0
          have f0 := F8.out.frozen 0
          have c1 := F8.out.cell 1
          have f1 := F8.out.frozen 1
          have c2 := F8.out.cell 2
          have f2 := F8.out.frozen 2
          have c3 := F8.out.cell 3
          have f3 := F8.out.frozen 3
          have c4 := F8.out.cell 4
          have f4 := F8.out.frozen 4
          have c5 := F8.out.cell 5
          have f5 := F8.out.frozen 5
          have c6 := F8.out.cell 6
          have f6 := F8.out.frozen 6
          have cl := F8.out.lt
          refine wpAnyH_ready (rs := [9]) (by kernel_rfl) (by simp) (AllReadyH.cons rfl (fun K hK => ?_) AllReadyH.nil)
          go_simp
          refine hK.out _ _ trivial (fun hHeld => ?_)
          clear hK K
          clear c0 f0 c1 f1 c2 f2 c3 f3 c4 f4 c5 f5 c6 f6 cl
          refine wpAnyH_done (by kernel_rfl) ?_ _
          go_wp2_with fail
          go_meet
          have q1 := PO.blk7 (PO.newZ (few := few) F1.out F3.out F5.out h2) F8.out (.int .i64 0) (.int .i64 (-1)) (.slice (some ⟨U.heap.size, 0, none⟩) n n) (.slice (some ⟨U185.heap.size, 0, none⟩) n n) (.slice (some ⟨U18.heap.size, 0, none⟩) n n) (.int .i64 few) (.int .i64 0)
          have q2 := (((((((F8.out.set_ 0 (.int .i64 0)).set_ 1 (.int .i64 (-1))).set_ 2 (.slice (some ⟨U.heap.size, 0, none⟩) n n)).set_ 3 (.slice (some ⟨U185.heap.size, 0, none⟩) n n)).set_ 4 (.slice (some ⟨U18.heap.size, 0, none⟩) n n)).set_ 5 (.int .i64 few)).set_ 6 (.int .i64 0))
          have q3 := ((((((((B1_bz.out.below HU.out B1_bz.out.lt).far (p := ⟨U1.heap.size, 0, none⟩) (by show w.heap.size ≠ U1.heap.size; omega) (.int .i64 0)).far (p := ⟨U1.heap.size, 1, none⟩) (by show w.heap.size ≠ U1.heap.size; omega) (.int .i64 (-1))).far (p := ⟨U1.heap.size, 2, none⟩) (by show w.heap.size ≠ U1.heap.size; omega) (.slice (some ⟨U.heap.size, 0, none⟩) n n)).far (p := ⟨U1.heap.size, 3, none⟩) (by show w.heap.size ≠ U1.heap.size; omega) (.slice (some ⟨U185.heap.size, 0, none⟩) n n)).far (p := ⟨U1.heap.size, 4, none⟩) (by show w.heap.size ≠ U1.heap.size; omega) (.slice (some ⟨U18.heap.size, 0, none⟩) n n)).far (p := ⟨U1.heap.size, 5, none⟩) (by show w.heap.size ≠ U1.heap.size; omega) (.int .i64 few)).far (p := ⟨U1.heap.size, 6, none⟩) (by show w.heap.size ≠ U1.heap.size; omega) (.int .i64 0))
          have q4 := ((((((((below_then HB1.out HU.out).setCell (p := ⟨U1.heap.size, 0, none⟩) (by show w.heap.size ≤ U1.heap.size; omega) (.int .i64 0)).setCell (p := ⟨U1.heap.size, 1, none⟩) (by show w.heap.size ≤ U1.heap.size; omega) (.int .i64 (-1))).setCell (p := ⟨U1.heap.size, 2, none⟩) (by show w.heap.size ≤ U1.heap.size; omega) (.slice (some ⟨U.heap.size, 0, none⟩) n n)).setCell (p := ⟨U1.heap.size, 3, none⟩) (by show w.heap.size ≤ U1.heap.size; omega) (.slice (some ⟨U185.heap.size, 0, none⟩) n n)).setCell (p := ⟨U1.heap.size, 4, none⟩) (by show w.heap.size ≤ U1.heap.size; omega) (.slice (some ⟨U18.heap.size, 0, none⟩) n n)).setCell (p := ⟨U1.heap.size, 5, none⟩) (by show w.heap.size ≤ U1.heap.size; omega) (.int .i64 few)).setCell (p := ⟨U1.heap.size, 6, none⟩) (by show w.heap.size ≤ U1.heap.size; omega) (.int .i64 0))
          exact ⟨U1.heap.size, U.heap.size, U185.heap.size, U18.heap.size, rfl, q1, q2, q3, q4, by omega, by omega, by omega, by omega, by omega⟩
    · go_simp
      refine hK.out _ _ trivial (fun hHeld => ?_)
      clear hK K
      try simp only [Act.put, List.getElem_toArray, List.getElem_cons_zero, List.getElem_cons_succ, List.setIfInBounds_toArray, List.set_cons_zero, List.set_cons_succ]
      have hb : Below W1.heap.size W1 (U.alloc (.cells (madeCells #[.int .i64 0] n) 3)) := HU.out.alloc us _
      have h3 := World.ownsRow_lit (base := W1.heap.size) (e := 3) (size := 1) U (madeCells #[.int .i64 0] n) n us (by simp only [maxLen]; omega) (by simp [size_madeCells])
      rw [toList_madeCells_one] at h3
      have us1 : U.heap.size < (U.alloc (.cells (madeCells #[.int .i64 0] n) 3)).heap.size := by simp
      generalize U.alloc (.cells (madeCells #[.int .i64 0] n) 3) = U3 at *
      have us2 : W1.heap.size ≤ U3.heap.size := by omega
      have G3 := Lib.hid h3
      have HU2 := Lib.hid hb
      clear hb HU  h3
      have F3 := G3
      have HU := HU2
      have us := us2
      clear HU2 G3
      refine wpAnyH_ready (rs := [1, 5, 8]) (by kernel_rfl) (by simp) (AllReadyH.cons rfl (fun K hK => ?_) (AllReadyH.cons rfl (fun K hK => ?_) (AllReadyH.cons rfl (fun K hK => ?_) AllReadyH.nil)))
      · go_simp
        refine hK.out _ _ trivial (fun hHeld => ?_)
        clear hK K
        try simp only [Act.put, List.getElem_toArray, List.getElem_cons_zero, List.getElem_cons_succ, List.setIfInBounds_toArray, List.set_cons_zero, List.set_cons_succ]
        have hb : Below W1.heap.size W1 (U3.alloc (.cells (madeCells #[.bool false] n) 4)) := HU.out.alloc us _
        have h1 := World.ownsRow_lit (base := W1.heap.size) (e := 4) (size := 1) U3 (madeCells #[.bool false] n) n us (by simp only [maxLen]; omega) (by simp [size_madeCells])
        rw [toList_madeCells_one] at h1
        have h3 := F3.out.alloc (.cells (madeCells #[.bool false] n) 4)
        have us1 : U3.heap.size < (U3.alloc (.cells (madeCells #[.bool false] n) 4)).heap.size := by simp
        generalize U3.alloc (.cells (madeCells #[.bool false] n) 4) = U31 at *
        have us2 : W1.heap.size ≤ U31.heap.size := by omega
        have G3 := Lib.hid h3
        have G1 := Lib.hid h1
        have HU2 := Lib.hid hb
        clear hb HU F3 h3 h1
        have F3 := G3
        have F1 := G1
        have HU := HU2
        have us := us2
        clear HU2 G3 G1
        refine wpAnyH_ready (rs := [5, 8]) (by kernel_rfl) (by simp) (AllReadyH.cons rfl (fun K hK => ?_) (AllReadyH.cons rfl (fun K hK => ?_) AllReadyH.nil))
        · go_simp
          refine hK.out _ _ trivial (fun hHeld => ?_)
          clear hK K
          try simp only [Act.put, List.getElem_toArray, List.getElem_cons_zero, List.getElem_cons_succ, List.setIfInBounds_toArray, List.set_cons_zero, List.set_cons_succ]
          have hb : Below W1.heap.size W1 (U31.alloc (.cells (ZR n) 71)) := HU.out.alloc us _
          have h5 := World.ownsRow_lit (base := W1.heap.size) (e := 71) (size := 4) U31 (ZR n) n us (by simp only [maxLen]; omega) (by simp [ZR, size_madeCells])
          have h3 := F3.out.alloc (.cells (ZR n) 71)
          have h1 := F1.out.alloc (.cells (ZR n) 71)
          have us1 : U31.heap.size < (U31.alloc (.cells (ZR n) 71)).heap.size := by simp
          generalize U31.alloc (.cells (ZR n) 71) = U315 at *
          have us2 : W1.heap.size ≤ U315.heap.size := by omega
          have G3 := Lib.hid h3
          have G1 := Lib.hid h1
          have G5 := Lib.hid h5
          have HU2 := Lib.hid hb
          clear hb HU F3 F1 h3 h1 h5
          have F3 := G3
          have F1 := G1
          have F5 := G5
          have HU := HU2
          have us := us2
          clear HU2 G3 G1 G5
          refine wpAnyH_take (i := 7) (v := ?_) rfl (by kernel_rfl) (by kernel_rfl) (by kernel_rfl) (fun _ _ _ h => h) (Or.inl ⟨by rfl, ?_⟩) (by assumption) ?_
          rotate_left
          · intro w0 hSw
            (try dsimp only at hSw)
            go_simp
            all_goals with_reducible rfl
          try simp only [Act.put, List.getElem_toArray, List.getElem_cons_zero, List.getElem_cons_succ, List.setIfInBounds_toArray, List.set_cons_zero, List.set_cons_succ]
          refine wpAnyH_ready (rs := [8]) (by kernel_rfl) (by simp) (AllReadyH.cons rfl (fun K hK => ?_) AllReadyH.nil)
          go_simp
          refine hK.out _ _ trivial (fun hHeld => ?_)
          clear hK K
          try simp only [Act.put, List.getElem_toArray, List.getElem_cons_zero, List.getElem_cons_succ, List.setIfInBounds_toArray, List.set_cons_zero, List.set_cons_succ]
          have hb : Below W1.heap.size W1 (U315.alloc (.cells (#[.int .i64 0, .int .i64 0, .slice none 0 0, .slice none 0 0, .slice none 0 0, .int .i64 0, .int .i64 0]) 26)) := HU.out.alloc us _
          have h8 : Blk (U315.alloc (.cells (#[.int .i64 0, .int .i64 0, .slice none 0 0, .slice none 0 0, .slice none 0 0, .int .i64 0, .int .i64 0]) 26)) U315.heap.size 26 #[.int .i64 0, .int .i64 0, .slice none 0 0, .slice none 0 0, .slice none 0 0, .int .i64 0, .int .i64 0] := Blk.new _ _ _
          have h3 := F3.out.alloc (.cells (#[.int .i64 0, .int .i64 0, .slice none 0 0, .slice none 0 0, .slice none 0 0, .int .i64 0, .int .i64 0]) 26)
          have h1 := F1.out.alloc (.cells (#[.int .i64 0, .int .i64 0, .slice none 0 0, .slice none 0 0, .slice none 0 0, .int .i64 0, .int .i64 0]) 26)
          have h5 := F5.out.alloc (.cells (#[.int .i64 0, .int .i64 0, .slice none 0 0, .slice none 0 0, .slice none 0 0, .int .i64 0, .int .i64 0]) 26)
          have us1 : U315.heap.size < (U315.alloc (.cells (#[.int .i64 0, .int .i64 0, .slice none 0 0, .slice none 0 0, .slice none 0 0, .int .i64 0, .int .i64 0]) 26)).heap.size := by simp
          generalize U315.alloc (.cells (#[.int .i64 0, .int .i64 0, .slice none 0 0, .slice none 0 0, .slice none 0 0, .int .i64 0, .int .i64 0]) 26) = U3158 at *
          have us2 : W1.heap.size ≤ U3158.heap.size := by omega
          have G3 := Lib.hid h3
          have G1 := Lib.hid h1
          have G5 := Lib.hid h5
          have G8 := Lib.hid h8
          have HU2 := Lib.hid hb
          clear hb HU F3 F1 F5 h3 h1 h5 h8
          have F3 := G3
          have F1 := G1
          have F5 := G5
          have F8 := G8
          have HU := HU2
          have us := us2
          clear HU2 G3 G1 G5 G8
          have c0 := F8.out.cell 0
          have f0 := F8.out.frozen 0
          have c1 := F8.out.cell 1
          have f1 := F8.out.frozen 1
          have c2 := F8.out.cell 2
          have f2 := F8.out.frozen 2
          have c3 := F8.out.cell 3
          have f3 := F8.out.frozen 3
          have c4 := F8.out.cell 4
          have f4 := F8.out.frozen 4
          have c5 := F8.out.cell 5
          have f5 := F8.out.frozen 5
          have c6 := F8.out.cell 6
          have f6 := F8.out.frozen 6
          have cl := F8.out.lt
          refine wpAnyH_ready (rs := [9]) (by kernel_rfl) (by simp) (AllReadyH.cons rfl (fun K hK => ?_) AllReadyH.nil)
          go_simp
          refine hK.out _ _ trivial (fun hHeld => ?_)
          clear hK K
          clear c0 f0 c1 f1 c2 f2 c3 f3 c4 f4 c5 f5 c6 f6 cl
          refine wpAnyH_done (by kernel_rfl) ?_ _
          go_wp2_with fail
          go_meet
          have q1 := PO.blk7 (PO.newZ (few := few) F1.out F3.out F5.out h2) F8.out (.int .i64 0) (.int .i64 (-1)) (.slice (some ⟨U3.heap.size, 0, none⟩) n n) (.slice (some ⟨U.heap.size, 0, none⟩) n n) (.slice (some ⟨U31.heap.size, 0, none⟩) n n) (.int .i64 few) (.int .i64 0)
          have q2 := (((((((F8.out.set_ 0 (.int .i64 0)).set_ 1 (.int .i64 (-1))).set_ 2 (.slice (some ⟨U3.heap.size, 0, none⟩) n n)).set_ 3 (.slice (some ⟨U.heap.size, 0, none⟩) n n)).set_ 4 (.slice (some ⟨U31.heap.size, 0, none⟩) n n)).set_ 5 (.int .i64 few)).set_ 6 (.int .i64 0))
          have q3 := ((((((((B1_bz.out.below HU.out B1_bz.out.lt).far (p := ⟨U315.heap.size, 0, none⟩) (by show w.heap.size ≠ U315.heap.size; omega) (.int .i64 0)).far (p := ⟨U315.heap.size, 1, none⟩) (by show w.heap.size ≠ U315.heap.size; omega) (.int .i64 (-1))).far (p := ⟨U315.heap.size, 2, none⟩) (by show w.heap.size ≠ U315.heap.size; omega) (.slice (some ⟨U3.heap.size, 0, none⟩) n n)).far (p := ⟨U315.heap.size, 3, none⟩) (by show w.heap.size ≠ U315.heap.size; omega) (.slice (some ⟨U.heap.size, 0, none⟩) n n)).far (p := ⟨U315.heap.size, 4, none⟩) (by show w.heap.size ≠ U315.heap.size; omega) (.slice (some ⟨U31.heap.size, 0, none⟩) n n)).far (p := ⟨U315.heap.size, 5, none⟩) (by show w.heap.size ≠ U315.heap.size; omega) (.int .i64 few)).far (p := ⟨U315.heap.size, 6, none⟩) (by show w.heap.size ≠ U315.heap.size; omega) (.int .i64 0))
          have q4 := ((((((((below_then HB1.out HU.out).setCell (p := ⟨U315.heap.size, 0, none⟩) (by show w.heap.size ≤ U315.heap.size; omega) (.int .i64 0)).setCell (p := ⟨U315.heap.size, 1, none⟩) (by show w.heap.size ≤ U315.heap.size; omega) (.int .i64 (-1))).setCell (p := ⟨U315.heap.size, 2, none⟩) (by show w.heap.size ≤ U315.heap.size; omega) (.slice (some ⟨U3.heap.size, 0, none⟩) n n)).setCell (p := ⟨U315.heap.size, 3, none⟩) (by show w.heap.size ≤ U315.heap.size; omega) (.slice (some ⟨U.heap.size, 0, none⟩) n n)).setCell (p := ⟨U315.heap.size, 4, none⟩) (by show w.heap.size ≤ U315.heap.size; omega) (.slice (some ⟨U31.heap.size, 0, none⟩) n n)).setCell (p := ⟨U315.heap.size, 5, none⟩) (by show w.heap.size ≤ U315.heap.size; omega) (.int .i64 few)).setCell (p := ⟨U315.heap.size, 6, none⟩) (by show w.heap.size ≤ U315.heap.size; omega) (.int .i64 0))
          exact ⟨U315.heap.size, U3.heap.size, U.heap.size, U31.heap.size, rfl, q1, q2, q3, q4, by omega, by omega, by omega, by omega, by omega⟩
        · go_simp
          refine hK.out _ _ trivial (fun hHeld => ?_)
          clear hK K
          try simp only [Act.put, List.getElem_toArray, List.getElem_cons_zero, List.getElem_cons_succ, List.setIfInBounds_toArray, List.set_cons_zero, List.set_cons_succ]
          have hb : Below W1.heap.size W1 (U31.alloc (.cells (#[.int .i64 0, .int .i64 0, .slice none 0 0, .slice none 0 0, .slice none 0 0, .int .i64 0, .int .i64 0]) 26)) := HU.out.alloc us _
          have h8 : Blk (U31.alloc (.cells (#[.int .i64 0, .int .i64 0, .slice none 0 0, .slice none 0 0, .slice none 0 0, .int .i64 0, .int .i64 0]) 26)) U31.heap.size 26 #[.int .i64 0, .int .i64 0, .slice none 0 0, .slice none 0 0, .slice none 0 0, .int .i64 0, .int .i64 0] := Blk.new _ _ _
          have h3 := F3.out.alloc (.cells (#[.int .i64 0, .int .i64 0, .slice none 0 0, .slice none 0 0, .slice none 0 0, .int .i64 0, .int .i64 0]) 26)
          have h1 := F1.out.alloc (.cells (#[.int .i64 0, .int .i64 0, .slice none 0 0, .slice none 0 0, .slice none 0 0, .int .i64 0, .int .i64 0]) 26)
          have us1 : U31.heap.size < (U31.alloc (.cells (#[.int .i64 0, .int .i64 0, .slice none 0 0, .slice none 0 0, .slice none 0 0, .int .i64 0, .int .i64 0]) 26)).heap.size := by simp
          generalize U31.alloc (.cells (#[.int .i64 0, .int .i64 0, .slice none 0 0, .slice none 0 0, .slice none 0 0, .int .i64 0, .int .i64 0]) 26) = U318 at *
          have us2 : W1.heap.size ≤ U318.heap.size := by omega
          have G3 := Lib.hid h3
          have G1 := Lib.hid h1
          have G8 := Lib.hid h8
          have HU2 := Lib.hid hb
          clear hb HU F3 F1 h3 h1 h8
          have F3 := G3
          have F1 := G1
          have F8 := G8
          have HU := HU2
          have us := us2
          clear HU2 G3 G1 G8
          refine wpAnyH_ready (rs := [5]) (by kernel_rfl) (by simp) (AllReadyH.cons rfl (fun K hK => ?_) AllReadyH.nil)
          go_simp
          refine hK.out _ _ trivial (fun hHeld => ?_)
          clear hK K
          try simp only [Act.put, List.getElem_toArray, List.getElem_cons_zero, List.getElem_cons_succ, List.setIfInBounds_toArray, List.set_cons_zero, List.set_cons_succ]
          have hb : Below W1.heap.size W1 (U318.alloc (.cells (ZR n) 71)) := HU.out.alloc us _
          have h5 := World.ownsRow_lit (base := W1.heap.size) (e := 71) (size := 4) U318 (ZR n) n us (by simp only [maxLen]; omega) (by simp [ZR, size_madeCells])
          have h3 := F3.out.alloc (.cells (ZR n) 71)
          have h1 := F1.out.alloc (.cells (ZR n) 71)
          have h8 := F8.out.alloc (.cells (ZR n) 71)
          have us1 : U318.heap.size < (U318.alloc (.cells (ZR n) 71)).heap.size := by simp
          generalize U318.alloc (.cells (ZR n) 71) = U3185 at *
          have us2 : W1.heap.size ≤ U3185.heap.size := by omega
          have G3 := Lib.hid h3
          have G1 := Lib.hid h1
          have G8 := Lib.hid h8
          have G5 := Lib.hid h5
          have HU2 := Lib.hid hb
          clear hb HU F3 F1 F8 h3 h1 h8 h5
          have F3 := G3
          have F1 := G1
          have F8 := G8
          have F5 := G5
          have HU := HU2
          have us := us2
          clear HU2 G3 G1 G8 G5
          refine wpAnyH_take (i := 7) (v := ?_) rfl (by kernel_rfl) (by kernel_rfl) (by kernel_rfl) (fun _ _ _ h => h) (Or.inl ⟨by rfl, ?_⟩) (by assumption) ?_
          rotate_left
          · intro w0 hSw
            (try dsimp only at hSw)
            go_simp
            all_goals with_reducible rfl
          try simp only [Act.put, List.getElem_toArray, List.getElem_cons_zero, List.getElem_cons_succ, List.setIfInBounds_toArray, List.set_cons_zero, List.set_cons_succ]
          have c0 := F8.out.cell 0
          have f0 := F8.out.frozen 0
          have c1 := F8.out.cell 1
          have f1 := F8.out.frozen 1
          have c2 := F8.out.cell 2
          have f2 := F8.out.frozen 2
          have c3 := F8.out.cell 3
          have f3 := F8.out.frozen 3
          have c4 := F8.out.cell 4
          have f4 := F8.out.frozen 4
          have c5 := F8.out.cell 5
          have f5 := F8.out.frozen 5
          have c6 := F8.out.cell 6
          have f6 := F8.out.frozen 6
          have cl := F8.out.lt
          refine wpAnyH_ready (rs := [9]) (by kernel_rfl) (by simp) (AllReadyH.cons rfl (fun K hK => ?_) AllReadyH.nil)
          go_simp
          refine hK.out _ _ trivial (fun hHeld => ?_)
          clear hK K
          clear c0 f0 c1 f1 c2 f2 c3 f3 c4 f4 c5 f5 c6 f6 cl
          refine wpAnyH_done (by kernel_rfl) ?_ _
          go_wp2_with fail
          go_meet
          have q1 := PO.blk7 (PO.newZ (few := few) F1.out F3.out F5.out h2) F8.out (.int .i64 0) (.int .i64 (-1)) (.slice (some ⟨U3.heap.size, 0, none⟩) n n) (.slice (some ⟨U.heap.size, 0, none⟩) n n) (.slice (some ⟨U318.heap.size, 0, none⟩) n n) (.int .i64 few) (.int .i64 0)
          have q2 := (((((((F8.out.set_ 0 (.int .i64 0)).set_ 1 (.int .i64 (-1))).set_ 2 (.slice (some ⟨U3.heap.size, 0, none⟩) n n)).set_ 3 (.slice (some ⟨U.heap.size, 0, none⟩) n n)).set_ 4 (.slice (some ⟨U318.heap.size, 0, none⟩) n n)).set_ 5 (.int .i64 few)).set_ 6 (.int .i64 0))
          have q3 := ((((((((B1_bz.out.below HU.out B1_bz.out.lt).far (p := ⟨U31.heap.size, 0, none⟩) (by show w.heap.size ≠ U31.heap.size; omega) (.int .i64 0)).far (p := ⟨U31.heap.size, 1, none⟩) (by show w.heap.size ≠ U31.heap.size; omega) (.int .i64 (-1))).far (p := ⟨U31.heap.size, 2, none⟩) (by show w.heap.size ≠ U31.heap.size; omega) (.slice (some ⟨U3.heap.size, 0, none⟩) n n)).far (p := ⟨U31.heap.size, 3, none⟩) (by show w.heap.size ≠ U31.heap.size; omega) (.slice (some ⟨U.heap.size, 0, none⟩) n n)).far (p := ⟨U31.heap.size, 4, none⟩) (by show w.heap.size ≠ U31.heap.size; omega) (.slice (some ⟨U318.heap.size, 0, none⟩) n n)).far (p := ⟨U31.heap.size, 5, none⟩) (by show w.heap.size ≠ U31.heap.size; omega) (.int .i64 few)).far (p := ⟨U31.heap.size, 6, none⟩) (by show w.heap.size ≠ U31.heap.size; omega) (.int .i64 0))
          have q4 := ((((((((below_then HB1.out HU.out).setCell (p := ⟨U31.heap.size, 0, none⟩) (by show w.heap.size ≤ U31.heap.size; omega) (.int .i64 0)).setCell (p := ⟨U31.heap.size, 1, none⟩) (by show w.heap.size ≤ U31.heap.size; omega) (.int .i64 (-1))).setCell (p := ⟨U31.heap.size, 2, none⟩) (by show w.heap.size ≤ U31.heap.size; omega) (.slice (some ⟨U3.heap.size, 0, none⟩) n n)).setCell (p := ⟨U31.heap.size, 3, none⟩) (by show w.heap.size ≤ U31.heap.size; omega) (.slice (some ⟨U.heap.size, 0, none⟩) n n)).setCell (p := ⟨U31.heap.size, 4, none⟩) (by show w.heap.size ≤ U31.heap.size; omega) (.slice (some ⟨U318.heap.size, 0, none⟩) n n)).setCell (p := ⟨U31.heap.size, 5, none⟩) (by show w.heap.size ≤ U31.heap.size; omega) (.int .i64 few)).setCell (p := ⟨U31.heap.size, 6, none⟩) (by show w.heap.size ≤ U31.heap.size; omega) (.int .i64 0))
          exact ⟨U31.heap.size, U3.heap.size, U.heap.size, U318.heap.size, rfl, q1, q2, q3, q4, by omega, by omega, by omega, by omega, by omega⟩
      · go_simp
        refine hK.out _ _ trivial (fun hHeld => ?_)
        clear hK K
        try simp only [Act.put, List.getElem_toArray, List.getElem_cons_zero, List.getElem_cons_succ, List.setIfInBounds_toArray, List.set_cons_zero, List.set_cons_succ]
        have hb : Below W1.heap.size W1 (U3.alloc (.cells (ZR n) 71)) := HU.out.alloc us _
        have h5 := World.ownsRow_lit (base := W1.heap.size) (e := 71) (size := 4) U3 (ZR n) n us (by simp only [maxLen]; omega) (by simp [ZR, size_madeCells])
        have h3 := F3.out.alloc (.cells (ZR n) 71)
        have us1 : U3.heap.size < (U3.alloc (.cells (ZR n) 71)).heap.size := by simp
        generalize U3.alloc (.cells (ZR n) 71) = U35 at *
        have us2 : W1.heap.size ≤ U35.heap.size := by omega
        have G3 := Lib.hid h3
        have G5 := Lib.hid h5
        have HU2 := Lib.hid hb
        clear hb HU F3 h3 h5
        have F3 := G3
        have F5 := G5
        have HU := HU2
        have us := us2
        clear HU2 G3 G5
        refine wpAnyH_ready (rs := [1, 8]) (by kernel_rfl) (by simp) (AllReadyH.cons rfl (fun K hK => ?_) (AllReadyH.cons rfl (fun K hK => ?_) AllReadyH.nil))
        · go_simp
          refine hK.out _ _ trivial (fun hHeld => ?_)
          clear hK K
          try simp only [Act.put, List.getElem_toArray, List.getElem_cons_zero, List.getElem_cons_succ, List.setIfInBounds_toArray, List.set_cons_zero, List.set_cons_succ]
          have hb : Below W1.heap.size W1 (U35.alloc (.cells (madeCells #[.bool false] n) 4)) := HU.out.alloc us _
          have h1 := World.ownsRow_lit (base := W1.heap.size) (e := 4) (size := 1) U35 (madeCells #[.bool false] n) n us (by simp only [maxLen]; omega) (by simp [size_madeCells])
          rw [toList_madeCells_one] at h1
          have h3 := F3.out.alloc (.cells (madeCells #[.bool false] n) 4)
          have h5 := F5.out.alloc (.cells (madeCells #[.bool false] n) 4)
          have us1 : U35.heap.size < (U35.alloc (.cells (madeCells #[.bool false] n) 4)).heap.size := by simp
          generalize U35.alloc (.cells (madeCells #[.bool false] n) 4) = U351 at *
          have us2 : W1.heap.size ≤ U351.heap.size := by omega
          have G3 := Lib.hid h3
          have G5 := Lib.hid h5
          have G1 := Lib.hid h1
          have HU2 := Lib.hid hb
          clear hb HU F3 F5 h3 h5 h1
          have F3 := G3
          have F5 := G5
          have F1 := G1
          have HU := HU2
          have us := us2
          clear HU2 G3 G5 G1
          refine wpAnyH_take (i := 7) (v := ?_) rfl (by kernel_rfl) (by kernel_rfl) (by kernel_rfl) (fun _ _ _ h => h) (Or.inl ⟨by rfl, ?_⟩) (by assumption) ?_
          rotate_left
          · intro w0 hSw
            (try dsimp only at hSw)
            go_simp
            all_goals with_reducible rfl
          try simp only [Act.put, List.getElem_toArray, List.getElem_cons_zero, List.getElem_cons_succ, List.setIfInBounds_toArray, List.set_cons_zero, List.set_cons_succ]
          refine wpAnyH_ready (rs := [8]) (by kernel_rfl) (by simp) (AllReadyH.cons rfl (fun K hK => ?_) AllReadyH.nil)
          go_simp
          refine hK.out _ _ trivial (fun hHeld => ?_)
          clear hK K
          try simp only [Act.put, List.getElem_toArray, List.getElem_cons_zero, List.getElem_cons_succ, List.setIfInBounds_toArray, List.set_cons_zero, List.set_cons_succ]
          have hb : Below W1.heap.size W1 (U351.alloc (.cells (#[.int .i64 0, .int .i64 0, .slice none 0 0, .slice none 0 0, .slice none 0 0, .int .i64 0, .int .i64 0]) 26)) := HU.out.alloc us _
          have h8 : Blk (U351.alloc (.cells (#[.int .i64 0, .int .i64 0, .slice none 0 0, .slice none 0 0, .slice none 0 0, .int .i64 0, .int .i64 0]) 26)) U351.heap.size 26 #[.int .i64 0, .int .i64 0, .slice none 0 0, .slice none 0 0, .slice none 0 0, .int .i64 0, .int .i64 0] := Blk.new _ _ _
          have h3 := F3.out.alloc (.cells (#[.int .i64 0, .int .i64 0, .slice none 0 0, .slice none 0 0, .slice none 0 0, .int .i64 0, .int .i64 0]) 26)
          have h5 := F5.out.alloc (.cells (#[.int .i64 0, .int .i64 0, .slice none 0 0, .slice none 0 0, .slice none 0 0, .int .i64 0, .int .i64 0]) 26)
          have h1 := F1.out.alloc (.cells (#[.int .i64 0, .int .i64 0, .slice none 0 0, .slice none 0 0, .slice none 0 0, .int .i64 0, .int .i64 0]) 26)
          have us1 : U351.heap.size < (U351.alloc (.cells (#[.int .i64 0, .int .i64 0, .slice none 0 0, .slice none 0 0, .slice none 0 0, .int .i64 0, .int .i64 0]) 26)).heap.size := by simp
          generalize U351.alloc (.cells (#[.int .i64 0, .int .i64 0, .slice none 0 0, .slice none 0 0, .slice none 0 0, .int .i64 0, .int .i64 0]) 26) = U3518 at *
          have us2 : W1.heap.size ≤ U3518.heap.size := by omega
          have G3 := Lib.hid h3
          have G5 := Lib.hid h5
          have G1 := Lib.hid h1
          have G8 := Lib.hid h8
          have HU2 := Lib.hid hb
          clear hb HU F3 F5 F1 h3 h5 h1 h8
          have F3 := G3
          have F5 := G5
          have F1 := G1
          have F8 := G8
          have HU := HU2
          have us := us2
          clear HU2 G3 G5 G1 G8
          have c0 := F8.out.cell 0
          have f0 := F8.out.frozen 0
          have c1 := F8.out.cell 1
          have f1 := F8.out.frozen 1
          have c2 := F8.out.cell 2
          have f2 := F8.out.frozen 2
          have c3 := F8.out.cell 3
          have f3 := F8.out.frozen 3
          have c4 := F8.out.cell 4
          have f4 := F8.out.frozen 4
          have c5 := F8.out.cell 5
          have f5 := F8.out.frozen 5
          have c6 := F8.out.cell 6
          have f6 := F8.out.frozen 6
          have cl := F8.out.lt
          refine wpAnyH_ready (rs := [9]) (by kernel_rfl) (by simp) (AllReadyH.cons rfl (fun K hK => ?_) AllReadyH.nil)
          go_simp
          refine hK.out _ _ trivial (fun hHeld => ?_)
          clear hK K
          clear c0 f0 c1 f1 c2 f2 c3 f3 c4 f4 c5 f5 c6 f6 cl
          refine wpAnyH_done (by kernel_rfl) ?_ _
          go_wp2_with fail
          go_meet
          have q1 := PO.blk7 (PO.newZ (few := few) F1.out F3.out F5.out h2) F8.out (.int .i64 0) (.int .i64 (-1)) (.slice (some ⟨U35.heap.size, 0, none⟩) n n) (.slice (some ⟨U.heap.size, 0, none⟩) n n) (.slice (some ⟨U3.heap.size, 0, none⟩) n n) (.int .i64 few) (.int .i64 0)
          have q2 := (((((((F8.out.set_ 0 (.int .i64 0)).set_ 1 (.int .i64 (-1))).set_ 2 (.slice (some ⟨U35.heap.size, 0, none⟩) n n)).set_ 3 (.slice (some ⟨U.heap.size, 0, none⟩) n n)).set_ 4 (.slice (some ⟨U3.heap.size, 0, none⟩) n n)).set_ 5 (.int .i64 few)).set_ 6 (.int .i64 0))
          have q3 := ((((((((B1_bz.out.below HU.out B1_bz.out.lt).far (p := ⟨U351.heap.size, 0, none⟩) (by show w.heap.size ≠ U351.heap.size; omega) (.int .i64 0)).far (p := ⟨U351.heap.size, 1, none⟩) (by show w.heap.size ≠ U351.heap.size; omega) (.int .i64 (-1))).far (p := ⟨U351.heap.size, 2, none⟩) (by show w.heap.size ≠ U351.heap.size; omega) (.slice (some ⟨U35.heap.size, 0, none⟩) n n)).far (p := ⟨U351.heap.size, 3, none⟩) (by show w.heap.size ≠ U351.heap.size; omega) (.slice (some ⟨U.heap.size, 0, none⟩) n n)).far (p := ⟨U351.heap.size, 4, none⟩) (by show w.heap.size ≠ U351.heap.size; omega) (.slice (some ⟨U3.heap.size, 0, none⟩) n n)).far (p := ⟨U351.heap.size, 5, none⟩) (by show w.heap.size ≠ U351.heap.size; omega) (.int .i64 few)).far (p := ⟨U351.heap.size, 6, none⟩) (by show w.heap.size ≠ U351.heap.size; omega) (.int .i64 0))
          have q4 := ((((((((below_then HB1.out HU.out).setCell (p := ⟨U351.heap.size, 0, none⟩) (by show w.heap.size ≤ U351.heap.size; omega) (.int .i64 0)).setCell (p := ⟨U351.heap.size, 1, none⟩) (by show w.heap.size ≤ U351.heap.size; omega) (.int .i64 (-1))).setCell (p := ⟨U351.heap.size, 2, none⟩) (by show w.heap.size ≤ U351.heap.size; omega) (.slice (some ⟨U35.heap.size, 0, none⟩) n n)).setCell (p := ⟨U351.heap.size, 3, none⟩) (by show w.heap.size ≤ U351.heap.size; omega) (.slice (some ⟨U.heap.size, 0, none⟩) n n)).setCell (p := ⟨U351.heap.size, 4, none⟩) (by show w.heap.size ≤ U351.heap.size; omega) (.slice (some ⟨U3.heap.size, 0, none⟩) n n)).setCell (p := ⟨U351.heap.size, 5, none⟩) (by show w.heap.size ≤ U351.heap.size; omega) (.int .i64 few)).setCell (p := ⟨U351.heap.size, 6, none⟩) (by show w.heap.size ≤ U351.heap.size; omega) (.int .i64 0))
          exact ⟨U351.heap.size, U35.heap.size, U.heap.size, U3.heap.size, rfl, q1, q2, q3, q4, by omega, by omega, by omega, by omega, by omega⟩
        · go_simp
          refine hK.out _ _ trivial (fun hHeld => ?_)
          clear hK K
          try simp only [Act.put, List.getElem_toArray, List.getElem_cons_zero, List.getElem_cons_succ, List.setIfInBounds_toArray, List.set_cons_zero, List.set_cons_succ]
          have hb : Below W1.heap.size W1 (U35.alloc (.cells (#[.int .i64 0, .int .i64 0, .slice none 0 0, .slice none 0 0, .slice none 0 0, .int .i64 0, .int .i64 0]) 26)) := HU.out.alloc us _
          have h8 : Blk (U35.alloc (.cells (#[.int .i64 0, .int .i64 0, .slice none 0 0, .slice none 0 0, .slice none 0 0, .int .i64 0, .int .i64 0]) 26)) U35.heap.size 26 #[.int .i64 0, .int .i64 0, .slice none 0 0, .slice none 0 0, .slice none 0 0, .int .i64 0, .int .i64 0] := Blk.new _ _ _
          have h3 := F3.out.alloc (.cells (#[.int .i64 0, .int .i64 0, .slice none 0 0, .slice none 0 0, .slice none 0 0, .int .i64 0, .int .i64 0]) 26)
          have h5 := F5.out.alloc (.cells (#[.int .i64 0, .int .i64 0, .slice none 0 0, .slice none 0 0, .slice none 0 0, .int .i64 0, .int .i64 0]) 26)
          have us1 : U35.heap.size < (U35.alloc (.cells (#[.int .i64 0, .int .i64 0, .slice none 0 0, .slice none 0 0, .slice none 0 0, .int .i64 0, .int .i64 0]) 26)).heap.size := by simp
          generalize U35.alloc (.cells (#[.int .i64 0, .int .i64 0, .slice none 0 0, .slice none 0 0, .slice none 0 0, .int .i64 0, .int .i64 0]) 26) = U358 at *
          have us2 : W1.heap.size ≤ U358.heap.size := by omega
          have G3 := Lib.hid h3
          have G5 := Lib.hid h5
          have G8 := Lib.hid h8
          have HU2 := Lib.hid hb
          clear hb HU F3 F5 h3 h5 h8
          have F3 := G3
          have F5 := G5
          have F8 := G8
          have HU := HU2
          have us := us2
          clear HU2 G3 G5 G8
          refine wpAnyH_ready (rs := [1]) (by kernel_rfl) (by simp) (AllReadyH.cons rfl (fun K hK => ?_) AllReadyH.nil)
          go_simp
          refine hK.out _ _ trivial (fun hHeld => ?_)
          clear hK K
          try simp only [Act.put, List.getElem_toArray, List.getElem_cons_zero, List.getElem_cons_succ, List.setIfInBounds_toArray, List.set_cons_zero, List.set_cons_succ]
          have hb : Below W1.heap.size W1 (U358.alloc (.cells (madeCells #[.bool false] n) 4)) := HU.out.alloc us _
          have h1 := World.ownsRow_lit (base := W1.heap.size) (e := 4) (size := 1) U358 (madeCells #[.bool false] n) n us (by simp only [maxLen]; omega) (by simp [size_madeCells])
          rw [toList_madeCells_one] at h1
          have h3 := F3.out.alloc (.cells (madeCells #[.bool false] n) 4)
          have h5 := F5.out.alloc (.cells (madeCells #[.bool false] n) 4)
          have h8 := F8.out.alloc (.cells (madeCells #[.bool false] n) 4)
          have us1 : U358.heap.size < (U358.alloc (.cells (madeCells #[.bool false] n) 4)).heap.size := by simp
          generalize U358.alloc (.cells (madeCells #[.bool false] n) 4) = U3581 at *
          have us2 : W1.heap.size ≤ U3581.heap.size := by omega
          have G3 := Lib.hid h3
          have G5 := Lib.hid h5
          have G8 := Lib.hid h8
          have G1 := Lib.hid h1
          have HU2 := Lib.hid hb
          clear hb HU F3 F5 F8 h3 h5 h8 h1
          have F3 := G3
          have F5 := G5
          have F8 := G8
          have F1 := G1
          have HU := HU2
          have us := us2
          clear HU2 G3 G5 G8 G1
          refine wpAnyH_take (i := 7) (v := ?_) rfl (by kernel_rfl) (by kernel_rfl) (by kernel_rfl) (fun _ _ _ h => h) (Or.inl ⟨by rfl, ?_⟩) (by assumption) ?_
          rotate_left
          · intro w0 hSw
            (try dsimp only at hSw)
            go_simp
            all_goals with_reducible rfl
          try simp only [Act.put, List.getElem_toArray, List.getElem_cons_zero, List.getElem_cons_succ, List.setIfInBounds_toArray, List.set_cons_zero, List.set_cons_succ]
          have c0 := F8.out.cell 0
          have f0 := F8.out.frozen 0
          have c1 := F8.out.cell 1
          have f1 := F8.out.frozen 1
          have c2 := F8.out.cell 2
          have f2 := F8.out.frozen 2
          have c3 := F8.out.cell 3
          have f3 := F8.out.frozen 3
          have c4 := F8.out.cell 4
          have f4 := F8.out.frozen 4
          have c5 := F8.out.cell 5
          have f5 := F8.out.frozen 5
          have c6 := F8.out.cell 6
          have f6 := F8.out.frozen 6
          have cl := F8.out.lt
          refine wpAnyH_ready (rs := [9]) (by kernel_rfl) (by simp) (AllReadyH.cons rfl (fun K hK => ?_) AllReadyH.nil)
          go_simp
          refine hK.out _ _ trivial (fun hHeld => ?_)
          clear hK K
          clear c0 f0 c1 f1 c2 f2 c3 f3 c4 f4 c5 f5 c6 f6 cl
          refine wpAnyH_done (by kernel_rfl) ?_ _
          go_wp2_with fail
          go_meet
          have q1 := PO.blk7 (PO.newZ (few := few) F1.out F3.out F5.out h2) F8.out (.int .i64 0) (.int .i64 (-1)) (.slice (some ⟨U358.heap.size, 0, none⟩) n n) (.slice (some ⟨U.heap.size, 0, none⟩) n n) (.slice (some ⟨U3.heap.size, 0, none⟩) n n) (.int .i64 few) (.int .i64 0)
          have q2 := (((((((F8.out.set_ 0 (.int .i64 0)).set_ 1 (.int .i64 (-1))).set_ 2 (.slice (some ⟨U358.heap.size, 0, none⟩) n n)).set_ 3 (.slice (some ⟨U.heap.size, 0, none⟩) n n)).set_ 4 (.slice (some ⟨U3.heap.size, 0, none⟩) n n)).set_ 5 (.int .i64 few)).set_ 6 (.int .i64 0))
          have q3 := ((((((((B1_bz.out.below HU.out B1_bz.out.lt).far (p := ⟨U35.heap.size, 0, none⟩) (by show w.heap.size ≠ U35.heap.size; omega) (.int .i64 0)).far (p := ⟨U35.heap.size, 1, none⟩) (by show w.heap.size ≠ U35.heap.size; omega) (.int .i64 (-1))).far (p := ⟨U35.heap.size, 2, none⟩) (by show w.heap.size ≠ U35.heap.size; omega) (.slice (some ⟨U358.heap.size, 0, none⟩) n n)).far (p := ⟨U35.heap.size, 3, none⟩) (by show w.heap.size ≠ U35.heap.size; omega) (.slice (some ⟨U.heap.size, 0, none⟩) n n)).far (p := ⟨U35.heap.size, 4, none⟩) (by show w.heap.size ≠ U35.heap.size; omega) (.slice (some ⟨U3.heap.size, 0, none⟩) n n)).far (p := ⟨U35.heap.size, 5, none⟩) (by show w.heap.size ≠ U35.heap.size; omega) (.int .i64 few)).far (p := ⟨U35.heap.size, 6, none⟩) (by show w.heap.size ≠ U35.heap.size; omega) (.int .i64 0))
          have q4 := ((((((((below_then HB1.out HU.out).setCell (p := ⟨U35.heap.size, 0, none⟩) (by show w.heap.size ≤ U35.heap.size; omega) (.int .i64 0)).setCell (p := ⟨U35.heap.size, 1, none⟩) (by show w.heap.size ≤ U35.heap.size; omega) (.int .i64 (-1))).setCell (p := ⟨U35.heap.size, 2, none⟩) (by show w.heap.size ≤ U35.heap.size; omega) (.slice (some ⟨U358.heap.size, 0, none⟩) n n)).setCell (p := ⟨U35.heap.size, 3, none⟩) (by show w.heap.size ≤ U35.heap.size; omega) (.slice (some ⟨U.heap.size, 0, none⟩) n n)).setCell (p := ⟨U35.heap.size, 4, none⟩) (by show w.heap.size ≤ U35.heap.size; omega) (.slice (some ⟨U3.heap.size, 0, none⟩) n n)).setCell (p := ⟨U35.heap.size, 5, none⟩) (by show w.heap.size ≤ U35.heap.size; omega) (.int .i64 few)).setCell (p := ⟨U35.heap.size, 6, none⟩) (by show w.heap.size ≤ U35.heap.size; omega) (.int .i64 0))
          exact ⟨U35.heap.size, U358.heap.size, U.heap.size, U3.heap.size, rfl, q1, q2, q3, q4, by omega, by omega, by omega, by omega, by omega⟩
      · go_simp
        refine hK.out _ _ trivial (fun hHeld => ?_)
        clear hK K
        try simp only [Act.put, List.getElem_toArray, List.getElem_cons_zero, List.getElem_cons_succ, List.setIfInBounds_toArray, List.set_cons_zero, List.set_cons_succ]
        have hb : Below W1.heap.size W1 (U3.alloc (.cells (#[.int .i64 0, .int .i64 0, .slice none 0 0, .slice none 0 0, .slice none 0 0, .int .i64 0, .int .i64 0]) 26)) := HU.out.alloc us _
        have h8 : Blk (U3.alloc (.cells (#[.int .i64 0, .int .i64 0, .slice none 0 0, .slice none 0 0, .slice none 0 0, .int .i64 0, .int .i64 0]) 26)) U3.heap.size 26 #[.int .i64 0, .int .i64 0, .slice none 0 0, .slice none 0 0, .slice none 0 0, .int .i64 0, .int .i64 0] := Blk.new _ _ _
        have h3 := F3.out.alloc (.cells (#[.int .i64 0, .int .i64 0, .slice none 0 0, .slice none 0 0, .slice none 0 0, .int .i64 0, .int .i64 0]) 26)
        have us1 : U3.heap.size < (U3.alloc (.cells (#[.int .i64 0, .int .i64 0, .slice none 0 0, .slice none 0 0, .slice none 0 0, .int .i64 0, .int .i64 0]) 26)).heap.size := by simp
        generalize U3.alloc (.cells (#[.int .i64 0, .int .i64 0, .slice none 0 0, .slice none 0 0, .slice none 0 0, .int .i64 0, .int .i64 0]) 26) = U38 at *
        have us2 : W1.heap.size ≤ U38.heap.size := by omega
        have G3 := Lib.hid h3
        have G8 := Lib.hid h8
        have HU2 := Lib.hid hb
        clear hb HU F3 h3 h8
        have F3 := G3
        have F8 := G8
        have HU := HU2
        have us := us2
        clear HU2 G3 G8
        refine wpAnyH_ready (rs := [1, 5]) (by kernel_rfl) (by simp) (AllReadyH.cons rfl (fun K hK => ?_) (AllReadyH.cons rfl (fun K hK => ?_) AllReadyH.nil))
        · go_simp
          refine hK.out _ _ trivial (fun hHeld => ?_)
          clear hK K
          try simp only [Act.put, List.getElem_toArray, List.getElem_cons_zero, List.getElem_cons_succ, List.setIfInBounds_toArray, List.set_cons_zero, List.set_cons_succ]
          have hb : Below W1.heap.size W1 (U38.alloc (.cells (madeCells #[.bool false] n) 4)) := HU.out.alloc us _
          have h1 := World.ownsRow_lit (base := W1.heap.size) (e := 4) (size := 1) U38 (madeCells #[.bool false] n) n us (by simp only [maxLen]; omega) (by simp [size_madeCells])
          rw [toList_madeCells_one] at h1
          have h3 := F3.out.alloc (.cells (madeCells #[.bool false] n) 4)
          have h8 := F8.out.alloc (.cells (madeCells #[.bool false] n) 4)
          have us1 : U38.heap.size < (U38.alloc (.cells (madeCells #[.bool false] n) 4)).heap.size := by simp
          generalize U38.alloc (.cells (madeCells #[.bool false] n) 4) = U381 at *
          have us2 : W1.heap.size ≤ U381.heap.size := by omega
          have G3 := Lib.hid h3
          have G8 := Lib.hid h8
          have G1 := Lib.hid h1
          have HU2 := Lib.hid hb
          clear hb HU F3 F8 h3 h8 h1
          have F3 := G3
          have F8 := G8
          have F1 := G1
          have HU := HU2
          have us := us2
          clear HU2 G3 G8 G1
          refine wpAnyH_ready (rs := [5]) (by kernel_rfl) (by simp) (AllReadyH.cons rfl (fun K hK => ?_) AllReadyH.nil)
          go_simp
          refine hK.out _ _ trivial (fun hHeld => ?_)
          clear hK K
          try simp only [Act.put, List.getElem_toArray, List.getElem_cons_zero, List.getElem_cons_succ, List.setIfInBounds_toArray, List.set_cons_zero, List.set_cons_succ]
          have hb : Below W1.heap.size W1 (U381.alloc (.cells (ZR n) 71)) := HU.out.alloc us _
          have h5 := World.ownsRow_lit (base := W1.heap.size) (e := 71) (size := 4) U381 (ZR n) n us (by simp only [maxLen]; omega) (by simp [ZR, size_madeCells])
          have h3 := F3.out.alloc (.cells (ZR n) 71)
          have h8 := F8.out.alloc (.cells (ZR n) 71)
          have h1 := F1.out.alloc (.cells (ZR n) 71)
          have us1 : U381.heap.size < (U381.alloc (.cells (ZR n) 71)).heap.size := by simp
          generalize U381.alloc (.cells (ZR n) 71) = U3815 at *
          have us2 : W1.heap.size ≤ U3815.heap.size := by omega
          have G3 := Lib.hid h3
          have G8 := Lib.hid h8
          have G1 := Lib.hid h1
          have G5 := Lib.hid h5
          have HU2 := Lib.hid hb
          clear hb HU F3 F8 F1 h3 h8 h1 h5
          have F3 := G3
          have F8 := G8
          have F1 := G1
          have F5 := G5
          have HU := HU2
          have us := us2
          clear HU2 G3 G8 G1 G5
          refine wpAnyH_take (i := 7) (v := ?_) rfl (by kernel_rfl) (by kernel_rfl) (by kernel_rfl) (fun _ _ _ h => h) (Or.inl ⟨by rfl, ?_⟩) (by assumption) ?_
          rotate_left
          · intro w0 hSw
            (try dsimp only at hSw)
            go_simp
            all_goals with_reducible rfl
          try simp only [Act.put, List.getElem_toArray, List.getElem_cons_zero, List.getElem_cons_succ, List.setIfInBounds_toArray, List.set_cons_zero, List.set_cons_succ]
          have c0 := F8.out.cell 0
          have f0 := F8.out.frozen 0
          have c1 := F8.out.cell 1
          have f1 := F8.out.frozen 1
          have c2 := F8.out.cell 2
          have f2 := F8.out.frozen 2
          have c3 := F8.out.cell 3
          have f3 := F8.out.frozen 3
          have c4 := F8.out.cell 4
          have f4 := F8.out.frozen 4
          have c5 := F8.out.cell 5
          have f5 := F8.out.frozen 5
          have c6 := F8.out.cell 6
          have f6 := F8.out.frozen 6
          have cl := F8.out.lt
          refine wpAnyH_ready (rs := [9]) (by kernel_rfl) (by simp) (AllReadyH.cons rfl (fun K hK => ?_) AllReadyH.nil)
          go_simp
          refine hK.out _ _ trivial (fun hHeld => ?_)
          clear hK K
          clear c0 f0 c1 f1 c2 f2 c3 f3 c4 f4 c5 f5 c6 f6 cl
          refine wpAnyH_done (by kernel_rfl) ?_ _
          go_wp2_with fail
          go_meet
          have q1 := PO.blk7 (PO.newZ (few := few) F1.out F3.out F5.out h2) F8.out (.int .i64 0) (.int .i64 (-1)) (.slice (some ⟨U38.heap.size, 0, none⟩) n n) (.slice (some ⟨U.heap.size, 0, none⟩) n n) (.slice (some ⟨U381.heap.size, 0, none⟩) n n) (.int .i64 few) (.int .i64 0)
          have q2 := (((((((F8.out.set_ 0 (.int .i64 0)).set_ 1 (.int .i64 (-1))).set_ 2 (.slice (some ⟨U38.heap.size, 0, none⟩) n n)).set_ 3 (.slice (some ⟨U.heap.size, 0, none⟩) n n)).set_ 4 (.slice (some ⟨U381.heap.size, 0, none⟩) n n)).set_ 5 (.int .i64 few)).set_ 6 (.int .i64 0))
          have q3 := ((((((((B1_bz.out.below HU.out B1_bz.out.lt).far (p := ⟨U3.heap.size, 0, none⟩) (by show w.heap.size ≠ U3.heap.size; omega) (.int .i64 0)).far (p := ⟨U3.heap.size, 1, none⟩) (by show w.heap.size ≠ U3.heap.size; omega) (.int .i64 (-1))).far (p := ⟨U3.heap.size, 2, none⟩) (by show w.heap.size ≠ U3.heap.size; omega) (.slice (some ⟨U38.heap.size, 0, none⟩) n n)).far (p := ⟨U3.heap.size, 3, none⟩) (by show w.heap.size ≠ U3.heap.size; omega) (.slice (some ⟨U.heap.size, 0, none⟩) n n)).far (p := ⟨U3.heap.size, 4, none⟩) (by show w.heap.size ≠ U3.heap.size; omega) (.slice (some ⟨U381.heap.size, 0, none⟩) n n)).far (p := ⟨U3.heap.size, 5, none⟩) (by show w.heap.size ≠ U3.heap.size; omega) (.int .i64 few)).far (p := ⟨U3.heap.size, 6, none⟩) (by show w.heap.size ≠ U3.heap.size; omega) (.int .i64 0))
          have q4 := ((((((((below_then HB1.out HU.out).setCell (p := ⟨U3.heap.size, 0, none⟩) (by show w.heap.size ≤ U3.heap.size; omega) (.int .i64 0)).setCell (p := ⟨U3.heap.size, 1, none⟩) (by show w.heap.size ≤ U3.heap.size; omega) (.int .i64 (-1))).setCell (p := ⟨U3.heap.size, 2, none⟩) (by show w.heap.size ≤ U3.heap.size; omega) (.slice (some ⟨U38.heap.size, 0, none⟩) n n)).setCell (p := ⟨U3.heap.size, 3, none⟩) (by show w.heap.size ≤ U3.heap.size; omega) (.slice (some ⟨U.heap.size, 0, none⟩) n n)).setCell (p := ⟨U3.heap.size, 4, none⟩) (by show w.heap.size ≤ U3.heap.size; omega) (.slice (some ⟨U381.heap.size, 0, none⟩) n n)).setCell (p := ⟨U3.heap.size, 5, none⟩) (by show w.heap.size ≤ U3.heap.size; omega) (.int .i64 few)).setCell (p := ⟨U3.heap.size, 6, none⟩) (by show w.heap.size ≤ U3.heap.size; omega) (.int .i64 0))
          exact ⟨U3.heap.size, U38.heap.size, U.heap.size, U381.heap.size, rfl, q1, q2, q3, q4, by omega, by omega, by omega, by omega, by omega⟩
        · go_simp
          refine hK.out _ _ trivial (fun hHeld => ?_)
          clear hK K
          try simp only [Act.put, List.getElem_toArray, List.getElem_cons_zero, List.getElem_cons_succ, List.setIfInBounds_toArray, List.set_cons_zero, List.set_cons_succ]
          have hb : Below W1.heap.size W1 (U38.alloc (.cells (ZR n) 71)) := HU.out.alloc us _
          have h5 := World.ownsRow_lit (base := W1.heap.size) (e := 71) (size := 4) U38 (ZR n) n us (by simp only [maxLen]; omega) (by simp [ZR, size_madeCells])
          have h3 := F3.out.alloc (.cells (ZR n) 71)
          have h8 := F8.out.alloc (.cells (ZR n) 71)
          have us1 : U38.heap.size < (U38.alloc (.cells (ZR n) 71)).heap.size := by simp
          generalize U38.alloc (.cells (ZR n) 71) = U385 at *
          have us2 : W1.heap.size ≤ U385.heap.size := by omega
          have G3 := Lib.hid h3
          have G8 := Lib.hid h8
          have G5 := Lib.hid h5
          have HU2 := Lib.hid hb
          clear hb HU F3 F8 h3 h8 h5
          have F3 := G3
          have F8 := G8
          have F5 := G5
          have HU := HU2
          have us := us2
          clear HU2 G3 G8 G5
          refine wpAnyH_ready (rs := [1]) (by kernel_rfl) (by simp) (AllReadyH.cons rfl (fun K hK => ?_) AllReadyH.nil)
          go_simp
          refine hK.out _ _ trivial (fun hHeld => ?_)
          clear hK K
          try simp only [Act.put, List.getElem_toArray, List.getElem_cons_zero, List.getElem_cons_succ, List.setIfInBounds_toArray, List.set_cons_zero, List.set_cons_succ]
          have hb : Below W1.heap.size W1 (U385.alloc (.cells (madeCells #[.bool false] n) 4)) := HU.out.alloc us _
          have h1 := World.ownsRow_lit (base := W1.heap.size) (e := 4) (size := 1) U385 (madeCells #[.bool false] n) n us (by simp only [maxLen]; omega) (by simp [size_madeCells])
          rw [toList_madeCells_one] at h1
          have h3 := F3.out.alloc (.cells (madeCells #[.bool false] n) 4)
          have h8 := F8.out.alloc (.cells (madeCells #[.bool false] n) 4)
          have h5 := F5.out.alloc (.cells (madeCells #[.bool false] n) 4)
          have us1 : U385.heap.size < (U385.alloc (.cells (madeCells #[.bool false] n) 4)).heap.size := by simp
          generalize U385.alloc (.cells (madeCells #[.bool false] n) 4) = U3851 at *
          have us2 : W1.heap.size ≤ U3851.heap.size := by omega
          have G3 := Lib.hid h3
          have G8 := Lib.hid h8
          have G5 := Lib.hid h5
          have G1 := Lib.hid h1
          have HU2 := Lib.hid hb
          clear hb HU F3 F8 F5 h3 h8 h5 h1
          have F3 := G3
          have F8 := G8
          have F5 := G5
          have F1 := G1
          have HU := HU2
          have us := us2
          clear HU2 G3 G8 G5 G1
          refine wpAnyH_take (i := 7) (v := ?_) rfl (by kernel_rfl) (by kernel_rfl) (by kernel_rfl) (fun _ _ _ h => h) (Or.inl ⟨by rfl, ?_⟩) (by assumption) ?_
          rotate_left
          · intro w0 hSw
            (try dsimp only at hSw)
            go_simp
            all_goals with_reducible rfl
          try simp only [Act.put, List.getElem_toArray, List.getElem_cons_zero, List.getElem_cons_succ, List.setIfInBounds_toArray, List.set_cons_zero, List.set_cons_succ]
          have c0 := F8.out.cell 0
          have f0 := F8.out.frozen 0
          have c1 := F8.out.cell 1
          have f1 := F8.out.frozen 1
          have c2 := F8.out.cell 2
          have f2 := F8.out.frozen 2
          have c3 := F8.out.cell 3
          have f3 := F8.out.frozen 3
          have c4 := F8.out.cell 4
          have f4 := F8.out.frozen 4
          have c5 := F8.out.cell 5
          have f5 := F8.out.frozen 5
          have c6 := F8.out.cell 6
          have f6 := F8.out.frozen 6
          have cl := F8.out.lt
          refine wpAnyH_ready (rs := [9]) (by kernel_rfl) (by simp) (AllReadyH.cons rfl (fun K hK => ?_) AllReadyH.nil)
          go_simp
          refine hK.out _ _ trivial (fun hHeld => ?_)
          clear hK K
          clear c0 f0 c1 f1 c2 f2 c3 f3 c4 f4 c5 f5 c6 f6 cl
          refine wpAnyH_done (by kernel_rfl) ?_ _
          go_wp2_with fail
          go_meet
          have q1 := PO.blk7 (PO.newZ (few := few) F1.out F3.out F5.out h2) F8.out (.int .i64 0) (.int .i64 (-1)) (.slice (some ⟨U385.heap.size, 0, none⟩) n n) (.slice (some ⟨U.heap.size, 0, none⟩) n n) (.slice (some ⟨U38.heap.size, 0, none⟩) n n) (.int .i64 few) (.int .i64 0)
          have q2 := (((((((F8.out.set_ 0 (.int .i64 0)).set_ 1 (.int .i64 (-1))).set_ 2 (.slice (some ⟨U385.heap.size, 0, none⟩) n n)).set_ 3 (.slice (some ⟨U.heap.size, 0, none⟩) n n)).set_ 4 (.slice (some ⟨U38.heap.size, 0, none⟩) n n)).set_ 5 (.int .i64 few)).set_ 6 (.int .i64 0))
          have q3 := ((((((((B1_bz.out.below HU.out B1_bz.out.lt).far (p := ⟨U3.heap.size, 0, none⟩) (by show w.heap.size ≠ U3.heap.size; omega) (.int .i64 0)).far (p := ⟨U3.heap.size, 1, none⟩) (by show w.heap.size ≠ U3.heap.size; omega) (.int .i64 (-1))).far (p := ⟨U3.heap.size, 2, none⟩) (by show w.heap.size ≠ U3.heap.size; omega) (.slice (some ⟨U385.heap.size, 0, none⟩) n n)).far (p := ⟨U3.heap.size, 3, none⟩) (by show w.heap.size ≠ U3.heap.size; omega) (.slice (some ⟨U.heap.size, 0, none⟩) n n)).far (p := ⟨U3.heap.size, 4, none⟩) (by show w.heap.size ≠ U3.heap.size; omega) (.slice (some ⟨U38.heap.size, 0, none⟩) n n)).far (p := ⟨U3.heap.size, 5, none⟩) (by show w.heap.size ≠ U3.heap.size; omega) (.int .i64 few)).far (p := ⟨U3.heap.size, 6, none⟩) (by show w.heap.size ≠ U3.heap.size; omega) (.int .i64 0))
          have q4 := ((((((((below_then HB1.out HU.out).setCell (p := ⟨U3.heap.size, 0, none⟩) (by show w.heap.size ≤ U3.heap.size; omega) (.int .i64 0)).setCell (p := ⟨U3.heap.size, 1, none⟩) (by show w.heap.size ≤ U3.heap.size; omega) (.int .i64 (-1))).setCell (p := ⟨U3.heap.size, 2, none⟩) (by show w.heap.size ≤ U3.heap.size; omega) (.slice (some ⟨U385.heap.size, 0, none⟩) n n)).setCell (p := ⟨U3.heap.size, 3, none⟩) (by show w.heap.size ≤ U3.heap.size; omega) (.slice (some ⟨U.heap.size, 0, none⟩) n n)).setCell (p := ⟨U3.heap.size, 4, none⟩) (by show w.heap.size ≤ U3.heap.size; omega) (.slice (some ⟨U38.heap.size, 0, none⟩) n n)).setCell (p := ⟨U3.heap.size, 5, none⟩) (by show w.heap.size ≤ U3.heap.size; omega) (.int .i64 few)).setCell (p := ⟨U3.heap.size, 6, none⟩) (by show w.heap.size ≤ U3.heap.size; omega) (.int .i64 0))
          exact ⟨U3.heap.size, U385.heap.size, U.heap.size, U38.heap.size, rfl, q1, q2, q3, q4, by omega, by omega, by omega, by omega, by omega⟩
    · go_simp
      refine hK.out _ _ trivial (fun hHeld => ?_)
      clear hK K
      try simp only [Act.put, List.getElem_toArray, List.getElem_cons_zero, List.getElem_cons_succ, List.setIfInBounds_toArray, List.set_cons_zero, List.set_cons_succ]
      have hb : Below W1.heap.size W1 (U.alloc (.cells (ZR n) 71)) := HU.out.alloc us _
      have h5 := World.ownsRow_lit (base := W1.heap.size) (e := 71) (size := 4) U (ZR n) n us (by simp only [maxLen]; omega) (by simp [ZR, size_madeCells])
      have us1 : U.heap.size < (U.alloc (.cells (ZR n) 71)).heap.size := by simp
      generalize U.alloc (.cells (ZR n) 71) = U5 at *
      have us2 : W1.heap.size ≤ U5.heap.size := by omega
      have G5 := Lib.hid h5
      have HU2 := Lib.hid hb
      clear hb HU  h5
      have F5 := G5
      have HU := HU2
      have us := us2
      clear HU2 G5
      refine wpAnyH_ready (rs := [1, 3, 8]) (by kernel_rfl) (by simp) (AllReadyH.cons rfl (fun K hK => ?_) (AllReadyH.cons rfl (fun K hK => ?_) (AllReadyH.cons rfl (fun K hK => ?_) AllReadyH.nil)))
      · go_simp
        refine hK.out _ _ trivial (fun hHeld => ?_)
        clear hK K
        try simp only [Act.put, List.getElem_toArray, List.getElem_cons_zero, List.getElem_cons_succ, List.setIfInBounds_toArray, List.set_cons_zero, List.set_cons_succ]
        have hb : Below W1.heap.size W1 (U5.alloc (.cells (madeCells #[.bool false] n) 4)) := HU.out.alloc us _
        have h1 := World.ownsRow_lit (base := W1.heap.size) (e := 4) (size := 1) U5 (madeCells #[.bool false] n) n us (by simp only [maxLen]; omega) (by simp [size_madeCells])
        rw [toList_madeCells_one] at h1
        have h5 := F5.out.alloc (.cells (madeCells #[.bool false] n) 4)
        have us1 : U5.heap.size < (U5.alloc (.cells (madeCells #[.bool false] n) 4)).heap.size := by simp
        generalize U5.alloc (.cells (madeCells #[.bool false] n) 4) = U51 at *
        have us2 : W1.heap.size ≤ U51.heap.size := by omega
        have G5 := Lib.hid h5
        have G1 := Lib.hid h1
        have HU2 := Lib.hid hb
        clear hb HU F5 h5 h1
        have F5 := G5
        have F1 := G1
        have HU := HU2
        have us := us2
        clear HU2 G5 G1
        refine wpAnyH_ready (rs := [3, 8]) (by kernel_rfl) (by simp) (AllReadyH.cons rfl (fun K hK => ?_) (AllReadyH.cons rfl (fun K hK => ?_) AllReadyH.nil))
        · go_simp
          refine hK.out _ _ trivial (fun hHeld => ?_)
          clear hK K
          try simp only [Act.put, List.getElem_toArray, List.getElem_cons_zero, List.getElem_cons_succ, List.setIfInBounds_toArray, List.set_cons_zero, List.set_cons_succ]
          have hb : Below W1.heap.size W1 (U51.alloc (.cells (madeCells #[.int .i64 0] n) 3)) := HU.out.alloc us _
          have h3 := World.ownsRow_lit (base := W1.heap.size) (e := 3) (size := 1) U51 (madeCells #[.int .i64 0] n) n us (by simp only [maxLen]; omega) (by simp [size_madeCells])
          rw [toList_madeCells_one] at h3
          have h5 := F5.out.alloc (.cells (madeCells #[.int .i64 0] n) 3)
          have h1 := F1.out.alloc (.cells (madeCells #[.int .i64 0] n) 3)
          have us1 : U51.heap.size < (U51.alloc (.cells (madeCells #[.int .i64 0] n) 3)).heap.size := by simp
          generalize U51.alloc (.cells (madeCells #[.int .i64 0] n) 3) = U513 at *
          have us2 : W1.heap.size ≤ U513.heap.size := by omega
          have G5 := Lib.hid h5
          have G1 := Lib.hid h1
          have G3 := Lib.hid h3
          have HU2 := Lib.hid hb
          clear hb HU F5 F1 h5 h1 h3
          have F5 := G5
          have F1 := G1
          have F3 := G3
          have HU := HU2
          have us := us2
          clear HU2 G5 G1 G3
          refine wpAnyH_take (i := 7) (v := ?_) rfl (by kernel_rfl) (by kernel_rfl) (by kernel_rfl) (fun _ _ _ h => h) (Or.inl ⟨by rfl, ?_⟩) (by assumption) ?_
          rotate_left
          · intro w0 hSw
            (try dsimp only at hSw)
            go_simp
            all_goals with_reducible rfl
          try simp only [Act.put, List.getElem_toArray, List.getElem_cons_zero, List.getElem_cons_succ, List.setIfInBounds_toArray, List.set_cons_zero, List.set_cons_succ]
          refine wpAnyH_ready (rs := [8]) (by kernel_rfl) (by simp) (AllReadyH.cons rfl (fun K hK => ?_) AllReadyH.nil)
          go_simp
          refine hK.out _ _ trivial (fun hHeld => ?_)
          clear hK K
          try simp only [Act.put, List.getElem_toArray, List.getElem_cons_zero, List.getElem_cons_succ, List.setIfInBounds_toArray, List.set_cons_zero, List.set_cons_succ]
          have hb : Below W1.heap.size W1 (U513.alloc (.cells (#[.int .i64 0, .int .i64 0, .slice none 0 0, .slice none 0 0, .slice none 0 0, .int .i64 0, .int .i64 0]) 26)) := HU.out.alloc us _
          have h8 : Blk (U513.alloc (.cells (#[.int .i64 0, .int .i64 0, .slice none 0 0, .slice none 0 0, .slice none 0 0, .int .i64 0, .int .i64 0]) 26)) U513.heap.size 26 #[.int .i64 0, .int .i64 0, .slice none 0 0, .slice none 0 0, .slice none 0 0, .int .i64 0, .int .i64 0] := Blk.new _ _ _
          have h5 := F5.out.alloc (.cells (#[.int .i64 0, .int .i64 0, .slice none 0 0, .slice none 0 0, .slice none 0 0, .int .i64 0, .int .i64 0]) 26)
          have h1 := F1.out.alloc (.cells (#[.int .i64 0, .int .i64 0, .slice none 0 0, .slice none 0 0, .slice none 0 0, .int .i64 0, .int .i64 0]) 26)
          have h3 := F3.out.alloc (.cells (#[.int .i64 0, .int .i64 0, .slice none 0 0, .slice none 0 0, .slice none 0 0, .int .i64 0, .int .i64 0]) 26)
          have us1 : U513.heap.size < (U513.alloc (.cells (#[.int .i64 0, .int .i64 0, .slice none 0 0, .slice none 0 0, .slice none 0 0, .int .i64 0, .int .i64 0]) 26)).heap.size := by simp
          generalize U513.alloc (.cells (#[.int .i64 0, .int .i64 0, .slice none 0 0, .slice none 0 0, .slice none 0 0, .int .i64 0, .int .i64 0]) 26) = U5138 at *
          have us2 : W1.heap.size ≤ U5138.heap.size := by omega
          have G5 := Lib.hid h5
          have G1 := Lib.hid h1
          have G3 := Lib.hid h3
          have G8 := Lib.hid h8
          have HU2 := Lib.hid hb
          clear hb HU F5 F1 F3 h5 h1 h3 h8
          have F5 := G5
          have F1 := G1
          have F3 := G3
          have F8 := G8
          have HU := HU2
          have us := us2
          clear HU2 G5 G1 G3 G8
          have c0 := F8.out.cell 0
          have f0 := F8.out.frozen 0
          have c1 := F8.out.cell 1
          have f1 := F8.out.frozen 1
          have c2 := F8.out.cell 2
          have f2 := F8.out.frozen 2
          have c3 := F8.out.cell 3
          have f3 := F8.out.frozen 3
          have c4 := F8.out.cell 4
          have f4 := F8.out.frozen 4
          have c5 := F8.out.cell 5
          have f5 := F8.out.frozen 5
          have c6 := F8.out.cell 6
          have f6 := F8.out.frozen 6
          have cl := F8.out.lt
          refine wpAnyH_ready (rs := [9]) (by kernel_rfl) (by simp) (AllReadyH.cons rfl (fun K hK => ?_) AllReadyH.nil)
          go_simp
          refine hK.out _ _ trivial (fun hHeld => ?_)
          clear hK K
          clear c0 f0 c1 f1 c2 f2 c3 f3 c4 f4 c5 f5 c6 f6 cl
          refine wpAnyH_done (by kernel_rfl) ?_ _
          go_wp2_with fail
          go_meet
          have q1 := PO.blk7 (PO.newZ (few := few) F1.out F3.out F5.out h2) F8.out (.int .i64 0) (.int .i64 (-1)) (.slice (some ⟨U5.heap.size, 0, none⟩) n n) (.slice (some ⟨U51.heap.size, 0, none⟩) n n) (.slice (some ⟨U.heap.size, 0, none⟩) n n) (.int .i64 few) (.int .i64 0)
          have q2 := (((((((F8.out.set_ 0 (.int .i64 0)).set_ 1 (.int .i64 (-1))).set_ 2 (.slice (some ⟨U5.heap.size, 0, none⟩) n n)).set_ 3 (.slice (some ⟨U51.heap.size, 0, none⟩) n n)).set_ 4 (.slice (some ⟨U.heap.size, 0, none⟩) n n)).set_ 5 (.int .i64 few)).set_ 6 (.int .i64 0))
          have q3 := ((((((((B1_bz.out.below HU.out B1_bz.out.lt).far (p := ⟨U513.heap.size, 0, none⟩) (by show w.heap.size ≠ U513.heap.size; omega) (.int .i64 0)).far (p := ⟨U513.heap.size, 1, none⟩) (by show w.heap.size ≠ U513.heap.size; omega) (.int .i64 (-1))).far (p := ⟨U513.heap.size, 2, none⟩) (by show w.heap.size ≠ U513.heap.size; omega) (.slice (some ⟨U5.heap.size, 0, none⟩) n n)).far (p := ⟨U513.heap.size, 3, none⟩) (by show w.heap.size ≠ U513.heap.size; omega) (.slice (some ⟨U51.heap.size, 0, none⟩) n n)).far (p := ⟨U513.heap.size, 4, none⟩) (by show w.heap.size ≠ U513.heap.size; omega) (.slice (some ⟨U.heap.size, 0, none⟩) n n)).far (p := ⟨U513.heap.size, 5, none⟩) (by show w.heap.size ≠ U513.heap.size; omega) (.int .i64 few)).far (p := ⟨U513.heap.size, 6, none⟩) (by show w.heap.size ≠ U513.heap.size; omega) (.int .i64 0))
          have q4 := ((((((((below_then HB1.out HU.out).setCell (p := ⟨U513.heap.size, 0, none⟩) (by show w.heap.size ≤ U513.heap.size; omega) (.int .i64 0)).setCell (p := ⟨U513.heap.size, 1, none⟩) (by show w.heap.size ≤ U513.heap.size; omega) (.int .i64 (-1))).setCell (p := ⟨U513.heap.size, 2, none⟩) (by show w.heap.size ≤ U513.heap.size; omega) (.slice (some ⟨U5.heap.size, 0, none⟩) n n)).setCell (p := ⟨U513.heap.size, 3, none⟩) (by show w.heap.size ≤ U513.heap.size; omega) (.slice (some ⟨U51.heap.size, 0, none⟩) n n)).setCell (p := ⟨U513.heap.size, 4, none⟩) (by show w.heap.size ≤ U513.heap.size; omega) (.slice (some ⟨U.heap.size, 0, none⟩) n n)).setCell (p := ⟨U513.heap.size, 5, none⟩) (by show w.heap.size ≤ U513.heap.size; omega) (.int .i64 few)).setCell (p := ⟨U513.heap.size, 6, none⟩) (by show w.heap.size ≤ U513.heap.size; omega) (.int .i64 0))
          exact ⟨U513.heap.size, U5.heap.size, U51.heap.size, U.heap.size, rfl, q1, q2, q3, q4, by omega, by omega, by omega, by omega, by omega⟩
        · go_simp
          refine hK.out _ _ trivial (fun hHeld => ?_)
          clear hK K
          try simp only [Act.put, List.getElem_toArray, List.getElem_cons_zero, List.getElem_cons_succ, List.setIfInBounds_toArray, List.set_cons_zero, List.set_cons_succ]
          have hb : Below W1.heap.size W1 (U51.alloc (.cells (#[.int .i64 0, .int .i64 0, .slice none 0 0, .slice none 0 0, .slice none 0 0, .int .i64 0, .int .i64 0]) 26)) := HU.out.alloc us _
          have h8 : Blk (U51.alloc (.cells (#[.int .i64 0, .int .i64 0, .slice none 0 0, .slice none 0 0, .slice none 0 0, .int .i64 0, .int .i64 0]) 26)) U51.heap.size 26 #[.int .i64 0, .int .i64 0, .slice none 0 0, .slice none 0 0, .slice none 0 0, .int .i64 0, .int .i64 0] := Blk.new _ _ _
          have h5 := F5.out.alloc (.cells (#[.int .i64 0, .int .i64 0, .slice none 0 0, .slice none 0 0, .slice none 0 0, .int .i64 0, .int .i64 0]) 26)
          have h1 := F1.out.alloc (.cells (#[.int .i64 0, .int .i64 0, .slice none 0 0, .slice none 0 0, .slice none 0 0, .int .i64 0, .int .i64 0]) 26)
          have us1 : U51.heap.size < (U51.alloc (.cells (#[.int .i64 0, .int .i64 0, .slice none 0 0, .slice none 0 0, .slice none 0 0, .int .i64 0, .int .i64 0]) 26)).heap.size := by simp
          generalize U51.alloc (.cells (#[.int .i64 0, .int .i64 0, .slice none 0 0, .slice none 0 0, .slice none 0 0, .int .i64 0, .int .i64 0]) 26) = U518 at *
          have us2 : W1.heap.size ≤ U518.heap.size := by omega
          have G5 := Lib.hid h5
          have G1 := Lib.hid h1
          have G8 := Lib.hid h8
          have HU2 := Lib.hid hb
          clear hb HU F5 F1 h5 h1 h8
          have F5 := G5
          have F1 := G1
          have F8 := G8
          have HU := HU2
          have us := us2
          clear HU2 G5 G1 G8
          refine wpAnyH_ready (rs := [3]) (by kernel_rfl) (by simp) (AllReadyH.cons rfl (fun K hK => ?_) AllReadyH.nil)
          go_simp
          refine hK.out _ _ trivial (fun hHeld => ?_)
          clear hK K
          try simp only [Act.put, List.getElem_toArray, List.getElem_cons_zero, List.getElem_cons_succ, List.setIfInBounds_toArray, List.set_cons_zero, List.set_cons_succ]
          have hb : Below W1.heap.size W1 (U518.alloc (.cells (madeCells #[.int .i64 0] n) 3)) := HU.out.alloc us _
          have h3 := World.ownsRow_lit (base := W1.heap.size) (e := 3) (size := 1) U518 (madeCells #[.int .i64 0] n) n us (by simp only [maxLen]; omega) (by simp [size_madeCells])
          rw [toList_madeCells_one] at h3
          have h5 := F5.out.alloc (.cells (madeCells #[.int .i64 0] n) 3)
          have h1 := F1.out.alloc (.cells (madeCells #[.int .i64 0] n) 3)
          have h8 := F8.out.alloc (.cells (madeCells #[.int .i64 0] n) 3)
          have us1 : U518.heap.size < (U518.alloc (.cells (madeCells #[.int .i64 0] n) 3)).heap.size := by simp
          generalize U518.alloc (.cells (madeCells #[.int .i64 0] n) 3) = U5183 at *
          have us2 : W1.heap.size ≤ U5183.heap.size := by omega
          have G5 := Lib.hid h5
          have G1 := Lib.hid h1
          have G8 := Lib.hid h8
          have G3 := Lib.hid h3
          have HU2 := Lib.hid hb
          clear hb HU F5 F1 F8 h5 h1 h8 h3
          have F5 := G5
          have F1 := G1
          have F8 := G8
          have F3 := G3
          have HU := HU2
          have us := us2
          clear HU2 G5 G1 G8 G3
          refine wpAnyH_take (i := 7) (v := ?_) rfl (by kernel_rfl) (by kernel_rfl) (by kernel_rfl) (fun _ _ _ h => h) (Or.inl ⟨by rfl, ?_⟩) (by assumption) ?_
          rotate_left
          · intro w0 hSw
            (try dsimp only at hSw)
            go_simp
            all_goals with_reducible rfl
          try simp only [Act.put, List.getElem_toArray, List.getElem_cons_zero, List.getElem_cons_succ, List.setIfInBounds_toArray, List.set_cons_zero, List.set_cons_succ]
          have c0 := F8.out.cell 0
          have f0 := F8.out.frozen 0
          have c1 := F8.out.cell 1
          have f1 := F8.out.frozen 1
          have c2 := F8.out.cell 2
          have f2 := F8.out.frozen 2
          have c3 := F8.out.cell 3
          have f3 := F8.out.frozen 3
          have c4 := F8.out.cell 4
          have f4 := F8.out.frozen 4
          have c5 := F8.out.cell 5
          have f5 := F8.out.frozen 5
          have c6 := F8.out.cell 6
          have f6 := F8.out.frozen 6
          have cl := F8.out.lt
          refine wpAnyH_ready (rs := [9]) (by kernel_rfl) (by simp) (AllReadyH.cons rfl (fun K hK => ?_) AllReadyH.nil)
          go_simp
          refine hK.out _ _ trivial (fun hHeld => ?_)
          clear hK K
          clear c0 f0 c1 f1 c2 f2 c3 f3 c4 f4 c5 f5 c6 f6 cl
          refine wpAnyH_done (by kernel_rfl) ?_ _
          go_wp2_with fail
          go_meet
          have q1 := PO.blk7 (PO.newZ (few := few) F1.out F3.out F5.out h2) F8.out (.int .i64 0) (.int .i64 (-1)) (.slice (some ⟨U5.heap.size, 0, none⟩) n n) (.slice (some ⟨U518.heap.size, 0, none⟩) n n) (.slice (some ⟨U.heap.size, 0, none⟩) n n) (.int .i64 few) (.int .i64 0)
          have q2 := (((((((F8.out.set_ 0 (.int .i64 0)).set_ 1 (.int .i64 (-1))).set_ 2 (.slice (some ⟨U5.heap.size, 0, none⟩) n n)).set_ 3 (.slice (some ⟨U518.heap.size, 0, none⟩) n n)).set_ 4 (.slice (some ⟨U.heap.size, 0, none⟩) n n)).set_ 5 (.int .i64 few)).set_ 6 (.int .i64 0))
          have q3 := ((((((((B1_bz.out.below HU.out B1_bz.out.lt).far (p := ⟨U51.heap.size, 0, none⟩) (by show w.heap.size ≠ U51.heap.size; omega) (.int .i64 0)).far (p := ⟨U51.heap.size, 1, none⟩) (by show w.heap.size ≠ U51.heap.size; omega) (.int .i64 (-1))).far (p := ⟨U51.heap.size, 2, none⟩) (by show w.heap.size ≠ U51.heap.size; omega) (.slice (some ⟨U5.heap.size, 0, none⟩) n n)).far (p := ⟨U51.heap.size, 3, none⟩) (by show w.heap.size ≠ U51.heap.size; omega) (.slice (some ⟨U518.heap.size, 0, none⟩) n n)).far (p := ⟨U51.heap.size, 4, none⟩) (by show w.heap.size ≠ U51.heap.size; omega) (.slice (some ⟨U.heap.size, 0, none⟩) n n)).far (p := ⟨U51.heap.size, 5, none⟩) (by show w.heap.size ≠ U51.heap.size; omega) (.int .i64 few)).far (p := ⟨U51.heap.size, 6, none⟩) (by show w.heap.size ≠ U51.heap.size; omega) (.int .i64 0))
          have q4 := ((((((((below_then HB1.out HU.out).setCell (p := ⟨U51.heap.size, 0, none⟩) (by show w.heap.size ≤ U51.heap.size; omega) (.int .i64 0)).setCell (p := ⟨U51.heap.size, 1, none⟩) (by show w.heap.size ≤ U51.heap.size; omega) (.int .i64 (-1))).setCell (p := ⟨U51.heap.size, 2, none⟩) (by show w.heap.size ≤ U51.heap.size; omega) (.slice (some ⟨U5.heap.size, 0, none⟩) n n)).setCell (p := ⟨U51.heap.size, 3, none⟩) (by show w.heap.size ≤ U51.heap.size; omega) (.slice (some ⟨U518.heap.size, 0, none⟩) n n)).setCell (p := ⟨U51.heap.size, 4, none⟩) (by show w.heap.size ≤ U51.heap.size; omega) (.slice (some ⟨U.heap.size, 0, none⟩) n n)).setCell (p := ⟨U51.heap.size, 5, none⟩) (by show w.heap.size ≤ U51.heap.size; omega) (.int .i64 few)).setCell (p := ⟨U51.heap.size, 6, none⟩) (by show w.heap.size ≤ U51.heap.size; omega) (.int .i64 0))
          exact ⟨U51.heap.size, U5.heap.size, U518.heap.size, U.heap.size, rfl, q1, q2, q3, q4, by omega, by omega, by omega, by omega, by omega⟩
      · go_simp
        refine hK.out _ _ trivial (fun hHeld => ?_)
        clear hK K
        try simp only [Act.put, List.getElem_toArray, List.getElem_cons_zero, List.getElem_cons_succ, List.setIfInBounds_toArray, List.set_cons_zero, List.set_cons_succ]
        have hb : Below W1.heap.size W1 (U5.alloc (.cells (madeCells #[.int .i64 0] n) 3)) := HU.out.alloc us _
        have h3 := World.ownsRow_lit (base := W1.heap.size) (e := 3) (size := 1) U5 (madeCells #[.int .i64 0] n) n us (by simp only [maxLen]; omega) (by simp [size_madeCells])
        rw [toList_madeCells_one] at h3
        have h5 := F5.out.alloc (.cells (madeCells #[.int .i64 0] n) 3)
        have us1 : U5.heap.size < (U5.alloc (.cells (madeCells #[.int .i64 0] n) 3)).heap.size := by simp
        generalize U5.alloc (.cells (madeCells #[.int .i64 0] n) 3) = U53 at *
        have us2 : W1.heap.size ≤ U53.heap.size := by omega
        have G5 := Lib.hid h5
        have G3 := Lib.hid h3
        have HU2 := Lib.hid hb
        clear hb HU F5 h5 h3
        have F5 := G5
        have F3 := G3
        have HU := HU2
        have us := us2
        clear HU2 G5 G3
        refine wpAnyH_ready (rs := [1, 8]) (by kernel_rfl) (by simp) (AllReadyH.cons rfl (fun K hK => ?_) (AllReadyH.cons rfl (fun K hK => ?_) AllReadyH.nil))
        · go_simp
          refine hK.out _ _ trivial (fun hHeld => ?_)
          clear hK K
          try simp only [Act.put, List.getElem_toArray, List.getElem_cons_zero, List.getElem_cons_succ, List.setIfInBounds_toArray, List.set_cons_zero, List.set_cons_succ]
          have hb : Below W1.heap.size W1 (U53.alloc (.cells (madeCells #[.bool false] n) 4)) := HU.out.alloc us _
          have h1 := World.ownsRow_lit (base := W1.heap.size) (e := 4) (size := 1) U53 (madeCells #[.bool false] n) n us (by simp only [maxLen]; omega) (by simp [size_madeCells])
          rw [toList_madeCells_one] at h1
          have h5 := F5.out.alloc (.cells (madeCells #[.bool false] n) 4)
          have h3 := F3.out.alloc (.cells (madeCells #[.bool false] n) 4)
          have us1 : U53.heap.size < (U53.alloc (.cells (madeCells #[.bool false] n) 4)).heap.size := by simp
          generalize U53.alloc (.cells (madeCells #[.bool false] n) 4) = U531 at *
          have us2 : W1.heap.size ≤ U531.heap.size := by omega
          have G5 := Lib.hid h5
          have G3 := Lib.hid h3
          have G1 := Lib.hid h1
          have HU2 := Lib.hid hb
          clear hb HU F5 F3 h5 h3 h1
          have F5 := G5
          have F3 := G3
          have F1 := G1
          have HU := HU2
          have us := us2
          clear HU2 G5 G3 G1
          refine wpAnyH_take (i := 7) (v := ?_) rfl (by kernel_rfl) (by kernel_rfl) (by kernel_rfl) (fun _ _ _ h => h) (Or.inl ⟨by rfl, ?_⟩) (by assumption) ?_
          rotate_left
          · intro w0 hSw
            (try dsimp only at hSw)
            go_simp
            all_goals with_reducible rfl
          try simp only [Act.put, List.getElem_toArray, List.getElem_cons_zero, List.getElem_cons_succ, List.setIfInBounds_toArray, List.set_cons_zero, List.set_cons_succ]
          refine wpAnyH_ready (rs := [8]) (by kernel_rfl) (by simp) (AllReadyH.cons rfl (fun K hK => ?_) AllReadyH.nil)
          go_simp
          refine hK.out _ _ trivial (fun hHeld => ?_)
          clear hK K
          try simp only [Act.put, List.getElem_toArray, List.getElem_cons_zero, List.getElem_cons_succ, List.setIfInBounds_toArray, List.set_cons_zero, List.set_cons_succ]
          have hb : Below W1.heap.size W1 (U531.alloc (.cells (#[.int .i64 0, .int .i64 0, .slice none 0 0, .slice none 0 0, .slice none 0 0, .int .i64 0, .int .i64 0]) 26)) := HU.out.alloc us _
          have h8 : Blk (U531.alloc (.cells (#[.int .i64 0, .int .i64 0, .slice none 0 0, .slice none 0 0, .slice none 0 0, .int .i64 0, .int .i64 0]) 26)) U531.heap.size 26 #[.int .i64 0, .int .i64 0, .slice none 0 0, .slice none 0 0, .slice none 0 0, .int .i64 0, .int .i64 0] := Blk.new _ _ _
          have h5 := F5.out.alloc (.cells (#[.int .i64 0, .int .i64 0, .slice none 0 0, .slice none 0 0, .slice none 0 0, .int .i64 0, .int .i64 0]) 26)
          have h3 := F3.out.alloc (.cells (#[.int .i64 0, .int .i64 0, .slice none 0 0, .slice none 0 0, .slice none 0 0, .int .i64 0, .int .i64 0]) 26)
          have h1 := F1.out.alloc (.cells (#[.int .i64 0, .int .i64 0, .slice none 0 0, .slice none 0 0, .slice none 0 0, .int .i64 0, .int .i64 0]) 26)
          have us1 : U531.heap.size < (U531.alloc (.cells (#[.int .i64 0, .int .i64 0, .slice none 0 0, .slice none 0 0, .slice none 0 0, .int .i64 0, .int .i64 0]) 26)).heap.size := by simp
          generalize U531.alloc (.cells (#[.int .i64 0, .int .i64 0, .slice none 0 0, .slice none 0 0, .slice none 0 0, .int .i64 0, .int .i64 0]) 26) = U5318 at *
          have us2 : W1.heap.size ≤ U5318.heap.size := by omega
          have G5 := Lib.hid h5
          have G3 := Lib.hid h3
          have G1 := Lib.hid h1
          have G8 := Lib.hid h8
          have HU2 := Lib.hid hb
          clear hb HU F5 F3 F1 h5 h3 h1 h8
          have F5 := G5
          have F3 := G3
          have F1 := G1
          have F8 := G8
          have HU := HU2
          have us := us2
          clear HU2 G5 G3 G1 G8
          have c0 := F8.out.cell 0
          have f0 := F8.out.frozen 0
          have c1 := F8.out.cell 1
          have f1 := F8.out.frozen 1
          have c2 := F8.out.cell 2
          have f2 := F8.out.frozen 2
          have c3 := F8.out.cell 3
          have f3 := F8.out.frozen 3
          have c4 := F8.out.cell 4
          have f4 := F8.out.frozen 4
          have c5 := F8.out.cell 5
          have f5 := F8.out.frozen 5
          have c6 := F8.out.cell 6
          have f6 := F8.out.frozen 6
          have cl := F8.out.lt
          refine wpAnyH_ready (rs := [9]) (by kernel_rfl) (by simp) (AllReadyH.cons rfl (fun K hK => ?_) AllReadyH.nil)
          go_simp
          refine hK.out _ _ trivial (fun hHeld => ?_)
          clear hK K
          clear c0 f0 c1 f1 c2 f2 c3 f3 c4 f4 c5 f5 c6 f6 cl
          refine wpAnyH_done (by kernel_rfl) ?_ _
          go_wp2_with fail
          go_meet
          have q1 := PO.blk7 (PO.newZ (few := few) F1.out F3.out F5.out h2) F8.out (.int .i64 0) (.int .i64 (-1)) (.slice (some ⟨U53.heap.size, 0, none⟩) n n) (.slice (some ⟨U5.heap.size, 0, none⟩) n n) (.slice (some ⟨U.heap.size, 0, none⟩) n n) (.int .i64 few) (.int .i64 0)
          have q2 := (((((((F8.out.set_ 0 (.int .i64 0)).set_ 1 (.int .i64 (-1))).set_ 2 (.slice (some ⟨U53.heap.size, 0, none⟩) n n)).set_ 3 (.slice (some ⟨U5.heap.size, 0, none⟩) n n)).set_ 4 (.slice (some ⟨U.heap.size, 0, none⟩) n n)).set_ 5 (.int .i64 few)).set_ 6 (.int .i64 0))
          have q3 := ((((((((B1_bz.out.below HU.out B1_bz.out.lt).far (p := ⟨U531.heap.size, 0, none⟩) (by show w.heap.size ≠ U531.heap.size; omega) (.int .i64 0)).far (p := ⟨U531.heap.size, 1, none⟩) (by show w.heap.size ≠ U531.heap.size; omega) (.int .i64 (-1))).far (p := ⟨U531.heap.size, 2, none⟩) (by show w.heap.size ≠ U531.heap.size; omega) (.slice (some ⟨U53.heap.size, 0, none⟩) n n)).far (p := ⟨U531.heap.size, 3, none⟩) (by show w.heap.size ≠ U531.heap.size; omega) (.slice (some ⟨U5.heap.size, 0, none⟩) n n)).far (p := ⟨U531.heap.size, 4, none⟩) (by show w.heap.size ≠ U531.heap.size; omega) (.slice (some ⟨U.heap.size, 0, none⟩) n n)).far (p := ⟨U531.heap.size, 5, none⟩) (by show w.heap.size ≠ U531.heap.size; omega) (.int .i64 few)).far (p := ⟨U531.heap.size, 6, none⟩) (by show w.heap.size ≠ U531.heap.size; omega) (.int .i64 0))
          have q4 := ((((((((below_then HB1.out HU.out).setCell (p := ⟨U531.heap.size, 0, none⟩) (by show w.heap.size ≤ U531.heap.size; omega) (.int .i64 0)).setCell (p := ⟨U531.heap.size, 1, none⟩) (by show w.heap.size ≤ U531.heap.size; omega) (.int .i64 (-1))).setCell (p := ⟨U531.heap.size, 2, none⟩) (by show w.heap.size ≤ U531.heap.size; omega) (.slice (some ⟨U53.heap.size, 0, none⟩) n n)).setCell (p := ⟨U531.heap.size, 3, none⟩) (by show w.heap.size ≤ U531.heap.size; omega) (.slice (some ⟨U5.heap.size, 0, none⟩) n n)).setCell (p := ⟨U531.heap.size, 4, none⟩) (by show w.heap.size ≤ U531.heap.size; omega) (.slice (some ⟨U.heap.size, 0, none⟩) n n)).setCell (p := ⟨U531.heap.size, 5, none⟩) (by show w.heap.size ≤ U531.heap.size; omega) (.int .i64 few)).setCell (p := ⟨U531.heap.size, 6, none⟩) (by show w.heap.size ≤ U531.heap.size; omega) (.int .i64 0))
          exact ⟨U531.heap.size, U53.heap.size, U5.heap.size, U.heap.size, rfl, q1, q2, q3, q4, by omega, by omega, by omega, by omega, by omega⟩
        · go_simp
          refine hK.out _ _ trivial (fun hHeld => ?_)
          clear hK K
          try simp only [Act.put, List.getElem_toArray, List.getElem_cons_zero, List.getElem_cons_succ, List.setIfInBounds_toArray, List.set_cons_zero, List.set_cons_succ]
          have hb : Below W1.heap.size W1 (U53.alloc (.cells (#[.int .i64 0, .int .i64 0, .slice none 0 0, .slice none 0 0, .slice none 0 0, .int .i64 0, .int .i64 0]) 26)) := HU.out.alloc us _
          have h8 : Blk (U53.alloc (.cells (#[.int .i64 0, .int .i64 0, .slice none 0 0, .slice none 0 0, .slice none 0 0, .int .i64 0, .int .i64 0]) 26)) U53.heap.size 26 #[.int .i64 0, .int .i64 0, .slice none 0 0, .slice none 0 0, .slice none 0 0, .int .i64 0, .int .i64 0] := Blk.new _ _ _
          have h5 := F5.out.alloc (.cells (#[.int .i64 0, .int .i64 0, .slice none 0 0, .slice none 0 0, .slice none 0 0, .int .i64 0, .int .i64 0]) 26)
          have h3 := F3.out.alloc (.cells (#[.int .i64 0, .int .i64 0, .slice none 0 0, .slice none 0 0, .slice none 0 0, .int .i64 0, .int .i64 0]) 26)
          have us1 : U53.heap.size < (U53.alloc (.cells (#[.int .i64 0, .int .i64 0, .slice none 0 0, .slice none 0 0, .slice none 0 0, .int .i64 0, .int .i64 0]) 26)).heap.size := by simp
          generalize U53.alloc (.cells (#[.int .i64 0, .int .i64 0, .slice none 0 0, .slice none 0 0, .slice none 0 0, .int .i64 0, .int .i64 0]) 26) = U538 at *
          have us2 : W1.heap.size ≤ U538.heap.size := by omega
          have G5 := Lib.hid h5
          have G3 := Lib.hid h3
          have G8 := Lib.hid h8
          have HU2 := Lib.hid hb
          clear hb HU F5 F3 h5 h3 h8
          have F5 := G5
          have F3 := G3
          have F8 := G8
          have HU := HU2
          have us := us2
          clear HU2 G5 G3 G8
          refine wpAnyH_ready (rs := [1]) (by kernel_rfl) (by simp) (AllReadyH.cons rfl (fun K hK => ?_) AllReadyH.nil)
          go_simp
          refine hK.out _ _ trivial (fun hHeld => ?_)
          clear hK K
          try simp only [Act.put, List.getElem_toArray, List.getElem_cons_zero, List.getElem_cons_succ, List.setIfInBounds_toArray, List.set_cons_zero, List.set_cons_succ]
          have hb : Below W1.heap.size W1 (U538.alloc (.cells (madeCells #[.bool false] n) 4)) := HU.out.alloc us _
          have h1 := World.ownsRow_lit (base := W1.heap.size) (e := 4) (size := 1) U538 (madeCells #[.bool false] n) n us (by simp only [maxLen]; omega) (by simp [size_madeCells])
          rw [toList_madeCells_one] at h1
          have h5 := F5.out.alloc (.cells (madeCells #[.bool false] n) 4)
          have h3 := F3.out.alloc (.cells (madeCells #[.bool false] n) 4)
          have h8 := F8.out.alloc (.cells (madeCells #[.bool false] n) 4)
          have us1 : U538.heap.size < (U538.alloc (.cells (madeCells #[.bool false] n) 4)).heap.size := by simp
          generalize U538.alloc (.cells (madeCells #[.bool false] n) 4) = U5381 at *
          have us2 : W1.heap.size ≤ U5381.heap.size := by omega
          have G5 := Lib.hid h5
          have G3 := Lib.hid h3
          have G8 := Lib.hid h8
          have G1 := Lib.hid h1
          have HU2 := Lib.hid hb
          clear hb HU F5 F3 F8 h5 h3 h8 h1
          have F5 := G5
          have F3 := G3
          have F8 := G8
          have F1 := G1
          have HU := HU2
          have us := us2
          clear HU2 G5 G3 G8 G1
          refine wpAnyH_take (i := 7) (v := ?_) rfl (by kernel_rfl) (by kernel_rfl) (by kernel_rfl) (fun _ _ _ h => h) (Or.inl ⟨by rfl, ?_⟩) (by assumption) ?_
          rotate_left
          · intro w0 hSw
            (try dsimp only at hSw)
            go_simp
            all_goals with_reducible rfl
          try simp only [Act.put, List.getElem_toArray, List.getElem_cons_zero, List.getElem_cons_succ, List.setIfInBounds_toArray, List.set_cons_zero, List.set_cons_succ]
          have c0 := F8.out.cell 0
          have f0 := F8.out.frozen 0
          have c1 := F8.out.cell 1
          have f1 := F8.out.frozen 1
          have c2 := F8.out.cell 2
          have f2 := F8.out.frozen 2
          have c3 := F8.out.cell 3
          have f3 := F8.out.frozen 3
          have c4 := F8.out.cell 4
          have f4 := F8.out.frozen 4
          have c5 := F8.out.cell 5
          have f5 := F8.out.frozen 5
          have c6 := F8.out.cell 6
          have f6 := F8.out.frozen 6
          have cl := F8.out.lt
          refine wpAnyH_ready (rs := [9]) (by kernel_rfl) (by simp) (AllReadyH.cons rfl (fun K hK => ?_) AllReadyH.nil)
          go_simp
          refine hK.out _ _ trivial (fun hHeld => ?_)
          clear hK K
          clear c0 f0 c1 f1 c2 f2 c3 f3 c4 f4 c5 f5 c6 f6 cl
          refine wpAnyH_done (by kernel_rfl) ?_ _
          go_wp2_with fail
          go_meet
          have q1 := PO.blk7 (PO.newZ (few := few) F1.out F3.out F5.out h2) F8.out (.int .i64 0) (.int .i64 (-1)) (.slice (some ⟨U538.heap.size, 0, none⟩) n n) (.slice (some ⟨U5.heap.size, 0, none⟩) n n) (.slice (some ⟨U.heap.size, 0, none⟩) n n) (.int .i64 few) (.int .i64 0)
          have q2 := (((((((F8.out.set_ 0 (.int .i64 0)).set_ 1 (.int .i64 (-1))).set_ 2 (.slice (some ⟨U538.heap.size, 0, none⟩) n n)).set_ 3 (.slice (some ⟨U5.heap.size, 0, none⟩) n n)).set_ 4 (.slice (some ⟨U.heap.size, 0, none⟩) n n)).set_ 5 (.int .i64 few)).set_ 6 (.int .i64 0))
          have q3 := ((((((((B1_bz.out.below HU.out B1_bz.out.lt).far (p := ⟨U53.heap.size, 0, none⟩) (by show w.heap.size ≠ U53.heap.size; omega) (.int .i64 0)).far (p := ⟨U53.heap.size, 1, none⟩) (by show w.heap.size ≠ U53.heap.size; omega) (.int .i64 (-1))).far (p := ⟨U53.heap.size, 2, none⟩) (by show w.heap.size ≠ U53.heap.size; omega) (.slice (some ⟨U538.heap.size, 0, none⟩) n n)).far (p := ⟨U53.heap.size, 3, none⟩) (by show w.heap.size ≠ U53.heap.size; omega) (.slice (some ⟨U5.heap.size, 0, none⟩) n n)).far (p := ⟨U53.heap.size, 4, none⟩) (by show w.heap.size ≠ U53.heap.size; omega) (.slice (some ⟨U.heap.size, 0, none⟩) n n)).far (p := ⟨U53.heap.size, 5, none⟩) (by show w.heap.size ≠ U53.heap.size; omega) (.int .i64 few)).far (p := ⟨U53.heap.size, 6, none⟩) (by show w.heap.size ≠ U53.heap.size; omega) (.int .i64 0))
          have q4 := ((((((((below_then HB1.out HU.out).setCell (p := ⟨U53.heap.size, 0, none⟩) (by show w.heap.size ≤ U53.heap.size; omega) (.int .i64 0)).setCell (p := ⟨U53.heap.size, 1, none⟩) (by show w.heap.size ≤ U53.heap.size; omega) (.int .i64 (-1))).setCell (p := ⟨U53.heap.size, 2, none⟩) (by show w.heap.size ≤ U53.heap.size; omega) (.slice (some ⟨U538.heap.size, 0, none⟩) n n)).setCell (p := ⟨U53.heap.size, 3, none⟩) (by show w.heap.size ≤ U53.heap.size; omega) (.slice (some ⟨U5.heap.size, 0, none⟩) n n)).setCell (p := ⟨U53.heap.size, 4, none⟩) (by show w.heap.size ≤ U53.heap.size; omega) (.slice (some ⟨U.heap.size, 0, none⟩) n n)).setCell (p := ⟨U53.heap.size, 5, none⟩) (by show w.heap.size ≤ U53.heap.size; omega) (.int .i64 few)).setCell (p := ⟨U53.heap.size, 6, none⟩) (by show w.heap.size ≤ U53.heap.size; omega) (.int .i64 0))
          exact ⟨U53.heap.size, U538.heap.size, U5.heap.size, U.heap.size, rfl, q1, q2, q3, q4, by omega, by omega, by omega, by omega, by omega⟩
      · go_simp
        refine hK.out _ _ trivial (fun hHeld => ?_)
        clear hK K
        try simp only [Act.put, List.getElem_toArray, List.getElem_cons_zero, List.getElem_cons_succ, List.setIfInBounds_toArray, List.set_cons_zero, List.set_cons_succ]
        have hb : Below W1.heap.size W1 (U5.alloc (.cells (#[.int .i64 0, .int .i64 0, .slice none 0 0, .slice none 0 0, .slice none 0 0, .int .i64 0, .int .i64 0]) 26)) := HU.out.alloc us _
        have h8 : Blk (U5.alloc (.cells (#[.int .i64 0, .int .i64 0, .slice none 0 0, .slice none 0 0, .slice none 0 0, .int .i64 0, .int .i64 0]) 26)) U5.heap.size 26 #[.int .i64 0, .int .i64 0, .slice none 0 0, .slice none 0 0, .slice none 0 0, .int .i64 0, .int .i64 0] := Blk.new _ _ _
        have h5 := F5.out.alloc (.cells (#[.int .i64 0, .int .i64 0, .slice none 0 0, .slice none 0 0, .slice none 0 0, .int .i64 0, .int .i64 0]) 26)
        have us1 : U5.heap.size < (U5.alloc (.cells (#[.int .i64 0, .int .i64 0, .slice none 0 0, .slice none 0 0, .slice none 0 0, .int .i64 0, .int .i64 0]) 26)).heap.size := by simp
        generalize U5.alloc (.cells (#[.int .i64 0, .int .i64 0, .slice none 0 0, .slice none 0 0, .slice none 0 0, .int .i64 0, .int .i64 0]) 26) = U58 at *
        have us2 : W1.heap.size ≤ U58.heap.size := by omega
        have G5 := Lib.hid h5
        have G8 := Lib.hid h8
        have HU2 := Lib.hid hb
        clear hb HU F5 h5 h8
        have F5 := G5
        have F8 := G8
        have HU := HU2
        have us := us2
        clear HU2 G5 G8
        refine wpAnyH_ready (rs := [1, 3]) (by kernel_rfl) (by simp) (AllReadyH.cons rfl (fun K hK => ?_) (AllReadyH.cons rfl (fun K hK => ?_) AllReadyH.nil))
        · go_simp
          refine hK.out _ _ trivial (fun hHeld => ?_)
          clear hK K
          try simp only [Act.put, List.getElem_toArray, List.getElem_cons_zero, List.getElem_cons_succ, List.setIfInBounds_toArray, List.set_cons_zero, List.set_cons_succ]
          have hb : Below W1.heap.size W1 (U58.alloc (.cells (madeCells #[.bool false] n) 4)) := HU.out.alloc us _
          have h1 := World.ownsRow_lit (base := W1.heap.size) (e := 4) (size := 1) U58 (madeCells #[.bool false] n) n us (by simp only [maxLen]; omega) (by simp [size_madeCells])
          rw [toList_madeCells_one] at h1
          have h5 := F5.out.alloc (.cells (madeCells #[.bool false] n) 4)
          have h8 := F8.out.alloc (.cells (madeCells #[.bool false] n) 4)
          have us1 : U58.heap.size < (U58.alloc (.cells (madeCells #[.bool false] n) 4)).heap.size := by simp
          generalize U58.alloc (.cells (madeCells #[.bool false] n) 4) = U581 at *
          have us2 : W1.heap.size ≤ U581.heap.size := by omega
          have G5 := Lib.hid h5
          have G8 := Lib.hid h8
          have G1 := Lib.hid h1
          have HU2 := Lib.hid hb
          clear hb HU F5 F8 h5 h8 h1
          have F5 := G5
          have F8 := G8
          have F1 := G1
          have HU := HU2
          have us := us2
          clear HU2 G5 G8 G1
          refine wpAnyH_ready (rs := [3]) (by kernel_rfl) (by simp) (AllReadyH.cons rfl (fun K hK => ?_) AllReadyH.nil)
          go_simp
          refine hK.out _ _ trivial (fun hHeld => ?_)
          clear hK K
          try simp only [Act.put, List.getElem_toArray, List.getElem_cons_zero, List.getElem_cons_succ, List.setIfInBounds_toArray, List.set_cons_zero, List.set_cons_succ]
          have hb : Below W1.heap.size W1 (U581.alloc (.cells (madeCells #[.int .i64 0] n) 3)) := HU.out.alloc us _
          have h3 := World.ownsRow_lit (base := W1.heap.size) (e := 3) (size := 1) U581 (madeCells #[.int .i64 0] n) n us (by simp only [maxLen]; omega) (by simp [size_madeCells])
          rw [toList_madeCells_one] at h3
          have h5 := F5.out.alloc (.cells (madeCells #[.int .i64 0] n) 3)
          have h8 := F8.out.alloc (.cells (madeCells #[.int .i64 0] n) 3)
          have h1 := F1.out.alloc (.cells (madeCells #[.int .i64 0] n) 3)
          have us1 : U581.heap.size < (U581.alloc (.cells (madeCells #[.int .i64 0] n) 3)).heap.size := by simp
          generalize U581.alloc (.cells (madeCells #[.int .i64 0] n) 3) = U5813 at *
          have us2 : W1.heap.size ≤ U5813.heap.size := by omega
          have G5 := Lib.hid h5
          have G8 := Lib.hid h8
          have G1 := Lib.hid h1
          have G3 := Lib.hid h3
          have HU2 := Lib.hid hb
          clear hb HU F5 F8 F1 h5 h8 h1 h3
          have F5 := G5
          have F8 := G8
          have F1 := G1
          have F3 := G3
          have HU := HU2
          have us := us2
          clear HU2 G5 G8 G1 G3
          refine wpAnyH_take (i := 7) (v := ?_) rfl (by kernel_rfl) (by kernel_rfl) (by kernel_rfl) (fun _ _ _ h => h) (Or.inl ⟨by rfl, ?_⟩) (by assumption) ?_
          rotate_left
          · intro w0 hSw
            (try dsimp only at hSw)
            go_simp
            all_goals with_reducible rfl
          try simp only [Act.put, List.getElem_toArray, List.getElem_cons_zero, List.getElem_cons_succ, List.setIfInBounds_toArray, List.set_cons_zero, List.set_cons_succ]
          have c0 := F8.out.cell 0
          have f0 := F8.out.frozen 0
          have c1 := F8.out.cell 1
          have f1 := F8.out.frozen 1
          have c2 := F8.out.cell 2
          have f2 := F8.out.frozen 2
          have c3 := F8.out.cell 3
          have f3 := F8.out.frozen 3
          have c4 := F8.out.cell 4
          have f4 := F8.out.frozen 4
          have c5 := F8.out.cell 5
          have f5 := F8.out.frozen 5
          have c6 := F8.out.cell 6
          have f6 := F8.out.frozen 6
          have cl := F8.out.lt
          refine wpAnyH_ready (rs := [9]) (by kernel_rfl) (by simp) (AllReadyH.cons rfl (fun K hK => ?_) AllReadyH.nil)
          go_simp
          refine hK.out _ _ trivial (fun hHeld => ?_)
          clear hK K
          clear c0 f0 c1 f1 c2 f2 c3 f3 c4 f4 c5 f5 c6 f6 cl
          refine wpAnyH_done (by kernel_rfl) ?_ _
          go_wp2_with fail
          go_meet
          have q1 := PO.blk7 (PO.newZ (few := few) F1.out F3.out F5.out h2) F8.out (.int .i64 0) (.int .i64 (-1)) (.slice (some ⟨U58.heap.size, 0, none⟩) n n) (.slice (some ⟨U581.heap.size, 0, none⟩) n n) (.slice (some ⟨U.heap.size, 0, none⟩) n n) (.int .i64 few) (.int .i64 0)
          have q2 := (((((((F8.out.set_ 0 (.int .i64 0)).set_ 1 (.int .i64 (-1))).set_ 2 (.slice (some ⟨U58.heap.size, 0, none⟩) n n)).set_ 3 (.slice (some ⟨U581.heap.size, 0, none⟩) n n)).set_ 4 (.slice (some ⟨U.heap.size, 0, none⟩) n n)).set_ 5 (.int .i64 few)).set_ 6 (.int .i64 0))
          have q3 := ((((((((B1_bz.out.below HU.out B1_bz.out.lt).far (p := ⟨U5.heap.size, 0, none⟩) (by show w.heap.size ≠ U5.heap.size; omega) (.int .i64 0)).far (p := ⟨U5.heap.size, 1, none⟩) (by show w.heap.size ≠ U5.heap.size; omega) (.int .i64 (-1))).far (p := ⟨U5.heap.size, 2, none⟩) (by show w.heap.size ≠ U5.heap.size; omega) (.slice (some ⟨U58.heap.size, 0, none⟩) n n)).far (p := ⟨U5.heap.size, 3, none⟩) (by show w.heap.size ≠ U5.heap.size; omega) (.slice (some ⟨U581.heap.size, 0, none⟩) n n)).far (p := ⟨U5.heap.size, 4, none⟩) (by show w.heap.size ≠ U5.heap.size; omega) (.slice (some ⟨U.heap.size, 0, none⟩) n n)).far (p := ⟨U5.heap.size, 5, none⟩) (by show w.heap.size ≠ U5.heap.size; omega) (.int .i64 few)).far (p := ⟨U5.heap.size, 6, none⟩) (by show w.heap.size ≠ U5.heap.size; omega) (.int .i64 0))
          have q4 := ((((((((below_then HB1.out HU.out).setCell (p := ⟨U5.heap.size, 0, none⟩) (by show w.heap.size ≤ U5.heap.size; omega) (.int .i64 0)).setCell (p := ⟨U5.heap.size, 1, none⟩) (by show w.heap.size ≤ U5.heap.size; omega) (.int .i64 (-1))).setCell (p := ⟨U5.heap.size, 2, none⟩) (by show w.heap.size ≤ U5.heap.size; omega) (.slice (some ⟨U58.heap.size, 0, none⟩) n n)).setCell (p := ⟨U5.heap.size, 3, none⟩) (by show w.heap.size ≤ U5.heap.size; omega) (.slice (some ⟨U581.heap.size, 0, none⟩) n n)).setCell (p := ⟨U5.heap.size, 4, none⟩) (by show w.heap.size ≤ U5.heap.size; omega) (.slice (some ⟨U.heap.size, 0, none⟩) n n)).setCell (p := ⟨U5.heap.size, 5, none⟩) (by show w.heap.size ≤ U5.heap.size; omega) (.int .i64 few)).setCell (p := ⟨U5.heap.size, 6, none⟩) (by show w.heap.size ≤ U5.heap.size; omega) (.int .i64 0))
          exact ⟨U5.heap.size, U58.heap.size, U581.heap.size, U.heap.size, rfl, q1, q2, q3, q4, by omega, by omega, by omega, by omega, by omega⟩
        · go_simp
          refine hK.out _ _ trivial (fun hHeld => ?_)
          clear hK K
          try simp only [Act.put, List.getElem_toArray, List.getElem_cons_zero, List.getElem_cons_succ, List.setIfInBounds_toArray, List.set_cons_zero, List.set_cons_succ]
          have hb : Below W1.heap.size W1 (U58.alloc (.cells (madeCells #[.int .i64 0] n) 3)) := HU.out.alloc us _
          have h3 := World.ownsRow_lit (base := W1.heap.size) (e := 3) (size := 1) U58 (madeCells #[.int .i64 0] n) n us (by simp only [maxLen]; omega) (by simp [size_madeCells])
          rw [toList_madeCells_one] at h3
          have h5 := F5.out.alloc (.cells (madeCells #[.int .i64 0] n) 3)
          have h8 := F8.out.alloc (.cells (madeCells #[.int .i64 0] n) 3)
          have us1 : U58.heap.size < (U58.alloc (.cells (madeCells #[.int .i64 0] n) 3)).heap.size := by simp
          generalize U58.alloc (.cells (madeCells #[.int .i64 0] n) 3) = U583 at *
          have us2 : W1.heap.size ≤ U583.heap.size := by omega
          have G5 := Lib.hid h5
          have G8 := Lib.hid h8
          have G3 := Lib.hid h3
          have HU2 := Lib.hid hb
          clear hb HU F5 F8 h5 h8 h3
          have F5 := G5
          have F8 := G8
          have F3 := G3
          have HU := HU2
          have us := us2
          clear HU2 G5 G8 G3
          refine wpAnyH_ready (rs := [1]) (by kernel_rfl) (by simp) (AllReadyH.cons rfl (fun K hK => ?_) AllReadyH.nil)
          go_simp
          refine hK.out _ _ trivial (fun hHeld => ?_)
          clear hK K
          try simp only [Act.put, List.getElem_toArray, List.getElem_cons_zero, List.getElem_cons_succ, List.setIfInBounds_toArray, List.set_cons_zero, List.set_cons_succ]
          have hb : Below W1.heap.size W1 (U583.alloc (.cells (madeCells #[.bool false] n) 4)) := HU.out.alloc us _
          have h1 := World.ownsRow_lit (base := W1.heap.size) (e := 4) (size := 1) U583 (madeCells #[.bool false] n) n us (by simp only [maxLen]; omega) (by simp [size_madeCells])
          rw [toList_madeCells_one] at h1
          have h5 := F5.out.alloc (.cells (madeCells #[.bool false] n) 4)
          have h8 := F8.out.alloc (.cells (madeCells #[.bool false] n) 4)
          have h3 := F3.out.alloc (.cells (madeCells #[.bool false] n) 4)
          have us1 : U583.heap.size < (U583.alloc (.cells (madeCells #[.bool false] n) 4)).heap.size := by simp
          generalize U583.alloc (.cells (madeCells #[.bool false] n) 4) = U5831 at *
          have us2 : W1.heap.size ≤ U5831.heap.size := by omega
          have G5 := Lib.hid h5
          have G8 := Lib.hid h8
          have G3 := Lib.hid h3
          have G1 := Lib.hid h1
          have HU2 := Lib.hid hb
          clear hb HU F5 F8 F3 h5 h8 h3 h1
          have F5 := G5
          have F8 := G8
          have F3 := G3
          have F1 := G1
          have HU := HU2
          have us := us2
          clear HU2 G5 G8 G3 G1
          refine wpAnyH_take (i := 7) (v := ?_) rfl (by kernel_rfl) (by kernel_rfl) (by kernel_rfl) (fun _ _ _ h => h) (Or.inl ⟨by rfl, ?_⟩) (by assumption) ?_
          rotate_left
          · intro w0 hSw
            (try dsimp only at hSw)
            go_simp
            all_goals with_reducible rfl
          try simp only [Act.put, List.getElem_toArray, List.getElem_cons_zero, List.getElem_cons_succ, List.setIfInBounds_toArray, List.set_cons_zero, List.set_cons_succ]
          have c0 := F8.out.cell 0
          have f0 := F8.out.frozen 0
          have c1 := F8.out.cell 1
          have f1 := F8.out.frozen 1
          have c2 := F8.out.cell 2
          have f2 := F8.out.frozen 2
          have c3 := F8.out.cell 3
          have f3 := F8.out.frozen 3
          have c4 := F8.out.cell 4
          have f4 := F8.out.frozen 4
          have c5 := F8.out.cell 5
          have f5 := F8.out.frozen 5
          have c6 := F8.out.cell 6
          have f6 := F8.out.frozen 6
          have cl := F8.out.lt
          refine wpAnyH_ready (rs := [9]) (by kernel_rfl) (by simp) (AllReadyH.cons rfl (fun K hK => ?_) AllReadyH.nil)
          go_simp
          refine hK.out _ _ trivial (fun hHeld => ?_)
          clear hK K
          clear c0 f0 c1 f1 c2 f2 c3 f3 c4 f4 c5 f5 c6 f6 cl
          refine wpAnyH_done (by kernel_rfl) ?_ _
          go_wp2_with fail
          go_meet
          have q1 := PO.blk7 (PO.newZ (few := few) F1.out F3.out F5.out h2) F8.out (.int .i64 0) (.int .i64 (-1)) (.slice (some ⟨U583.heap.size, 0, none⟩) n n) (.slice (some ⟨U58.heap.size, 0, none⟩) n n) (.slice (some ⟨U.heap.size, 0, none⟩) n n) (.int .i64 few) (.int .i64 0)
          have q2 := (((((((F8.out.set_ 0 (.int .i64 0)).set_ 1 (.int .i64 (-1))).set_ 2 (.slice (some ⟨U583.heap.size, 0, none⟩) n n)).set_ 3 (.slice (some ⟨U58.heap.size, 0, none⟩) n n)).set_ 4 (.slice (some ⟨U.heap.size, 0, none⟩) n n)).set_ 5 (.int .i64 few)).set_ 6 (.int .i64 0))
          have q3 := ((((((((B1_bz.out.below HU.out B1_bz.out.lt).far (p := ⟨U5.heap.size, 0, none⟩) (by show w.heap.size ≠ U5.heap.size; omega) (.int .i64 0)).far (p := ⟨U5.heap.size, 1, none⟩) (by show w.heap.size ≠ U5.heap.size; omega) (.int .i64 (-1))).far (p := ⟨U5.heap.size, 2, none⟩) (by show w.heap.size ≠ U5.heap.size; omega) (.slice (some ⟨U583.heap.size, 0, none⟩) n n)).far (p := ⟨U5.heap.size, 3, none⟩) (by show w.heap.size ≠ U5.heap.size; omega) (.slice (some ⟨U58.heap.size, 0, none⟩) n n)).far (p := ⟨U5.heap.size, 4, none⟩) (by show w.heap.size ≠ U5.heap.size; omega) (.slice (some ⟨U.heap.size, 0, none⟩) n n)).far (p := ⟨U5.heap.size, 5, none⟩) (by show w.heap.size ≠ U5.heap.size; omega) (.int .i64 few)).far (p := ⟨U5.heap.size, 6, none⟩) (by show w.heap.size ≠ U5.heap.size; omega) (.int .i64 0))
          have q4 := ((((((((below_then HB1.out HU.out).setCell (p := ⟨U5.heap.size, 0, none⟩) (by show w.heap.size ≤ U5.heap.size; omega) (.int .i64 0)).setCell (p := ⟨U5.heap.size, 1, none⟩) (by show w.heap.size ≤ U5.heap.size; omega) (.int .i64 (-1))).setCell (p := ⟨U5.heap.size, 2, none⟩) (by show w.heap.size ≤ U5.heap.size; omega) (.slice (some ⟨U583.heap.size, 0, none⟩) n n)).setCell (p := ⟨U5.heap.size, 3, none⟩) (by show w.heap.size ≤ U5.heap.size; omega) (.slice (some ⟨U58.heap.size, 0, none⟩) n n)).setCell (p := ⟨U5.heap.size, 4, none⟩) (by show w.heap.size ≤ U5.heap.size; omega) (.slice (some ⟨U.heap.size, 0, none⟩) n n)).setCell (p := ⟨U5.heap.size, 5, none⟩) (by show w.heap.size ≤ U5.heap.size; omega) (.int .i64 few)).setCell (p := ⟨U5.heap.size, 6, none⟩) (by show w.heap.size ≤ U5.heap.size; omega) (.int .i64 0))
          exact ⟨U5.heap.size, U583.heap.size, U58.heap.size, U.heap.size, rfl, q1, q2, q3, q4, by omega, by omega, by omega, by omega, by omega⟩
    · go_simp
      refine hK.out _ _ trivial (fun hHeld => ?_)
      clear hK K
      try simp only [Act.put, List.getElem_toArray, List.getElem_cons_zero, List.getElem_cons_succ, List.setIfInBounds_toArray, List.set_cons_zero, List.set_cons_succ]
      have hb : Below W1.heap.size W1 (U.alloc (.cells (#[.int .i64 0, .int .i64 0, .slice none 0 0, .slice none 0 0, .slice none 0 0, .int .i64 0, .int .i64 0]) 26)) := HU.out.alloc us _
      have h8 : Blk (U.alloc (.cells (#[.int .i64 0, .int .i64 0, .slice none 0 0, .slice none 0 0, .slice none 0 0, .int .i64 0, .int .i64 0]) 26)) U.heap.size 26 #[.int .i64 0, .int .i64 0, .slice none 0 0, .slice none 0 0, .slice none 0 0, .int .i64 0, .int .i64 0] := Blk.new _ _ _
      have us1 : U.heap.size < (U.alloc (.cells (#[.int .i64 0, .int .i64 0, .slice none 0 0, .slice none 0 0, .slice none 0 0, .int .i64 0, .int .i64 0]) 26)).heap.size := by simp
      generalize U.alloc (.cells (#[.int .i64 0, .int .i64 0, .slice none 0 0, .slice none 0 0, .slice none 0 0, .int .i64 0, .int .i64 0]) 26) = U8 at *
      have us2 : W1.heap.size ≤ U8.heap.size := by omega
      have G8 := Lib.hid h8
      have HU2 := Lib.hid hb
      clear hb HU  h8
      have F8 := G8
      have HU := HU2
      have us := us2
      clear HU2 G8
      refine wpAnyH_ready (rs := [1, 3, 5]) (by kernel_rfl) (by simp) (AllReadyH.cons rfl (fun K hK => ?_) (AllReadyH.cons rfl (fun K hK => ?_) (AllReadyH.cons rfl (fun K hK => ?_) AllReadyH.nil)))
      · go_simp
        refine hK.out _ _ trivial (fun hHeld => ?_)
        clear hK K
        try simp only [Act.put, List.getElem_toArray, List.getElem_cons_zero, List.getElem_cons_succ, List.setIfInBounds_toArray, List.set_cons_zero, List.set_cons_succ]
        have hb : Below W1.heap.size W1 (U8.alloc (.cells (madeCells #[.bool false] n) 4)) := HU.out.alloc us _
        have h1 := World.ownsRow_lit (base := W1.heap.size) (e := 4) (size := 1) U8 (madeCells #[.bool false] n) n us (by simp only [maxLen]; omega) (by simp [size_madeCells])
        rw [toList_madeCells_one] at h1
        have h8 := F8.out.alloc (.cells (madeCells #[.bool false] n) 4)
        have us1 : U8.heap.size < (U8.alloc (.cells (madeCells #[.bool false] n) 4)).heap.size := by simp
        generalize U8.alloc (.cells (madeCells #[.bool false] n) 4) = U81 at *
        have us2 : W1.heap.size ≤ U81.heap.size := by omega
        have G8 := Lib.hid h8
        have G1 := Lib.hid h1
        have HU2 := Lib.hid hb
        clear hb HU F8 h8 h1
        have F8 := G8
        have F1 := G1
        have HU := HU2
        have us := us2
        clear HU2 G8 G1
        refine wpAnyH_ready (rs := [3, 5]) (by kernel_rfl) (by simp) (AllReadyH.cons rfl (fun K hK => ?_) (AllReadyH.cons rfl (fun K hK => ?_) AllReadyH.nil))
        · go_simp
          refine hK.out _ _ trivial (fun hHeld => ?_)
          clear hK K
          try simp only [Act.put, List.getElem_toArray, List.getElem_cons_zero, List.getElem_cons_succ, List.setIfInBounds_toArray, List.set_cons_zero, List.set_cons_succ]
          have hb : Below W1.heap.size W1 (U81.alloc (.cells (madeCells #[.int .i64 0] n) 3)) := HU.out.alloc us _
          have h3 := World.ownsRow_lit (base := W1.heap.size) (e := 3) (size := 1) U81 (madeCells #[.int .i64 0] n) n us (by simp only [maxLen]; omega) (by simp [size_madeCells])
          rw [toList_madeCells_one] at h3
          have h8 := F8.out.alloc (.cells (madeCells #[.int .i64 0] n) 3)
          have h1 := F1.out.alloc (.cells (madeCells #[.int .i64 0] n) 3)
          have us1 : U81.heap.size < (U81.alloc (.cells (madeCells #[.int .i64 0] n) 3)).heap.size := by simp
          generalize U81.alloc (.cells (madeCells #[.int .i64 0] n) 3) = U813 at *
          have us2 : W1.heap.size ≤ U813.heap.size := by omega
          have G8 := Lib.hid h8
          have G1 := Lib.hid h1
          have G3 := Lib.hid h3
          have HU2 := Lib.hid hb
          clear hb HU F8 F1 h8 h1 h3
          have F8 := G8
          have F1 := G1
          have F3 := G3
          have HU := HU2
          have us := us2
          clear HU2 G8 G1 G3
          refine wpAnyH_ready (rs := [5]) (by kernel_rfl) (by simp) (AllReadyH.cons rfl (fun K hK => ?_) AllReadyH.nil)
          go_simp
          refine hK.out _ _ trivial (fun hHeld => ?_)
          clear hK K
          try simp only [Act.put, List.getElem_toArray, List.getElem_cons_zero, List.getElem_cons_succ, List.setIfInBounds_toArray, List.set_cons_zero, List.set_cons_succ]
          have hb : Below W1.heap.size W1 (U813.alloc (.cells (ZR n) 71)) := HU.out.alloc us _
          have h5 := World.ownsRow_lit (base := W1.heap.size) (e := 71) (size := 4) U813 (ZR n) n us (by simp only [maxLen]; omega) (by simp [ZR, size_madeCells])
          have h8 := F8.out.alloc (.cells (ZR n) 71)
          have h1 := F1.out.alloc (.cells (ZR n) 71)
          have h3 := F3.out.alloc (.cells (ZR n) 71)
          have us1 : U813.heap.size < (U813.alloc (.cells (ZR n) 71)).heap.size := by simp
          generalize U813.alloc (.cells (ZR n) 71) = U8135 at *
          have us2 : W1.heap.size ≤ U8135.heap.size := by omega
          have G8 := Lib.hid h8
          have G1 := Lib.hid h1
          have G3 := Lib.hid h3
          have G5 := Lib.hid h5
          have HU2 := Lib.hid hb
          clear hb HU F8 F1 F3 h8 h1 h3 h5
          have F8 := G8
          have F1 := G1
          have F3 := G3
          have F5 := G5
          have HU := HU2
          have us := us2
          clear HU2 G8 G1 G3 G5
          refine wpAnyH_take (i := 7) (v := ?_) rfl (by kernel_rfl) (by kernel_rfl) (by kernel_rfl) (fun _ _ _ h => h) (Or.inl ⟨by rfl, ?_⟩) (by assumption) ?_
          rotate_left
          · intro w0 hSw
            (try dsimp only at hSw)
            go_simp
            all_goals with_reducible rfl
          try simp only [Act.put, List.getElem_toArray, List.getElem_cons_zero, List.getElem_cons_succ, List.setIfInBounds_toArray, List.set_cons_zero, List.set_cons_succ]
          have c0 := F8.out.cell 0
          have f0 := F8.out.frozen 0
          have c1 := F8.out.cell 1
          have f1 := F8.out.frozen 1
          have c2 := F8.out.cell 2
          have f2 := F8.out.frozen 2
          have c3 := F8.out.cell 3
          have f3 := F8.out.frozen 3
          have c4 := F8.out.cell 4
          have f4 := F8.out.frozen 4
          have c5 := F8.out.cell 5
          have f5 := F8.out.frozen 5
          have c6 := F8.out.cell 6
          have f6 := F8.out.frozen 6
          have cl := F8.out.lt
          refine wpAnyH_ready (rs := [9]) (by kernel_rfl) (by simp) (AllReadyH.cons rfl (fun K hK => ?_) AllReadyH.nil)
          go_simp
          refine hK.out _ _ trivial (fun hHeld => ?_)
          clear hK K
          clear c0 f0 c1 f1 c2 f2 c3 f3 c4 f4 c5 f5 c6 f6 cl
          refine wpAnyH_done (by kernel_rfl) ?_ _
          go_wp2_with fail
          go_meet
          have q1 := PO.blk7 (PO.newZ (few := few) F1.out F3.out F5.out h2) F8.out (.int .i64 0) (.int .i64 (-1)) (.slice (some ⟨U8.heap.size, 0, none⟩) n n) (.slice (some ⟨U81.heap.size, 0, none⟩) n n) (.slice (some ⟨U813.heap.size, 0, none⟩) n n) (.int .i64 few) (.int .i64 0)
          have q2 := (((((((F8.out.set_ 0 (.int .i64 0)).set_ 1 (.int .i64 (-1))).set_ 2 (.slice (some ⟨U8.heap.size, 0, none⟩) n n)).set_ 3 (.slice (some ⟨U81.heap.size, 0, none⟩) n n)).set_ 4 (.slice (some ⟨U813.heap.size, 0, none⟩) n n)).set_ 5 (.int .i64 few)).set_ 6 (.int .i64 0))
          have q3 := ((((((((B1_bz.out.below HU.out B1_bz.out.lt).far (p := ⟨U.heap.size, 0, none⟩) (by show w.heap.size ≠ U.heap.size; omega) (.int .i64 0)).far (p := ⟨U.heap.size, 1, none⟩) (by show w.heap.size ≠ U.heap.size; omega) (.int .i64 (-1))).far (p := ⟨U.heap.size, 2, none⟩) (by show w.heap.size ≠ U.heap.size; omega) (.slice (some ⟨U8.heap.size, 0, none⟩) n n)).far (p := ⟨U.heap.size, 3, none⟩) (by show w.heap.size ≠ U.heap.size; omega) (.slice (some ⟨U81.heap.size, 0, none⟩) n n)).far (p := ⟨U.heap.size, 4, none⟩) (by show w.heap.size ≠ U.heap.size; omega) (.slice (some ⟨U813.heap.size, 0, none⟩) n n)).far (p := ⟨U.heap.size, 5, none⟩) (by show w.heap.size ≠ U.heap.size; omega) (.int .i64 few)).far (p := ⟨U.heap.size, 6, none⟩) (by show w.heap.size ≠ U.heap.size; omega) (.int .i64 0))
          have q4 := ((((((((below_then HB1.out HU.out).setCell (p := ⟨U.heap.size, 0, none⟩) (by show w.heap.size ≤ U.heap.size; omega) (.int .i64 0)).setCell (p := ⟨U.heap.size, 1, none⟩) (by show w.heap.size ≤ U.heap.size; omega) (.int .i64 (-1))).setCell (p := ⟨U.heap.size, 2, none⟩) (by show w.heap.size ≤ U.heap.size; omega) (.slice (some ⟨U8.heap.size, 0, none⟩) n n)).setCell (p := ⟨U.heap.size, 3, none⟩) (by show w.heap.size ≤ U.heap.size; omega) (.slice (some ⟨U81.heap.size, 0, none⟩) n n)).setCell (p := ⟨U.heap.size, 4, none⟩) (by show w.heap.size ≤ U.heap.size; omega) (.slice (some ⟨U813.heap.size, 0, none⟩) n n)).setCell (p := ⟨U.heap.size, 5, none⟩) (by show w.heap.size ≤ U.heap.size; omega) (.int .i64 few)).setCell (p := ⟨U.heap.size, 6, none⟩) (by show w.heap.size ≤ U.heap.size; omega) (.int .i64 0))
          exact ⟨U.heap.size, U8.heap.size, U81.heap.size, U813.heap.size, rfl, q1, q2, q3, q4, by omega, by omega, by omega, by omega, by omega⟩
        · go_simp
          refine hK.out _ _ trivial (fun hHeld => ?_)
          clear hK K
          try simp only [Act.put, List.getElem_toArray, List.getElem_cons_zero, List.getElem_cons_succ, List.setIfInBounds_toArray, List.set_cons_zero, List.set_cons_succ]
          have hb : Below W1.heap.size W1 (U81.alloc (.cells (ZR n) 71)) := HU.out.alloc us _
          have h5 := World.ownsRow_lit (base := W1.heap.size) (e := 71) (size := 4) U81 (ZR n) n us (by simp only [maxLen]; omega) (by simp [ZR, size_madeCells])
          have h8 := F8.out.alloc (.cells (ZR n) 71)
          have h1 := F1.out.alloc (.cells (ZR n) 71)
          have us1 : U81.heap.size < (U81.alloc (.cells (ZR n) 71)).heap.size := by simp
          generalize U81.alloc (.cells (ZR n) 71) = U815 at *
          have us2 : W1.heap.size ≤ U815.heap.size := by omega
          have G8 := Lib.hid h8
          have G1 := Lib.hid h1
          have G5 := Lib.hid h5
          have HU2 := Lib.hid hb
          clear hb HU F8 F1 h8 h1 h5
          have F8 := G8
          have F1 := G1
          have F5 := G5
          have HU := HU2
          have us := us2
          clear HU2 G8 G1 G5
          refine wpAnyH_ready (rs := [3]) (by kernel_rfl) (by simp) (AllReadyH.cons rfl (fun K hK => ?_) AllReadyH.nil)
          go_simp
          refine hK.out _ _ trivial (fun hHeld => ?_)
          clear hK K
          try simp only [Act.put, List.getElem_toArray, List.getElem_cons_zero, List.getElem_cons_succ, List.setIfInBounds_toArray, List.set_cons_zero, List.set_cons_succ]
          have hb : Below W1.heap.size W1 (U815.alloc (.cells (madeCells #[.int .i64 0] n) 3)) := HU.out.alloc us _
          have h3 := World.ownsRow_lit (base := W1.heap.size) (e := 3) (size := 1) U815 (madeCells #[.int .i64 0] n) n us (by simp only [maxLen]; omega) (by simp [size_madeCells])
          rw [toList_madeCells_one] at h3
          have h8 := F8.out.alloc (.cells (madeCells #[.int .i64 0] n) 3)
          have h1 := F1.out.alloc (.cells (madeCells #[.int .i64 0] n) 3)
          have h5 := F5.out.alloc (.cells (madeCells #[.int .i64 0] n) 3)
          have us1 : U815.heap.size < (U815.alloc (.cells (madeCells #[.int .i64 0] n) 3)).heap.size := by simp
          generalize U815.alloc (.cells (madeCells #[.int .i64 0] n) 3) = U8153 at *
          have us2 : W1.heap.size ≤ U8153.heap.size := by omega
          have G8 := Lib.hid h8
          have G1 := Lib.hid h1
          have G5 := Lib.hid h5
          have G3 := Lib.hid h3
          have HU2 := Lib.hid hb
          clear hb HU F8 F1 F5 h8 h1 h5 h3
          have F8 := G8
          have F1 := G1
          have F5 := G5
          have F3 := G3
          have HU := HU2
          have us := us2
          clear HU2 G8 G1 G5 G3
          refine wpAnyH_take (i := 7) (v := ?_) rfl (by kernel_rfl) (by kernel_rfl) (by kernel_rfl) (fun _ _ _ h => h) (Or.inl ⟨by rfl, ?_⟩) (by assumption) ?_
          rotate_left
          · intro w0 hSw
            (try dsimp only at hSw)
            go_simp
            all_goals with_reducible rfl
          try simp only [Act.put, List.getElem_toArray, List.getElem_cons_zero, List.getElem_cons_succ, List.setIfInBounds_toArray, List.set_cons_zero, List.set_cons_succ]
          have c0 := F8.out.cell 0
          have f0 := F8.out.frozen 0
          have c1 := F8.out.cell 1
          have f1 := F8.out.frozen 1
          have c2 := F8.out.cell 2
          have f2 := F8.out.frozen 2
          have c3 := F8.out.cell 3
          have f3 := F8.out.frozen 3
          have c4 := F8.out.cell 4
          have f4 := F8.out.frozen 4
          have c5 := F8.out.cell 5
          have f5 := F8.out.frozen 5
          have c6 := F8.out.cell 6
          have f6 := F8.out.frozen 6
          have cl := F8.out.lt
          refine wpAnyH_ready (rs := [9]) (by kernel_rfl) (by simp) (AllReadyH.cons rfl (fun K hK => ?_) AllReadyH.nil)
          go_simp
          refine hK.out _ _ trivial (fun hHeld => ?_)
          clear hK K
          clear c0 f0 c1 f1 c2 f2 c3 f3 c4 f4 c5 f5 c6 f6 cl
          refine wpAnyH_done (by kernel_rfl) ?_ _
          go_wp2_with fail
          go_meet
          have q1 := PO.blk7 (PO.newZ (few := few) F1.out F3.out F5.out h2) F8.out (.int .i64 0) (.int .i64 (-1)) (.slice (some ⟨U8.heap.size, 0, none⟩) n n) (.slice (some ⟨U815.heap.size, 0, none⟩) n n) (.slice (some ⟨U81.heap.size, 0, none⟩) n n) (.int .i64 few) (.int .i64 0)
          have q2 := (((((((F8.out.set_ 0 (.int .i64 0)).set_ 1 (.int .i64 (-1))).set_ 2 (.slice (some ⟨U8.heap.size, 0, none⟩) n n)).set_ 3 (.slice (some ⟨U815.heap.size, 0, none⟩) n n)).set_ 4 (.slice (some ⟨U81.heap.size, 0, none⟩) n n)).set_ 5 (.int .i64 few)).set_ 6 (.int .i64 0))
          have q3 := ((((((((B1_bz.out.below HU.out B1_bz.out.lt).far (p := ⟨U.heap.size, 0, none⟩) (by show w.heap.size ≠ U.heap.size; omega) (.int .i64 0)).far (p := ⟨U.heap.size, 1, none⟩) (by show w.heap.size ≠ U.heap.size; omega) (.int .i64 (-1))).far (p := ⟨U.heap.size, 2, none⟩) (by show w.heap.size ≠ U.heap.size; omega) (.slice (some ⟨U8.heap.size, 0, none⟩) n n)).far (p := ⟨U.heap.size, 3, none⟩) (by show w.heap.size ≠ U.heap.size; omega) (.slice (some ⟨U815.heap.size, 0, none⟩) n n)).far (p := ⟨U.heap.size, 4, none⟩) (by show w.heap.size ≠ U.heap.size; omega) (.slice (some ⟨U81.heap.size, 0, none⟩) n n)).far (p := ⟨U.heap.size, 5, none⟩) (by show w.heap.size ≠ U.heap.size; omega) (.int .i64 few)).far (p := ⟨U.heap.size, 6, none⟩) (by show w.heap.size ≠ U.heap.size; omega) (.int .i64 0))
          have q4 := ((((((((below_then HB1.out HU.out).setCell (p := ⟨U.heap.size, 0, none⟩) (by show w.heap.size ≤ U.heap.size; omega) (.int .i64 0)).setCell (p := ⟨U.heap.size, 1, none⟩) (by show w.heap.size ≤ U.heap.size; omega) (.int .i64 (-1))).setCell (p := ⟨U.heap.size, 2, none⟩) (by show w.heap.size ≤ U.heap.size; omega) (.slice (some ⟨U8.heap.size, 0, none⟩) n n)).setCell (p := ⟨U.heap.size, 3, none⟩) (by show w.heap.size ≤ U.heap.size; omega) (.slice (some ⟨U815.heap.size, 0, none⟩) n n)).setCell (p := ⟨U.heap.size, 4, none⟩) (by show w.heap.size ≤ U.heap.size; omega) (.slice (some ⟨U81.heap.size, 0, none⟩) n n)).setCell (p := ⟨U.heap.size, 5, none⟩) (by show w.heap.size ≤ U.heap.size; omega) (.int .i64 few)).setCell (p := ⟨U.heap.size, 6, none⟩) (by show w.heap.size ≤ U.heap.size; omega) (.int .i64 0))
          exact ⟨U.heap.size, U8.heap.size, U815.heap.size, U81.heap.size, rfl, q1, q2, q3, q4, by omega, by omega, by omega, by omega, by omega⟩
      · go_simp
        refine hK.out _ _ trivial (fun hHeld => ?_)
        clear hK K
        try simp only [Act.put, List.getElem_toArray, List.getElem_cons_zero, List.getElem_cons_succ, List.setIfInBounds_toArray, List.set_cons_zero, List.set_cons_succ]
        have hb : Below W1.heap.size W1 (U8.alloc (.cells (madeCells #[.int .i64 0] n) 3)) := HU.out.alloc us _
        have h3 := World.ownsRow_lit (base := W1.heap.size) (e := 3) (size := 1) U8 (madeCells #[.int .i64 0] n) n us (by simp only [maxLen]; omega) (by simp [size_madeCells])
        rw [toList_madeCells_one] at h3
        have h8 := F8.out.alloc (.cells (madeCells #[.int .i64 0] n) 3)
        have us1 : U8.heap.size < (U8.alloc (.cells (madeCells #[.int .i64 0] n) 3)).heap.size := by simp
        generalize U8.alloc (.cells (madeCells #[.int .i64 0] n) 3) = U83 at *
        have us2 : W1.heap.size ≤ U83.heap.size := by omega
        have G8 := Lib.hid h8
        have G3 := Lib.hid h3
        have HU2 := Lib.hid hb
        clear hb HU F8 h8 h3
        have F8 := G8
        have F3 := G3
        have HU := HU2
        have us := us2
        clear HU2 G8 G3
        refine wpAnyH_ready (rs := [1, 5]) (by kernel_rfl) (by simp) (AllReadyH.cons rfl (fun K hK => ?_) (AllReadyH.cons rfl (fun K hK => ?_) AllReadyH.nil))
        · go_simp
          refine hK.out _ _ trivial (fun hHeld => ?_)
          clear hK K
          try simp only [Act.put, List.getElem_toArray, List.getElem_cons_zero, List.getElem_cons_succ, List.setIfInBounds_toArray, List.set_cons_zero, List.set_cons_succ]
          have hb : Below W1.heap.size W1 (U83.alloc (.cells (madeCells #[.bool false] n) 4)) := HU.out.alloc us _
          have h1 := World.ownsRow_lit (base := W1.heap.size) (e := 4) (size := 1) U83 (madeCells #[.bool false] n) n us (by simp only [maxLen]; omega) (by simp [size_madeCells])
          rw [toList_madeCells_one] at h1
          have h8 := F8.out.alloc (.cells (madeCells #[.bool false] n) 4)
          have h3 := F3.out.alloc (.cells (madeCells #[.bool false] n) 4)
          have us1 : U83.heap.size < (U83.alloc (.cells (madeCells #[.bool false] n) 4)).heap.size := by simp
          generalize U83.alloc (.cells (madeCells #[.bool false] n) 4) = U831 at *
          have us2 : W1.heap.size ≤ U831.heap.size := by omega
          have G8 := Lib.hid h8
          have G3 := Lib.hid h3
          have G1 := Lib.hid h1
          have HU2 := Lib.hid hb
          clear hb HU F8 F3 h8 h3 h1
          have F8 := G8
          have F3 := G3
          have F1 := G1
          have HU := HU2
          have us := us2
          clear HU2 G8 G3 G1
          refine wpAnyH_ready (rs := [5]) (by kernel_rfl) (by simp) (AllReadyH.cons rfl (fun K hK => ?_) AllReadyH.nil)
          go_simp
          refine hK.out _ _ trivial (fun hHeld => ?_)
          clear hK K
          try simp only [Act.put, List.getElem_toArray, List.getElem_cons_zero, List.getElem_cons_succ, List.setIfInBounds_toArray, List.set_cons_zero, List.set_cons_succ]
          have hb : Below W1.heap.size W1 (U831.alloc (.cells (ZR n) 71)) := HU.out.alloc us _
          have h5 := World.ownsRow_lit (base := W1.heap.size) (e := 71) (size := 4) U831 (ZR n) n us (by simp only [maxLen]; omega) (by simp [ZR, size_madeCells])
          have h8 := F8.out.alloc (.cells (ZR n) 71)
          have h3 := F3.out.alloc (.cells (ZR n) 71)
          have h1 := F1.out.alloc (.cells (ZR n) 71)
          have us1 : U831.heap.size < (U831.alloc (.cells (ZR n) 71)).heap.size := by simp
          generalize U831.alloc (.cells (ZR n) 71) = U8315 at *
          have us2 : W1.heap.size ≤ U8315.heap.size := by omega
          have G8 := Lib.hid h8
          have G3 := Lib.hid h3
          have G1 := Lib.hid h1
          have G5 := Lib.hid h5
          have HU2 := Lib.hid hb
          clear hb HU F8 F3 F1 h8 h3 h1 h5
          have F8 := G8
          have F3 := G3
          have F1 := G1
          have F5 := G5
          have HU := HU2
          have us := us2
          clear HU2 G8 G3 G1 G5
          refine wpAnyH_take (i := 7) (v := ?_) rfl (by kernel_rfl) (by kernel_rfl) (by kernel_rfl) (fun _ _ _ h => h) (Or.inl ⟨by rfl, ?_⟩) (by assumption) ?_
          rotate_left
          · intro w0 hSw
            (try dsimp only at hSw)
            go_simp
            all_goals with_reducible rfl
          try simp only [Act.put, List.getElem_toArray, List.getElem_cons_zero, List.getElem_cons_succ, List.setIfInBounds_toArray, List.set_cons_zero, List.set_cons_succ]
          have c0 := F8.out.cell 0
          have f0 := F8.out.frozen 0
          have c1 := F8.out.cell 1
          have f1 := F8.out.frozen 1
          have c2 := F8.out.cell 2
          have f2 := F8.out.frozen 2
          have c3 := F8.out.cell 3
          have f3 := F8.out.frozen 3
          have c4 := F8.out.cell 4
          have f4 := F8.out.frozen 4
          have c5 := F8.out.cell 5
          have f5 := F8.out.frozen 5
          have c6 := F8.out.cell 6
          have f6 := F8.out.frozen 6
          have cl := F8.out.lt
          refine wpAnyH_ready (rs := [9]) (by kernel_rfl) (by simp) (AllReadyH.cons rfl (fun K hK => ?_) AllReadyH.nil)
          go_simp
          refine hK.out _ _ trivial (fun hHeld => ?_)
          clear hK K
          clear c0 f0 c1 f1 c2 f2 c3 f3 c4 f4 c5 f5 c6 f6 cl
          refine wpAnyH_done (by kernel_rfl) ?_ _
          go_wp2_with fail
          go_meet
          have q1 := PO.blk7 (PO.newZ (few := few) F1.out F3.out F5.out h2) F8.out (.int .i64 0) (.int .i64 (-1)) (.slice (some ⟨U83.heap.size, 0, none⟩) n n) (.slice (some ⟨U8.heap.size, 0, none⟩) n n) (.slice (some ⟨U831.heap.size, 0, none⟩) n n) (.int .i64 few) (.int .i64 0)
          have q2 := (((((((F8.out.set_ 0 (.int .i64 0)).set_ 1 (.int .i64 (-1))).set_ 2 (.slice (some ⟨U83.heap.size, 0, none⟩) n n)).set_ 3 (.slice (some ⟨U8.heap.size, 0, none⟩) n n)).set_ 4 (.slice (some ⟨U831.heap.size, 0, none⟩) n n)).set_ 5 (.int .i64 few)).set_ 6 (.int .i64 0))
          have q3 := ((((((((B1_bz.out.below HU.out B1_bz.out.lt).far (p := ⟨U.heap.size, 0, none⟩) (by show w.heap.size ≠ U.heap.size; omega) (.int .i64 0)).far (p := ⟨U.heap.size, 1, none⟩) (by show w.heap.size ≠ U.heap.size; omega) (.int .i64 (-1))).far (p := ⟨U.heap.size, 2, none⟩) (by show w.heap.size ≠ U.heap.size; omega) (.slice (some ⟨U83.heap.size, 0, none⟩) n n)).far (p := ⟨U.heap.size, 3, none⟩) (by show w.heap.size ≠ U.heap.size; omega) (.slice (some ⟨U8.heap.size, 0, none⟩) n n)).far (p := ⟨U.heap.size, 4, none⟩) (by show w.heap.size ≠ U.heap.size; omega) (.slice (some ⟨U831.heap.size, 0, none⟩) n n)).far (p := ⟨U.heap.size, 5, none⟩) (by show w.heap.size ≠ U.heap.size; omega) (.int .i64 few)).far (p := ⟨U.heap.size, 6, none⟩) (by show w.heap.size ≠ U.heap.size; omega) (.int .i64 0))
          have q4 := ((((((((below_then HB1.out HU.out).setCell (p := ⟨U.heap.size, 0, none⟩) (by show w.heap.size ≤ U.heap.size; omega) (.int .i64 0)).setCell (p := ⟨U.heap.size, 1, none⟩) (by show w.heap.size ≤ U.heap.size; omega) (.int .i64 (-1))).setCell (p := ⟨U.heap.size, 2, none⟩) (by show w.heap.size ≤ U.heap.size; omega) (.slice (some ⟨U83.heap.size, 0, none⟩) n n)).setCell (p := ⟨U.heap.size, 3, none⟩) (by show w.heap.size ≤ U.heap.size; omega) (.slice (some ⟨U8.heap.size, 0, none⟩) n n)).setCell (p := ⟨U.heap.size, 4, none⟩) (by show w.heap.size ≤ U.heap.size; omega) (.slice (some ⟨U831.heap.size, 0, none⟩) n n)).setCell (p := ⟨U.heap.size, 5, none⟩) (by show w.heap.size ≤ U.heap.size; omega) (.int .i64 few)).setCell (p := ⟨U.heap.size, 6, none⟩) (by show w.heap.size ≤ U.heap.size; omega) (.int .i64 0))
          exact ⟨U.heap.size, U83.heap.size, U8.heap.size, U831.heap.size, rfl, q1, q2, q3, q4, by omega, by omega, by omega, by omega, by omega⟩
        · go_simp
          refine hK.out _ _ trivial (fun hHeld => ?_)
          clear hK K
          try simp only [Act.put, List.getElem_toArray, List.getElem_cons_zero, List.getElem_cons_succ, List.setIfInBounds_toArray, List.set_cons_zero, List.set_cons_succ]
          have hb : Below W1.heap.size W1 (U83.alloc (.cells (ZR n) 71)) := HU.out.alloc us _
          have h5 := World.ownsRow_lit (base := W1.heap.size) (e := 71) (size := 4) U83 (ZR n) n us (by simp only [maxLen]; omega) (by simp [ZR, size_madeCells])
          have h8 := F8.out.alloc (.cells (ZR n) 71)
          have h3 := F3.out.alloc (.cells (ZR n) 71)
          have us1 : U83.heap.size < (U83.alloc (.cells (ZR n) 71)).heap.size := by simp
          generalize U83.alloc (.cells (ZR n) 71) = U835 at *
          have us2 : W1.heap.size ≤ U835.heap.size := by omega
          have G8 := Lib.hid h8
          have G3 := Lib.hid h3
          have G5 := Lib.hid h5
          have HU2 := Lib.hid hb
          clear hb HU F8 F3 h8 h3 h5
          have F8 := G8
          have F3 := G3
          have F5 := G5
          have HU := HU2
          have us := us2
          clear HU2 G8 G3 G5
          refine wpAnyH_ready (rs := [1]) (by kernel_rfl) (by simp) (AllReadyH.cons rfl (fun K hK => ?_) AllReadyH.nil)
          go_simp
          refine hK.out _ _ trivial (fun hHeld => ?_)
          clear hK K
          try simp only [Act.put, List.getElem_toArray, List.getElem_cons_zero, List.getElem_cons_succ, List.setIfInBounds_toArray, List.set_cons_zero, List.set_cons_succ]
          have hb : Below W1.heap.size W1 (U835.alloc (.cells (madeCells #[.bool false] n) 4)) := HU.out.alloc us _
          have h1 := World.ownsRow_lit (base := W1.heap.size) (e := 4) (size := 1) U835 (madeCells #[.bool false] n) n us (by simp only [maxLen]; omega) (by simp [size_madeCells])
          rw [toList_madeCells_one] at h1
          have h8 := F8.out.alloc (.cells (madeCells #[.bool false] n) 4)
          have h3 := F3.out.alloc (.cells (madeCells #[.bool false] n) 4)
          have h5 := F5.out.alloc (.cells (madeCells #[.bool false] n) 4)
          have us1 : U835.heap.size < (U835.alloc (.cells (madeCells #[.bool false] n) 4)).heap.size := by simp
          generalize U835.alloc (.cells (madeCells #[.bool false] n) 4) = U8351 at *
          have us2 : W1.heap.size ≤ U8351.heap.size := by omega
          have G8 := Lib.hid h8
          have G3 := Lib.hid h3
          have G5 := Lib.hid h5
          have G1 := Lib.hid h1
          have HU2 := Lib.hid hb
          clear hb HU F8 F3 F5 h8 h3 h5 h1
          have F8 := G8
          have F3 := G3
          have F5 := G5
          have F1 := G1
          have HU := HU2
          have us := us2
          clear HU2 G8 G3 G5 G1
          refine wpAnyH_take (i := 7) (v := ?_) rfl (by kernel_rfl) (by kernel_rfl) (by kernel_rfl) (fun _ _ _ h => h) (Or.inl ⟨by rfl, ?_⟩) (by assumption) ?_
          rotate_left
          · intro w0 hSw
            (try dsimp only at hSw)
            go_simp
            all_goals with_reducible rfl
          try simp only [Act.put, List.getElem_toArray, List.getElem_cons_zero, List.getElem_cons_succ, List.setIfInBounds_toArray, List.set_cons_zero, List.set_cons_succ]
          have c0 := F8.out.cell 0
          have f0 := F8.out.frozen 0
          have c1 := F8.out.cell 1
          have f1 := F8.out.frozen 1
          have c2 := F8.out.cell 2
          have f2 := F8.out.frozen 2
          have c3 := F8.out.cell 3
          have f3 := F8.out.frozen 3
          have c4 := F8.out.cell 4
          have f4 := F8.out.frozen 4
          have c5 := F8.out.cell 5
          have f5 := F8.out.frozen 5
          have c6 := F8.out.cell 6
          have f6 := F8.out.frozen 6
          have cl := F8.out.lt
          refine wpAnyH_ready (rs := [9]) (by kernel_rfl) (by simp) (AllReadyH.cons rfl (fun K hK => ?_) AllReadyH.nil)
          go_simp
          refine hK.out _ _ trivial (fun hHeld => ?_)
          clear hK K
          clear c0 f0 c1 f1 c2 f2 c3 f3 c4 f4 c5 f5 c6 f6 cl
          refine wpAnyH_done (by kernel_rfl) ?_ _
          go_wp2_with fail
          go_meet
          have q1 := PO.blk7 (PO.newZ (few := few) F1.out F3.out F5.out h2) F8.out (.int .i64 0) (.int .i64 (-1)) (.slice (some ⟨U835.heap.size, 0, none⟩) n n) (.slice (some ⟨U8.heap.size, 0, none⟩) n n) (.slice (some ⟨U83.heap.size, 0, none⟩) n n) (.int .i64 few) (.int .i64 0)
          have q2 := (((((((F8.out.set_ 0 (.int .i64 0)).set_ 1 (.int .i64 (-1))).set_ 2 (.slice (some ⟨U835.heap.size, 0, none⟩) n n)).set_ 3 (.slice (some ⟨U8.heap.size, 0, none⟩) n n)).set_ 4 (.slice (some ⟨U83.heap.size, 0, none⟩) n n)).set_ 5 (.int .i64 few)).set_ 6 (.int .i64 0))
          have q3 := ((((((((B1_bz.out.below HU.out B1_bz.out.lt).far (p := ⟨U.heap.size, 0, none⟩) (by show w.heap.size ≠ U.heap.size; omega) (.int .i64 0)).far (p := ⟨U.heap.size, 1, none⟩) (by show w.heap.size ≠ U.heap.size; omega) (.int .i64 (-1))).far (p := ⟨U.heap.size, 2, none⟩) (by show w.heap.size ≠ U.heap.size; omega) (.slice (some ⟨U835.heap.size, 0, none⟩) n n)).far (p := ⟨U.heap.size, 3, none⟩) (by show w.heap.size ≠ U.heap.size; omega) (.slice (some ⟨U8.heap.size, 0, none⟩) n n)).far (p := ⟨U.heap.size, 4, none⟩) (by show w.heap.size ≠ U.heap.size; omega) (.slice (some ⟨U83.heap.size, 0, none⟩) n n)).far (p := ⟨U.heap.size, 5, none⟩) (by show w.heap.size ≠ U.heap.size; omega) (.int .i64 few)).far (p := ⟨U.heap.size, 6, none⟩) (by show w.heap.size ≠ U.heap.size; omega) (.int .i64 0))
          have q4 := ((((((((below_then HB1.out HU.out).setCell (p := ⟨U.heap.size, 0, none⟩) (by show w.heap.size ≤ U.heap.size; omega) (.int .i64 0)).setCell (p := ⟨U.heap.size, 1, none⟩) (by show w.heap.size ≤ U.heap.size; omega) (.int .i64 (-1))).setCell (p := ⟨U.heap.size, 2, none⟩) (by show w.heap.size ≤ U.heap.size; omega) (.slice (some ⟨U835.heap.size, 0, none⟩) n n)).setCell (p := ⟨U.heap.size, 3, none⟩) (by show w.heap.size ≤ U.heap.size; omega) (.slice (some ⟨U8.heap.size, 0, none⟩) n n)).setCell (p := ⟨U.heap.size, 4, none⟩) (by show w.heap.size ≤ U.heap.size; omega) (.slice (some ⟨U83.heap.size, 0, none⟩) n n)).setCell (p := ⟨U.heap.size, 5, none⟩) (by show w.heap.size ≤ U.heap.size; omega) (.int .i64 few)).setCell (p := ⟨U.heap.size, 6, none⟩) (by show w.heap.size ≤ U.heap.size; omega) (.int .i64 0))
          exact ⟨U.heap.size, U835.heap.size, U8.heap.size, U83.heap.size, rfl, q1, q2, q3, q4, by omega, by omega, by omega, by omega, by omega⟩
      · go_simp
        refine hK.out _ _ trivial (fun hHeld => ?_)
        clear hK K
        try simp only [Act.put, List.getElem_toArray, List.getElem_cons_zero, List.getElem_cons_succ, List.setIfInBounds_toArray, List.set_cons_zero, List.set_cons_succ]
        have hb : Below W1.heap.size W1 (U8.alloc (.cells (ZR n) 71)) := HU.out.alloc us _
        have h5 := World.ownsRow_lit (base := W1.heap.size) (e := 71) (size := 4) U8 (ZR n) n us (by simp only [maxLen]; omega) (by simp [ZR, size_madeCells])
        have h8 := F8.out.alloc (.cells (ZR n) 71)
        have us1 : U8.heap.size < (U8.alloc (.cells (ZR n) 71)).heap.size := by simp
        generalize U8.alloc (.cells (ZR n) 71) = U85 at *
        have us2 : W1.heap.size ≤ U85.heap.size := by omega
        have G8 := Lib.hid h8
        have G5 := Lib.hid h5
        have HU2 := Lib.hid hb
        clear hb HU F8 h8 h5
        have F8 := G8
        have F5 := G5
        have HU := HU2
        have us := us2
        clear HU2 G8 G5
        refine wpAnyH_ready (rs := [1, 3]) (by kernel_rfl) (by simp) (AllReadyH.cons rfl (fun K hK => ?_) (AllReadyH.cons rfl (fun K hK => ?_) AllReadyH.nil))
        · go_simp
          refine hK.out _ _ trivial (fun hHeld => ?_)
          clear hK K
          try simp only [Act.put, List.getElem_toArray, List.getElem_cons_zero, List.getElem_cons_succ, List.setIfInBounds_toArray, List.set_cons_zero, List.set_cons_succ]
          have hb : Below W1.heap.size W1 (U85.alloc (.cells (madeCells #[.bool false] n) 4)) := HU.out.alloc us _
          have h1 := World.ownsRow_lit (base := W1.heap.size) (e := 4) (size := 1) U85 (madeCells #[.bool false] n) n us (by simp only [maxLen]; omega) (by simp [size_madeCells])
          rw [toList_madeCells_one] at h1
          have h8 := F8.out.alloc (.cells (madeCells #[.bool false] n) 4)
          have h5 := F5.out.alloc (.cells (madeCells #[.bool false] n) 4)
          have us1 : U85.heap.size < (U85.alloc (.cells (madeCells #[.bool false] n) 4)).heap.size := by simp
          generalize U85.alloc (.cells (madeCells #[.bool false] n) 4) = U851 at *
          have us2 : W1.heap.size ≤ U851.heap.size := by omega
          have G8 := Lib.hid h8
          have G5 := Lib.hid h5
          have G1 := Lib.hid h1
          have HU2 := Lib.hid hb
          clear hb HU F8 F5 h8 h5 h1
          have F8 := G8
          have F5 := G5
          have F1 := G1
          have HU := HU2
          have us := us2
          clear HU2 G8 G5 G1
          refine wpAnyH_ready (rs := [3]) (by kernel_rfl) (by simp) (AllReadyH.cons rfl (fun K hK => ?_) AllReadyH.nil)
          go_simp
          refine hK.out _ _ trivial (fun hHeld => ?_)
          clear hK K
          try simp only [Act.put, List.getElem_toArray, List.getElem_cons_zero, List.getElem_cons_succ, List.setIfInBounds_toArray, List.set_cons_zero, List.set_cons_succ]
          have hb : Below W1.heap.size W1 (U851.alloc (.cells (madeCells #[.int .i64 0] n) 3)) := HU.out.alloc us _
          have h3 := World.ownsRow_lit (base := W1.heap.size) (e := 3) (size := 1) U851 (madeCells #[.int .i64 0] n) n us (by simp only [maxLen]; omega) (by simp [size_madeCells])
          rw [toList_madeCells_one] at h3
          have h8 := F8.out.alloc (.cells (madeCells #[.int .i64 0] n) 3)
          have h5 := F5.out.alloc (.cells (madeCells #[.int .i64 0] n) 3)
          have h1 := F1.out.alloc (.cells (madeCells #[.int .i64 0] n) 3)
          have us1 : U851.heap.size < (U851.alloc (.cells (madeCells #[.int .i64 0] n) 3)).heap.size := by simp
          generalize U851.alloc (.cells (madeCells #[.int .i64 0] n) 3) = U8513 at *
          have us2 : W1.heap.size ≤ U8513.heap.size := by omega
          have G8 := Lib.hid h8
          have G5 := Lib.hid h5
          have G1 := Lib.hid h1
          have G3 := Lib.hid h3
          have HU2 := Lib.hid hb
          clear hb HU F8 F5 F1 h8 h5 h1 h3
          have F8 := G8
          have F5 := G5
          have F1 := G1
          have F3 := G3
          have HU := HU2
          have us := us2
          clear HU2 G8 G5 G1 G3
          refine wpAnyH_take (i := 7) (v := ?_) rfl (by kernel_rfl) (by kernel_rfl) (by kernel_rfl) (fun _ _ _ h => h) (Or.inl ⟨by rfl, ?_⟩) (by assumption) ?_
          rotate_left
          · intro w0 hSw
            (try dsimp only at hSw)
            go_simp
            all_goals with_reducible rfl
          try simp only [Act.put, List.getElem_toArray, List.getElem_cons_zero, List.getElem_cons_succ, List.setIfInBounds_toArray, List.set_cons_zero, List.set_cons_succ]
          have c0 := F8.out.cell 0
          have f0 := F8.out.frozen 0
          have c1 := F8.out.cell 1
          have f1 := F8.out.frozen 1
          have c2 := F8.out.cell 2
          have f2 := F8.out.frozen 2
          have c3 := F8.out.cell 3
          have f3 := F8.out.frozen 3
          have c4 := F8.out.cell 4
          have f4 := F8.out.frozen 4
          have c5 := F8.out.cell 5
          have f5 := F8.out.frozen 5
          have c6 := F8.out.cell 6
          have f6 := F8.out.frozen 6
          have cl := F8.out.lt
          refine wpAnyH_ready (rs := [9]) (by kernel_rfl) (by simp) (AllReadyH.cons rfl (fun K hK => ?_) AllReadyH.nil)
          go_simp
          refine hK.out _ _ trivial (fun hHeld => ?_)
          clear hK K
          clear c0 f0 c1 f1 c2 f2 c3 f3 c4 f4 c5 f5 c6 f6 cl
          refine wpAnyH_done (by kernel_rfl) ?_ _
          go_wp2_with fail
          go_meet
          have q1 := PO.blk7 (PO.newZ (few := few) F1.out F3.out F5.out h2) F8.out (.int .i64 0) (.int .i64 (-1)) (.slice (some ⟨U85.heap.size, 0, none⟩) n n) (.slice (some ⟨U851.heap.size, 0, none⟩) n n) (.slice (some ⟨U8.heap.size, 0, none⟩) n n) (.int .i64 few) (.int .i64 0)
          have q2 := (((((((F8.out.set_ 0 (.int .i64 0)).set_ 1 (.int .i64 (-1))).set_ 2 (.slice (some ⟨U85.heap.size, 0, none⟩) n n)).set_ 3 (.slice (some ⟨U851.heap.size, 0, none⟩) n n)).set_ 4 (.slice (some ⟨U8.heap.size, 0, none⟩) n n)).set_ 5 (.int .i64 few)).set_ 6 (.int .i64 0))
          have q3 := ((((((((B1_bz.out.below HU.out B1_bz.out.lt).far (p := ⟨U.heap.size, 0, none⟩) (by show w.heap.size ≠ U.heap.size; omega) (.int .i64 0)).far (p := ⟨U.heap.size, 1, none⟩) (by show w.heap.size ≠ U.heap.size; omega) (.int .i64 (-1))).far (p := ⟨U.heap.size, 2, none⟩) (by show w.heap.size ≠ U.heap.size; omega) (.slice (some ⟨U85.heap.size, 0, none⟩) n n)).far (p := ⟨U.heap.size, 3, none⟩) (by show w.heap.size ≠ U.heap.size; omega) (.slice (some ⟨U851.heap.size, 0, none⟩) n n)).far (p := ⟨U.heap.size, 4, none⟩) (by show w.heap.size ≠ U.heap.size; omega) (.slice (some ⟨U8.heap.size, 0, none⟩) n n)).far (p := ⟨U.heap.size, 5, none⟩) (by show w.heap.size ≠ U.heap.size; omega) (.int .i64 few)).far (p := ⟨U.heap.size, 6, none⟩) (by show w.heap.size ≠ U.heap.size; omega) (.int .i64 0))
          have q4 := ((((((((below_then HB1.out HU.out).setCell (p := ⟨U.heap.size, 0, none⟩) (by show w.heap.size ≤ U.heap.size; omega) (.int .i64 0)).setCell (p := ⟨U.heap.size, 1, none⟩) (by show w.heap.size ≤ U.heap.size; omega) (.int .i64 (-1))).setCell (p := ⟨U.heap.size, 2, none⟩) (by show w.heap.size ≤ U.heap.size; omega) (.slice (some ⟨U85.heap.size, 0, none⟩) n n)).setCell (p := ⟨U.heap.size, 3, none⟩) (by show w.heap.size ≤ U.heap.size; omega) (.slice (some ⟨U851.heap.size, 0, none⟩) n n)).setCell (p := ⟨U.heap.size, 4, none⟩) (by show w.heap.size ≤ U.heap.size; omega) (.slice (some ⟨U8.heap.size, 0, none⟩) n n)).setCell (p := ⟨U.heap.size, 5, none⟩) (by show w.heap.size ≤ U.heap.size; omega) (.int .i64 few)).setCell (p := ⟨U.heap.size, 6, none⟩) (by show w.heap.size ≤ U.heap.size; omega) (.int .i64 0))
          exact ⟨U.heap.size, U85.heap.size, U851.heap.size, U8.heap.size, rfl, q1, q2, q3, q4, by omega, by omega, by omega, by omega, by omega⟩
        · go_simp
          refine hK.out _ _ trivial (fun hHeld => ?_)
          clear hK K
          try simp only [Act.put, List.getElem_toArray, List.getElem_cons_zero, List.getElem_cons_succ, List.setIfInBounds_toArray, List.set_cons_zero, List.set_cons_succ]
          have hb : Below W1.heap.size W1 (U85.alloc (.cells (madeCells #[.int .i64 0] n) 3)) := HU.out.alloc us _
          have h3 := World.ownsRow_lit (base := W1.heap.size) (e := 3) (size := 1) U85 (madeCells #[.int .i64 0] n) n us (by simp only [maxLen]; omega) (by simp [size_madeCells])
          rw [toList_madeCells_one] at h3
          have h8 := F8.out.alloc (.cells (madeCells #[.int .i64 0] n) 3)
          have h5 := F5.out.alloc (.cells (madeCells #[.int .i64 0] n) 3)
          have us1 : U85.heap.size < (U85.alloc (.cells (madeCells #[.int .i64 0] n) 3)).heap.size := by simp
          generalize U85.alloc (.cells (madeCells #[.int .i64 0] n) 3) = U853 at *
          have us2 : W1.heap.size ≤ U853.heap.size := by omega
          have G8 := Lib.hid h8
          have G5 := Lib.hid h5
          have G3 := Lib.hid h3
          have HU2 := Lib.hid hb
          clear hb HU F8 F5 h8 h5 h3
          have F8 := G8
          have F5 := G5
          have F3 := G3
          have HU := HU2
          have us := us2
          clear HU2 G8 G5 G3
          refine wpAnyH_ready (rs := [1]) (by kernel_rfl) (by simp) (AllReadyH.cons rfl (fun K hK => ?_) AllReadyH.nil)
          go_simp
          refine hK.out _ _ trivial (fun hHeld => ?_)
          clear hK K
          try simp only [Act.put, List.getElem_toArray, List.getElem_cons_zero, List.getElem_cons_succ, List.setIfInBounds_toArray, List.set_cons_zero, List.set_cons_succ]
          have hb : Below W1.heap.size W1 (U853.alloc (.cells (madeCells #[.bool false] n) 4)) := HU.out.alloc us _
          have h1 := World.ownsRow_lit (base := W1.heap.size) (e := 4) (size := 1) U853 (madeCells #[.bool false] n) n us (by simp only [maxLen]; omega) (by simp [size_madeCells])
          rw [toList_madeCells_one] at h1
          have h8 := F8.out.alloc (.cells (madeCells #[.bool false] n) 4)
          have h5 := F5.out.alloc (.cells (madeCells #[.bool false] n) 4)
          have h3 := F3.out.alloc (.cells (madeCells #[.bool false] n) 4)
          have us1 : U853.heap.size < (U853.alloc (.cells (madeCells #[.bool false] n) 4)).heap.size := by simp
          generalize U853.alloc (.cells (madeCells #[.bool false] n) 4) = U8531 at *
          have us2 : W1.heap.size ≤ U8531.heap.size := by omega
          have G8 := Lib.hid h8
          have G5 := Lib.hid h5
          have G3 := Lib.hid h3
          have G1 := Lib.hid h1
          have HU2 := Lib.hid hb
          clear hb HU F8 F5 F3 h8 h5 h3 h1
          have F8 := G8
          have F5 := G5
          have F3 := G3
          have F1 := G1
          have HU := HU2
          have us := us2
          clear HU2 G8 G5 G3 G1
          refine wpAnyH_take (i := 7) (v := ?_) rfl (by kernel_rfl) (by kernel_rfl) (by kernel_rfl) (fun _ _ _ h => h) (Or.inl ⟨by rfl, ?_⟩) (by assumption) ?_
          rotate_left
          · intro w0 hSw
            (try dsimp only at hSw)
            go_simp
            all_goals with_reducible rfl
          try simp only [Act.put, List.getElem_toArray, List.getElem_cons_zero, List.getElem_cons_succ, List.setIfInBounds_toArray, List.set_cons_zero, List.set_cons_succ]
          have c0 := F8.out.cell 0
          have f0 := F8.out.frozen 0
          have c1 := F8.out.cell 1
          have f1 := F8.out.frozen 1
          have c2 := F8.out.cell 2
          have f2 := F8.out.frozen 2
          have c3 := F8.out.cell 3
          have f3 := F8.out.frozen 3
          have c4 := F8.out.cell 4
          have f4 := F8.out.frozen 4
          have c5 := F8.out.cell 5
          have f5 := F8.out.frozen 5
          have c6 := F8.out.cell 6
          have f6 := F8.out.frozen 6
          have cl := F8.out.lt
          refine wpAnyH_ready (rs := [9]) (by kernel_rfl) (by simp) (AllReadyH.cons rfl (fun K hK => ?_) AllReadyH.nil)
          go_simp
          refine hK.out _ _ trivial (fun hHeld => ?_)
          clear hK K
          clear c0 f0 c1 f1 c2 f2 c3 f3 c4 f4 c5 f5 c6 f6 cl
          refine wpAnyH_done (by kernel_rfl) ?_ _
          go_wp2_with fail
          go_meet
          have q1 := PO.blk7 (PO.newZ (few := few) F1.out F3.out F5.out h2) F8.out (.int .i64 0) (.int .i64 (-1)) (.slice (some ⟨U853.heap.size, 0, none⟩) n n) (.slice (some ⟨U85.heap.size, 0, none⟩) n n) (.slice (some ⟨U8.heap.size, 0, none⟩) n n) (.int .i64 few) (.int .i64 0)
          have q2 := (((((((F8.out.set_ 0 (.int .i64 0)).set_ 1 (.int .i64 (-1))).set_ 2 (.slice (some ⟨U853.heap.size, 0, none⟩) n n)).set_ 3 (.slice (some ⟨U85.heap.size, 0, none⟩) n n)).set_ 4 (.slice (some ⟨U8.heap.size, 0, none⟩) n n)).set_ 5 (.int .i64 few)).set_ 6 (.int .i64 0))
          have q3 := ((((((((B1_bz.out.below HU.out B1_bz.out.lt).far (p := ⟨U.heap.size, 0, none⟩) (by show w.heap.size ≠ U.heap.size; omega) (.int .i64 0)).far (p := ⟨U.heap.size, 1, none⟩) (by show w.heap.size ≠ U.heap.size; omega) (.int .i64 (-1))).far (p := ⟨U.heap.size, 2, none⟩) (by show w.heap.size ≠ U.heap.size; omega) (.slice (some ⟨U853.heap.size, 0, none⟩) n n)).far (p := ⟨U.heap.size, 3, none⟩) (by show w.heap.size ≠ U.heap.size; omega) (.slice (some ⟨U85.heap.size, 0, none⟩) n n)).far (p := ⟨U.heap.size, 4, none⟩) (by show w.heap.size ≠ U.heap.size; omega) (.slice (some ⟨U8.heap.size, 0, none⟩) n n)).far (p := ⟨U.heap.size, 5, none⟩) (by show w.heap.size ≠ U.heap.size; omega) (.int .i64 few)).far (p := ⟨U.heap.size, 6, none⟩) (by show w.heap.size ≠ U.heap.size; omega) (.int .i64 0))
          have q4 := ((((((((below_then HB1.out HU.out).setCell (p := ⟨U.heap.size, 0, none⟩) (by show w.heap.size ≤ U.heap.size; omega) (.int .i64 0)).setCell (p := ⟨U.heap.size, 1, none⟩) (by show w.heap.size ≤ U.heap.size; omega) (.int .i64 (-1))).setCell (p := ⟨U.heap.size, 2, none⟩) (by show w.heap.size ≤ U.heap.size; omega) (.slice (some ⟨U853.heap.size, 0, none⟩) n n)).setCell (p := ⟨U.heap.size, 3, none⟩) (by show w.heap.size ≤ U.heap.size; omega) (.slice (some ⟨U85.heap.size, 0, none⟩) n n)).setCell (p := ⟨U.heap.size, 4, none⟩) (by show w.heap.size ≤ U.heap.size; omega) (.slice (some ⟨U8.heap.size, 0, none⟩) n n)).setCell (p := ⟨U.heap.size, 5, none⟩) (by show w.heap.size ≤ U.heap.size; omega) (.int .i64 few)).setCell (p := ⟨U.heap.size, 6, none⟩) (by show w.heap.size ≤ U.heap.size; omega) (.int .i64 0))
          exact ⟨U.heap.size, U853.heap.size, U85.heap.size, U8.heap.size, rfl, q1, q2, q3, q4, by omega, by omega, by omega, by omega, by omega⟩
  case rest =>
    obtain ⟨g, gi, gk, gr, rfl, HPO, HBP, HBZ, HBW, hgw, hgi, hgr, hni, hnr⟩ := hcut
    have hgw2 : w.heap.size < g := by omega
    clear m1 m2 m3 d1 d2 d3 d4 HB1 B1_bz
    have c4 := HBP.out.cell 4
    have gl := HBP.out.lt
    go_wp2_with fail
    clear c4 gl
    go_loopw [35] (fun x wr => ∃ k : Nat, k ≤ n ∧ x = .int .i64 k ∧ Hid (PO W1.heap.size wr (newK n k few) (.slice (some ⟨gi, 0, none⟩) n n) (.slice (some ⟨gk, 0, none⟩) n n) (.slice (some ⟨gr, 0, none⟩) n n)) ∧ Hid (Blk wr g 26 #[.int .i64 0, .int .i64 (-1), .slice (some ⟨gi, 0, none⟩) n n, .slice (some ⟨gk, 0, none⟩) n n, .slice (some ⟨gr, 0, none⟩) n n, .int .i64 few, .int .i64 0]) ∧ Hid (Blk wr w.heap.size 26 #[.int .i64 0, .int .i64 0, .slice none 0 0, .slice none 0 0, .slice none 0 0, .int .i64 0, .int .i64 0]) ∧ Hid (Below w.heap.size w wr)) (fun x _ => n - (intOf x).toNat)
    case atStart => exact ⟨0, Nat.zero_le _, rfl, HPO, HBP, HBZ, HBW⟩
    case round =>
      clear HPO HBP HBZ HBW
      obtain ⟨k, hk, rfl, HPO, HBP, HBZ, HBW⟩ := hrel
      by_cases hlt : k < n
      · have k0 : (0 : Int) ≤ (k : Int) := by omega
        have k1 : (k : Int) < (n : Int) := by omega
        have c2 := HBP.out.cell 2
        have c4 := HBP.out.cell 4
        have cl := HBP.out.lt
        go_wp2_with fail
        have c_bp2 := HBP.out.cell 2
        have c_bp4 := HBP.out.cell 4
        have l_bp := HBP.out.lt
        refine wp_region_held_drew (S := fun w0 => w0.cell? ⟨g, 2, none⟩ = some (.slice (some ⟨gi, 0, none⟩) n n) ∧ w0.cell? ⟨g, 4, none⟩ = some (.slice (some ⟨gr, 0, none⟩) n n)) (by kernel_rfl) ?_ (fun hHeld => ?_)
        · exact ⟨c_bp2, c_bp4⟩
        clear c_bp2 c_bp4 l_bp
        generalize hd : World.drew wr = W2 at *
        have hb : Below wr.heap.size wr W2 := by rw [← hd]; exact (Below.refl _ _).drew
        have hb2 : Below w.heap.size w W2 := below_then HBW.out hb
        have b_bp2 := HBP.out.below hb HBP.out.lt
        have b_bz2 := HBZ.out.below hb HBZ.out.lt
        have k_own2 := HPO.out.keep hb
        have hz2 := hb.size
        have HB2 := Lib.hid hb2
        have B2_bp := Lib.hid b_bp2
        have B2_bz := Lib.hid b_bz2
        have K2_own := Lib.hid k_own2
        clear hb2 b_bp2 b_bz2 k_own2
        clear HBP HBZ HBW HPO
        clear hd hb
        obtain ⟨⟨x1, x2⟩, x3, hi⟩ := PO.isrIn K2_own.out (by show (upTo2 _ _ _ _).length = _; exact upTo2_len hk) k hlt
        have hi1 := hi true
        have hul : k < (newK n k few).reps.length := by show _ < (upTo2 _ _ _ _).length; rw [upTo2_len hk]; exact hlt
        obtain ⟨⟨y1, y2⟩, y3, hr⟩ := PO.upIn hi1 (by show (upTo2 _ _ _ _).length = _; exact upTo2_len hk) k hlt hul
        have hr1 := hr true
        have he : ({ newK n k few with isr := (newK n k few).isr.set k true, reps := (newK n k few).reps.set k { (newK n k few).reps[k] with up := true } } : PartD) = newK n (k + 1) few := by
          simp only [newK, upTo2_set hlt, upTo2_get hlt]
        have hr2 : PO W1.heap.size _ (newK n (k + 1) few) _ _ _ := he ▸ hr1
        have HR := Lib.hid hr2
        clear hi hi1 hr hr1 he hr2 hul
        refine wpAnyH_take (i := 0) (v := ?_) rfl (by kernel_rfl) (by kernel_rfl) (by kernel_rfl) (fun _ _ _ h => h) (Or.inl ⟨by rfl, ?_⟩) (by assumption) ?_
        rotate_left
        · intro w0 hSw
          (try dsimp only at hSw)
          go_simp
          all_goals with_reducible rfl
        try simp only [Act.put, List.getElem_toArray, List.getElem_cons_zero, List.setIfInBounds_toArray, List.set_cons_zero, List.set_cons_succ]
        refine wpAnyH_take (i := 1) (v := ?_) rfl (by kernel_rfl) (by kernel_rfl) (by kernel_rfl) (fun _ _ _ h => h) (Or.inl ⟨by rfl, ?_⟩) (by assumption) ?_
        rotate_left
        · intro w0 hSw
          (try dsimp only at hSw)
          go_simp
          all_goals with_reducible rfl
        try simp only [Act.put, List.getElem_toArray, List.getElem_cons_zero, List.getElem_cons_succ, List.setIfInBounds_toArray, List.set_cons_zero, List.set_cons_succ]
        refine wpAnyH_take (i := 2) (v := ?_) rfl (by kernel_rfl) (by kernel_rfl) (by kernel_rfl) (fun _ _ _ h => h) (Or.inl ⟨by rfl, ?_⟩) (by assumption) ?_
        rotate_left
        · intro w0 hSw
          (try dsimp only at hSw)
          go_simp
          all_goals with_reducible rfl
        try simp only [Act.put, List.getElem_toArray, List.getElem_cons_zero, List.getElem_cons_succ, List.setIfInBounds_toArray, List.set_cons_zero, List.set_cons_succ]
        refine wpAnyH_take (i := 3) (v := ?_) rfl (by kernel_rfl) (by kernel_rfl) (by kernel_rfl) (fun _ _ _ h => h) (Or.inl ⟨by rfl, ?_⟩) (by assumption) ?_
        rotate_left
        · intro w0 hSw
          (try dsimp only at hSw)
          go_simp
          all_goals with_reducible rfl
        try simp only [Act.put, List.getElem_toArray, List.getElem_cons_zero, List.getElem_cons_succ, List.setIfInBounds_toArray, List.set_cons_zero, List.set_cons_succ]
        refine wpAnyH_take (i := 4) (v := ?_) rfl (by kernel_rfl) (by kernel_rfl) (by kernel_rfl) (fun _ _ _ h => h) (Or.inl ⟨by rfl, ?_⟩) (by assumption) ?_
        rotate_left
        · intro w0 hSw
          (try dsimp only at hSw)
          go_simp
          all_goals with_reducible rfl
        try simp only [Act.put, List.getElem_toArray, List.getElem_cons_zero, List.getElem_cons_succ, List.setIfInBounds_toArray, List.set_cons_zero, List.set_cons_succ]
        refine wpAnyH_take (i := 5) (v := ?_) rfl (by kernel_rfl) (by kernel_rfl) (by kernel_rfl) (fun _ _ _ h => h) (Or.inl ⟨by rfl, ?_⟩) (by assumption) ?_
        rotate_left
        · intro w0 hSw
          (try dsimp only at hSw)
          go_simp
          all_goals with_reducible rfl
        try simp only [Act.put, List.getElem_toArray, List.getElem_cons_zero, List.getElem_cons_succ, List.setIfInBounds_toArray, List.set_cons_zero, List.set_cons_succ]
        refine wpAnyH_take (i := 6) (v := ?_) rfl (by kernel_rfl) (by kernel_rfl) (by kernel_rfl) (fun _ _ _ h => h) (Or.inl ⟨by rfl, ?_⟩) (by assumption) ?_
        rotate_left
        · intro w0 hSw
          (try dsimp only at hSw)
          go_simp
          all_goals with_reducible rfl
        try simp only [Act.put, List.getElem_toArray, List.getElem_cons_zero, List.getElem_cons_succ, List.setIfInBounds_toArray, List.set_cons_zero, List.set_cons_succ]
        refine wpAnyH_ready (rs := [7]) (by kernel_rfl) (by simp) (AllReadyH.cons rfl (fun K hK => ?_) AllReadyH.nil)
        go_simp
        refine hK.out _ _ ?_ (fun hHeld => ?_)
        · exact ⟨((B2_bp.out).far (p := ⟨gi, k, none⟩) (by show g ≠ gi; omega) _).cell 2, ((B2_bp.out).far (p := ⟨gi, k, none⟩) (by show g ≠ gi; omega) _).cell 4⟩
        clear hK K
        refine wpAnyH_take (i := 8) (v := ?_) rfl (by kernel_rfl) (by kernel_rfl) (by kernel_rfl) (fun _ _ _ h => h) (Or.inl ⟨by rfl, ?_⟩) (by assumption) ?_
        rotate_left
        · intro w0 hSw
          (try dsimp only at hSw)
          go_simp
          all_goals with_reducible rfl
        try simp only [Act.put, List.getElem_toArray, List.getElem_cons_zero, List.getElem_cons_succ, List.setIfInBounds_toArray, List.set_cons_zero, List.set_cons_succ]
        refine wpAnyH_take (i := 9) (v := ?_) rfl (by kernel_rfl) (by kernel_rfl) (by kernel_rfl) (fun _ _ _ h => h) (Or.inl ⟨by rfl, ?_⟩) (by assumption) ?_
        rotate_left
        · intro w0 hSw
          (try dsimp only at hSw)
          go_simp
          all_goals with_reducible rfl
        try simp only [Act.put, List.getElem_toArray, List.getElem_cons_zero, List.getElem_cons_succ, List.setIfInBounds_toArray, List.set_cons_zero, List.set_cons_succ]
        refine wpAnyH_ready (rs := [10]) (by kernel_rfl) (by simp) (AllReadyH.cons rfl (fun K hK => ?_) AllReadyH.nil)
        go_simp
        refine hK.out _ _ ?_ (fun hHeld => ?_)
        · exact ⟨(((B2_bp.out).far (p := ⟨gi, k, none⟩) (by show g ≠ gi; omega) _).far (p := ⟨gr, k * 4, none⟩) (by show g ≠ gr; omega) _).cell 2, (((B2_bp.out).far (p := ⟨gi, k, none⟩) (by show g ≠ gi; omega) _).far (p := ⟨gr, k * 4, none⟩) (by show g ≠ gr; omega) _).cell 4⟩
        clear hK K
        refine wpAnyH_done (by kernel_rfl) ?_ _
        clear x2 x3 y2 y3
        go_wp2
        go_light
        exact ⟨⟨k + 1, by omega, by go_num, HR, Lib.hid ((B2_bp.out.far (p := ⟨gi, k, none⟩) (by show g ≠ gi; omega) (.bool true)).far (p := ⟨gr, k * 4, none⟩) (by show g ≠ gr; omega) (.bool true)), Lib.hid ((B2_bz.out.far (p := ⟨gi, k, none⟩) (by show w.heap.size ≠ gi; omega) (.bool true)).far (p := ⟨gr, k * 4, none⟩) (by show w.heap.size ≠ gr; omega) (.bool true)), Lib.hid ((HB2.out.setCell (p := ⟨gi, k, none⟩) (by show w.heap.size ≤ gi; omega) (.bool true)).setCell (p := ⟨gr, k * 4, none⟩) (by show w.heap.size ≤ gr; omega) (.bool true))⟩, by simp [intOf]; omega⟩
      · obtain rfl : k = n := by omega
        have hpo := HPO.out
        rw [newK_all] at hpo
        have HPD := Lib.hid hpo
        clear hpo HPO
        have c_bp0 := HBP.out.cell 0
        have c_bp1 := HBP.out.cell 1
        have c_bp2 := HBP.out.cell 2
        have c_bp3 := HBP.out.cell 3
        have c_bp4 := HBP.out.cell 4
        have c_bp5 := HBP.out.cell 5
        have c_bp6 := HBP.out.cell 6
        have l_bp := HBP.out.lt
        have c_bz0 := HBZ.out.cell 0
        have f_bz0 := HBZ.out.frozen 0
        have c_bz1 := HBZ.out.cell 1
        have f_bz1 := HBZ.out.frozen 1
        have c_bz2 := HBZ.out.cell 2
        have f_bz2 := HBZ.out.frozen 2
        have c_bz3 := HBZ.out.cell 3
        have f_bz3 := HBZ.out.frozen 3
        have c_bz4 := HBZ.out.cell 4
        have f_bz4 := HBZ.out.frozen 4
        have c_bz5 := HBZ.out.cell 5
        have f_bz5 := HBZ.out.frozen 5
        have c_bz6 := HBZ.out.cell 6
        have f_bz6 := HBZ.out.frozen 6
        have l_bz := HBZ.out.lt
        go_wp2
        clear c_bp0 c_bp1 c_bp2 c_bp3 c_bp4 c_bp5 c_bp6 l_bp c_bz0 f_bz0 c_bz1 f_bz1 c_bz2 f_bz2 c_bz3 f_bz3 c_bz4 f_bz4 c_bz5 f_bz5 c_bz6 f_bz6 l_bz
        have hszF := HBW.out.size
        have hbF : Below w.heap.size w (((((((wr.setCell ⟨w.heap.size, 0, none⟩ (.int .i64 0)).setCell ⟨w.heap.size, 1, none⟩ (.int .i64 (-1))).setCell ⟨w.heap.size, 2, none⟩ (.slice (some ⟨gi, 0, none⟩) k k)).setCell ⟨w.heap.size, 3, none⟩ (.slice (some ⟨gk, 0, none⟩) k k)).setCell ⟨w.heap.size, 4, none⟩ (.slice (some ⟨gr, 0, none⟩) k k)).setCell ⟨w.heap.size, 5, none⟩ (.int .i64 few)).setCell ⟨w.heap.size, 6, none⟩ (.int .i64 0)) := (((((((HBW.out).setCell (by show w.heap.size ≤ w.heap.size; omega) _).setCell (by show w.heap.size ≤ w.heap.size; omega) _).setCell (by show w.heap.size ≤ w.heap.size; omega) _).setCell (by show w.heap.size ≤ w.heap.size; omega) _).setCell (by show w.heap.size ≤ w.heap.size; omega) _).setCell (by show w.heap.size ≤ w.heap.size; omega) _).setCell (by show w.heap.size ≤ w.heap.size; omega) _
        have b_bpF : Blk (((((((wr.setCell ⟨w.heap.size, 0, none⟩ (.int .i64 0)).setCell ⟨w.heap.size, 1, none⟩ (.int .i64 (-1))).setCell ⟨w.heap.size, 2, none⟩ (.slice (some ⟨gi, 0, none⟩) k k)).setCell ⟨w.heap.size, 3, none⟩ (.slice (some ⟨gk, 0, none⟩) k k)).setCell ⟨w.heap.size, 4, none⟩ (.slice (some ⟨gr, 0, none⟩) k k)).setCell ⟨w.heap.size, 5, none⟩ (.int .i64 few)).setCell ⟨w.heap.size, 6, none⟩ (.int .i64 0)) (g) 26 #[.int .i64 0, .int .i64 (-1), .slice (some ⟨gi, 0, none⟩) k k, .slice (some ⟨gk, 0, none⟩) k k, .slice (some ⟨gr, 0, none⟩) k k, .int .i64 few, .int .i64 0] := (((((((HBP.out).far (p := ⟨w.heap.size, 0, none⟩) (by show g ≠ w.heap.size; omega) _).far (p := ⟨w.heap.size, 1, none⟩) (by show g ≠ w.heap.size; omega) _).far (p := ⟨w.heap.size, 2, none⟩) (by show g ≠ w.heap.size; omega) _).far (p := ⟨w.heap.size, 3, none⟩) (by show g ≠ w.heap.size; omega) _).far (p := ⟨w.heap.size, 4, none⟩) (by show g ≠ w.heap.size; omega) _).far (p := ⟨w.heap.size, 5, none⟩) (by show g ≠ w.heap.size; omega) _).far (p := ⟨w.heap.size, 6, none⟩) (by show g ≠ w.heap.size; omega) _
        have b_bzF : Blk (((((((wr.setCell ⟨w.heap.size, 0, none⟩ (.int .i64 0)).setCell ⟨w.heap.size, 1, none⟩ (.int .i64 (-1))).setCell ⟨w.heap.size, 2, none⟩ (.slice (some ⟨gi, 0, none⟩) k k)).setCell ⟨w.heap.size, 3, none⟩ (.slice (some ⟨gk, 0, none⟩) k k)).setCell ⟨w.heap.size, 4, none⟩ (.slice (some ⟨gr, 0, none⟩) k k)).setCell ⟨w.heap.size, 5, none⟩ (.int .i64 few)).setCell ⟨w.heap.size, 6, none⟩ (.int .i64 0)) (w.heap.size) 26 #[.int .i64 0, .int .i64 (-1), .slice (some ⟨gi, 0, none⟩) k k, .slice (some ⟨gk, 0, none⟩) k k, .slice (some ⟨gr, 0, none⟩) k k, .int .i64 few, .int .i64 0] := (((((((HBZ.out).set_ 0 _).set_ 1 _).set_ 2 _).set_ 3 _).set_ 4 _).set_ 5 _).set_ 6 _
        have k_ownF := (((((((HPD.out).under (a := ⟨w.heap.size, 0, none⟩) (by (try dsimp only); omega) (.int .i64 0)).under (a := ⟨w.heap.size, 1, none⟩) (by (try dsimp only); omega) (.int .i64 (-1))).under (a := ⟨w.heap.size, 2, none⟩) (by (try dsimp only); omega) (.slice (some ⟨gi, 0, none⟩) k k)).under (a := ⟨w.heap.size, 3, none⟩) (by (try dsimp only); omega) (.slice (some ⟨gk, 0, none⟩) k k)).under (a := ⟨w.heap.size, 4, none⟩) (by (try dsimp only); omega) (.slice (some ⟨gr, 0, none⟩) k k)).under (a := ⟨w.heap.size, 5, none⟩) (by (try dsimp only); omega) (.int .i64 few)).under (a := ⟨w.heap.size, 6, none⟩) (by (try dsimp only); omega) (.int .i64 0)
        have y0 := b_bzF.cell 0
        have y1 := b_bzF.cell 1
        have y2 := b_bzF.cell 2
        have y3 := b_bzF.cell 3
        have y4 := b_bzF.cell 4
        have y5 := b_bzF.cell 5
        have y6 := b_bzF.cell 6
        exact bodyPost_ret (v := .tuple #[.agg #[.int .i64 0, .int .i64 (-1), .slice (some ⟨gi, 0, none⟩) k k, .slice (some ⟨gk, 0, none⟩) k k, .slice (some ⟨gr, 0, none⟩) k k, .int .i64 few, .int .i64 0], .int .i64 0]) (by simp [results, Try.results23, go_sem, y0, y1, y2, y3, y4, y5, y6]) rfl (⟨_, _, _, rfl, k_ownF.more (by omega), hbF⟩)
end Go.Proofs.Ytpjjfnpdopdnkaa
