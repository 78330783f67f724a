/- Rows of ints of the call's own: slices.BinarySearch, slices.Delete, slices.Insert. -/
import Derived.Test.YtjkoceacjbhblaaCoordCopy
import Derived.Shelf.Slices.SearchI
import Derived.Shelf.Slices.Cells
import Derived.Shelf.Slices.Empties
import Derived.Shelf.Spec.SlicesInsertGrow
namespace Go.Proofs.Ytjkoceacjbhblaa
open Go.RowKit Go.Shelf

def shelfRen : Go.Shelf.Ren := ⟨fun | 25 => 93 | 31 => 117 | 32 => 118 | 37 => 126 | 23 => 94 | 21 => 98 | 27 => 122 | 28 => 123 | 35 => 130 | 39 => 133 | n => n,
  fun | 0 => 0 | 3 => 3 | 4 => 4 | 22 => 24 | 40 => 126 | n => n, fun n => n⟩
theorem layS : Lays2.n25 Try.prog shelfRen := {
  mixed := by kernel_rfl
  f25 := Try.func93.trans (congrArg some (by kernel_rfl))
  f31 := Try.func117.trans (congrArg some (by kernel_rfl))
  f32 := Try.func118.trans (congrArg some (by kernel_rfl))
  f37 := Try.func126.trans (congrArg some (by kernel_rfl))
  t0 := Try.underlying0
  a0 := Try.isAgg0
  z0 := Try.sizeOf0
  v0 := Try.zeroValue0
  t3 := Try.underlying3
  a3 := Try.isAgg3
  z3 := Try.sizeOf3
  v3 := Try.zeroValue3
  t4 := Try.underlying4
  a4 := Try.isAgg4
  z4 := Try.sizeOf4
  v4 := Try.zeroValue4
  t22 := Try.underlying24
  a22 := Try.isAgg24
  z22 := Try.sizeOf24
  v22 := Try.zeroValue24
  t40 := Try.underlying126
  a40 := Try.isAgg126
  z40 := Try.sizeOf126
  v40 := Try.zeroValue126 }
theorem layD : Lays2.n23 Try.prog shelfRen := { layS with
  f23 := Try.func94.trans (congrArg some (by kernel_rfl))
  i3 := by kernel_rfl }
theorem layI : Lays2.n21 Try.prog shelfRen := { layD with
  f21 := Try.func98.trans (congrArg some (by kernel_rfl))
  f27 := Try.func122.trans (congrArg some (by kernel_rfl))
  f28 := Try.func123.trans (congrArg some (by kernel_rfl))
  f35 := Try.func130.trans (congrArg some (by kernel_rfl))
  f39 := Try.func133.trans (congrArg some (by kernel_rfl)) }

/-! what is set cell by cell -/
theorem setCells_row (g : Nat) : ∀ (vs : List Value) (o : Nat) (w : World) (cur : Array Value) (t : TypeId), w.heap[g]? = some (.cells cur t (0, 0)) → o + vs.length ≤ cur.size → ∃ cur' : Array Value, (w.setCells g o vs).heap[g]? = some (.cells cur' t (0, 0)) ∧ cur'.toList = cur.toList.take o ++ vs ++ cur.toList.drop (o + vs.length)
  | [], o, w, cur, t, h, _ => ⟨cur, h, by simp⟩
  | v :: r, o, w, cur, t, h, hl => by
    simp only [List.length_cons] at hl
    obtain ⟨cur', h1, h2⟩ := setCells_row g r (o + 1) (w.setCell ⟨g, o, none⟩ v) (cur.setIfInBounds o v) t (heap_setCell_same w g o cur t v h) (by simp; omega)
    refine ⟨cur', h1, ?_⟩
    rw [h2, Array.toList_setIfInBounds, List.drop_set_of_lt (by omega)]
    have hl2 : o < cur.toList.length := by simp; omega
    rw [List.take_succ_eq_append_getElem (by simpa using hl2), List.take_set, List.getElem_set_self, List.set_eq_of_length_le (by simp; omega)]
    simp [show o + 1 + r.length = o + (r.length + 1) by omega]
theorem grown_setCells (g : Nat) : ∀ (vs : List Value) (o : Nat) (w : World), w.grownBy (w.setCells g o vs) (some g)
  | [], _, w => World.grownBy.refl w _
  | v :: r, o, w => by
    have h := grown_setCells g r (o + 1) (w.setCell ⟨g, o, none⟩ v)
    exact ⟨h.os, h.tape, h.output, Nat.le_trans (by simp) h.size, fun k hk hne => (h.block k (by simpa using hk) hne).trans (heap_setCell_other w ⟨g, o, none⟩ k v (fun e => hne (by simp [e])))⟩
theorem grown_drewN (w : World) (n : Nat) (row : Option Nat) : w.grownBy (w.drewN n) row := ⟨rfl, rfl, rfl, Nat.le_refl _, fun _ _ _ => rfl⟩
theorem grown_trans {w w1 w2 : World} {row : Option Nat} (h : w.grownBy w1 row) (k : w1.grownBy w2 row) : w.grownBy w2 row :=
  ⟨k.os.trans h.os, k.tape.trans h.tape, k.output.trans h.output, Nat.le_trans h.size k.size, fun i hi hne => (k.block i (Nat.lt_of_lt_of_le hi h.size) hne).trans (h.block i hi hne)⟩
theorem grown_high {w w1 w2 : World} {row : Option Nat} {B : Nat} (h : w.grownBy w1 row) (k : w1.grownBy w2 (some B)) (hB : w.heap.size ≤ B) : w.grownBy w2 row :=
  ⟨k.os.trans h.os, k.tape.trans h.tape, k.output.trans h.output, Nat.le_trans h.size k.size, fun i hi hne => (k.block i (Nat.lt_of_lt_of_le hi h.size) (by simp; omega)).trans (h.block i hi hne)⟩
theorem own_drewN {base : Nat} {w : World} {e : TypeId} {size n : Nat} {v : Value} {xs : List Value} (h : w.ownsRow base e size v n xs) (q : Nat) : (w.drewN q).ownsRow base e size v n xs := h
theorem step_drewN (w : World) (n : Nat) (v : Value) : OwnStep w (w.drewN n) v v := ⟨grown_drewN w n _, .inl rfl⟩
/-- cells of a row set, and the number of its elements set anew -/
theorem own_cut {w : World} {base g n m c o : Nat} {t : TypeId} {xs vs ys : List Value} (h : w.ownsRow base t 1 (.slice (some ⟨g, 0, none⟩) n c) n xs) (hm : m ≤ c) (ho : o ≤ n) (hvs : o + vs.length ≤ c) (hml : m ≤ n ∨ m ≤ o + vs.length) (hy : (xs.take o ++ vs ++ xs.drop (o + vs.length)).take m = ys) :
    (w.setCells g o vs).ownsRow base t 1 (.slice (some ⟨g, 0, none⟩) m c) m ys := by
  obtain ⟨hl, h2⟩ := h
  rcases h2 with ⟨e, _⟩ | ⟨g', c', cur, e, hb, hg, hnc, hcm, hcs, htake⟩
  · cases e
  · injection e with e1 _ e3
    injection e1 with e1
    injection e1 with e1
    subst e1 e3
    obtain ⟨cur', h1, h2⟩ := setCells_row g vs o w cur t hg (by omega)
    have hcl : cur.toList.length = c := by simp; omega
    have hs : cur'.size = c * 1 := by
      rw [← Array.length_toList, h2]
      simp only [List.length_append, List.length_take, List.length_drop, hcl]
      omega
    rw [Nat.mul_one] at htake hl
    have key : (cur.toList.take o ++ vs ++ cur.toList.drop (o + vs.length)).take m = ys := by
      rw [← hy]
      have e1 : cur.toList.take o = xs.take o := by rw [← htake, List.take_take]; congr 1; omega
      rw [e1]
      have hP : (xs.take o ++ vs).length = o + vs.length := by simp only [List.length_append, List.length_take]; omega
      generalize xs.take o ++ vs = P at hP
      rcases hml with hmn | hmo
      · apply List.ext_getElem?
        intro j
        rw [List.getElem?_take, List.getElem?_take]
        split
        · rename_i hj
          by_cases c1 : j < o + vs.length
          · rw [List.getElem?_append_left (by omega), List.getElem?_append_left (by omega)]
          · rw [List.getElem?_append_right (by omega), List.getElem?_append_right (by omega)]
            have hq : (cur.toList.drop (o + vs.length))[j - P.length]? = ((cur.toList.take n).drop (o + vs.length))[j - P.length]? := by
              rw [List.getElem?_drop, List.getElem?_drop, List.getElem?_take, if_pos]
              omega
            rw [hq, htake]
        · rfl
      · rw [List.take_append_of_le_length (by omega), List.take_append_of_le_length (by omega)]
    refine ⟨?_, Or.inr ⟨g, c, cur', rfl, hb, h1, hm, hcm, hs, by rw [h2, Nat.mul_one]; exact key⟩⟩
    rw [← key]
    simp only [List.length_append, List.length_take, List.length_drop, hcl]
    omega
theorem ints_len (ps : List Int) : (ps.map (Value.int .i64)).length = ps.length := by simp

def delAt (ps : List Int) (i : Nat) : List Int := ps.take i ++ ps.drop (i + 1)
def insAt (ps : List Int) (i : Nat) (x : Int) : List Int := ps.take i ++ x :: ps.drop i
theorem insAt_map (ps : List Int) (i : Nat) (x : Int) : (insAt ps i x).map (Value.int .i64) = (ps.map (Value.int .i64)).take i ++ Value.int .i64 x :: (ps.map (Value.int .i64)).drop i := by simp [insAt]

/-! slices.BinarySearch -/
theorem search_any {base n : Nat} {w : World} {v : Value} {ps : List Int} (h : w.ownsRow base 3 1 v n (ps.map (Value.int .i64))) (hn : n < 4611686018427387904) (hs : ps.Pairwise (· ≤ ·)) (x : Int) :
    Calls Try.prog 93 #[v, .int .i64 x] w fun e w' => e = .returned (.tuple #[.int .i64 (ps.countP (· < x) : Nat), .bool (ps.contains x)]) ∧ ∃ q, w' = w.drewN q := by
  have hl := h.1
  rw [ints_len, Nat.mul_one] at hl
  obtain ⟨-, h2⟩ := id h
  rcases h2 with ⟨rfl, rfl⟩ | ⟨g, c, cur, rfl, -⟩
  · obtain rfl : ps = [] := List.eq_nil_of_length_eq_zero hl
    refine (Any.slices_BinarySearch_int_empty layS none 0 x w).mono ?_
    rintro e w' ⟨rfl, rfl⟩
    exact ⟨rfl, 0, rfl⟩
  · have := Any.slices_BinarySearch_int layS g 0 n c ps x w (by omega) hn (fun j hj => by rw [Nat.zero_add, World.ownsRow.cellAt h j (by omega), List.getElem?_map, List.getElem?_eq_getElem hj]; simp [List.getD, List.getElem?_eq_getElem hj]) (by rw [List.take_of_length_le (by omega)]; exact hs)
    rw [List.take_of_length_le (by omega)] at this
    exact this

/-! slices.Delete: one element -/
theorem delete_any {base n : Nat} {w : World} {v : Value} {ps : List Int} (h : w.ownsRow base 3 1 v n (ps.map (Value.int .i64))) {i : Nat} (hi : i < n) :
    Calls Try.prog 94 #[v, .int .i64 i, .int .i64 ((i : Int) + 1)] w fun e w' => ∃ v', e = .returned v' ∧ w'.ownsRow base 3 1 v' (n - 1) ((delAt ps i).map (Value.int .i64)) ∧ OwnStep w w' v v' := by
  have hl := h.1
  rw [ints_len, Nat.mul_one] at hl
  obtain ⟨-, h2⟩ := id h
  rcases h2 with ⟨rfl, rfl⟩ | ⟨g, c, cur, rfl, -, -, hnc, hcm, -⟩
  · omega
  · have hc63 : c ≤ 9223372036854775807 := hcm
    have := Any.slices_Delete_int_cells layD g 0 n c i (i + 1) ps w (by omega) hnc hc63 (by omega) (by omega) (fun j hj => by rw [Nat.zero_add, World.ownsRow.cellAt h j (by omega), List.getElem?_map, List.getElem?_eq_getElem hj]; simp [List.getD, List.getElem?_eq_getElem hj]) (fun j _ => by rw [Nat.zero_add]; exact World.ownsRow.frozenAt h j)
    have htn : ps.take n = ps := List.take_of_length_le (by omega)
    rw [htn, show i + 1 - i = 1 by omega] at this
    refine Calls.mono this ?_
    rintro e w' ⟨rfl, q, rfl⟩
    refine ⟨_, rfl, ?_, ?_, .inl rfl⟩
    · refine own_cut (o := 0) (own_drewN h q) (by omega) (by omega) (by simp; omega) (Or.inl (by omega)) ?_
      rw [List.take_zero, List.nil_append, List.take_append_of_le_length (by simp; omega), ← List.map_take]
      congr 1
      rw [List.take_append_of_le_length (by simp; omega), List.take_of_length_le (by simp; omega)]
      rfl
    · exact grown_trans (grown_drewN w q _) (grown_setCells g _ 0 _)

/-! slices.Insert: one element, laid in a block of its own -/
theorem shape_blk {w : World} {g : Nat} {t : TypeId} {cs : Array Value} (h : w.heap[g]? = some (.cells cs t (0, 0))) : w.shape? g = some (t, cs.size) := by simp [World.shape?, h]
theorem ins_one {cs : List Value} {n i : Nat} (hl : cs.length = n) (hi : i < n) : (cs.take (i + 1) ++ cs.drop i ++ cs.drop (i + 1 + (cs.drop i).length)).take (n + 1) = cs.take (i + 1) ++ cs.drop i := by
  have e : cs.drop (i + 1 + (cs.drop i).length) = [] := List.drop_eq_nil_of_le (by simp; omega)
  rw [e, List.append_nil, List.take_of_length_le (by simp; omega)]
theorem ins_two {cs : List Value} {n i : Nat} {x : Value} (hl : cs.length = n) (hi : i < n) : ((cs.take (i + 1) ++ cs.drop i).take i ++ [x] ++ (cs.take (i + 1) ++ cs.drop i).drop (i + [x].length)).take (n + 1) = cs.take i ++ x :: cs.drop i := by
  have e1 : (cs.take (i + 1) ++ cs.drop i).take i = cs.take i := by rw [List.take_append_of_le_length (by simp; omega), List.take_take, Nat.min_eq_left (by omega)]
  have e2 : (cs.take (i + 1) ++ cs.drop i).drop (i + [x].length) = cs.drop i := List.drop_left' (by simp; omega)
  rw [e1, e2, List.take_of_length_le (by simp; omega)]
  simp
theorem ins_three {cs : List Value} {n i : Nat} {x : Value} (hl : cs.length = n) (hi : i < n) : ((cs.take i ++ [x]).take (i + 1) ++ cs.drop i ++ (cs.take i ++ [x]).drop (i + 1 + (cs.drop i).length)).take (n + 1) = cs.take i ++ x :: cs.drop i := by
  have e1 : (cs.take i ++ [x]).take (i + 1) = cs.take i ++ [x] := List.take_of_length_le (by simp; omega)
  have e2 : (cs.take i ++ [x]).drop (i + 1 + (cs.drop i).length) = [] := List.drop_eq_nil_of_le (by simp; omega)
  rw [e1, e2, List.append_nil, List.take_of_length_le (by simp; omega)]
  simp
theorem own_fresh {w : World} {base i G : Nat} {t : TypeId} {row : Array Value} {xs : List Value} (hb : base ≤ w.heap.size) (hG : G ≤ maxLen) (hr : row.size = G) (hi : i ≤ G) (hx : row.toList.take i = xs) : (w.alloc (.cells row t)).ownsRow base t 1 (.slice (some ⟨w.heap.size, 0, none⟩) i G) i xs := by
  refine ⟨by rw [← hx]; simp; omega, Or.inr ⟨w.heap.size, G, row, rfl, hb, heap_alloc_new w _, hi, hG, by omega, by rw [Nat.mul_one]; exact hx⟩⟩
theorem insert_any {base n : Nat} {w : World} {v : Value} {ps : List Int} (h : w.ownsRow base 3 1 v n (ps.map (Value.int .i64))) {i : Nat} (hi : i ≤ n) (hn : n < 1000) (x : Int) {vb vc : Nat} (hvb : w.heap[vb]? = some (.cells #[.int .i64 x] 3 (0, 0))) (hne : v.ownBlock ≠ some vb) (hbase : base ≤ w.heap.size) :
    Calls Try.prog 98 #[v, .int .i64 i, .slice (some ⟨vb, 0, none⟩) 1 vc] w fun e w' => ∃ v', e = .returned v' ∧ w'.ownsRow base 3 1 v' (n + 1) ((insAt ps i x).map (Value.int .i64)) ∧ OwnStep w w' v v' := by
  have hl := h.1
  rw [ints_len, Nat.mul_one] at hl
  have hcl : (ps.map (Value.int .i64)).length = n := by simpa using hl
  have hvs : ∀ j u, [Value.int .i64 x][j]? = some u → w.cell? ⟨vb, 0 + j, none⟩ = some u := by
    intro j u hj
    rcases j with _ | j
    · simp only [World.cell?, hvb]
      simpa using hj
    · simp at hj
  have h1v : ∀ u ∈ [Value.int .i64 x], u.oneCell' = true := by simp [Value.oneCell']
  have h1c : ∀ u ∈ ps.map (Value.int .i64), u.oneCell' = true := ints_one ps
  have hml : n + 1 ≤ maxLen := by simp only [maxLen]; omega
  obtain ⟨-, h2⟩ := id h
  have fresh : ∀ (a : Option Addr) (c : Nat), c < n + 1 → i = n → Calls Try.prog 98 #[.slice a n c, .int .i64 n, .slice (some ⟨vb, 0, none⟩) 1 vc] w (fun e w' =>
      e = .returned (.slice (some ⟨w.heap.size, 0, none⟩) (n + 1) (grownCap w (n + 1) c 3)) ∧
      w' = w.drew.alloc (.cells ((ps.map (Value.int .i64) ++ [Value.int .i64 x]).toArray ++ Builtin.zeroCells (Value.int .i64 0).cells (grownCap w (n + 1) c 3 - (n + 1))) 3)) →
      Calls Try.prog 98 #[.slice a n c, .int .i64 n, .slice (some ⟨vb, 0, none⟩) 1 vc] w fun e w' => ∃ v', e = .returned v' ∧ w'.ownsRow base 3 1 v' (n + 1) ((insAt ps i x).map (Value.int .i64)) ∧ OwnStep w w' (.slice a n c) v' := by
    intro a c hc he hq
    refine hq.mono ?_
    rintro e w' ⟨rfl, rfl⟩
    have g1 := grownCap_ge w (n + 1) c 3
    have g2 := grownCap_le_maxLen w (n + 1) c 3 hml
    refine ⟨_, rfl, ?_, ?_⟩
    · refine own_fresh (w := w.drew) hbase g2 (by simp [size_zeroCells, Value.cells]; omega) g1 ?_
      rw [insAt_map, he]
      simp only [Array.toList_append]
      rw [List.take_append_of_le_length (by simp; omega), List.take_of_length_le (by simp; omega), List.take_of_length_le (by simp; omega), List.drop_eq_nil_of_le (by simp; omega)]
    · exact ⟨grown_trans (grown_drewN w 1 _) (World.grownBy_alloc _ _ _), .inr ⟨w.heap.size, rfl, Nat.le_refl _⟩⟩
  rcases h2 with ⟨rfl, rfl⟩ | ⟨g, c, cur, rfl, -, hg, hnc, hcm, hcs, -⟩
  · obtain rfl : i = 0 := by omega
    exact fresh none 0 (by omega) rfl (Any2.slices_Insert_int_end_grow layI none 0 0 vb 0 1 vc _ _ w (by omega) (by omega) (by omega) (by omega) hcl rfl (fun _ => rfl) (fun a ha => by cases ha) hvs h1v)
  · have hvg : vb ≠ g := fun e => hne (by rw [e]; rfl)
    have hcells : ∀ j u, (ps.map (Value.int .i64))[j]? = some u → w.cell? ⟨g, 0 + j, none⟩ = some u := by
      intro j u hj
      have hjn : j < n := by have := (List.getElem?_eq_some_iff.1 hj).1; omega
      rw [Nat.zero_add, World.ownsRow.cellAt h j (by omega)]
      exact hj
    have hc63 : c ≤ 9223372036854775807 := hcm
    have hsome : ∀ j, j < c → (w.cell? ⟨g, j, none⟩).isSome = true := by
      intro j hj
      rw [cell_of_row w g j cur 3 (0, 0) hg, Array.getElem?_eq_getElem (by omega)]
      rfl
    have hfz : ∀ j, w.frozen? ⟨g, j, none⟩ = false := fun j => World.ownsRow.frozenAt h j
    by_cases hin : i = n
    · subst hin
      by_cases hroom : i + 1 ≤ c
      · refine (Any2.slices_Insert_int_end_room layI g 0 i c vb 0 1 vc [.int .i64 x] w (by omega) hroom hc63 rfl (fun j hj => by rw [Nat.zero_add]; exact hsome _ (by omega)) (fun j hj => hfz _) hvs h1v).mono ?_
        rintro e w' ⟨rfl, rfl⟩
        refine ⟨_, rfl, ?_, grown_setCells g _ _ _, .inl rfl⟩
        rw [Nat.zero_add]
        refine own_cut h (by omega) (Nat.le_refl _) (by simp; omega) (Or.inr (by simp)) ?_
        rw [insAt_map, List.drop_eq_nil_of_le (by simp; omega), List.drop_eq_nil_of_le (by simp; omega), List.append_nil, List.take_of_length_le (by simp; omega)]
      · exact fresh _ c (by omega) rfl (Any2.slices_Insert_int_end_grow layI (some ⟨g, 0, none⟩) i c vb 0 1 vc _ _ w (by omega) hnc (by omega) (by omega) hcl rfl (fun e => by cases e) (fun a ha j u hj => by injection ha with ha; subst ha; have := hcells j u hj; rw [Nat.zero_add] at this; rw [Addr.add_lit, Nat.zero_add]; exact this) hvs h1v)
    · have hlt : i < n := by omega
      by_cases hroom : n + 1 ≤ c
      · refine (Any2.slices_Insert_int_shift layI g 0 n c i vb 0 1 vc _ [.int .i64 x] w hlt (by omega) hroom hc63 hvg hcl rfl hcells (fun j hj => by rw [Nat.zero_add]; exact hsome _ (by omega)) (fun j _ => hfz _) hvs h1c h1v 3 3 1 cur.size (shape_blk hvb) (shape_blk hg) (by omega) (frozen_of_row w vb 0 _ _ hvb) (frozen_of_row w vb 1 _ _ hvb)).mono ?_
        rintro e w' ⟨rfl, rfl⟩
        refine ⟨_, rfl, ?_, grown_trans (grown_drewN w 1 _) (grown_trans (grown_setCells g _ _ _) (grown_setCells g _ _ _)), .inl rfl⟩
        rw [Nat.zero_add, Nat.zero_add]
        have k1 := own_cut (w := w.drew) (vs := (ps.map (Value.int .i64)).drop i) (m := n + 1) (o := i + 1) h (by omega) (by omega) (by simp; omega) (Or.inr (by simp; omega)) (ins_one hcl hlt)
        rw [insAt_map]
        exact own_cut (vs := [.int .i64 x]) (m := n + 1) (o := i) k1 (by omega) (by omega) (by simp; omega) (Or.inl (Nat.le_refl _)) (ins_two hcl hlt)
      · refine (Any2.slices_Insert_int_grow layI g 0 n c i vb 0 1 vc _ [.int .i64 x] w hlt (by omega) hnc (by omega) (by omega) hcl rfl hcells hvs h1c h1v).mono ?_
        rintro e w' ⟨rfl, rfl⟩
        have g1 := grownCap_ge w (n + 1) c 3
        have g2 := grownCap_le_maxLen w (n + 1) c 3 hml
        refine ⟨_, rfl, ?_, ?_⟩
        · have k0 := own_fresh (w := w) (base := base) (t := 3) (i := i) (G := grownCap w (n + 1) c 3) (row := ((ps.map (Value.int .i64)).take i).toArray ++ Builtin.zeroCells (Value.int .i64 0).cells (n + 1 - i) ++ Builtin.zeroCells (Value.int .i64 0).cells (grownCap w (n + 1) c 3 - (n + 1))) (xs := (ps.map (Value.int .i64)).take i) hbase g2 (by simp [size_zeroCells, Value.cells]; omega) (by omega) (by
            simp only [Array.toList_append]
            rw [List.append_assoc, List.take_append_of_le_length (by simp; omega), List.take_of_length_le (by simp; omega)])
          have k1 := own_cut (vs := [.int .i64 x]) (m := i + 1) (o := i) (ys := (ps.map (Value.int .i64)).take i ++ [.int .i64 x]) (own_drewN k0 1) (by omega) (Nat.le_refl _) (by simp; omega) (Or.inr (by simp)) (by
            rw [List.take_take, Nat.min_self]
            have e : ((ps.map (Value.int .i64)).take i).drop (i + [Value.int .i64 x].length) = [] := List.drop_eq_nil_of_le (by simp; omega)
            rw [e, List.append_nil, List.take_of_length_le (by simp; omega)])
          rw [insAt_map]
          show World.ownsRow _ base 3 1 (.slice (some ⟨w.heap.size, 0, none⟩) (n + 1) (grownCap w (n + 1) c 3)) _ _
          have hdl : ((ps.map (Value.int .i64)).drop i).length = n - i := by simp only [List.length_drop, hcl]
          exact own_cut (vs := (ps.map (Value.int .i64)).drop i) (m := n + 1) (o := i + 1) (own_drewN k1 1) (by omega) (Nat.le_refl _) (by omega) (Or.inr (by omega)) (ins_three hcl hlt)
        · exact ⟨grown_high (grown_trans (grown_high (grown_trans (World.grownBy_alloc w _ _) (grown_drewN _ 1 _)) (grown_setCells w.heap.size _ i _) (Nat.le_refl _)) (grown_drewN _ 1 _)) (grown_setCells w.heap.size _ (i + 1) _) (Nat.le_refl _), .inr ⟨w.heap.size, rfl, Nat.le_refl _⟩⟩

end Go.Proofs.Ytjkoceacjbhblaa
