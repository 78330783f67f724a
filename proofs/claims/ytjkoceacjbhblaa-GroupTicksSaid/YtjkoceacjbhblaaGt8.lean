/- Parts of a proof, merged: InsO, DelM, LeaH, DelF, DelG, WitA. No condition. -/
import Derived.Test.YtjkoceacjbhblaaGt6
import Derived.Test.YtjkoceacjbhblaaGt7
import Derived.Lib.SlicesDelete
import Derived.Deep.RegionLaw
import Derived.Shelf.RegionOpenPlain
import Derived.Test.YtjkoceacjbhblaaGt5
namespace Go.Proofs.Ytjkoceacjbhblaa
open Go.RowKit Go.Shelf

/-- cells of a row of elements of k cells set, and the number of its elements set anew -/
theorem own_cutk {w : World} {base g n m c o k : Nat} {t : TypeId} {xs vs ys : List Value} (h : w.ownsRow base t k (.slice (some ⟨g, 0, none⟩) n c) n xs) (hm : m ≤ c) (ho : o ≤ n * k) (hvs : o + vs.length ≤ c * k) (hml : m * k ≤ n * k ∨ m * k ≤ o + vs.length) (hy : (xs.take o ++ vs ++ xs.drop (o + vs.length)).take (m * k) = ys) :
    (w.setCells g o vs).ownsRow base t k (.slice (some ⟨g, 0, none⟩) m c) m ys := by
  obtain ⟨hl, h2⟩ := h
  rcases h2 with ⟨e, _⟩ | ⟨g', c', cur, e, hb, hg, hnc, hcm, hcs, htake⟩
  · cases e
  · injection e with e1 _ e3
    injection e1 with e1
    injection e1 with e1
    subst e1 e3
    obtain ⟨cur', h1, h2⟩ := setCells_row g vs o w cur t hg (by omega)
    have hcl : cur.toList.length = c * k := by simp; omega
    have hnk : n * k ≤ c * k := Nat.mul_le_mul_right k hnc
    have hmk : m * k ≤ c * k := Nat.mul_le_mul_right k hm
    have hs : cur'.size = c * k := by
      rw [← Array.length_toList, h2]
      simp only [List.length_append, List.length_take, List.length_drop, hcl]
      omega
    have key : (cur.toList.take o ++ vs ++ cur.toList.drop (o + vs.length)).take (m * k) = ys := by
      rw [← hy]
      have e1 : cur.toList.take o = xs.take o := by rw [← htake, List.take_take]; congr 1; omega
      rw [e1]
      have hP : (xs.take o ++ vs).length = o + vs.length := by simp only [List.length_append, List.length_take]; omega
      generalize xs.take o ++ vs = P at hP
      rcases hml with hmn | hmo
      · apply List.ext_getElem?
        intro j
        rw [List.getElem?_take, List.getElem?_take]
        split
        · rename_i hj
          by_cases c1 : j < o + vs.length
          · rw [List.getElem?_append_left (by omega), List.getElem?_append_left (by omega)]
          · rw [List.getElem?_append_right (by omega), List.getElem?_append_right (by omega)]
            have hq : (cur.toList.drop (o + vs.length))[j - P.length]? = ((cur.toList.take (n * k)).drop (o + vs.length))[j - P.length]? := by
              rw [List.getElem?_drop, List.getElem?_drop, List.getElem?_take, if_pos]
              omega
            rw [hq, htake]
        · rfl
      · rw [List.take_append_of_le_length (by omega), List.take_append_of_le_length (by omega)]
    refine ⟨?_, Or.inr ⟨g, c, cur', rfl, hb, h1, hm, hcm, hs, by rw [h2]; exact key⟩⟩
    rw [← key]
    simp only [List.length_append, List.length_take, List.length_drop, hcl]
    omega
def insC (cs : List Value) (j : Nat) (vs : List Value) : List Value := cs.take j ++ vs ++ cs.drop j
end Go.Proofs.Ytjkoceacjbhblaa
namespace Go.Proofs.Ytjkoceacjbhblaa
open Go.RowKit Go.Shelf

def zeroM : List Value := [.string .empty, .int .i64 0, .slice none 0 0]
end Go.Proofs.Ytjkoceacjbhblaa
namespace Go.Proofs.Ytjkoceacjbhblaa
open Go.RowKit

theorem OnlyB.setCells {w0 : World} {b : Nat} : ∀ (vs : List Value) (o : Nat) {W : World}, OnlyB w0 b W → OnlyB w0 b (W.setCells b o vs)
  | [], _, _, h => h
  | v :: r, o, _, h => OnlyB.setCells r (o + 1) (h.set_ o v)
theorem mcells_len (rows : List (MemD × Value)) : (rows.flatMap mcells).length = rows.length * 3 := by
  induction rows with
  | nil => rfl
  | cons t r ih => rw [List.flatMap_cons, List.length_append, ih]; simp [mcells]; omega
theorem mcells_take (rows : List (MemD × Value)) : ∀ k, (rows.take k).flatMap mcells = (rows.flatMap mcells).take (k * 3) := by
  induction rows with
  | nil => intro k; simp
  | cons o os ih =>
    intro k
    rcases k with _ | k
    · simp
    · have e : (k + 1) * 3 = (mcells o).length + k * 3 := by simp [mcells]; omega
      rw [List.take_succ_cons, List.flatMap_cons, List.flatMap_cons, e, List.take_length_add_append, ih k]
def LeaveTo (g : GroupD) (s : ByteArray) (parts : Int) (g' : GroupD) (n : Int) : Prop :=
  (NameFaultM g s n ∧ g' = zeroG) ∨ (GroupOk g ∧ NameOk s ∧ ((¬ Counted g.gen parts ∧ n = 2 ∧ g' = zeroG) ∨ (Counted g.gen parts ∧ ((idxM g.mems s = none ∧ n = 5 ∧ g' = zeroG) ∨ ∃ i, idxM g.mems s = some i ∧ n = 0 ∧ g' = nextG g (g.mems.eraseIdx i) parts))))
theorem LeaveTo.fits {g : GroupD} {s : ByteArray} {parts : Int} {g' : GroupD} {n : Int} (h : LeaveTo g s parts g' n) : g'.Fits := by
  rcases h with ⟨-, rfl⟩ | ⟨h1, -, ⟨-, -, rfl⟩ | ⟨h3, ⟨-, -, rfl⟩ | ⟨i, -, -, rfl⟩⟩⟩
  · exact zeroG_fits
  · exact zeroG_fits
  · exact zeroG_fits
  · refine nextG_fits h1 ?_ h3
    have := List.length_eraseIdx_le g.mems i
    have := h1.many
    omega
end Go.Proofs.Ytjkoceacjbhblaa
namespace Go.Proofs.Ytjkoceacjbhblaa
open Go.RowKit

theorem zeros_list (n : Nat) : ∀ v ∈ (Builtin.zeroCells (Value.agg #[.string .empty, .int .i64 0, .slice none 0 0]).cells n).toList, v.oneCell' = true := by
  intro v hv
  have hz : (Value.agg #[.string .empty, .int .i64 0, .slice none 0 0]).cells = #[.string .empty, .int .i64 0, .slice none 0 0] := by kernel_rfl
  rw [hz] at hv
  simp only [Builtin.zeroCells, Array.toList_map, Array.toList_range, List.mem_map, List.mem_range] at hv
  obtain ⟨k, -, rfl⟩ := hv
  have h3 : k % 3 < 3 := Nat.mod_lt _ (by decide)
  show (#[Value.string .empty, .int .i64 0, .slice none 0 0][k % 3]!).oneCell' = true
  rcases (show k % 3 = 0 ∨ k % 3 = 1 ∨ k % 3 = 2 by omega) with e | e | e <;> rw [e] <;> rfl
theorem zeros_len (n : Nat) : (Builtin.zeroCells (Value.agg #[.string .empty, .int .i64 0, .slice none 0 0]).cells n).toList.length = n * 3 := by
  have hz : (Value.agg #[.string .empty, .int .i64 0, .slice none 0 0]).cells = #[.string .empty, .int .i64 0, .slice none 0 0] := by kernel_rfl
  rw [hz]
  simp [Builtin.zeroCells]
def zeroMs (n : Nat) : List Value := (Builtin.zeroCells (Value.agg #[.string .empty, .int .i64 0, .slice none 0 0]).cells n).toList
theorem run_clear_ms (w : World) (ty : TypeId) (b o n c : Nat) (hn : 0 < n) (hc : ∀ j, j < n * 3 → (w.cell? ⟨b, o + j, none⟩).isSome = true) (hf : ∀ j, j < n * 3 → w.frozen? ⟨b, o + j, none⟩ = false) :
    (Builtin.clear_ #[33] ty #[.slice (some ⟨b, o, none⟩) n c]).run Try.prog w = .ok (.tuple #[]) (w.setCells b o (zeroMs n)) := by
  obtain ⟨i0, hi0, hz0, -, -⟩ := info_parts CloneMem_info
  have hst := run_storeCells_cells (P := Try.prog) b o (zeroMs n) 0 w (by intro j hj; exact hc j (by rw [← zeros_len n]; exact hj)) (by intro j hj; exact hf j (by rw [← zeros_len n]; exact hj)) (zeros_list n)
  simp only [Nat.add_zero] at hst
  have hv : ∀ w, (zeroValue 79).run Try.prog w = .ok (.agg #[.string .empty, .int .i64 0, .slice none 0 0]) w := fun w => by simp [zeroValue, typeInfo, hi0, hz0]
  obtain ⟨m, rfl⟩ : ∃ m, n = m + 1 := ⟨n - 1, by omega⟩
  unfold zeroMs at *
  simp [Builtin.clear_, run_underlying Try.underlying33, hv, hst]

def keptR (q : MemD → Bool) (rows : List (MemD × Value)) (k : Nat) : List (MemD × Value) := (rows.take k).filter fun t => !q t.1
theorem keptR_yes {q : MemD → Bool} {rows : List (MemD × Value)} {k : Nat} (hk : k < rows.length) (h : q rows[k].1 = false) : keptR q rows (k + 1) = keptR q rows k ++ [rows[k]] := by
  unfold keptR
  rw [List.take_succ_eq_append_getElem hk, List.filter_append]
  simp [h]
theorem keptR_no {q : MemD → Bool} {rows : List (MemD × Value)} {k : Nat} (hk : k < rows.length) (h : q rows[k].1 = true) : keptR q rows (k + 1) = keptR q rows k := by
  unfold keptR
  rw [List.take_succ_eq_append_getElem hk, List.filter_append]
  simp [h]
theorem keptR_all {q : MemD → Bool} {rows : List (MemD × Value)} {k : Nat} (hk : k ≤ rows.length) (h : ∀ j (hj : j < rows.length), j < k → q rows[j].1 = false) : keptR q rows k = rows.take k := by
  unfold keptR
  rw [List.filter_eq_self]
  intro t ht
  obtain ⟨j, hj, rfl⟩ := List.mem_take_iff_getElem.1 ht
  simp [h j (by omega) (by omega)]
theorem set_cells3 (X : List (MemD × Value)) (i : Nat) (hi : i < X.length) (t : MemD × Value) :
    (X.set i t).flatMap mcells = (((X.flatMap mcells).set (i * 3) (.string t.1.name)).set (i * 3 + 1) (.int .i64 t.1.heard)).set (i * 3 + 2) t.2 := by
  have hs : X = X.take i ++ X[i] :: X.drop (i + 1) := by rw [← List.drop_eq_getElem_cons hi, List.take_append_drop]
  have hl : ((X.take i).flatMap mcells).length = i * 3 := by rw [mcells_len, List.length_take, Nat.min_eq_left (by omega)]
  have e1 : X.set i t = X.take i ++ t :: X.drop (i + 1) := by
    rw [List.set_eq_take_append_cons_drop, if_pos hi]
  rw [e1]
  conv => rhs; rw [hs]
  rw [List.flatMap_append, List.flatMap_cons, List.flatMap_append, List.flatMap_cons]
  generalize (X.take i).flatMap mcells = P at hl
  rw [List.set_append_right _ _ (by omega), List.set_append_right _ _ (by omega), List.set_append_right _ _ (by omega), hl, show i * 3 - i * 3 = 0 by omega, show i * 3 + 1 - i * 3 = 1 by omega, show i * 3 + 2 - i * 3 = 2 by omega]
  simp [mcells]
end Go.Proofs.Ytjkoceacjbhblaa
namespace Go.Proofs.Ytjkoceacjbhblaa
open Go.RowKit Go.Shelf

def DelPost (q : MemD → Bool) (b n c base : Nat) (rows : List (MemD × Value)) (w : World) (e : Ending) (w' : World) : Prop :=
  e = .returned (.slice (some ⟨b, 0, none⟩) (keptR q rows n).length c) ∧ w'.ownsRow base 79 3 (.slice (some ⟨b, 0, none⟩) (keptR q rows n).length c) (keptR q rows n).length ((keptR q rows n).flatMap mcells) ∧ w.grownBy w' (some b)
/-- while those that stay are moved to the front -/
structure Moved (q : MemD → Bool) (rows X : List (MemD × Value)) (i j : Nat) : Prop where
  len : X.length = rows.length
  cnt : (keptR q rows j).length = i
  lo : X.take i = keptR q rows j
  hi : X.drop j = rows.drop j
  lt : i < j
theorem Moved.yes {q : MemD → Bool} {rows X : List (MemD × Value)} {i j : Nat} (h : Moved q rows X i j) (hj : j < rows.length) (hq : q rows[j].1 = false) : Moved q rows (X.set i rows[j]) (i + 1) (j + 1) := by
  have hlt := h.lt
  have hl := h.len
  refine ⟨by simpa using h.len, by rw [keptR_yes hj hq, List.length_append, h.cnt]; rfl, ?_, ?_, by omega⟩
  · rw [keptR_yes hj hq, ← h.lo, List.take_succ_eq_append_getElem (by simp; omega)]
    congr 1
    · exact List.take_set_of_le (Nat.le_refl _)
    · simp
  · rw [List.drop_set_of_lt (by omega)]
    have := congrArg (List.drop 1) h.hi
    simpa [List.drop_drop, Nat.add_comm] using this
theorem Moved.no {q : MemD → Bool} {rows X : List (MemD × Value)} {i j : Nat} (h : Moved q rows X i j) (hj : j < rows.length) (hq : q rows[j].1 = true) : Moved q rows X i (j + 1) := by
  refine ⟨h.len, by rw [keptR_no hj hq]; exact h.cnt, by rw [keptR_no hj hq]; exact h.lo, ?_, by have := h.lt; omega⟩
  have := congrArg (List.drop 1) h.hi
  simpa [List.drop_drop, Nat.add_comm] using this
theorem Moved.at_ {q : MemD → Bool} {rows X : List (MemD × Value)} {i j : Nat} (h : Moved q rows X i j) (hj : j < rows.length) (hx : j < X.length) : X[j] = rows[j] := by
  have := congrArg (fun l => l[0]?) h.hi
  simp only [List.getElem?_drop, Nat.add_zero, List.getElem?_eq_getElem hj, List.getElem?_eq_getElem hx] at this
  injection this

set_option maxRecDepth 100000 in
set_option maxHeartbeats 8000000 in
theorem delF_any (q : MemD → Bool) (b n c fn : Nat) (lb : Array Value) (rows : List (MemD × Value)) (base : Nat) (w : World) (h : w.ownsRow base 79 3 (.slice (some ⟨b, 0, none⟩) n c) n (rows.flatMap mcells)) (hl : rows.length = n) (hn : n ≤ 6)
    (hsl : ∀ t ∈ rows, ∃ A k m, t.2 = .slice A k m) (eg : ∀ args w, (callFunc fn args).run Try.prog w = .ok (.enter fn args) w)
    (hf : ∀ t ∈ rows, ∀ (A : Option Addr) (k m : Nat) (W : World), w.grownBy W (some b) → Calls Try.prog fn (#[.agg #[.string t.1.name, .int .i64 t.1.heard, .slice A k m]] ++ lb) W (Tells (q t.1 = true) W)) :
    Calls Try.prog 103 #[.slice (some ⟨b, 0, none⟩) n c, .func (.func fn) #[] lb] w (DelPost q b n c base rows w) := by
  obtain ⟨cur, hg, hcur, hnc, hc63⟩ : ∃ cur, w.heap[b]? = some (.cells cur 79 (0, 0)) ∧ cur.size = c * 3 ∧ n ≤ c ∧ c ≤ 9223372036854775807 := by
    rcases h.2 with ⟨e, _⟩ | ⟨g, c', cur, e, -, hg, hnc, hcm, hcs, -⟩
    · cases e
    · injection e with e1 _ e3
      injection e1 with e1
      injection e1 with e1
      subst e1 e3
      exact ⟨cur, hg, hcs, hnc, hcm⟩
  have hbl := h.lt b rfl
  have hidx := IdxMem_any (.slice (some ⟨b, 0, none⟩) n c) n (rows.flatMap mcells) (fun j => ∃ hj : j < rows.length, q rows[j].1 = true) fn lb w (Sl.of_own h) (by omega) eg (by
    intro j u0 u1 u2 hj g0 g1 g2 W hW
    have hjr : j < rows.length := by omega
    have key : ∀ i, i < 3 → (rows.flatMap mcells)[j * 3 + i]? = (mcells rows[j])[i]? := fun i hi => cells_get mcells 3 (fun _ => rfl) rows j hjr i hi
    rw [key _ (by omega)] at g0 g1 g2
    simp only [mcells, List.getElem?_cons_zero, List.getElem?_cons_succ, Option.some.injEq] at g0 g1 g2
    subst g0 g1 g2
    obtain ⟨A, k, m, e⟩ := hsl rows[j] (List.getElem_mem hjr)
    rw [e]
    exact (hf rows[j] (List.getElem_mem hjr) A k m W (grownBy_below hW _)).mono fun e w' hT => hT.cong ⟨fun x => ⟨hjr, x⟩, fun ⟨_, x⟩ => x⟩)
  have H := Lib.hid h
  have HL := Lib.hid hl
  have HSL := Lib.hid hsl
  have HF := Lib.hid hf
  have HIDX := Lib.hid hidx
  clear h hl hsl hf hidx hg hcur
  go_enter Try.func103, Try.ntmps103
  go_wp2_with fail
  go_at_call 111
  refine HIDX.out.mono ?_
  rintro e W1 ⟨r, rfl, hb1, hr⟩
  rcases hr with ⟨k, hk, rfl, ⟨hk2, hkq⟩, hkn⟩ | ⟨rfl, hno⟩
  · have hm : Moved q rows rows k (k + 1) := by
      have e1 : keptR q rows (k + 1) = rows.take k := by
        rw [keptR_no hk2 hkq]
        exact keptR_all (by omega) fun j hj hjk => by
          have := hkn j hjk
          cases hh : q rows[j].1 with
          | false => rfl
          | true => exact absurd ⟨hj, hh⟩ this
      exact ⟨rfl, by rw [e1, List.length_take]; omega, e1.symm, rfl, by omega⟩
    have HM0 := Lib.hid hm
    have HO1 := Lib.hid (own_keep H.out hb1 (fun b hb => (H.out.lt b hb).2))
    have HG1 := Lib.hid (grownBy_below hb1 (some b))
    have hkz : ((k : Int) == -1) = false := by simp
    clear hm hb1 hkq hkn HIDX
    go_wp2_with fail
    go_loopw [5, 6] (fun x y wr => ∃ (i j : Nat) (X : List (MemD × Value)), j ≤ n ∧ i < j ∧ x = .int .i64 i ∧ y = .int .i64 j ∧ Hid (Moved q rows X i j) ∧ Hid (wr.ownsRow base 79 3 (.slice (some ⟨b, 0, none⟩) n c) n (X.flatMap mcells)) ∧ Hid (w.grownBy wr (some b))) (fun _ y _ => n - (intOf y).toNat)
    case atStart => exact ⟨k, k + 1, rows, by omega, by omega, rfl, by go_num, HM0.out, HO1.out, HG1.out⟩
    case round =>
      obtain ⟨i, j, X, hjn, hij, rfl, rfl, HM, HO, HG⟩ := hrel
      clear HM0 HO1 HG1
      by_cases hlt : j < n
      · have hz : (j : Int) < (n : Int) := by omega
        have hjr : j < rows.length := by rw [HL.out]; exact hlt
        have hjx : j < X.length := by rw [HM.out.len]; exact hjr
        obtain ⟨x0, x1, x2, -⟩ := mrow_cell HO.out (by rw [HM.out.len, HL.out]) j hjx
        rw [HM.out.at_ hjr hjx] at x0 x1 x2
        obtain ⟨A, k9, m9, e9⟩ := HSL.out rows[j] (List.getElem_mem hjr)
        rw [e9] at x2
        have hwr := HG.out.size
        have hgal : w.grownBy (wr.alloc (.cells #[.string rows[j].1.name, .int .i64 rows[j].1.heard, .slice A k9 m9] 79)) (some b) := grownBy_then HG.out (World.grownBy_alloc _ _ _)
        have hcall := HF.out rows[j] (List.getElem_mem hjr) A k9 m9 _ hgal
        have HGA := Lib.hid hgal
        have lbr : b < wr.heap.size := by omega
        have HE9 := Lib.hid e9
        clear hgal e9
        cases hq : q rows[j].1 with
        | true =>
          go_wp2_with (go_at_fn fn; refine hcall.mono ?_; rintro e w1 hT; obtain ⟨rfl, hb2⟩ := hT.yes hq; clear hT)
          clear x0 x1 x2
          go_light
          exact ⟨⟨i, j + 1, X, by omega, by omega, rfl, by go_num, HM.out.no hjr hq, own_keep (HO.out.alloc _) hb2 (fun g hg => by have := ((HO.out.alloc (.cells #[.string rows[j].1.name, .int .i64 rows[j].1.heard, .slice A k9 m9] 79)).lt g hg).2; exact this), grownBy_then HGA.out (grownBy_below hb2 _)⟩, by simp [intOf]; omega⟩
        | false =>
          have bv := Blk.new wr 79 #[.string rows[j].1.name, .int .i64 rows[j].1.heard, .slice A k9 m9]
          have hoA := HO.out.alloc (.cells #[.string rows[j].1.name, .int .i64 rows[j].1.heard, .slice A k9 m9] 79)
          have HBV := Lib.hid bv
          have HOA := Lib.hid hoA
          clear bv hoA
          go_wp2_with fail
          go_at_fn fn
          refine hcall.mono ?_
          rintro e w1 hT
          obtain ⟨rfl, hb2⟩ := hT.no (by rw [hq]; decide)
          have bv2 := HBV.out.below hb2 HBV.out.lt
          have v0 := bv2.cell 0
          have v1 := bv2.cell 1
          have v2 := bv2.cell 2
          have vl := bv2.lt
          have ho2 := own_keep HOA.out hb2 (fun g hg => (HOA.out.lt g hg).2)
          have hix : i < X.length := by
            have := HM.out.len
            have := HL.out
            omega
          obtain ⟨y0, y1, y2, yf2⟩ := mrow_cell ho2 (by rw [HM.out.len, HL.out]) i hix
          have yf0 := World.ownsRow.frozenAt ho2 (i * 3)
          have yf1 := World.ownsRow.frozenAt ho2 (i * 3 + 1)
          have hbw1 := (ho2.lt b rfl).2
          have HO2 := Lib.hid ho2
          have HG2 := Lib.hid (grownBy_then HGA.out (grownBy_below hb2 _))
          have hiz : (i : Int) < (n : Int) := by omega
          clear bv2 ho2 hb2 hT
          go_wp2_with fail
          clear x0 x1 x2 y0 y1 y2 yf0 yf1 yf2 v0 v1 v2 vl
          go_light
          have s0 := (World.ownsRow.stored HO2.out (i * 3) (.string rows[j].1.name)).1
          have s1 := (World.ownsRow.stored s0 (i * 3 + 1) (.int .i64 rows[j].1.heard)).1
          have s2 := (World.ownsRow.stored s1 (i * 3 + 2) (.slice A k9 m9)).1
          have e3 := set_cells3 X i (by have := HM.out.len; have := HL.out; omega) rows[j]
          rw [HE9.out] at e3
          rw [← e3] at s2
          refine ⟨⟨i + 1, j + 1, X.set i rows[j], by omega, by omega, by go_num, by go_num, HM.out.yes hjr hq, s2, ?_⟩, by simp [intOf]; omega⟩
          exact grownBy_then HG2.out (((OnlyB.refl _ b).set_ _ _).set_ _ _ |>.set_ _ _).grown
      · obtain rfl : j = n := by omega
        have hz : ¬ (j : Int) < (j : Int) := by omega
        have hxl := mcells_len X
        rw [HM.out.len, HL.out] at hxl
        have hclr : ∀ ty, (Builtin.clear_ #[33] ty #[.slice (some ⟨b, i * 3, none⟩) (j - i) (c - i)]).run Try.prog wr = .ok (.tuple #[]) (wr.setCells b (i * 3) (zeroMs (j - i))) := fun ty => run_clear_ms wr ty b (i * 3) (j - i) (c - i) (by omega) (fun k hk => by
          rw [World.ownsRow.cellAt HO.out (i * 3 + k) (by omega), List.getElem?_eq_getElem (by omega)]
          rfl) (fun k _ => World.ownsRow.frozenAt HO.out _)
        have hci : ¬ c = i := by omega
        have hic : i ≤ c := by omega
        have hij2 : (i : Int) ≤ (j : Int) := by omega
        have hicz : (i : Int) ≤ (c : Int) := by omega
        go_wp2_with fail
        go_ret
        have hcut := own_cutk (m := i) (o := i * 3) (vs := zeroMs (j - i)) (ys := (keptR q rows j).flatMap mcells) HO.out (by omega) (by omega) (by rw [show (zeroMs (j - i)).length = (j - i) * 3 from zeros_len _]; omega) (Or.inl (by omega)) (by
          rw [List.append_assoc, List.take_append_of_le_length (by rw [List.length_take, hxl]; omega), List.take_of_length_le (by rw [List.length_take]; omega), ← mcells_take, HM.out.lo])
        unfold DelPost
        rw [HM.out.cnt]
        exact ⟨rfl, hcut, grownBy_then HG.out (OnlyB.setCells _ _ (OnlyB.refl _ b)).grown⟩
  · have hkz : ((-1 : Int) == -1) = true := by decide
    have hall : keptR q rows n = rows := by
      rw [keptR_all (by rw [HL.out]; exact Nat.le_refl _) fun j hj hjk => ?_, List.take_of_length_le (by rw [HL.out]; exact Nat.le_refl _)]
      have := hno j hjk
      cases hh : q rows[j].1 with
      | false => rfl
      | true => exact absurd ⟨hj, hh⟩ this
    have HA := Lib.hid hall
    have HB1 := Lib.hid hb1
    clear hall hno HIDX hb1
    go_wp2
    go_ret
    unfold DelPost
    rw [HA.out, HL.out]
    exact ⟨rfl, own_keep H.out HB1.out (fun b hb => (H.out.lt b hb).2), grownBy_below HB1.out _⟩
end Go.Proofs.Ytjkoceacjbhblaa
namespace Go.Proofs.Ytjkoceacjbhblaa
open Go.RowKit

def keptM (q : MemD → Bool) (ms : List MemD) (k : Nat) : List MemD := (ms.take k).filter fun t => !q t
theorem keptM_yes {q : MemD → Bool} {ms : List MemD} {k : Nat} (hk : k < ms.length) (h : q ms[k] = false) : keptM q ms (k + 1) = keptM q ms k ++ [ms[k]] := by
  unfold keptM
  rw [List.take_succ_eq_append_getElem hk, List.filter_append]
  simp [h]
theorem keptM_no {q : MemD → Bool} {ms : List MemD} {k : Nat} (hk : k < ms.length) (h : q ms[k] = true) : keptM q ms (k + 1) = keptM q ms k := by
  unfold keptM
  rw [List.take_succ_eq_append_getElem hk, List.filter_append]
  simp [h]
theorem keptM_le (q : MemD → Bool) (ms : List MemD) (k : Nat) : (keptM q ms k).length ≤ k := by
  unfold keptM
  exact Nat.le_trans (List.length_filter_le _ _) (by rw [List.length_take]; omega)
theorem OwnM.farBlk {w0 w : World} {base k gb : Nat} {v : Value} {ds : List MemD} {rows : List (MemD × Value)} {cs : Array Value} (h : OwnM w0 w base v ds rows k) (hb : Blk w gb 36 cs) (hg : w0.heap.size ≤ gb) (j : Nat) (u : Value) : OwnM w0 (w.setCell ⟨gb, j, none⟩ u) base v ds rows k :=
  ⟨h.fst, own_far h.own hb (by decide) j u, h.bel.setCell hg u, h.old, fun t ht => own_far (h.parts t ht) hb (by decide) j u, h.apart⟩
def KeptPost (g : GroupD) (q : MemD → Bool) (w : World) (e : Ending) (w' : World) : Prop :=
  ∃ mv ov rows, e = .returned (groupV ⟨g.clock, g.wait, g.gen, keptM q g.mems g.mems.length, g.offs⟩ mv ov) ∧ OwnM w w' w.heap.size mv (keptM q g.mems g.mems.length) rows (keptM q g.mems g.mems.length).length ∧ OwnO w' w.heap.size ov g.offs ∧ Below w.heap.size w w'
end Go.Proofs.Ytjkoceacjbhblaa
