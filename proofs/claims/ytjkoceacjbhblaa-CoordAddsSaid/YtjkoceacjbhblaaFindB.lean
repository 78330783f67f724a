/- coord.find, tailraceref.txnOf: a producer's place; the copy that the calls work on. -/
import Derived.Test.YtjkoceacjbhblaaCheckB
import Derived.Test.YtjkoceacjbhblaaRefCopy
namespace Go.Proofs.Ytjkoceacjbhblaa
open Go.RowKit

theorem Own.keep {w0 w w' : World} {base k : Nat} {v : Value} {ds : List TxnD} {rows : List (TxnD × Value)} (h : Own w0 w base v ds rows k) (hb : Below w.heap.size w w') : Own w0 w' base v ds rows k :=
  ⟨h.fst, own_keep h.own hb (fun b hb => (h.own.lt b hb).2), h.bel.trans (hb.mono h.bel.size), h.old, fun t ht => own_keep (h.parts t ht) hb (fun b hb => ((h.parts t ht).lt b hb).2), h.apart⟩
theorem Own.rebase {w0 w1 w : World} {base base' n : Nat} {v : Value} {ds : List TxnD} {rows : List (TxnD × Value)} (h : Own w1 w base v ds rows n) (hn : n = ds.length) (hb : base' ≤ base) (hw : Below w0.heap.size w0 w) : Own w0 w base' v ds rows n := by
  have hl : rows.length = ds.length := by rw [← h.fst]; simp
  refine ⟨h.fst, own_base h.own hb, hw, fun t ht => ?_, fun t ht => own_base (h.parts t ht) hb, h.apart⟩
  rw [List.drop_of_length_le (by omega)] at ht
  simp at ht

set_option maxRecDepth 100000 in
set_option maxHeartbeats 1000000 in
theorem coord_named (x0 : ByteArray) (x1 x2 x3 x5 x6 : Int) (x4 : Value) (nm : ByteArray) (b : Nat) (w : World) (hlt : b < w.heap.size) (h0 : w.cell? ⟨b, 0, none⟩ = some (.string nm)) (_ho : x4.oneCell' = true) :
    Calls Try.prog 114 #[.agg #[.string x0, .int .i64 x1, .int .i64 x2, .int .i64 x3, x4, .int .i64 x5, .int .i64 x6], .pointer (some ⟨b, 0, none⟩)] w (Tells (x0 = nm) w) := by
  have hx : (x0.toList == nm.toList) = true ↔ x0 = nm := ⟨fun h => toList_inj (eq_of_beq h), fun h => by simp [h]⟩
  have HX := Lib.hid hx
  clear hx
  go_enter Try.func114, Try.ntmps114
  go_wp2
  go_ret
  exact ⟨_, rfl, HX.out, (Below.refl _ _).alloc (Nat.le_refl _) _⟩

theorem find_idx (ts : List TxnD) (A : Option Addr) (m : Nat) (s : ByteArray) (bs : Nat) (w : World) (hx : Txs w (.slice A ts.length m) ts) (hm : ts.length ≤ 8) (hlt : bs < w.heap.size) (h0 : w.cell? ⟨bs, 0, none⟩ = some (.string s)) :
    Calls Try.prog 113 #[.slice A ts.length m, .func (.func 114) #[] #[.pointer (some ⟨bs, 0, none⟩)]] w fun e w' => e = .returned (.int .i64 (ixOf ts s)) ∧ Below w.heap.size w w' := by
  obtain ⟨rows, hr, hsl, hp⟩ := hx
  refine (IdxTxn_any _ ts.length _ (fun j => ∃ h : j < ts.length, ts[j].name = s) 114 #[.pointer (some ⟨bs, 0, none⟩)] w hsl (by omega) (enters_of Try.func114 (by kernel_rfl) rfl) ?_).mono ?_
  · intro j u0 u1 u2 u3 u4 u5 u6 hj g0 g1 g2 g3 g4 g5 g6 W hW
    have hjr : j < rows.length := by
      have : rows.length = ts.length := by rw [← hr]; simp
      omega
    have key : ∀ i, i < 7 → (rows.flatMap tcells)[j * 7 + i]? = (tcells rows[j])[i]? := fun i hi => tcells_get rows j hjr i hi
    rw [key _ (by omega)] at g0 g1 g2 g3 g4 g5 g6
    simp only [tcells, List.getElem?_cons_zero, List.getElem?_cons_succ, Option.some.injEq] at g0 g1 g2 g3 g4 g5 g6
    subst g0 g1 g2 g3 g4 g5 g6
    have hone : rows[j].2.oneCell' = true := Sl.oneCell (hp _ (List.getElem_mem _)).1
    refine (coord_named _ _ _ _ _ _ _ s bs W (Nat.lt_of_lt_of_le hlt hW.size) ((hW.cell (p := ⟨bs, 0, none⟩) hlt).trans h0) hone).mono fun e w' h => h.cong ?_
    subst hr
    simp [hjr]
  · rintro e w' ⟨r, rfl, hb, h⟩
    exact ⟨by rw [ix_of_finds h], hb⟩

/-- the bounds that a coordinator which may be keeps -/
theorem CoordOk.bounds {c : CoordD} (h : CoordOk c) : c.txns.length * 80 ≤ 140737488355328 ∧ (∀ t ∈ c.txns, t.parts.length * 8 ≤ 140737488355328) ∧ c.txns.length ≤ 9223372036854775807 ∧ ∀ t ∈ c.txns, t.parts.length ≤ 9223372036854775807 := by
  have h1 := h.many
  have h2 : ∀ t ∈ c.txns, t.parts.length ≤ 4 := by
    intro t ht
    obtain ⟨i, hi, rfl⟩ := List.mem_iff_getElem.1 ht
    exact (h.all i hi hi).1.rises.small
  exact ⟨by omega, fun t ht => by have := h2 t ht; omega, by omega, fun t ht => by have := h2 t ht; omega⟩

/-- a refusal: no coordinator, an error number -/
def zeroV : Value := .agg #[.int .i64 0, .int .i64 0, .int .i64 0, .slice none 0 0]
def Refuses (n : Int) (w : World) (e : Ending) (w' : World) : Prop := e = .returned (.tuple #[.agg #[.int .i64 0, .int .i64 0, .int .i64 0, .slice none 0 0], .int .i64 0, .int .i64 n]) ∧ Below w.heap.size w w'
def Found (c : CoordD) (i : Int) (w : World) (e : Ending) (w' : World) : Prop := ∃ tv rows, e = .returned (.tuple #[coordV c tv, .int .i64 i, .int .i64 0]) ∧ Own w w' w.heap.size tv c.txns rows c.txns.length ∧ Below w.heap.size w w'

set_option maxRecDepth 100000 in
set_option maxHeartbeats 4000000 in
theorem find_state (v : Value) (c : CoordD) (s : ByteArray) (w : World) (h : Cv w v c) (hk : ¬ CoordOk c) : Calls Try.prog 84 #[v, .string s] w (Refuses 12 w) := by
  obtain ⟨tv, rfl, hx, hlen⟩ := id h
  obtain ⟨A, m, rfl, -⟩ := hx.at_
  have H := Lib.hid h
  have HK := Lib.hid hk
  clear h hk hx
  unfold coordV at *
  obtain ⟨ck, nx, wt, ts⟩ := c
  simp only at *
  go_enter Try.func84, Try.ntmps84
  go_wp2_with fail
  have hal : Below w.heap.size w (((w.alloc (.cells #[.int .i64 ck, .int .i64 nx, .int .i64 wt, .slice A ts.length m] 28)).alloc (.cells #[.string s] 9)).alloc (.cells #[.int .i64 0, .int .i64 0, .int .i64 0, .slice none 0 0] 28)) := ((((Below.refl _ _).alloc (Nat.le_refl _) _).alloc (by simp) _).alloc (by simp; omega) _)
  have bz := Blk.new ((w.alloc (.cells #[.int .i64 ck, .int .i64 nx, .int .i64 wt, .slice A ts.length m] 28)).alloc (.cells #[.string s] 9)) 28 #[.int .i64 0, .int .i64 0, .int .i64 0, .slice none 0 0]
  have bs := (Blk.new (w.alloc (.cells #[.int .i64 ck, .int .i64 nx, .int .i64 wt, .slice A ts.length m] 28)) 9 #[.string s]).alloc (.cells #[.int .i64 0, .int .i64 0, .int .i64 0, .slice none 0 0] 28)
  simp only [World.size_alloc] at bz bs
  refine (coord_check_any _ ⟨ck, nx, wt, ts⟩ _ (H.out.below hal)).mono ?_
  rintro e w1 hA
  obtain ⟨rfl, hb⟩ := hA.no HK.out
  have bz1 := bz.below hb (by simp)
  have hb1 := below_then hal hb
  have z0 : w1.cell? ⟨w.heap.size + 1 + 1, 0, none⟩ = some (.int .i64 0) := bz1.cell 0
  have z1 : w1.cell? ⟨w.heap.size + 1 + 1, 1, none⟩ = some (.int .i64 0) := bz1.cell 1
  have z2 : w1.cell? ⟨w.heap.size + 1 + 1, 2, none⟩ = some (.int .i64 0) := bz1.cell 2
  have z3 : w1.cell? ⟨w.heap.size + 1 + 1, 3, none⟩ = some (.slice none 0 0) := bz1.cell 3
  have zf0 : w1.frozen? ⟨w.heap.size + 1 + 1, 0, none⟩ = false := bz1.frozen 0
  have zf1 : w1.frozen? ⟨w.heap.size + 1 + 1, 1, none⟩ = false := bz1.frozen 1
  have zf2 : w1.frozen? ⟨w.heap.size + 1 + 1, 2, none⟩ = false := bz1.frozen 2
  have zf3 : w1.frozen? ⟨w.heap.size + 1 + 1, 3, none⟩ = false := bz1.frozen 3
  have zl : w.heap.size + 1 + 1 < w1.heap.size := bz1.lt
  clear hA hb hal bz bs
  go_wp2
  have HB5 := ((((bz1.set_ 0 (.int .i64 0)).set_ 1 (.int .i64 0)).set_ 2 (.int .i64 0)).set_ 3 (.slice none 0 0))
  have HL5 : Below w.heap.size w ((((w1.setCell ⟨w.heap.size + 1 + 1, 0, none⟩ (.int .i64 0)).setCell ⟨w.heap.size + 1 + 1, 1, none⟩ (.int .i64 0)).setCell ⟨w.heap.size + 1 + 1, 2, none⟩ (.int .i64 0)).setCell ⟨w.heap.size + 1 + 1, 3, none⟩ (.slice none 0 0)) := (((hb1.setCell (Nat.le_add_right _ 2) _).setCell (Nat.le_add_right _ 2) _).setCell (Nat.le_add_right _ 2) _).setCell (Nat.le_add_right _ 2) _
  have HB5' : Blk ((((w1.setCell ⟨w.heap.size + 1 + 1, 0, none⟩ (.int .i64 0)).setCell ⟨w.heap.size + 1 + 1, 1, none⟩ (.int .i64 0)).setCell ⟨w.heap.size + 1 + 1, 2, none⟩ (.int .i64 0)).setCell ⟨w.heap.size + 1 + 1, 3, none⟩ (.slice none 0 0)) (w.heap.size + 2) 28 _ := HB5
  generalize ((((w1.setCell ⟨w.heap.size + 1 + 1, 0, none⟩ (.int .i64 0)).setCell ⟨w.heap.size + 1 + 1, 1, none⟩ (.int .i64 0)).setCell ⟨w.heap.size + 1 + 1, 2, none⟩ (.int .i64 0)).setCell ⟨w.heap.size + 1 + 1, 3, none⟩ (.slice none 0 0)) = W5 at *
  simp only [List.setIfInBounds_toArray, List.set_cons_succ, List.set_cons_zero] at HB5'
  have y0 : W5.cell? ⟨w.heap.size + 1 + 1, 0, none⟩ = some (.int .i64 0) := HB5'.cell 0
  have y1 : W5.cell? ⟨w.heap.size + 1 + 1, 1, none⟩ = some (.int .i64 0) := HB5'.cell 1
  have y2 : W5.cell? ⟨w.heap.size + 1 + 1, 2, none⟩ = some (.int .i64 0) := HB5'.cell 2
  have y3 : W5.cell? ⟨w.heap.size + 1 + 1, 3, none⟩ = some (.slice none 0 0) := HB5'.cell 3
  exact bodyPost_ret (v := .tuple #[.agg #[.int .i64 0, .int .i64 0, .int .i64 0, .slice none 0 0], .int .i64 0, .int .i64 12]) (by simp [results, Try.results84, go_sem, y0, y1, y2, y3]) rfl ⟨rfl, HL5⟩

set_option maxRecDepth 100000 in
set_option maxHeartbeats 4000000 in
theorem find_form (v : Value) (c : CoordD) (s : ByteArray) (w : World) (h : Cv w v c) (hk : CoordOk c) (hn : ¬ NameOk s) : Calls Try.prog 84 #[v, .string s] w (Refuses 4 w) := by
  obtain ⟨tv, rfl, hx, hlen⟩ := id h
  obtain ⟨A, m, rfl, -⟩ := hx.at_
  have H := Lib.hid h
  have HK := Lib.hid hk
  have HN := Lib.hid hn
  clear h hk hn hx
  unfold coordV at *
  obtain ⟨ck, nx, wt, ts⟩ := c
  simp only at *
  go_enter Try.func84, Try.ntmps84
  go_wp2_with fail
  have hal : Below w.heap.size w (((w.alloc (.cells #[.int .i64 ck, .int .i64 nx, .int .i64 wt, .slice A ts.length m] 28)).alloc (.cells #[.string s] 9)).alloc (.cells #[.int .i64 0, .int .i64 0, .int .i64 0, .slice none 0 0] 28)) := ((((Below.refl _ _).alloc (Nat.le_refl _) _).alloc (by simp) _).alloc (by simp; omega) _)
  have bz := Blk.new ((w.alloc (.cells #[.int .i64 ck, .int .i64 nx, .int .i64 wt, .slice A ts.length m] 28)).alloc (.cells #[.string s] 9)) 28 #[.int .i64 0, .int .i64 0, .int .i64 0, .slice none 0 0]
  have bs := (Blk.new (w.alloc (.cells #[.int .i64 ck, .int .i64 nx, .int .i64 wt, .slice A ts.length m] 28)) 9 #[.string s]).alloc (.cells #[.int .i64 0, .int .i64 0, .int .i64 0, .slice none 0 0] 28)
  simp only [World.size_alloc] at bz bs
  refine (coord_check_any _ ⟨ck, nx, wt, ts⟩ _ (H.out.below hal)).mono ?_
  rintro e w1 hA
  obtain ⟨rfl, hb⟩ := hA.yes HK.out
  have bz1 := bz.below hb (by simp)
  have bs1 := bs.below hb (by simp)
  have s0 := bs1.cell 0
  have sl := bs1.lt
  have hb1 := below_then hal hb
  have B1 := Lib.hid hb1
  clear hA hb hal bz bs hb1
  go_wp2_with fail
  refine (coord_name_any s w1).mono ?_
  rintro e w2 hT
  obtain ⟨rfl, hb⟩ := hT.no HN.out
  have bz2 := bz1.below hb bz1.lt
  have hb2 := below_then B1.out hb
  have z0 : w2.cell? ⟨w.heap.size + 1 + 1, 0, none⟩ = some (.int .i64 0) := bz2.cell 0
  have z1 : w2.cell? ⟨w.heap.size + 1 + 1, 1, none⟩ = some (.int .i64 0) := bz2.cell 1
  have z2 : w2.cell? ⟨w.heap.size + 1 + 1, 2, none⟩ = some (.int .i64 0) := bz2.cell 2
  have z3 : w2.cell? ⟨w.heap.size + 1 + 1, 3, none⟩ = some (.slice none 0 0) := bz2.cell 3
  have zf0 : w2.frozen? ⟨w.heap.size + 1 + 1, 0, none⟩ = false := bz2.frozen 0
  have zf1 : w2.frozen? ⟨w.heap.size + 1 + 1, 1, none⟩ = false := bz2.frozen 1
  have zf2 : w2.frozen? ⟨w.heap.size + 1 + 1, 2, none⟩ = false := bz2.frozen 2
  have zf3 : w2.frozen? ⟨w.heap.size + 1 + 1, 3, none⟩ = false := bz2.frozen 3
  have zl : w.heap.size + 1 + 1 < w2.heap.size := bz2.lt
  clear hT hb bz1 bs1
  go_wp2
  have HB5 := ((((bz2.set_ 0 (.int .i64 0)).set_ 1 (.int .i64 0)).set_ 2 (.int .i64 0)).set_ 3 (.slice none 0 0))
  have HL5 : Below w.heap.size w ((((w2.setCell ⟨w.heap.size + 1 + 1, 0, none⟩ (.int .i64 0)).setCell ⟨w.heap.size + 1 + 1, 1, none⟩ (.int .i64 0)).setCell ⟨w.heap.size + 1 + 1, 2, none⟩ (.int .i64 0)).setCell ⟨w.heap.size + 1 + 1, 3, none⟩ (.slice none 0 0)) := (((hb2.setCell (Nat.le_add_right _ 2) _).setCell (Nat.le_add_right _ 2) _).setCell (Nat.le_add_right _ 2) _).setCell (Nat.le_add_right _ 2) _
  have HB5' : Blk ((((w2.setCell ⟨w.heap.size + 1 + 1, 0, none⟩ (.int .i64 0)).setCell ⟨w.heap.size + 1 + 1, 1, none⟩ (.int .i64 0)).setCell ⟨w.heap.size + 1 + 1, 2, none⟩ (.int .i64 0)).setCell ⟨w.heap.size + 1 + 1, 3, none⟩ (.slice none 0 0)) (w.heap.size + 2) 28 _ := HB5
  generalize ((((w2.setCell ⟨w.heap.size + 1 + 1, 0, none⟩ (.int .i64 0)).setCell ⟨w.heap.size + 1 + 1, 1, none⟩ (.int .i64 0)).setCell ⟨w.heap.size + 1 + 1, 2, none⟩ (.int .i64 0)).setCell ⟨w.heap.size + 1 + 1, 3, none⟩ (.slice none 0 0)) = W5 at *
  simp only [List.setIfInBounds_toArray, List.set_cons_succ, List.set_cons_zero] at HB5'
  have y0 : W5.cell? ⟨w.heap.size + 1 + 1, 0, none⟩ = some (.int .i64 0) := HB5'.cell 0
  have y1 : W5.cell? ⟨w.heap.size + 1 + 1, 1, none⟩ = some (.int .i64 0) := HB5'.cell 1
  have y2 : W5.cell? ⟨w.heap.size + 1 + 1, 2, none⟩ = some (.int .i64 0) := HB5'.cell 2
  have y3 : W5.cell? ⟨w.heap.size + 1 + 1, 3, none⟩ = some (.slice none 0 0) := HB5'.cell 3
  exact bodyPost_ret (v := .tuple #[.agg #[.int .i64 0, .int .i64 0, .int .i64 0, .slice none 0 0], .int .i64 0, .int .i64 4]) (by simp [results, Try.results84, go_sem, y0, y1, y2, y3]) rfl ⟨rfl, HL5⟩

set_option maxRecDepth 100000 in
set_option maxHeartbeats 8000000 in
theorem find_good (v : Value) (c : CoordD) (s : ByteArray) (w : World) (h : Cv w v c) (hk : CoordOk c) (hn : NameOk s) : Calls Try.prog 84 #[v, .string s] w (Found c (ixOf c.txns s) w) := by
  obtain ⟨tv, rfl, hx, hlen⟩ := id h
  obtain ⟨A, m, rfl, -⟩ := hx.at_
  obtain ⟨k1, k2, -, -⟩ := hk.bounds
  have k3 := hk.many
  have H := Lib.hid h
  have HK := Lib.hid hk
  have HN := Lib.hid hn
  have HX := Lib.hid hx
  have K2 := Lib.hid k2
  clear h hk hn hx k2
  unfold coordV at *
  obtain ⟨ck, nx, wt, ts⟩ := c
  simp only at *
  go_enter Try.func84, Try.ntmps84
  go_wp2_with fail
  have hal : Below w.heap.size w (((w.alloc (.cells #[.int .i64 ck, .int .i64 nx, .int .i64 wt, .slice A ts.length m] 28)).alloc (.cells #[.string s] 9)).alloc (.cells #[.int .i64 0, .int .i64 0, .int .i64 0, .slice none 0 0] 28)) := ((((Below.refl _ _).alloc (Nat.le_refl _) _).alloc (by simp) _).alloc (by simp; omega) _)
  have bx := ((Blk.new w 28 #[.int .i64 ck, .int .i64 nx, .int .i64 wt, .slice A ts.length m]).alloc (.cells #[.string s] 9)).alloc (.cells #[.int .i64 0, .int .i64 0, .int .i64 0, .slice none 0 0] 28)
  have bz := Blk.new ((w.alloc (.cells #[.int .i64 ck, .int .i64 nx, .int .i64 wt, .slice A ts.length m] 28)).alloc (.cells #[.string s] 9)) 28 #[.int .i64 0, .int .i64 0, .int .i64 0, .slice none 0 0]
  have bs := (Blk.new (w.alloc (.cells #[.int .i64 ck, .int .i64 nx, .int .i64 wt, .slice A ts.length m] 28)) 9 #[.string s]).alloc (.cells #[.int .i64 0, .int .i64 0, .int .i64 0, .slice none 0 0] 28)
  simp only [World.size_alloc] at bz bs
  refine (coord_check_any _ ⟨ck, nx, wt, ts⟩ _ (H.out.below hal)).mono ?_
  rintro e w1 hA
  obtain ⟨rfl, hb⟩ := hA.yes HK.out
  have bz1 := bz.below hb (by simp)
  have bs1 := bs.below hb (by simp)
  have bx1 := bx.below hb (by simp; omega)
  have s0 := bs1.cell 0
  have sl := bs1.lt
  have hb1 := below_then hal hb
  have B1 := Lib.hid hb1
  clear hA hb hal bz bs bx hb1
  go_wp2_with fail
  refine (coord_name_any s w1).mono ?_
  rintro e w2 hT
  obtain ⟨rfl, hb⟩ := hT.yes HN.out
  have bz2 := bz1.below hb bz1.lt
  have bs2 := bs1.below hb bs1.lt
  have bx2 := bx1.below hb bx1.lt
  have hb2 := below_then B1.out hb
  have g0 := bx2.cell 0
  have g1 := bx2.cell 1
  have g2 := bx2.cell 2
  have g3 := bx2.cell 3
  have gl := bx2.lt
  have sl2 := bs2.lt
  have BZ := Lib.hid bz2
  have BS := Lib.hid bs2
  have BX := Lib.hid bx2
  have B2 := Lib.hid hb2
  have hbd : Below w2.heap.size w2 w2.drew := (Below.refl _ _).drew
  clear hT hb bz1 bs1 bx1 bz2 bs2 bx2 hb2 s0 sl
  go_wp2_with fail
  go_region_with (first | (go_at_call 29; refine (coordCopy_any _ ⟨ck, nx, wt, ts⟩ _ (H.out.below (below_then B2.out hbd)) k1 K2.out).mono ?_; rintro e w5 ⟨tv5, rows, rfl, hown, hb5⟩; obtain ⟨A5, c5, rfl, hc5⟩ := (Sl.of_own hown.own).form; have hA := below_then hbd hb5; have bx5 := BX.out.below hA BX.out.lt; have bs5 := BS.out.below hA BS.out.lt; have bz5 := BZ.out.below hA BZ.out.lt; have q3 := bx5.cell 3; have ql := bx5.lt; have r0 := bs5.cell 0; have rl := bs5.lt; unfold coordV) | (go_at_call 113; refine (find_idx ts A m s (w.heap.size + 1) w5 (HX.out.below (below_then B2.out hA)) k3 rl r0).mono ?_; rintro e w6 ⟨rfl, hb6⟩; have bz6 := bz5.below hb6 bz5.lt; have z0 : w6.cell? ⟨w.heap.size + 1 + 1, 0, none⟩ = some (.int .i64 0) := bz6.cell 0; have z1 : w6.cell? ⟨w.heap.size + 1 + 1, 1, none⟩ = some (.int .i64 0) := bz6.cell 1; have z2 : w6.cell? ⟨w.heap.size + 1 + 1, 2, none⟩ = some (.int .i64 0) := bz6.cell 2; have z3 : w6.cell? ⟨w.heap.size + 1 + 1, 3, none⟩ = some (.slice none 0 0) := bz6.cell 3; have zf0 : w6.frozen? ⟨w.heap.size + 1 + 1, 0, none⟩ = false := bz6.frozen 0; have zf1 : w6.frozen? ⟨w.heap.size + 1 + 1, 1, none⟩ = false := bz6.frozen 1; have zf2 : w6.frozen? ⟨w.heap.size + 1 + 1, 2, none⟩ = false := bz6.frozen 2; have zf3 : w6.frozen? ⟨w.heap.size + 1 + 1, 3, none⟩ = false := bz6.frozen 3; have zl : w.heap.size + 1 + 1 < w6.heap.size := bz6.lt))
  all_goals go_wp2
  all_goals
    have hw6 := below_then (below_then B2.out hA) hb6
    have hsz : w.heap.size + 1 + 1 < w2.drew.heap.size := Nat.lt_of_lt_of_le BZ.out.lt hbd.size
    have hsw : w.heap.size ≤ w.heap.size + 1 + 1 := by omega
    have hun := (hown.rebase (w0 := w) rfl (Nat.le_refl _) (below_then B2.out hA)).keep hb6
    have HO5 := (((hun.under (a := ⟨w.heap.size + 1 + 1, 0, none⟩) ⟨hsz, hsw⟩ (.int .i64 ck)).under (a := ⟨w.heap.size + 1 + 1, 1, none⟩) ⟨hsz, hsw⟩ (.int .i64 nx)).under (a := ⟨w.heap.size + 1 + 1, 2, none⟩) ⟨hsz, hsw⟩ (.int .i64 wt)).under (a := ⟨w.heap.size + 1 + 1, 3, none⟩) ⟨hsz, hsw⟩ (.slice A5 ts.length c5)
    have HB5 := ((((bz6.set_ 0 (.int .i64 ck)).set_ 1 (.int .i64 nx)).set_ 2 (.int .i64 wt)).set_ 3 (.slice A5 ts.length c5))
    have HL5 : Below w.heap.size w ((((w6.setCell ⟨w.heap.size + 1 + 1, 0, none⟩ (.int .i64 ck)).setCell ⟨w.heap.size + 1 + 1, 1, none⟩ (.int .i64 nx)).setCell ⟨w.heap.size + 1 + 1, 2, none⟩ (.int .i64 wt)).setCell ⟨w.heap.size + 1 + 1, 3, none⟩ (.slice A5 ts.length c5)) := (((hw6.setCell hsw _).setCell hsw _).setCell hsw _).setCell hsw _
    generalize ((((w6.setCell ⟨w.heap.size + 1 + 1, 0, none⟩ (.int .i64 ck)).setCell ⟨w.heap.size + 1 + 1, 1, none⟩ (.int .i64 nx)).setCell ⟨w.heap.size + 1 + 1, 2, none⟩ (.int .i64 wt)).setCell ⟨w.heap.size + 1 + 1, 3, none⟩ (.slice A5 ts.length c5)) = W5 at *
    simp only [List.setIfInBounds_toArray, List.set_cons_succ, List.set_cons_zero] at HB5
    have y0 := HB5.cell 0
    have y1 := HB5.cell 1
    have y2 := HB5.cell 2
    have y3 := HB5.cell 3
    exact bodyPost_ret (v := .tuple #[.agg #[.int .i64 ck, .int .i64 nx, .int .i64 wt, .slice A5 ts.length c5], .int .i64 (ixOf ts s), .int .i64 0]) (by simp [results, Try.results84, go_sem, y0, y1, y2, y3]) rfl ⟨.slice A5 ts.length c5, rows, rfl, HO5.rebase rfl (by have := hbd.size; have := B2.out.size; omega) HL5, HL5⟩

end Go.Proofs.Ytjkoceacjbhblaa
