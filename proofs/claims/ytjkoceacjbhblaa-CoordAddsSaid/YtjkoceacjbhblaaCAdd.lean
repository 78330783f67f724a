/- coord.Add. -/
import Derived.Test.YtjkoceacjbhblaaCoordJ
import Derived.BigRegion
import Derived.Test.YtjkoceacjbhblaaCDone
namespace Go.Proofs.Ytjkoceacjbhblaa
open Go.RowKit

def setSince (x : Int) (t : TxnD) : TxnD := ⟨t.name, t.pid, t.ver, t.state, t.parts, x, t.done⟩
def insT (k : Nat) (x : Int) (t : TxnD) : TxnD := ⟨t.name, t.pid, t.ver, t.state, insAt t.parts k x, t.since, t.done⟩
theorem insAt_len {l : List Int} {k : Nat} (h : k ≤ l.length) (x : Int) : l.length + 1 = (insAt l k x).length := by unfold insAt; simp; omega
theorem openT_t {t : TxnD} {x ck : Int} (h : t.parts.contains x = true) : setSince ck (setState 2 t) = openT x ck t := by unfold openT withPart; rw [if_pos h]; rfl
theorem openT_f {t : TxnD} {x ck : Int} {k : Nat} (h : t.parts.contains x = false) (hk : t.parts.countP (· < x) = k) : insT k x (setSince ck (setState 2 t)) = openT x ck t := by unfold openT withPart under; rw [if_neg (by rw [h]; decide), hk]; rfl
theorem addT_t {t : TxnD} {x : Int} (h : t.parts.contains x = true) : addT x t = t := by unfold addT withPart; rw [if_pos h]
theorem addT_f {t : TxnD} {x : Int} {k : Nat} (h : t.parts.contains x = false) (hk : t.parts.countP (· < x) = k) : insT k x t = addT x t := by unfold addT withPart under; rw [if_neg (by rw [h]; decide), hk]; rfl
theorem modify_at {α : Type} (l : List α) (k : Nat) (f g : α → α) (h : ∀ hk : k < l.length, f l[k] = g l[k]) : l.modify k g = l.modify k f := by
  apply List.ext_getElem (by simp)
  intro j h1 h2
  rw [List.getElem_modify, List.getElem_modify]
  split
  · rename_i e
    subst e
    exact (h (by simpa using h1)).symm
  · rfl
set_option maxRecDepth 100000 in
set_option maxHeartbeats 4000000 in
theorem add_fault (v : Value) (c : CoordD) (s : ByteArray) (ver part : Int) (n : Int) (hf : KnownFault c s ver n) (w : World) (h : Cv w v c) :
    Calls Try.prog 56 #[v, .string s, .int .i64 ver, .int .i64 part] w (CRes zeroC [.int .i64 (n)] w) := by
  obtain ⟨tv, rfl, hx, hlen⟩ := id h
  obtain ⟨A, m, rfl, -⟩ := hx.at_
  have H := Lib.hid h
  have HX := Lib.hid hx
  clear h hx
  unfold coordV at *
  obtain ⟨ck, nx, wt, ts⟩ := c
  simp only at *
  have hn0 := hf.ne
  have n1 : (n == 0) = false := beq_eq_false_iff_ne.2 hn0
  have n2 : (n != 0) = true := by simpa using hn0
  have HF := Lib.hid hf
  clear hf hn0
  go_enter Try.func56, Try.ntmps56
  go_wp2_with fail
  have hb1 : Below w.heap.size w ((w.alloc (.cells #[.int .i64 ck, .int .i64 nx, .int .i64 wt, .slice A ts.length m] 28)).alloc (.cells #[.int .i64 0, .int .i64 0, .int .i64 0, .slice none 0 0] 28)) := ((Below.refl _ _).alloc (by first | omega | (simp; done) | (simp; omega)) _).alloc (by first | omega | (simp; done) | (simp; omega)) _
  have hal1 : Below w.heap.size w ((w.alloc (.cells #[.int .i64 ck, .int .i64 nx, .int .i64 wt, .slice A ts.length m] 28)).alloc (.cells #[.int .i64 0, .int .i64 0, .int .i64 0, .slice none 0 0] 28)) := ((Below.refl _ _).alloc (by first | omega | (simp; done) | (simp; omega)) _).alloc (by first | omega | (simp; done) | (simp; omega)) _
  have b_bx1 : Blk ((w.alloc (.cells #[.int .i64 ck, .int .i64 nx, .int .i64 wt, .slice A ts.length m] 28)).alloc (.cells #[.int .i64 0, .int .i64 0, .int .i64 0, .slice none 0 0] 28)) (w.heap.size) 28 #[.int .i64 ck, .int .i64 nx, .int .i64 wt, .slice A ts.length m] := (Blk.new_ _ 28 #[.int .i64 ck, .int .i64 nx, .int .i64 wt, .slice A ts.length m] (by first | rfl | (simp; done) | (simp; omega))).alloc _
  have b_bz1 : Blk ((w.alloc (.cells #[.int .i64 ck, .int .i64 nx, .int .i64 wt, .slice A ts.length m] 28)).alloc (.cells #[.int .i64 0, .int .i64 0, .int .i64 0, .slice none 0 0] 28)) (w.heap.size + 1) 28 #[.int .i64 0, .int .i64 0, .int .i64 0, .slice none 0 0] := Blk.new_ _ 28 #[.int .i64 0, .int .i64 0, .int .i64 0, .slice none 0 0] (by first | rfl | (simp; done) | (simp; omega))
  have hz1 : w.heap.size + 2 ≤ ((w.alloc (.cells #[.int .i64 ck, .int .i64 nx, .int .i64 wt, .slice A ts.length m] 28)).alloc (.cells #[.int .i64 0, .int .i64 0, .int .i64 0, .slice none 0 0] 28)).heap.size := by first | omega | (simp; done) | (simp; omega)
  generalize (w.alloc (.cells #[.int .i64 ck, .int .i64 nx, .int .i64 wt, .slice A ts.length m] 28)).alloc (.cells #[.int .i64 0, .int .i64 0, .int .i64 0, .slice none 0 0] 28) = W1 at *
  have HB1 := Lib.hid hb1
  have B1_bx := Lib.hid b_bx1
  have B1_bz := Lib.hid b_bz1
  clear hb1 b_bx1 b_bz1
  refine (known_refuses (H.out.below hal1) HF.out).mono ?_
  rintro e W2 ⟨rfl, hb⟩
  have hb2 : Below w.heap.size w W2 := below_then HB1.out hb
  have b_bx2 := B1_bx.out.below hb B1_bx.out.lt
  have b_bz2 := B1_bz.out.below hb B1_bz.out.lt
  have hz2 := hb.size
  have HB2 := Lib.hid hb2
  have B2_bx := Lib.hid b_bx2
  have B2_bz := Lib.hid b_bz2
  clear hb2 b_bx2 b_bz2
  clear B1_bx B1_bz HB1
  have c_bx0 := B2_bx.out.cell 0
  have f_bx0 := B2_bx.out.frozen 0
  have c_bx1 := B2_bx.out.cell 1
  have f_bx1 := B2_bx.out.frozen 1
  have c_bx2 := B2_bx.out.cell 2
  have f_bx2 := B2_bx.out.frozen 2
  have c_bx3 := B2_bx.out.cell 3
  have f_bx3 := B2_bx.out.frozen 3
  have l_bx := B2_bx.out.lt
  have c_bz0 := B2_bz.out.cell 0
  have f_bz0 := B2_bz.out.frozen 0
  have c_bz1 := B2_bz.out.cell 1
  have f_bz1 := B2_bz.out.frozen 1
  have c_bz2 := B2_bz.out.cell 2
  have f_bz2 := B2_bz.out.frozen 2
  have c_bz3 := B2_bz.out.cell 3
  have f_bz3 := B2_bz.out.frozen 3
  have l_bz := B2_bz.out.lt
  have hszE := HB2.out.size
  have hbE : Below w.heap.size w ((((W2.setCell ⟨w.heap.size, 0, none⟩ (.int .i64 0)).setCell ⟨w.heap.size, 1, none⟩ (.int .i64 0)).setCell ⟨w.heap.size, 2, none⟩ (.int .i64 0)).setCell ⟨w.heap.size, 3, none⟩ (.slice none 0 0)) := ((((HB2.out).setCell (by show w.heap.size ≤ w.heap.size; omega) _).setCell (by show w.heap.size ≤ w.heap.size; omega) _).setCell (by show w.heap.size ≤ w.heap.size; omega) _).setCell (by show w.heap.size ≤ w.heap.size; omega) _
  have b_bxE : Blk ((((W2.setCell ⟨w.heap.size, 0, none⟩ (.int .i64 0)).setCell ⟨w.heap.size, 1, none⟩ (.int .i64 0)).setCell ⟨w.heap.size, 2, none⟩ (.int .i64 0)).setCell ⟨w.heap.size, 3, none⟩ (.slice none 0 0)) (w.heap.size) 28 #[.int .i64 0, .int .i64 0, .int .i64 0, .slice none 0 0] := ((((B2_bx.out).set_ 0 _).set_ 1 _).set_ 2 _).set_ 3 _
  have b_bzE : Blk ((((W2.setCell ⟨w.heap.size, 0, none⟩ (.int .i64 0)).setCell ⟨w.heap.size, 1, none⟩ (.int .i64 0)).setCell ⟨w.heap.size, 2, none⟩ (.int .i64 0)).setCell ⟨w.heap.size, 3, none⟩ (.slice none 0 0)) (w.heap.size + 1) 28 #[.int .i64 0, .int .i64 0, .int .i64 0, .slice none 0 0] := ((((B2_bz.out).far (p := ⟨w.heap.size, 0, none⟩) (by show w.heap.size + 1 ≠ w.heap.size; omega) _).far (p := ⟨w.heap.size, 1, none⟩) (by show w.heap.size + 1 ≠ w.heap.size; omega) _).far (p := ⟨w.heap.size, 2, none⟩) (by show w.heap.size + 1 ≠ w.heap.size; omega) _).far (p := ⟨w.heap.size, 3, none⟩) (by show w.heap.size + 1 ≠ w.heap.size; omega) _
  obtain ⟨⟨z0, z1, z2, z3⟩, ⟨zf0, zf1, zf2, zf3⟩, zl⟩ := b_bzE.all4
  clear b_bxE b_bzE hbE
  go_wp2_with fail
  clear c_bx0 f_bx0 c_bx1 f_bx1 c_bx2 f_bx2 c_bx3 f_bx3 l_bx c_bz0 f_bz0 c_bz1 f_bz1 c_bz2 f_bz2 c_bz3 f_bz3 l_bz
  have hszF := HB2.out.size
  have hbF : Below w.heap.size w ((((((((W2.setCell ⟨w.heap.size, 0, none⟩ (.int .i64 0)).setCell ⟨w.heap.size, 1, none⟩ (.int .i64 0)).setCell ⟨w.heap.size, 2, none⟩ (.int .i64 0)).setCell ⟨w.heap.size, 3, none⟩ (.slice none 0 0)).setCell ⟨w.heap.size + 1, 0, none⟩ (.int .i64 0)).setCell ⟨w.heap.size + 1, 1, none⟩ (.int .i64 0)).setCell ⟨w.heap.size + 1, 2, none⟩ (.int .i64 0)).setCell ⟨w.heap.size + 1, 3, none⟩ (.slice none 0 0)) := ((((((((HB2.out).setCell (by show w.heap.size ≤ w.heap.size; omega) _).setCell (by show w.heap.size ≤ w.heap.size; omega) _).setCell (by show w.heap.size ≤ w.heap.size; omega) _).setCell (by show w.heap.size ≤ w.heap.size; omega) _).setCell (by show w.heap.size ≤ w.heap.size + 1; omega) _).setCell (by show w.heap.size ≤ w.heap.size + 1; omega) _).setCell (by show w.heap.size ≤ w.heap.size + 1; omega) _).setCell (by show w.heap.size ≤ w.heap.size + 1; omega) _
  have b_bxF : Blk ((((((((W2.setCell ⟨w.heap.size, 0, none⟩ (.int .i64 0)).setCell ⟨w.heap.size, 1, none⟩ (.int .i64 0)).setCell ⟨w.heap.size, 2, none⟩ (.int .i64 0)).setCell ⟨w.heap.size, 3, none⟩ (.slice none 0 0)).setCell ⟨w.heap.size + 1, 0, none⟩ (.int .i64 0)).setCell ⟨w.heap.size + 1, 1, none⟩ (.int .i64 0)).setCell ⟨w.heap.size + 1, 2, none⟩ (.int .i64 0)).setCell ⟨w.heap.size + 1, 3, none⟩ (.slice none 0 0)) (w.heap.size) 28 #[.int .i64 0, .int .i64 0, .int .i64 0, .slice none 0 0] := ((((((((B2_bx.out).set_ 0 _).set_ 1 _).set_ 2 _).set_ 3 _).far (p := ⟨w.heap.size + 1, 0, none⟩) (by show w.heap.size ≠ w.heap.size + 1; omega) _).far (p := ⟨w.heap.size + 1, 1, none⟩) (by show w.heap.size ≠ w.heap.size + 1; omega) _).far (p := ⟨w.heap.size + 1, 2, none⟩) (by show w.heap.size ≠ w.heap.size + 1; omega) _).far (p := ⟨w.heap.size + 1, 3, none⟩) (by show w.heap.size ≠ w.heap.size + 1; omega) _
  have b_bzF : Blk ((((((((W2.setCell ⟨w.heap.size, 0, none⟩ (.int .i64 0)).setCell ⟨w.heap.size, 1, none⟩ (.int .i64 0)).setCell ⟨w.heap.size, 2, none⟩ (.int .i64 0)).setCell ⟨w.heap.size, 3, none⟩ (.slice none 0 0)).setCell ⟨w.heap.size + 1, 0, none⟩ (.int .i64 0)).setCell ⟨w.heap.size + 1, 1, none⟩ (.int .i64 0)).setCell ⟨w.heap.size + 1, 2, none⟩ (.int .i64 0)).setCell ⟨w.heap.size + 1, 3, none⟩ (.slice none 0 0)) (w.heap.size + 1) 28 #[.int .i64 0, .int .i64 0, .int .i64 0, .slice none 0 0] := ((((((((B2_bz.out).far (p := ⟨w.heap.size, 0, none⟩) (by show w.heap.size + 1 ≠ w.heap.size; omega) _).far (p := ⟨w.heap.size, 1, none⟩) (by show w.heap.size + 1 ≠ w.heap.size; omega) _).far (p := ⟨w.heap.size, 2, none⟩) (by show w.heap.size + 1 ≠ w.heap.size; omega) _).far (p := ⟨w.heap.size, 3, none⟩) (by show w.heap.size + 1 ≠ w.heap.size; omega) _).set_ 0 _).set_ 1 _).set_ 2 _).set_ 3 _
  have y0 := b_bzF.cell 0
  have y1 := b_bzF.cell 1
  have y2 := b_bzF.cell 2
  have y3 := b_bzF.cell 3
  exact bodyPost_ret (v := .tuple #[.agg #[.int .i64 0, .int .i64 0, .int .i64 0, .slice none 0 0], .int .i64 (n)]) (by simp [results, Try.results56, go_sem, y0, y1, y2, y3]) rfl (CRes.zero hbF)
set_option maxRecDepth 100000 in
set_option maxHeartbeats 4000000 in
theorem add_range (v : Value) (c : CoordD) (s : ByteArray) (ver part : Int) (i : Nat) (hk : CoordOk c) (hn : NameOk s) (hi : idxOf c.txns s = some i) (hl : i < c.txns.length) (hv : c.txns[i].ver = ver) (hp : part < 0 ∨ 3 < part) (w : World) (h : Cv w v c) :
    Calls Try.prog 56 #[v, .string s, .int .i64 ver, .int .i64 part] w (CRes zeroC [.int .i64 (2)] w) := by
  obtain ⟨tv, rfl, hx, hlen⟩ := id h
  obtain ⟨A, m, rfl, -⟩ := hx.at_
  have H := Lib.hid h
  have HX := Lib.hid hx
  clear h hx
  unfold coordV at *
  obtain ⟨ck, nx, wt, ts⟩ := c
  simp only at *
  have HK := Lib.hid hk
  have HN := Lib.hid hn
  have HI := Lib.hid hi
  have HV := Lib.hid hv
  have i0 : (0 : Int) ≤ (i : Int) := by omega
  have i1 : (i : Int) < (ts.length : Int) := Int.ofNat_lt.2 hl
  have i2 : decide ((i : Int) < 0) = false := decide_eq_false (by omega)
  have q0 : decide (part < 0) = true ∨ (decide (part < 0) = false ∧ decide (4 ≤ part) = true ∧ 4 ≤ part) := by
    rcases Int.lt_or_le part 0 with e | e
    · exact Or.inl (decide_eq_true e)
    · exact Or.inr ⟨decide_eq_false (by omega), decide_eq_true (by omega), by omega⟩
  clear hk hn hi hv hp
  go_enter Try.func56, Try.ntmps56
  go_wp2_with fail
  have hb1 : Below w.heap.size w ((w.alloc (.cells #[.int .i64 ck, .int .i64 nx, .int .i64 wt, .slice A ts.length m] 28)).alloc (.cells #[.int .i64 0, .int .i64 0, .int .i64 0, .slice none 0 0] 28)) := ((Below.refl _ _).alloc (by first | omega | (simp; done) | (simp; omega)) _).alloc (by first | omega | (simp; done) | (simp; omega)) _
  have hal1 : Below w.heap.size w ((w.alloc (.cells #[.int .i64 ck, .int .i64 nx, .int .i64 wt, .slice A ts.length m] 28)).alloc (.cells #[.int .i64 0, .int .i64 0, .int .i64 0, .slice none 0 0] 28)) := ((Below.refl _ _).alloc (by first | omega | (simp; done) | (simp; omega)) _).alloc (by first | omega | (simp; done) | (simp; omega)) _
  have b_bx1 : Blk ((w.alloc (.cells #[.int .i64 ck, .int .i64 nx, .int .i64 wt, .slice A ts.length m] 28)).alloc (.cells #[.int .i64 0, .int .i64 0, .int .i64 0, .slice none 0 0] 28)) (w.heap.size) 28 #[.int .i64 ck, .int .i64 nx, .int .i64 wt, .slice A ts.length m] := (Blk.new_ _ 28 #[.int .i64 ck, .int .i64 nx, .int .i64 wt, .slice A ts.length m] (by first | rfl | (simp; done) | (simp; omega))).alloc _
  have b_bz1 : Blk ((w.alloc (.cells #[.int .i64 ck, .int .i64 nx, .int .i64 wt, .slice A ts.length m] 28)).alloc (.cells #[.int .i64 0, .int .i64 0, .int .i64 0, .slice none 0 0] 28)) (w.heap.size + 1) 28 #[.int .i64 0, .int .i64 0, .int .i64 0, .slice none 0 0] := Blk.new_ _ 28 #[.int .i64 0, .int .i64 0, .int .i64 0, .slice none 0 0] (by first | rfl | (simp; done) | (simp; omega))
  have hz1 : w.heap.size + 2 ≤ ((w.alloc (.cells #[.int .i64 ck, .int .i64 nx, .int .i64 wt, .slice A ts.length m] 28)).alloc (.cells #[.int .i64 0, .int .i64 0, .int .i64 0, .slice none 0 0] 28)).heap.size := by first | omega | (simp; done) | (simp; omega)
  generalize (w.alloc (.cells #[.int .i64 ck, .int .i64 nx, .int .i64 wt, .slice A ts.length m] 28)).alloc (.cells #[.int .i64 0, .int .i64 0, .int .i64 0, .slice none 0 0] 28) = W1 at *
  have HB1 := Lib.hid hb1
  have B1_bx := Lib.hid b_bx1
  have B1_bz := Lib.hid b_bz1
  clear hb1 b_bx1 b_bz1
  refine (known_good _ ⟨ck, nx, wt, ts⟩ s ver i HK.out HN.out HI.out hl HV.out _ (H.out.below hal1)).mono ?_
  rintro e W2 ⟨tv5, rows, rfl, hown, hb⟩
  obtain ⟨A5, c5, rfl, hc5⟩ := (Sl.of_own hown.own).form
  simp only at *
  unfold coordV
  simp only
  have hb2 : Below w.heap.size w W2 := below_then HB1.out hb
  have b_bx2 := B1_bx.out.below hb B1_bx.out.lt
  have b_bz2 := B1_bz.out.below hb B1_bz.out.lt
  have hz2 := hb.size
  have HB2 := Lib.hid hb2
  have B2_bx := Lib.hid b_bx2
  have B2_bz := Lib.hid b_bz2
  clear hb2 b_bx2 b_bz2
  clear B1_bx B1_bz HB1
  have ho := hown.rebase (w0 := w) rfl (Nat.le_refl _) HB2.out
  obtain ⟨gg, c6, hv6, hg1, hg2, hc6, -⟩ := ho.at_ (Nat.lt_of_le_of_lt (Nat.zero_le i) hl)
  injection hv6 with hv7 hv8 hv9
  subst hv7
  clear hv8 hv9 hc6 hc5
  have HO := Lib.hid ho
  clear ho hown
  have c_bx0 := B2_bx.out.cell 0
  have f_bx0 := B2_bx.out.frozen 0
  have c_bx1 := B2_bx.out.cell 1
  have f_bx1 := B2_bx.out.frozen 1
  have c_bx2 := B2_bx.out.cell 2
  have f_bx2 := B2_bx.out.frozen 2
  have c_bx3 := B2_bx.out.cell 3
  have f_bx3 := B2_bx.out.frozen 3
  have l_bx := B2_bx.out.lt
  go_upto_region 2 with fail
  clear c_bx0 f_bx0 c_bx1 f_bx1 c_bx2 f_bx2 c_bx3 f_bx3 l_bx
  have hsz3 := HB2.out.size
  have hb3 : Below w.heap.size w ((((W2.setCell ⟨w.heap.size, 0, none⟩ (.int .i64 ck)).setCell ⟨w.heap.size, 1, none⟩ (.int .i64 nx)).setCell ⟨w.heap.size, 2, none⟩ (.int .i64 wt)).setCell ⟨w.heap.size, 3, none⟩ (.slice (some ⟨gg, 0, none⟩) ts.length c5)) := ((((HB2.out).setCell (by show w.heap.size ≤ w.heap.size; omega) _).setCell (by show w.heap.size ≤ w.heap.size; omega) _).setCell (by show w.heap.size ≤ w.heap.size; omega) _).setCell (by show w.heap.size ≤ w.heap.size; omega) _
  have b_bx3 : Blk ((((W2.setCell ⟨w.heap.size, 0, none⟩ (.int .i64 ck)).setCell ⟨w.heap.size, 1, none⟩ (.int .i64 nx)).setCell ⟨w.heap.size, 2, none⟩ (.int .i64 wt)).setCell ⟨w.heap.size, 3, none⟩ (.slice (some ⟨gg, 0, none⟩) ts.length c5)) (w.heap.size) 28 #[.int .i64 ck, .int .i64 nx, .int .i64 wt, .slice (some ⟨gg, 0, none⟩) ts.length c5] := ((((B2_bx.out).set_ 0 _).set_ 1 _).set_ 2 _).set_ 3 _
  have b_bz3 : Blk ((((W2.setCell ⟨w.heap.size, 0, none⟩ (.int .i64 ck)).setCell ⟨w.heap.size, 1, none⟩ (.int .i64 nx)).setCell ⟨w.heap.size, 2, none⟩ (.int .i64 wt)).setCell ⟨w.heap.size, 3, none⟩ (.slice (some ⟨gg, 0, none⟩) ts.length c5)) (w.heap.size + 1) 28 #[.int .i64 0, .int .i64 0, .int .i64 0, .slice none 0 0] := ((((B2_bz.out).far (p := ⟨w.heap.size, 0, none⟩) (by show w.heap.size + 1 ≠ w.heap.size; omega) _).far (p := ⟨w.heap.size, 1, none⟩) (by show w.heap.size + 1 ≠ w.heap.size; omega) _).far (p := ⟨w.heap.size, 2, none⟩) (by show w.heap.size + 1 ≠ w.heap.size; omega) _).far (p := ⟨w.heap.size, 3, none⟩) (by show w.heap.size + 1 ≠ w.heap.size; omega) _
  have k_own3 := ((((HO.out).under (a := ⟨w.heap.size, 0, none⟩) (by constructor <;> (try dsimp only) <;> omega) (.int .i64 ck)).under (a := ⟨w.heap.size, 1, none⟩) (by constructor <;> (try dsimp only) <;> omega) (.int .i64 nx)).under (a := ⟨w.heap.size, 2, none⟩) (by constructor <;> (try dsimp only) <;> omega) (.int .i64 wt)).under (a := ⟨w.heap.size, 3, none⟩) (by constructor <;> (try dsimp only) <;> omega) (.slice (some ⟨gg, 0, none⟩) ts.length c5)
  have hz3 : W2.heap.size + 0 ≤ ((((W2.setCell ⟨w.heap.size, 0, none⟩ (.int .i64 ck)).setCell ⟨w.heap.size, 1, none⟩ (.int .i64 nx)).setCell ⟨w.heap.size, 2, none⟩ (.int .i64 wt)).setCell ⟨w.heap.size, 3, none⟩ (.slice (some ⟨gg, 0, none⟩) ts.length c5)).heap.size := by first | omega | (simp; done) | (simp; omega)
  generalize (((W2.setCell ⟨w.heap.size, 0, none⟩ (.int .i64 ck)).setCell ⟨w.heap.size, 1, none⟩ (.int .i64 nx)).setCell ⟨w.heap.size, 2, none⟩ (.int .i64 wt)).setCell ⟨w.heap.size, 3, none⟩ (.slice (some ⟨gg, 0, none⟩) ts.length c5) = W3 at *
  have HB3 := Lib.hid hb3
  have B3_bx := Lib.hid b_bx3
  have B3_bz := Lib.hid b_bz3
  have K3_own := Lib.hid k_own3
  clear hb3 b_bx3 b_bz3 k_own3
  clear B2_bx B2_bz HB2 HO
  rcases q0 with q0 | ⟨q0, q1, q2⟩
  all_goals
    have c_bx0 := B3_bx.out.cell 0
    have f_bx0 := B3_bx.out.frozen 0
    have c_bx1 := B3_bx.out.cell 1
    have f_bx1 := B3_bx.out.frozen 1
    have c_bx2 := B3_bx.out.cell 2
    have f_bx2 := B3_bx.out.frozen 2
    have c_bx3 := B3_bx.out.cell 3
    have f_bx3 := B3_bx.out.frozen 3
    have l_bx := B3_bx.out.lt
    have c_bz0 := B3_bz.out.cell 0
    have f_bz0 := B3_bz.out.frozen 0
    have c_bz1 := B3_bz.out.cell 1
    have f_bz1 := B3_bz.out.frozen 1
    have c_bz2 := B3_bz.out.cell 2
    have f_bz2 := B3_bz.out.frozen 2
    have c_bz3 := B3_bz.out.cell 3
    have f_bz3 := B3_bz.out.frozen 3
    have l_bz := B3_bz.out.lt
    go_wp2_with fail
    clear c_bx0 f_bx0 c_bx1 f_bx1 c_bx2 f_bx2 c_bx3 f_bx3 l_bx c_bz0 f_bz0 c_bz1 f_bz1 c_bz2 f_bz2 c_bz3 f_bz3 l_bz
    have hszF := HB3.out.size
    have hbF : Below w.heap.size w ((((W3.setCell ⟨w.heap.size + 1, 0, none⟩ (.int .i64 0)).setCell ⟨w.heap.size + 1, 1, none⟩ (.int .i64 0)).setCell ⟨w.heap.size + 1, 2, none⟩ (.int .i64 0)).setCell ⟨w.heap.size + 1, 3, none⟩ (.slice none 0 0)) := ((((HB3.out).setCell (by show w.heap.size ≤ w.heap.size + 1; omega) _).setCell (by show w.heap.size ≤ w.heap.size + 1; omega) _).setCell (by show w.heap.size ≤ w.heap.size + 1; omega) _).setCell (by show w.heap.size ≤ w.heap.size + 1; omega) _
    have b_bxF : Blk ((((W3.setCell ⟨w.heap.size + 1, 0, none⟩ (.int .i64 0)).setCell ⟨w.heap.size + 1, 1, none⟩ (.int .i64 0)).setCell ⟨w.heap.size + 1, 2, none⟩ (.int .i64 0)).setCell ⟨w.heap.size + 1, 3, none⟩ (.slice none 0 0)) (w.heap.size) 28 #[.int .i64 ck, .int .i64 nx, .int .i64 wt, .slice (some ⟨gg, 0, none⟩) ts.length c5] := ((((B3_bx.out).far (p := ⟨w.heap.size + 1, 0, none⟩) (by show w.heap.size ≠ w.heap.size + 1; omega) _).far (p := ⟨w.heap.size + 1, 1, none⟩) (by show w.heap.size ≠ w.heap.size + 1; omega) _).far (p := ⟨w.heap.size + 1, 2, none⟩) (by show w.heap.size ≠ w.heap.size + 1; omega) _).far (p := ⟨w.heap.size + 1, 3, none⟩) (by show w.heap.size ≠ w.heap.size + 1; omega) _
    have b_bzF : Blk ((((W3.setCell ⟨w.heap.size + 1, 0, none⟩ (.int .i64 0)).setCell ⟨w.heap.size + 1, 1, none⟩ (.int .i64 0)).setCell ⟨w.heap.size + 1, 2, none⟩ (.int .i64 0)).setCell ⟨w.heap.size + 1, 3, none⟩ (.slice none 0 0)) (w.heap.size + 1) 28 #[.int .i64 0, .int .i64 0, .int .i64 0, .slice none 0 0] := ((((B3_bz.out).set_ 0 _).set_ 1 _).set_ 2 _).set_ 3 _
    have y0 := b_bzF.cell 0
    have y1 := b_bzF.cell 1
    have y2 := b_bzF.cell 2
    have y3 := b_bzF.cell 3
    refine bodyPost_ret (v := .tuple #[.agg #[.int .i64 0, .int .i64 0, .int .i64 0, .slice none 0 0], .int .i64 (2)]) ?_ ?_ (CRes.zero hbF)
    · simp [results, Try.results56, go_sem, y0, y1, y2, y3]
    · rfl
set_option maxRecDepth 100000 in
set_option maxHeartbeats 4000000 in
theorem add_state (v : Value) (c : CoordD) (s : ByteArray) (ver part : Int) (i : Nat) (hk : CoordOk c) (hn : NameOk s) (hi : idxOf c.txns s = some i) (hl : i < c.txns.length) (hv : c.txns[i].ver = ver) (h0 : 0 ≤ part) (h3 : part ≤ 3) (st : Int) (hst : c.txns[i].state = st) (h34 : st = 3 ∨ st = 4) (w : World) (h : Cv w v c) :
    Calls Try.prog 56 #[v, .string s, .int .i64 ver, .int .i64 part] w (CRes zeroC [.int .i64 (12)] w) := by
  obtain ⟨tv, rfl, hx, hlen⟩ := id h
  obtain ⟨A, m, rfl, -⟩ := hx.at_
  have H := Lib.hid h
  have HX := Lib.hid hx
  clear h hx
  unfold coordV at *
  obtain ⟨ck, nx, wt, ts⟩ := c
  simp only at *
  have HK := Lib.hid hk
  have HN := Lib.hid hn
  have HI := Lib.hid hi
  have HV := Lib.hid hv
  have i0 : (0 : Int) ≤ (i : Int) := by omega
  have i1 : (i : Int) < (ts.length : Int) := Int.ofNat_lt.2 hl
  have i2 : decide ((i : Int) < 0) = false := decide_eq_false (by omega)
  have q0 : decide (part < 0) = false := decide_eq_false (by omega)
  have q1 : decide (4 ≤ part) = false := decide_eq_false (by omega)
  have q2 : ¬ (4 ≤ part) := by omega
  have HST := Lib.hid hst
  have s1 : (st == 1) = false := by rcases h34 with rfl | rfl <;> rfl
  have s2 : (st == 2) = false := by rcases h34 with rfl | rfl <;> rfl
  clear hk hn hi hv hst h34
  go_enter Try.func56, Try.ntmps56
  go_wp2_with fail
  have hb1 : Below w.heap.size w ((w.alloc (.cells #[.int .i64 ck, .int .i64 nx, .int .i64 wt, .slice A ts.length m] 28)).alloc (.cells #[.int .i64 0, .int .i64 0, .int .i64 0, .slice none 0 0] 28)) := ((Below.refl _ _).alloc (by first | omega | (simp; done) | (simp; omega)) _).alloc (by first | omega | (simp; done) | (simp; omega)) _
  have hal1 : Below w.heap.size w ((w.alloc (.cells #[.int .i64 ck, .int .i64 nx, .int .i64 wt, .slice A ts.length m] 28)).alloc (.cells #[.int .i64 0, .int .i64 0, .int .i64 0, .slice none 0 0] 28)) := ((Below.refl _ _).alloc (by first | omega | (simp; done) | (simp; omega)) _).alloc (by first | omega | (simp; done) | (simp; omega)) _
  have b_bx1 : Blk ((w.alloc (.cells #[.int .i64 ck, .int .i64 nx, .int .i64 wt, .slice A ts.length m] 28)).alloc (.cells #[.int .i64 0, .int .i64 0, .int .i64 0, .slice none 0 0] 28)) (w.heap.size) 28 #[.int .i64 ck, .int .i64 nx, .int .i64 wt, .slice A ts.length m] := (Blk.new_ _ 28 #[.int .i64 ck, .int .i64 nx, .int .i64 wt, .slice A ts.length m] (by first | rfl | (simp; done) | (simp; omega))).alloc _
  have b_bz1 : Blk ((w.alloc (.cells #[.int .i64 ck, .int .i64 nx, .int .i64 wt, .slice A ts.length m] 28)).alloc (.cells #[.int .i64 0, .int .i64 0, .int .i64 0, .slice none 0 0] 28)) (w.heap.size + 1) 28 #[.int .i64 0, .int .i64 0, .int .i64 0, .slice none 0 0] := Blk.new_ _ 28 #[.int .i64 0, .int .i64 0, .int .i64 0, .slice none 0 0] (by first | rfl | (simp; done) | (simp; omega))
  have hz1 : w.heap.size + 2 ≤ ((w.alloc (.cells #[.int .i64 ck, .int .i64 nx, .int .i64 wt, .slice A ts.length m] 28)).alloc (.cells #[.int .i64 0, .int .i64 0, .int .i64 0, .slice none 0 0] 28)).heap.size := by first | omega | (simp; done) | (simp; omega)
  generalize (w.alloc (.cells #[.int .i64 ck, .int .i64 nx, .int .i64 wt, .slice A ts.length m] 28)).alloc (.cells #[.int .i64 0, .int .i64 0, .int .i64 0, .slice none 0 0] 28) = W1 at *
  have HB1 := Lib.hid hb1
  have B1_bx := Lib.hid b_bx1
  have B1_bz := Lib.hid b_bz1
  clear hb1 b_bx1 b_bz1
  refine (known_good _ ⟨ck, nx, wt, ts⟩ s ver i HK.out HN.out HI.out hl HV.out _ (H.out.below hal1)).mono ?_
  rintro e W2 ⟨tv5, rows, rfl, hown, hb⟩
  obtain ⟨A5, c5, rfl, hc5⟩ := (Sl.of_own hown.own).form
  simp only at *
  unfold coordV
  simp only
  have hb2 : Below w.heap.size w W2 := below_then HB1.out hb
  have b_bx2 := B1_bx.out.below hb B1_bx.out.lt
  have b_bz2 := B1_bz.out.below hb B1_bz.out.lt
  have hz2 := hb.size
  have HB2 := Lib.hid hb2
  have B2_bx := Lib.hid b_bx2
  have B2_bz := Lib.hid b_bz2
  clear hb2 b_bx2 b_bz2
  clear B1_bx B1_bz HB1
  have ho := hown.rebase (w0 := w) rfl (Nat.le_refl _) HB2.out
  obtain ⟨gg, c6, hv6, hg1, hg2, hc6, -⟩ := ho.at_ (Nat.lt_of_le_of_lt (Nat.zero_le i) hl)
  injection hv6 with hv7 hv8 hv9
  subst hv7
  clear hv8 hv9 hc6 hc5
  have HO := Lib.hid ho
  clear ho hown
  have c_bx0 := B2_bx.out.cell 0
  have f_bx0 := B2_bx.out.frozen 0
  have c_bx1 := B2_bx.out.cell 1
  have f_bx1 := B2_bx.out.frozen 1
  have c_bx2 := B2_bx.out.cell 2
  have f_bx2 := B2_bx.out.frozen 2
  have c_bx3 := B2_bx.out.cell 3
  have f_bx3 := B2_bx.out.frozen 3
  have l_bx := B2_bx.out.lt
  go_upto_region 2 with fail
  clear c_bx0 f_bx0 c_bx1 f_bx1 c_bx2 f_bx2 c_bx3 f_bx3 l_bx
  have hsz3 := HB2.out.size
  have hb3 : Below w.heap.size w ((((W2.setCell ⟨w.heap.size, 0, none⟩ (.int .i64 ck)).setCell ⟨w.heap.size, 1, none⟩ (.int .i64 nx)).setCell ⟨w.heap.size, 2, none⟩ (.int .i64 wt)).setCell ⟨w.heap.size, 3, none⟩ (.slice (some ⟨gg, 0, none⟩) ts.length c5)) := ((((HB2.out).setCell (by show w.heap.size ≤ w.heap.size; omega) _).setCell (by show w.heap.size ≤ w.heap.size; omega) _).setCell (by show w.heap.size ≤ w.heap.size; omega) _).setCell (by show w.heap.size ≤ w.heap.size; omega) _
  have b_bx3 : Blk ((((W2.setCell ⟨w.heap.size, 0, none⟩ (.int .i64 ck)).setCell ⟨w.heap.size, 1, none⟩ (.int .i64 nx)).setCell ⟨w.heap.size, 2, none⟩ (.int .i64 wt)).setCell ⟨w.heap.size, 3, none⟩ (.slice (some ⟨gg, 0, none⟩) ts.length c5)) (w.heap.size) 28 #[.int .i64 ck, .int .i64 nx, .int .i64 wt, .slice (some ⟨gg, 0, none⟩) ts.length c5] := ((((B2_bx.out).set_ 0 _).set_ 1 _).set_ 2 _).set_ 3 _
  have b_bz3 : Blk ((((W2.setCell ⟨w.heap.size, 0, none⟩ (.int .i64 ck)).setCell ⟨w.heap.size, 1, none⟩ (.int .i64 nx)).setCell ⟨w.heap.size, 2, none⟩ (.int .i64 wt)).setCell ⟨w.heap.size, 3, none⟩ (.slice (some ⟨gg, 0, none⟩) ts.length c5)) (w.heap.size + 1) 28 #[.int .i64 0, .int .i64 0, .int .i64 0, .slice none 0 0] := ((((B2_bz.out).far (p := ⟨w.heap.size, 0, none⟩) (by show w.heap.size + 1 ≠ w.heap.size; omega) _).far (p := ⟨w.heap.size, 1, none⟩) (by show w.heap.size + 1 ≠ w.heap.size; omega) _).far (p := ⟨w.heap.size, 2, none⟩) (by show w.heap.size + 1 ≠ w.heap.size; omega) _).far (p := ⟨w.heap.size, 3, none⟩) (by show w.heap.size + 1 ≠ w.heap.size; omega) _
  have k_own3 := ((((HO.out).under (a := ⟨w.heap.size, 0, none⟩) (by constructor <;> (try dsimp only) <;> omega) (.int .i64 ck)).under (a := ⟨w.heap.size, 1, none⟩) (by constructor <;> (try dsimp only) <;> omega) (.int .i64 nx)).under (a := ⟨w.heap.size, 2, none⟩) (by constructor <;> (try dsimp only) <;> omega) (.int .i64 wt)).under (a := ⟨w.heap.size, 3, none⟩) (by constructor <;> (try dsimp only) <;> omega) (.slice (some ⟨gg, 0, none⟩) ts.length c5)
  have hz3 : W2.heap.size + 0 ≤ ((((W2.setCell ⟨w.heap.size, 0, none⟩ (.int .i64 ck)).setCell ⟨w.heap.size, 1, none⟩ (.int .i64 nx)).setCell ⟨w.heap.size, 2, none⟩ (.int .i64 wt)).setCell ⟨w.heap.size, 3, none⟩ (.slice (some ⟨gg, 0, none⟩) ts.length c5)).heap.size := by first | omega | (simp; done) | (simp; omega)
  generalize (((W2.setCell ⟨w.heap.size, 0, none⟩ (.int .i64 ck)).setCell ⟨w.heap.size, 1, none⟩ (.int .i64 nx)).setCell ⟨w.heap.size, 2, none⟩ (.int .i64 wt)).setCell ⟨w.heap.size, 3, none⟩ (.slice (some ⟨gg, 0, none⟩) ts.length c5) = W3 at *
  have HB3 := Lib.hid hb3
  have B3_bx := Lib.hid b_bx3
  have B3_bz := Lib.hid b_bz3
  have K3_own := Lib.hid k_own3
  clear hb3 b_bx3 b_bz3 k_own3
  clear B2_bx B2_bz HB2 HO
  have c_bx0 := B3_bx.out.cell 0
  have f_bx0 := B3_bx.out.frozen 0
  have c_bx1 := B3_bx.out.cell 1
  have f_bx1 := B3_bx.out.frozen 1
  have c_bx2 := B3_bx.out.cell 2
  have f_bx2 := B3_bx.out.frozen 2
  have c_bx3 := B3_bx.out.cell 3
  have f_bx3 := B3_bx.out.frozen 3
  have l_bx := B3_bx.out.lt
  have c_bz0 := B3_bz.out.cell 0
  have f_bz0 := B3_bz.out.frozen 0
  have c_bz1 := B3_bz.out.cell 1
  have f_bz1 := B3_bz.out.frozen 1
  have c_bz2 := B3_bz.out.cell 2
  have f_bz2 := B3_bz.out.frozen 2
  have c_bz3 := B3_bz.out.cell 3
  have f_bz3 := B3_bz.out.frozen 3
  have l_bz := B3_bz.out.lt
  obtain ⟨hg1, hg2, A3, m3, ⟨r0, r1, r2, r3, r4, r5, r6⟩, hrf, -⟩ := K3_own.out.row rfl i hl
  rw [HST.out] at r3
  have rf3 := hrf 3 (by decide)
  have rf4 := hrf 4 (by decide)
  have rf5 := hrf 5 (by decide)
  have rf6 := hrf 6 (by decide)
  clear hrf
  go_wp2_with fail
  clear c_bx0 f_bx0 c_bx1 f_bx1 c_bx2 f_bx2 c_bx3 f_bx3 l_bx c_bz0 f_bz0 c_bz1 f_bz1 c_bz2 f_bz2 c_bz3 f_bz3 l_bz r0 r1 r2 r3 r4 r5 r6 rf3 rf4 rf5 rf6 hg1 hg2
  have hszF := HB3.out.size
  have hbF : Below w.heap.size w ((((W3.setCell ⟨w.heap.size + 1, 0, none⟩ (.int .i64 0)).setCell ⟨w.heap.size + 1, 1, none⟩ (.int .i64 0)).setCell ⟨w.heap.size + 1, 2, none⟩ (.int .i64 0)).setCell ⟨w.heap.size + 1, 3, none⟩ (.slice none 0 0)) := ((((HB3.out).setCell (by show w.heap.size ≤ w.heap.size + 1; omega) _).setCell (by show w.heap.size ≤ w.heap.size + 1; omega) _).setCell (by show w.heap.size ≤ w.heap.size + 1; omega) _).setCell (by show w.heap.size ≤ w.heap.size + 1; omega) _
  have b_bxF : Blk ((((W3.setCell ⟨w.heap.size + 1, 0, none⟩ (.int .i64 0)).setCell ⟨w.heap.size + 1, 1, none⟩ (.int .i64 0)).setCell ⟨w.heap.size + 1, 2, none⟩ (.int .i64 0)).setCell ⟨w.heap.size + 1, 3, none⟩ (.slice none 0 0)) (w.heap.size) 28 #[.int .i64 ck, .int .i64 nx, .int .i64 wt, .slice (some ⟨gg, 0, none⟩) ts.length c5] := ((((B3_bx.out).far (p := ⟨w.heap.size + 1, 0, none⟩) (by show w.heap.size ≠ w.heap.size + 1; omega) _).far (p := ⟨w.heap.size + 1, 1, none⟩) (by show w.heap.size ≠ w.heap.size + 1; omega) _).far (p := ⟨w.heap.size + 1, 2, none⟩) (by show w.heap.size ≠ w.heap.size + 1; omega) _).far (p := ⟨w.heap.size + 1, 3, none⟩) (by show w.heap.size ≠ w.heap.size + 1; omega) _
  have b_bzF : Blk ((((W3.setCell ⟨w.heap.size + 1, 0, none⟩ (.int .i64 0)).setCell ⟨w.heap.size + 1, 1, none⟩ (.int .i64 0)).setCell ⟨w.heap.size + 1, 2, none⟩ (.int .i64 0)).setCell ⟨w.heap.size + 1, 3, none⟩ (.slice none 0 0)) (w.heap.size + 1) 28 #[.int .i64 0, .int .i64 0, .int .i64 0, .slice none 0 0] := ((((B3_bz.out).set_ 0 _).set_ 1 _).set_ 2 _).set_ 3 _
  have y0 := b_bzF.cell 0
  have y1 := b_bzF.cell 1
  have y2 := b_bzF.cell 2
  have y3 := b_bzF.cell 3
  exact bodyPost_ret (v := .tuple #[.agg #[.int .i64 0, .int .i64 0, .int .i64 0, .slice none 0 0], .int .i64 (12)]) (by simp [results, Try.results56, go_sem, y0, y1, y2, y3]) rfl (CRes.zero hbF)
set_option maxRecDepth 100000 in
set_option maxHeartbeats 4000000 in
theorem add_1t (v : Value) (c : CoordD) (s : ByteArray) (ver part : Int) (i : Nat) (hk : CoordOk c) (hn : NameOk s) (hi : idxOf c.txns s = some i) (hl : i < c.txns.length) (hv : c.txns[i].ver = ver) (h0 : 0 ≤ part) (h3 : part ≤ 3) (hst : c.txns[i].state = 1) (hc : c.txns[i].parts.contains part = true) (w : World) (h : Cv w v c) :
    Calls Try.prog 56 #[v, .string s, .int .i64 ver, .int .i64 part] w (CRes (c.upd i (openT part c.clock)) [.int .i64 (0)] w) := by
  obtain ⟨tv, rfl, hx, hlen⟩ := id h
  obtain ⟨A, m, rfl, -⟩ := hx.at_
  have H := Lib.hid h
  have HX := Lib.hid hx
  clear h hx
  unfold coordV at *
  obtain ⟨ck, nx, wt, ts⟩ := c
  simp only at *
  have HK := Lib.hid hk
  have HN := Lib.hid hn
  have HI := Lib.hid hi
  have HV := Lib.hid hv
  have i0 : (0 : Int) ≤ (i : Int) := by omega
  have i1 : (i : Int) < (ts.length : Int) := Int.ofNat_lt.2 hl
  have i2 : decide ((i : Int) < 0) = false := decide_eq_false (by omega)
  have q0 : decide (part < 0) = false := decide_eq_false (by omega)
  have q1 : decide (4 ≤ part) = false := decide_eq_false (by omega)
  have q2 : ¬ (4 ≤ part) := by omega
  have HST := Lib.hid hst
  have HC := Lib.hid hc
  have hri := (hk.all i hl hl).1.rises
  have HSO := Lib.hid hri.sorted
  have HSM4 := Lib.hid (show ts[i].parts.length ≤ 4 from hri.small)
  have HSM := Lib.hid (show ts[i].parts.length < 4611686018427387904 by have := HSM4.out; omega)
  have ku : under ts[i].parts part ≤ ts[i].parts.length := under_le _ _
  have HKU := Lib.hid ku
  clear hk hn hi hv hst hc hri ku
  go_enter Try.func56, Try.ntmps56
  go_wp2_with fail
  have hb1 : Below w.heap.size w ((w.alloc (.cells #[.int .i64 ck, .int .i64 nx, .int .i64 wt, .slice A ts.length m] 28)).alloc (.cells #[.int .i64 0, .int .i64 0, .int .i64 0, .slice none 0 0] 28)) := ((Below.refl _ _).alloc (by first | omega | (simp; done) | (simp; omega)) _).alloc (by first | omega | (simp; done) | (simp; omega)) _
  have hal1 : Below w.heap.size w ((w.alloc (.cells #[.int .i64 ck, .int .i64 nx, .int .i64 wt, .slice A ts.length m] 28)).alloc (.cells #[.int .i64 0, .int .i64 0, .int .i64 0, .slice none 0 0] 28)) := ((Below.refl _ _).alloc (by first | omega | (simp; done) | (simp; omega)) _).alloc (by first | omega | (simp; done) | (simp; omega)) _
  have b_bx1 : Blk ((w.alloc (.cells #[.int .i64 ck, .int .i64 nx, .int .i64 wt, .slice A ts.length m] 28)).alloc (.cells #[.int .i64 0, .int .i64 0, .int .i64 0, .slice none 0 0] 28)) (w.heap.size) 28 #[.int .i64 ck, .int .i64 nx, .int .i64 wt, .slice A ts.length m] := (Blk.new_ _ 28 #[.int .i64 ck, .int .i64 nx, .int .i64 wt, .slice A ts.length m] (by first | rfl | (simp; done) | (simp; omega))).alloc _
  have b_bz1 : Blk ((w.alloc (.cells #[.int .i64 ck, .int .i64 nx, .int .i64 wt, .slice A ts.length m] 28)).alloc (.cells #[.int .i64 0, .int .i64 0, .int .i64 0, .slice none 0 0] 28)) (w.heap.size + 1) 28 #[.int .i64 0, .int .i64 0, .int .i64 0, .slice none 0 0] := Blk.new_ _ 28 #[.int .i64 0, .int .i64 0, .int .i64 0, .slice none 0 0] (by first | rfl | (simp; done) | (simp; omega))
  have hz1 : w.heap.size + 2 ≤ ((w.alloc (.cells #[.int .i64 ck, .int .i64 nx, .int .i64 wt, .slice A ts.length m] 28)).alloc (.cells #[.int .i64 0, .int .i64 0, .int .i64 0, .slice none 0 0] 28)).heap.size := by first | omega | (simp; done) | (simp; omega)
  generalize (w.alloc (.cells #[.int .i64 ck, .int .i64 nx, .int .i64 wt, .slice A ts.length m] 28)).alloc (.cells #[.int .i64 0, .int .i64 0, .int .i64 0, .slice none 0 0] 28) = W1 at *
  have HB1 := Lib.hid hb1
  have B1_bx := Lib.hid b_bx1
  have B1_bz := Lib.hid b_bz1
  clear hb1 b_bx1 b_bz1
  refine (known_good _ ⟨ck, nx, wt, ts⟩ s ver i HK.out HN.out HI.out hl HV.out _ (H.out.below hal1)).mono ?_
  rintro e W2 ⟨tv5, rows, rfl, hown, hb⟩
  obtain ⟨A5, c5, rfl, hc5⟩ := (Sl.of_own hown.own).form
  simp only at *
  unfold coordV
  simp only
  have hb2 : Below w.heap.size w W2 := below_then HB1.out hb
  have b_bx2 := B1_bx.out.below hb B1_bx.out.lt
  have b_bz2 := B1_bz.out.below hb B1_bz.out.lt
  have hz2 := hb.size
  have HB2 := Lib.hid hb2
  have B2_bx := Lib.hid b_bx2
  have B2_bz := Lib.hid b_bz2
  clear hb2 b_bx2 b_bz2
  clear B1_bx B1_bz HB1
  have ho := hown.rebase (w0 := w) rfl (Nat.le_refl _) HB2.out
  obtain ⟨gg, c6, hv6, hg1, hg2, hc6, -⟩ := ho.at_ (Nat.lt_of_le_of_lt (Nat.zero_le i) hl)
  injection hv6 with hv7 hv8 hv9
  subst hv7
  clear hv8 hv9 hc6 hc5
  have HO := Lib.hid ho
  clear ho hown
  have c_bx0 := B2_bx.out.cell 0
  have f_bx0 := B2_bx.out.frozen 0
  have c_bx1 := B2_bx.out.cell 1
  have f_bx1 := B2_bx.out.frozen 1
  have c_bx2 := B2_bx.out.cell 2
  have f_bx2 := B2_bx.out.frozen 2
  have c_bx3 := B2_bx.out.cell 3
  have f_bx3 := B2_bx.out.frozen 3
  have l_bx := B2_bx.out.lt
  go_upto_region 2 with fail
  clear c_bx0 f_bx0 c_bx1 f_bx1 c_bx2 f_bx2 c_bx3 f_bx3 l_bx
  have hsz3 := HB2.out.size
  have hb3 : Below w.heap.size w ((((W2.setCell ⟨w.heap.size, 0, none⟩ (.int .i64 ck)).setCell ⟨w.heap.size, 1, none⟩ (.int .i64 nx)).setCell ⟨w.heap.size, 2, none⟩ (.int .i64 wt)).setCell ⟨w.heap.size, 3, none⟩ (.slice (some ⟨gg, 0, none⟩) ts.length c5)) := ((((HB2.out).setCell (by show w.heap.size ≤ w.heap.size; omega) _).setCell (by show w.heap.size ≤ w.heap.size; omega) _).setCell (by show w.heap.size ≤ w.heap.size; omega) _).setCell (by show w.heap.size ≤ w.heap.size; omega) _
  have b_bx3 : Blk ((((W2.setCell ⟨w.heap.size, 0, none⟩ (.int .i64 ck)).setCell ⟨w.heap.size, 1, none⟩ (.int .i64 nx)).setCell ⟨w.heap.size, 2, none⟩ (.int .i64 wt)).setCell ⟨w.heap.size, 3, none⟩ (.slice (some ⟨gg, 0, none⟩) ts.length c5)) (w.heap.size) 28 #[.int .i64 ck, .int .i64 nx, .int .i64 wt, .slice (some ⟨gg, 0, none⟩) ts.length c5] := ((((B2_bx.out).set_ 0 _).set_ 1 _).set_ 2 _).set_ 3 _
  have b_bz3 : Blk ((((W2.setCell ⟨w.heap.size, 0, none⟩ (.int .i64 ck)).setCell ⟨w.heap.size, 1, none⟩ (.int .i64 nx)).setCell ⟨w.heap.size, 2, none⟩ (.int .i64 wt)).setCell ⟨w.heap.size, 3, none⟩ (.slice (some ⟨gg, 0, none⟩) ts.length c5)) (w.heap.size + 1) 28 #[.int .i64 0, .int .i64 0, .int .i64 0, .slice none 0 0] := ((((B2_bz.out).far (p := ⟨w.heap.size, 0, none⟩) (by show w.heap.size + 1 ≠ w.heap.size; omega) _).far (p := ⟨w.heap.size, 1, none⟩) (by show w.heap.size + 1 ≠ w.heap.size; omega) _).far (p := ⟨w.heap.size, 2, none⟩) (by show w.heap.size + 1 ≠ w.heap.size; omega) _).far (p := ⟨w.heap.size, 3, none⟩) (by show w.heap.size + 1 ≠ w.heap.size; omega) _
  have k_own3 := ((((HO.out).under (a := ⟨w.heap.size, 0, none⟩) (by constructor <;> (try dsimp only) <;> omega) (.int .i64 ck)).under (a := ⟨w.heap.size, 1, none⟩) (by constructor <;> (try dsimp only) <;> omega) (.int .i64 nx)).under (a := ⟨w.heap.size, 2, none⟩) (by constructor <;> (try dsimp only) <;> omega) (.int .i64 wt)).under (a := ⟨w.heap.size, 3, none⟩) (by constructor <;> (try dsimp only) <;> omega) (.slice (some ⟨gg, 0, none⟩) ts.length c5)
  have hz3 : W2.heap.size + 0 ≤ ((((W2.setCell ⟨w.heap.size, 0, none⟩ (.int .i64 ck)).setCell ⟨w.heap.size, 1, none⟩ (.int .i64 nx)).setCell ⟨w.heap.size, 2, none⟩ (.int .i64 wt)).setCell ⟨w.heap.size, 3, none⟩ (.slice (some ⟨gg, 0, none⟩) ts.length c5)).heap.size := by first | omega | (simp; done) | (simp; omega)
  generalize (((W2.setCell ⟨w.heap.size, 0, none⟩ (.int .i64 ck)).setCell ⟨w.heap.size, 1, none⟩ (.int .i64 nx)).setCell ⟨w.heap.size, 2, none⟩ (.int .i64 wt)).setCell ⟨w.heap.size, 3, none⟩ (.slice (some ⟨gg, 0, none⟩) ts.length c5) = W3 at *
  have HB3 := Lib.hid hb3
  have B3_bx := Lib.hid b_bx3
  have B3_bz := Lib.hid b_bz3
  have K3_own := Lib.hid k_own3
  clear hb3 b_bx3 b_bz3 k_own3
  clear B2_bx B2_bz HB2 HO
  have c_bx0 := B3_bx.out.cell 0
  have f_bx0 := B3_bx.out.frozen 0
  have c_bx1 := B3_bx.out.cell 1
  have f_bx1 := B3_bx.out.frozen 1
  have c_bx2 := B3_bx.out.cell 2
  have f_bx2 := B3_bx.out.frozen 2
  have c_bx3 := B3_bx.out.cell 3
  have f_bx3 := B3_bx.out.frozen 3
  have l_bx := B3_bx.out.lt
  obtain ⟨hg1, hg2, A3, m3, ⟨r0, r1, r2, r3, r4, r5, r6⟩, hrf, -⟩ := K3_own.out.row rfl i hl
  rw [HST.out] at r3
  have rf3 := hrf 3 (by decide)
  have rf4 := hrf 4 (by decide)
  have rf5 := hrf 5 (by decide)
  have rf6 := hrf 6 (by decide)
  clear hrf
  go_wp2_with fail
  go_region
  go_upto_region 12 with fail
  clear c_bx0 f_bx0 c_bx1 f_bx1 c_bx2 f_bx2 c_bx3 f_bx3 l_bx r0 r1 r2 r3 r4 r5 r6 rf3 rf4 rf5 rf6 hg1 hg2
  obtain ⟨hg1, hg2, -⟩ := K3_own.out.row rfl i hl
  obtain ⟨rows6, h6⟩ := K3_own.out.putd rfl (by omega) i 3 (.int .i64 2) (setState 2) hl (by decide) (fun _ => rfl) rfl
  obtain ⟨rows7, h7⟩ := h6.putd (by simp) (by omega) i 5 (.int .i64 ck) (setSince ck) (by simpa using hl) (by decide) (fun _ => by simp [tcells, setSince]) rfl
  rw [modify_two ts i _ _ (fun t => setSince ck (setState 2 t)) (fun _ => rfl)] at h7
  have h8 := h7.keep ((Below.refl _ _).drew)
  clear hg1 hg2
  have hsz4 := HB3.out.size
  have hb4 : Below w.heap.size w (((W3.setCell ⟨gg, i * 7 + 3, none⟩ (.int .i64 2)).setCell ⟨gg, i * 7 + 5, none⟩ (.int .i64 ck)).drew) := (((HB3.out).setCell (by show w.heap.size ≤ gg; omega) _).setCell (by show w.heap.size ≤ gg; omega) _).drew
  have b_bx4 : Blk (((W3.setCell ⟨gg, i * 7 + 3, none⟩ (.int .i64 2)).setCell ⟨gg, i * 7 + 5, none⟩ (.int .i64 ck)).drew) (w.heap.size) 28 #[.int .i64 ck, .int .i64 nx, .int .i64 wt, .slice (some ⟨gg, 0, none⟩) ts.length c5] := ((B3_bx.out).far (p := ⟨gg, i * 7 + 3, none⟩) (by show w.heap.size ≠ gg; omega) _).far (p := ⟨gg, i * 7 + 5, none⟩) (by show w.heap.size ≠ gg; omega) _
  have b_bz4 : Blk (((W3.setCell ⟨gg, i * 7 + 3, none⟩ (.int .i64 2)).setCell ⟨gg, i * 7 + 5, none⟩ (.int .i64 ck)).drew) (w.heap.size + 1) 28 #[.int .i64 0, .int .i64 0, .int .i64 0, .slice none 0 0] := ((B3_bz.out).far (p := ⟨gg, i * 7 + 3, none⟩) (by show w.heap.size + 1 ≠ gg; omega) _).far (p := ⟨gg, i * 7 + 5, none⟩) (by show w.heap.size + 1 ≠ gg; omega) _
  have k_own4 := h8
  have hz4 : W3.heap.size + 0 ≤ (((W3.setCell ⟨gg, i * 7 + 3, none⟩ (.int .i64 2)).setCell ⟨gg, i * 7 + 5, none⟩ (.int .i64 ck)).drew).heap.size := by first | omega | (simp; done) | (simp; omega)
  generalize ((W3.setCell ⟨gg, i * 7 + 3, none⟩ (.int .i64 2)).setCell ⟨gg, i * 7 + 5, none⟩ (.int .i64 ck)).drew = W4 at *
  have HB4 := Lib.hid hb4
  have B4_bx := Lib.hid b_bx4
  have B4_bz := Lib.hid b_bz4
  have K4_own := Lib.hid k_own4
  clear hb4 b_bx4 b_bz4 k_own4
  clear B3_bx B3_bz HB3 K3_own
  clear h6 h7 h8
  obtain ⟨ts1, ht1⟩ : ∃ ts1, ts.modify i (fun t => setSince ck (setState 2 t)) = ts1 := ⟨_, rfl⟩
  have hl1 : i < ts1.length := by rw [← ht1]; simpa using hl
  have HLE := Lib.hid (show ts1.length = ts.length by rw [← ht1]; simp)
  have HP1 := Lib.hid (show ts1[i].parts = ts[i].parts by subst ht1; rw [List.getElem_modify_eq]; rfl)
  have ko := own_ds K4_own.out ht1.symm
  have KO1 := Lib.hid ko
  have HT1 := Lib.hid ht1
  clear ko ht1 K4_own
  obtain ⟨k, hku⟩ : ∃ k, ts[i].parts.countP (· < part) = k := ⟨_, rfl⟩
  have hkl : k ≤ ts[i].parts.length := by rw [← hku]; exact HKU.out
  have k0 : (0 : Int) ≤ (k : Int) := by omega
  have k4 : (k : Int) ≤ 4 := by have := HSM4.out; omega
  have HU := Lib.hid hku
  have HKL := Lib.hid hkl
  clear hku hkl
  obtain ⟨A4, m4, hr4, hp4, hq4, p4, po4⟩ := KO1.out.rowP HLE.out.symm i hl1
  rw [HP1.out] at p4 hp4 po4
  have lp4 := po4.lt
  have c_bx0 := B4_bx.out.cell 0
  have c_bx1 := B4_bx.out.cell 1
  have c_bx2 := B4_bx.out.cell 2
  have c_bx3 := B4_bx.out.cell 3
  have l_bx := B4_bx.out.lt
  go_wp2_with fail
  clear p4
  clear c_bx0 c_bx1 c_bx2 c_bx3 l_bx
  refine (search_any po4 HSM.out HSO.out part).mono ?_
  rintro e W5 ⟨rfl, q, hq⟩
  have hb : Below W4.heap.size W4 W5 := by rw [hq]; exact below_drewN_ _ _
  clear hq hr4 hp4 hq4 po4 lp4
  rw [HC.out, HU.out]
  have hb5 : Below w.heap.size w W5 := below_then HB4.out hb
  have b_bx5 := B4_bx.out.below hb B4_bx.out.lt
  have b_bz5 := B4_bz.out.below hb B4_bz.out.lt
  have k_own5 := KO1.out.keep hb
  have hz5 := hb.size
  have HB5 := Lib.hid hb5
  have B5_bx := Lib.hid b_bx5
  have B5_bz := Lib.hid b_bz5
  have K5_own := Lib.hid k_own5
  clear hb5 b_bx5 b_bz5 k_own5
  clear B4_bx B4_bz HB4 KO1
  have hfin : ts.modify i (openT part ck) = ts1 := by rw [← HT1.out]; exact modify_at ts i _ _ fun _ => openT_t HC.out
  have c_bx0 := B5_bx.out.cell 0
  have c_bx1 := B5_bx.out.cell 1
  have c_bx2 := B5_bx.out.cell 2
  have c_bx3 := B5_bx.out.cell 3
  have l_bx := B5_bx.out.lt
  have c_bz0 := B5_bz.out.cell 0
  have f_bz0 := B5_bz.out.frozen 0
  have c_bz1 := B5_bz.out.cell 1
  have f_bz1 := B5_bz.out.frozen 1
  have c_bz2 := B5_bz.out.cell 2
  have f_bz2 := B5_bz.out.frozen 2
  have c_bz3 := B5_bz.out.cell 3
  have f_bz3 := B5_bz.out.frozen 3
  have l_bz := B5_bz.out.lt
  go_wp2_with fail
  clear c_bx0 c_bx1 c_bx2 c_bx3 l_bx c_bz0 f_bz0 c_bz1 f_bz1 c_bz2 f_bz2 c_bz3 f_bz3 l_bz
  have hszF := HB5.out.size
  have hbF : Below w.heap.size w ((((W5.setCell ⟨w.heap.size + 1, 0, none⟩ (.int .i64 ck)).setCell ⟨w.heap.size + 1, 1, none⟩ (.int .i64 nx)).setCell ⟨w.heap.size + 1, 2, none⟩ (.int .i64 wt)).setCell ⟨w.heap.size + 1, 3, none⟩ (.slice (some ⟨gg, 0, none⟩) ts.length c5)) := ((((HB5.out).setCell (by show w.heap.size ≤ w.heap.size + 1; omega) _).setCell (by show w.heap.size ≤ w.heap.size + 1; omega) _).setCell (by show w.heap.size ≤ w.heap.size + 1; omega) _).setCell (by show w.heap.size ≤ w.heap.size + 1; omega) _
  have b_bxF : Blk ((((W5.setCell ⟨w.heap.size + 1, 0, none⟩ (.int .i64 ck)).setCell ⟨w.heap.size + 1, 1, none⟩ (.int .i64 nx)).setCell ⟨w.heap.size + 1, 2, none⟩ (.int .i64 wt)).setCell ⟨w.heap.size + 1, 3, none⟩ (.slice (some ⟨gg, 0, none⟩) ts.length c5)) (w.heap.size) 28 #[.int .i64 ck, .int .i64 nx, .int .i64 wt, .slice (some ⟨gg, 0, none⟩) ts.length c5] := ((((B5_bx.out).far (p := ⟨w.heap.size + 1, 0, none⟩) (by show w.heap.size ≠ w.heap.size + 1; omega) _).far (p := ⟨w.heap.size + 1, 1, none⟩) (by show w.heap.size ≠ w.heap.size + 1; omega) _).far (p := ⟨w.heap.size + 1, 2, none⟩) (by show w.heap.size ≠ w.heap.size + 1; omega) _).far (p := ⟨w.heap.size + 1, 3, none⟩) (by show w.heap.size ≠ w.heap.size + 1; omega) _
  have b_bzF : Blk ((((W5.setCell ⟨w.heap.size + 1, 0, none⟩ (.int .i64 ck)).setCell ⟨w.heap.size + 1, 1, none⟩ (.int .i64 nx)).setCell ⟨w.heap.size + 1, 2, none⟩ (.int .i64 wt)).setCell ⟨w.heap.size + 1, 3, none⟩ (.slice (some ⟨gg, 0, none⟩) ts.length c5)) (w.heap.size + 1) 28 #[.int .i64 ck, .int .i64 nx, .int .i64 wt, .slice (some ⟨gg, 0, none⟩) ts.length c5] := ((((B5_bz.out).set_ 0 _).set_ 1 _).set_ 2 _).set_ 3 _
  have hoF := own_ds (K5_own.out.put4 (g := w.heap.size + 1) (by constructor <;> omega) (.int .i64 ck) (.int .i64 nx) (.int .i64 wt) (.slice (some ⟨gg, 0, none⟩) ts.length c5)) hfin
  have y0 := b_bzF.cell 0
  have y1 := b_bzF.cell 1
  have y2 := b_bzF.cell 2
  have y3 := b_bzF.cell 3
  exact bodyPost_ret (v := .tuple #[.agg #[.int .i64 ck, .int .i64 nx, .int .i64 wt, .slice (some ⟨gg, 0, none⟩) ts.length c5], .int .i64 0]) (by simp [results, Try.results56, go_sem, y0, y1, y2, y3]) rfl (⟨.slice (some ⟨gg, 0, none⟩) ts.length c5, _, rfl, own_len (hoF.rebase (by simp) (by omega) hbF) (by simp [CoordD.upd]), hbF⟩)
set_option maxRecDepth 100000 in
set_option maxHeartbeats 4000000 in
theorem add_1f (v : Value) (c : CoordD) (s : ByteArray) (ver part : Int) (i : Nat) (hk : CoordOk c) (hn : NameOk s) (hi : idxOf c.txns s = some i) (hl : i < c.txns.length) (hv : c.txns[i].ver = ver) (h0 : 0 ≤ part) (h3 : part ≤ 3) (hst : c.txns[i].state = 1) (hc : c.txns[i].parts.contains part = false) (w : World) (h : Cv w v c) :
    Calls Try.prog 56 #[v, .string s, .int .i64 ver, .int .i64 part] w (CRes (c.upd i (openT part c.clock)) [.int .i64 (0)] w) := by
  obtain ⟨tv, rfl, hx, hlen⟩ := id h
  obtain ⟨A, m, rfl, -⟩ := hx.at_
  have H := Lib.hid h
  have HX := Lib.hid hx
  clear h hx
  unfold coordV at *
  obtain ⟨ck, nx, wt, ts⟩ := c
  simp only at *
  have HK := Lib.hid hk
  have HN := Lib.hid hn
  have HI := Lib.hid hi
  have HV := Lib.hid hv
  have i0 : (0 : Int) ≤ (i : Int) := by omega
  have i1 : (i : Int) < (ts.length : Int) := Int.ofNat_lt.2 hl
  have i2 : decide ((i : Int) < 0) = false := decide_eq_false (by omega)
  have q0 : decide (part < 0) = false := decide_eq_false (by omega)
  have q1 : decide (4 ≤ part) = false := decide_eq_false (by omega)
  have q2 : ¬ (4 ≤ part) := by omega
  have HST := Lib.hid hst
  have HC := Lib.hid hc
  have hri := (hk.all i hl hl).1.rises
  have HSO := Lib.hid hri.sorted
  have HSM4 := Lib.hid (show ts[i].parts.length ≤ 4 from hri.small)
  have HSM := Lib.hid (show ts[i].parts.length < 4611686018427387904 by have := HSM4.out; omega)
  have ku : under ts[i].parts part ≤ ts[i].parts.length := under_le _ _
  have HKU := Lib.hid ku
  clear hk hn hi hv hst hc hri ku
  go_enter Try.func56, Try.ntmps56
  go_wp2_with fail
  have hb1 : Below w.heap.size w ((w.alloc (.cells #[.int .i64 ck, .int .i64 nx, .int .i64 wt, .slice A ts.length m] 28)).alloc (.cells #[.int .i64 0, .int .i64 0, .int .i64 0, .slice none 0 0] 28)) := ((Below.refl _ _).alloc (by first | omega | (simp; done) | (simp; omega)) _).alloc (by first | omega | (simp; done) | (simp; omega)) _
  have hal1 : Below w.heap.size w ((w.alloc (.cells #[.int .i64 ck, .int .i64 nx, .int .i64 wt, .slice A ts.length m] 28)).alloc (.cells #[.int .i64 0, .int .i64 0, .int .i64 0, .slice none 0 0] 28)) := ((Below.refl _ _).alloc (by first | omega | (simp; done) | (simp; omega)) _).alloc (by first | omega | (simp; done) | (simp; omega)) _
  have b_bx1 : Blk ((w.alloc (.cells #[.int .i64 ck, .int .i64 nx, .int .i64 wt, .slice A ts.length m] 28)).alloc (.cells #[.int .i64 0, .int .i64 0, .int .i64 0, .slice none 0 0] 28)) (w.heap.size) 28 #[.int .i64 ck, .int .i64 nx, .int .i64 wt, .slice A ts.length m] := (Blk.new_ _ 28 #[.int .i64 ck, .int .i64 nx, .int .i64 wt, .slice A ts.length m] (by first | rfl | (simp; done) | (simp; omega))).alloc _
  have b_bz1 : Blk ((w.alloc (.cells #[.int .i64 ck, .int .i64 nx, .int .i64 wt, .slice A ts.length m] 28)).alloc (.cells #[.int .i64 0, .int .i64 0, .int .i64 0, .slice none 0 0] 28)) (w.heap.size + 1) 28 #[.int .i64 0, .int .i64 0, .int .i64 0, .slice none 0 0] := Blk.new_ _ 28 #[.int .i64 0, .int .i64 0, .int .i64 0, .slice none 0 0] (by first | rfl | (simp; done) | (simp; omega))
  have hz1 : w.heap.size + 2 ≤ ((w.alloc (.cells #[.int .i64 ck, .int .i64 nx, .int .i64 wt, .slice A ts.length m] 28)).alloc (.cells #[.int .i64 0, .int .i64 0, .int .i64 0, .slice none 0 0] 28)).heap.size := by first | omega | (simp; done) | (simp; omega)
  generalize (w.alloc (.cells #[.int .i64 ck, .int .i64 nx, .int .i64 wt, .slice A ts.length m] 28)).alloc (.cells #[.int .i64 0, .int .i64 0, .int .i64 0, .slice none 0 0] 28) = W1 at *
  have HB1 := Lib.hid hb1
  have B1_bx := Lib.hid b_bx1
  have B1_bz := Lib.hid b_bz1
  clear hb1 b_bx1 b_bz1
  refine (known_good _ ⟨ck, nx, wt, ts⟩ s ver i HK.out HN.out HI.out hl HV.out _ (H.out.below hal1)).mono ?_
  rintro e W2 ⟨tv5, rows, rfl, hown, hb⟩
  obtain ⟨A5, c5, rfl, hc5⟩ := (Sl.of_own hown.own).form
  simp only at *
  unfold coordV
  simp only
  have hb2 : Below w.heap.size w W2 := below_then HB1.out hb
  have b_bx2 := B1_bx.out.below hb B1_bx.out.lt
  have b_bz2 := B1_bz.out.below hb B1_bz.out.lt
  have hz2 := hb.size
  have HB2 := Lib.hid hb2
  have B2_bx := Lib.hid b_bx2
  have B2_bz := Lib.hid b_bz2
  clear hb2 b_bx2 b_bz2
  clear B1_bx B1_bz HB1
  have ho := hown.rebase (w0 := w) rfl (Nat.le_refl _) HB2.out
  obtain ⟨gg, c6, hv6, hg1, hg2, hc6, -⟩ := ho.at_ (Nat.lt_of_le_of_lt (Nat.zero_le i) hl)
  injection hv6 with hv7 hv8 hv9
  subst hv7
  clear hv8 hv9 hc6 hc5
  have HO := Lib.hid ho
  clear ho hown
  have c_bx0 := B2_bx.out.cell 0
  have f_bx0 := B2_bx.out.frozen 0
  have c_bx1 := B2_bx.out.cell 1
  have f_bx1 := B2_bx.out.frozen 1
  have c_bx2 := B2_bx.out.cell 2
  have f_bx2 := B2_bx.out.frozen 2
  have c_bx3 := B2_bx.out.cell 3
  have f_bx3 := B2_bx.out.frozen 3
  have l_bx := B2_bx.out.lt
  go_upto_region 2 with fail
  clear c_bx0 f_bx0 c_bx1 f_bx1 c_bx2 f_bx2 c_bx3 f_bx3 l_bx
  have hsz3 := HB2.out.size
  have hb3 : Below w.heap.size w ((((W2.setCell ⟨w.heap.size, 0, none⟩ (.int .i64 ck)).setCell ⟨w.heap.size, 1, none⟩ (.int .i64 nx)).setCell ⟨w.heap.size, 2, none⟩ (.int .i64 wt)).setCell ⟨w.heap.size, 3, none⟩ (.slice (some ⟨gg, 0, none⟩) ts.length c5)) := ((((HB2.out).setCell (by show w.heap.size ≤ w.heap.size; omega) _).setCell (by show w.heap.size ≤ w.heap.size; omega) _).setCell (by show w.heap.size ≤ w.heap.size; omega) _).setCell (by show w.heap.size ≤ w.heap.size; omega) _
  have b_bx3 : Blk ((((W2.setCell ⟨w.heap.size, 0, none⟩ (.int .i64 ck)).setCell ⟨w.heap.size, 1, none⟩ (.int .i64 nx)).setCell ⟨w.heap.size, 2, none⟩ (.int .i64 wt)).setCell ⟨w.heap.size, 3, none⟩ (.slice (some ⟨gg, 0, none⟩) ts.length c5)) (w.heap.size) 28 #[.int .i64 ck, .int .i64 nx, .int .i64 wt, .slice (some ⟨gg, 0, none⟩) ts.length c5] := ((((B2_bx.out).set_ 0 _).set_ 1 _).set_ 2 _).set_ 3 _
  have b_bz3 : Blk ((((W2.setCell ⟨w.heap.size, 0, none⟩ (.int .i64 ck)).setCell ⟨w.heap.size, 1, none⟩ (.int .i64 nx)).setCell ⟨w.heap.size, 2, none⟩ (.int .i64 wt)).setCell ⟨w.heap.size, 3, none⟩ (.slice (some ⟨gg, 0, none⟩) ts.length c5)) (w.heap.size + 1) 28 #[.int .i64 0, .int .i64 0, .int .i64 0, .slice none 0 0] := ((((B2_bz.out).far (p := ⟨w.heap.size, 0, none⟩) (by show w.heap.size + 1 ≠ w.heap.size; omega) _).far (p := ⟨w.heap.size, 1, none⟩) (by show w.heap.size + 1 ≠ w.heap.size; omega) _).far (p := ⟨w.heap.size, 2, none⟩) (by show w.heap.size + 1 ≠ w.heap.size; omega) _).far (p := ⟨w.heap.size, 3, none⟩) (by show w.heap.size + 1 ≠ w.heap.size; omega) _
  have k_own3 := ((((HO.out).under (a := ⟨w.heap.size, 0, none⟩) (by constructor <;> (try dsimp only) <;> omega) (.int .i64 ck)).under (a := ⟨w.heap.size, 1, none⟩) (by constructor <;> (try dsimp only) <;> omega) (.int .i64 nx)).under (a := ⟨w.heap.size, 2, none⟩) (by constructor <;> (try dsimp only) <;> omega) (.int .i64 wt)).under (a := ⟨w.heap.size, 3, none⟩) (by constructor <;> (try dsimp only) <;> omega) (.slice (some ⟨gg, 0, none⟩) ts.length c5)
  have hz3 : W2.heap.size + 0 ≤ ((((W2.setCell ⟨w.heap.size, 0, none⟩ (.int .i64 ck)).setCell ⟨w.heap.size, 1, none⟩ (.int .i64 nx)).setCell ⟨w.heap.size, 2, none⟩ (.int .i64 wt)).setCell ⟨w.heap.size, 3, none⟩ (.slice (some ⟨gg, 0, none⟩) ts.length c5)).heap.size := by first | omega | (simp; done) | (simp; omega)
  generalize (((W2.setCell ⟨w.heap.size, 0, none⟩ (.int .i64 ck)).setCell ⟨w.heap.size, 1, none⟩ (.int .i64 nx)).setCell ⟨w.heap.size, 2, none⟩ (.int .i64 wt)).setCell ⟨w.heap.size, 3, none⟩ (.slice (some ⟨gg, 0, none⟩) ts.length c5) = W3 at *
  have HB3 := Lib.hid hb3
  have B3_bx := Lib.hid b_bx3
  have B3_bz := Lib.hid b_bz3
  have K3_own := Lib.hid k_own3
  clear hb3 b_bx3 b_bz3 k_own3
  clear B2_bx B2_bz HB2 HO
  have c_bx0 := B3_bx.out.cell 0
  have f_bx0 := B3_bx.out.frozen 0
  have c_bx1 := B3_bx.out.cell 1
  have f_bx1 := B3_bx.out.frozen 1
  have c_bx2 := B3_bx.out.cell 2
  have f_bx2 := B3_bx.out.frozen 2
  have c_bx3 := B3_bx.out.cell 3
  have f_bx3 := B3_bx.out.frozen 3
  have l_bx := B3_bx.out.lt
  obtain ⟨hg1, hg2, A3, m3, ⟨r0, r1, r2, r3, r4, r5, r6⟩, hrf, -⟩ := K3_own.out.row rfl i hl
  rw [HST.out] at r3
  have rf3 := hrf 3 (by decide)
  have rf4 := hrf 4 (by decide)
  have rf5 := hrf 5 (by decide)
  have rf6 := hrf 6 (by decide)
  clear hrf
  go_wp2_with fail
  go_region
  go_upto_region 12 with fail
  clear c_bx0 f_bx0 c_bx1 f_bx1 c_bx2 f_bx2 c_bx3 f_bx3 l_bx r0 r1 r2 r3 r4 r5 r6 rf3 rf4 rf5 rf6 hg1 hg2
  obtain ⟨hg1, hg2, -⟩ := K3_own.out.row rfl i hl
  obtain ⟨rows6, h6⟩ := K3_own.out.putd rfl (by omega) i 3 (.int .i64 2) (setState 2) hl (by decide) (fun _ => rfl) rfl
  obtain ⟨rows7, h7⟩ := h6.putd (by simp) (by omega) i 5 (.int .i64 ck) (setSince ck) (by simpa using hl) (by decide) (fun _ => by simp [tcells, setSince]) rfl
  rw [modify_two ts i _ _ (fun t => setSince ck (setState 2 t)) (fun _ => rfl)] at h7
  have h8 := h7.keep ((Below.refl _ _).drew)
  clear hg1 hg2
  have hsz4 := HB3.out.size
  have hb4 : Below w.heap.size w (((W3.setCell ⟨gg, i * 7 + 3, none⟩ (.int .i64 2)).setCell ⟨gg, i * 7 + 5, none⟩ (.int .i64 ck)).drew) := (((HB3.out).setCell (by show w.heap.size ≤ gg; omega) _).setCell (by show w.heap.size ≤ gg; omega) _).drew
  have b_bx4 : Blk (((W3.setCell ⟨gg, i * 7 + 3, none⟩ (.int .i64 2)).setCell ⟨gg, i * 7 + 5, none⟩ (.int .i64 ck)).drew) (w.heap.size) 28 #[.int .i64 ck, .int .i64 nx, .int .i64 wt, .slice (some ⟨gg, 0, none⟩) ts.length c5] := ((B3_bx.out).far (p := ⟨gg, i * 7 + 3, none⟩) (by show w.heap.size ≠ gg; omega) _).far (p := ⟨gg, i * 7 + 5, none⟩) (by show w.heap.size ≠ gg; omega) _
  have b_bz4 : Blk (((W3.setCell ⟨gg, i * 7 + 3, none⟩ (.int .i64 2)).setCell ⟨gg, i * 7 + 5, none⟩ (.int .i64 ck)).drew) (w.heap.size + 1) 28 #[.int .i64 0, .int .i64 0, .int .i64 0, .slice none 0 0] := ((B3_bz.out).far (p := ⟨gg, i * 7 + 3, none⟩) (by show w.heap.size + 1 ≠ gg; omega) _).far (p := ⟨gg, i * 7 + 5, none⟩) (by show w.heap.size + 1 ≠ gg; omega) _
  have k_own4 := h8
  have hz4 : W3.heap.size + 0 ≤ (((W3.setCell ⟨gg, i * 7 + 3, none⟩ (.int .i64 2)).setCell ⟨gg, i * 7 + 5, none⟩ (.int .i64 ck)).drew).heap.size := by first | omega | (simp; done) | (simp; omega)
  generalize ((W3.setCell ⟨gg, i * 7 + 3, none⟩ (.int .i64 2)).setCell ⟨gg, i * 7 + 5, none⟩ (.int .i64 ck)).drew = W4 at *
  have HB4 := Lib.hid hb4
  have B4_bx := Lib.hid b_bx4
  have B4_bz := Lib.hid b_bz4
  have K4_own := Lib.hid k_own4
  clear hb4 b_bx4 b_bz4 k_own4
  clear B3_bx B3_bz HB3 K3_own
  clear h6 h7 h8
  obtain ⟨ts1, ht1⟩ : ∃ ts1, ts.modify i (fun t => setSince ck (setState 2 t)) = ts1 := ⟨_, rfl⟩
  have hl1 : i < ts1.length := by rw [← ht1]; simpa using hl
  have HLE := Lib.hid (show ts1.length = ts.length by rw [← ht1]; simp)
  have HP1 := Lib.hid (show ts1[i].parts = ts[i].parts by subst ht1; rw [List.getElem_modify_eq]; rfl)
  have ko := own_ds K4_own.out ht1.symm
  have KO1 := Lib.hid ko
  have HT1 := Lib.hid ht1
  clear ko ht1 K4_own
  obtain ⟨k, hku⟩ : ∃ k, ts[i].parts.countP (· < part) = k := ⟨_, rfl⟩
  have hkl : k ≤ ts[i].parts.length := by rw [← hku]; exact HKU.out
  have k0 : (0 : Int) ≤ (k : Int) := by omega
  have k4 : (k : Int) ≤ 4 := by have := HSM4.out; omega
  have HU := Lib.hid hku
  have HKL := Lib.hid hkl
  clear hku hkl
  obtain ⟨A4, m4, hr4, hp4, hq4, p4, po4⟩ := KO1.out.rowP HLE.out.symm i hl1
  rw [HP1.out] at p4 hp4 po4
  have lp4 := po4.lt
  have c_bx0 := B4_bx.out.cell 0
  have c_bx1 := B4_bx.out.cell 1
  have c_bx2 := B4_bx.out.cell 2
  have c_bx3 := B4_bx.out.cell 3
  have l_bx := B4_bx.out.lt
  go_wp2_with fail
  clear p4
  clear c_bx0 c_bx1 c_bx2 c_bx3 l_bx
  refine (search_any po4 HSM.out HSO.out part).mono ?_
  rintro e W5 ⟨rfl, q, hq⟩
  have hb : Below W4.heap.size W4 W5 := by rw [hq]; exact below_drewN_ _ _
  clear hq hr4 hp4 hq4 po4 lp4
  rw [HC.out, HU.out]
  have hb5 : Below w.heap.size w W5 := below_then HB4.out hb
  have b_bx5 := B4_bx.out.below hb B4_bx.out.lt
  have b_bz5 := B4_bz.out.below hb B4_bz.out.lt
  have k_own5 := KO1.out.keep hb
  have hz5 := hb.size
  have HB5 := Lib.hid hb5
  have B5_bx := Lib.hid b_bx5
  have B5_bz := Lib.hid b_bz5
  have K5_own := Lib.hid k_own5
  clear hb5 b_bx5 b_bz5 k_own5
  clear B4_bx B4_bz HB4 KO1
  obtain ⟨A4, m4, hr4, hp4, hq4, p4, po4⟩ := K5_own.out.rowP HLE.out.symm i hl1
  rw [HP1.out] at p4 hp4 po4
  have lp4 := po4.lt
  have c_bx0 := B5_bx.out.cell 0
  have c_bx1 := B5_bx.out.cell 1
  have c_bx2 := B5_bx.out.cell 2
  have c_bx3 := B5_bx.out.cell 3
  have l_bx := B5_bx.out.lt
  go_wp2_with fail
  clear p4
  have HPO := Lib.hid po4
  clear po4
  clear c_bx0 c_bx1 c_bx2 c_bx3 l_bx
  have hsz6 := HB5.out.size
  have hb6 : Below w.heap.size w (W5.alloc (.cells #[.int .i64 part] 3)) := (HB5.out).alloc (by first | omega | (simp; done) | (simp; omega)) _
  have hal6 : Below W5.heap.size W5 (W5.alloc (.cells #[.int .i64 part] 3)) := (Below.refl _ _).alloc (by first | omega | (simp; done) | (simp; omega)) _
  have b_bx6 : Blk (W5.alloc (.cells #[.int .i64 part] 3)) (w.heap.size) 28 #[.int .i64 ck, .int .i64 nx, .int .i64 wt, .slice (some ⟨gg, 0, none⟩) ts.length c5] := (B5_bx.out).alloc _
  have b_bz6 : Blk (W5.alloc (.cells #[.int .i64 part] 3)) (w.heap.size + 1) 28 #[.int .i64 0, .int .i64 0, .int .i64 0, .slice none 0 0] := (B5_bz.out).alloc _
  have b_bp6 : Blk (W5.alloc (.cells #[.int .i64 part] 3)) (W5.heap.size) 3 #[.int .i64 part] := Blk.new_ _ 3 #[.int .i64 part] (by first | rfl | (simp; done) | (simp; omega))
  have k_own6 := (K5_own.out).alloc (.cells #[.int .i64 part] 3)
  have k_pp6 := (HPO.out).alloc (.cells #[.int .i64 part] 3)
  have hz6 : W5.heap.size + 1 ≤ (W5.alloc (.cells #[.int .i64 part] 3)).heap.size := by first | omega | (simp; done) | (simp; omega)
  generalize W5.alloc (.cells #[.int .i64 part] 3) = W6 at *
  have HB6 := Lib.hid hb6
  have B6_bx := Lib.hid b_bx6
  have B6_bz := Lib.hid b_bz6
  have B6_bp := Lib.hid b_bp6
  have K6_own := Lib.hid k_own6
  have K6_pp := Lib.hid k_pp6
  clear hb6 b_bx6 b_bz6 b_bp6 k_own6 k_pp6
  clear B5_bx B5_bz HB5 K5_own HPO
  refine (insert_any K6_pp.out HKL.out (by have := HSM4.out; omega) part B6_bp.out (fun e => by have := (lp4 _ e).2; omega) (by omega)).mono ?_
  rintro e W7 ⟨p5, rfl, ho5, hst5⟩
  obtain ⟨A9, c9, rfl, hc9⟩ := (Sl.of_own ho5).form
  have hb7 : Below w.heap.size w W7 := HB6.out.trans (hst5.below HB6.out.size (fun q hq => by have := (lp4 q hq).1; omega))
  have b_bx7 := B6_bx.out.grown hst5.1 (fun e => by have := (lp4 _ e.symm).1; omega)
  have b_bz7 := B6_bz.out.grown hst5.1 (fun e => by have := (lp4 _ e.symm).1; omega)
  have hz7 := hst5.size
  have km := K6_own.out.midRow HLE.out.symm i hr4 (by rw [hp4]; exact hst5.1)
  have ks := K6_own.out.swap HLE.out.symm i hr4 (by rw [hp4]; exact hst5.1) (Or.inr (by rw [hp4]; exact hst5.2)) (own_eq ho5 (insAt_len HKL.out part) rfl) (by omega) (insT k part) (fun _ => rfl) (by rw [hq4]; show insAt ts1[i].parts k part = _; rw [HP1.out])
  rw [hp4] at km
  have KS := Lib.hid ks
  clear ks hr4 hp4 hq4 ho5 hst5 lp4 hc9
  have HB7 := Lib.hid hb7
  have B7_bx := Lib.hid b_bx7
  have B7_bz := Lib.hid b_bz7
  clear hb7 b_bx7 b_bz7
  clear B6_bx B6_bz B6_bp HB6 K6_own K6_pp
  obtain ⟨km4, kmf⟩ := km
  obtain ⟨hg1, -⟩ := (show W1.heap.size ≤ gg ∧ True from ⟨(KS.out.own.lt gg rfl).1, trivial⟩)
  go_upto_region 15 with fail
  clear km4 kmf
  have hsz8 := HB7.out.size
  have hb8 : Below w.heap.size w (W7.setCell ⟨gg, i * 7 + 4, none⟩ (.slice A9 (ts[i].parts.length + 1) c9)) := (HB7.out).setCell (by show w.heap.size ≤ gg; omega) _
  have b_bx8 : Blk (W7.setCell ⟨gg, i * 7 + 4, none⟩ (.slice A9 (ts[i].parts.length + 1) c9)) (w.heap.size) 28 #[.int .i64 ck, .int .i64 nx, .int .i64 wt, .slice (some ⟨gg, 0, none⟩) ts.length c5] := (B7_bx.out).far (p := ⟨gg, i * 7 + 4, none⟩) (by show w.heap.size ≠ gg; omega) _
  have b_bz8 : Blk (W7.setCell ⟨gg, i * 7 + 4, none⟩ (.slice A9 (ts[i].parts.length + 1) c9)) (w.heap.size + 1) 28 #[.int .i64 0, .int .i64 0, .int .i64 0, .slice none 0 0] := (B7_bz.out).far (p := ⟨gg, i * 7 + 4, none⟩) (by show w.heap.size + 1 ≠ gg; omega) _
  have k_own8 := KS.out
  have hz8 : W7.heap.size + 0 ≤ (W7.setCell ⟨gg, i * 7 + 4, none⟩ (.slice A9 (ts[i].parts.length + 1) c9)).heap.size := by first | omega | (simp; done) | (simp; omega)
  generalize W7.setCell ⟨gg, i * 7 + 4, none⟩ (.slice A9 (ts[i].parts.length + 1) c9) = W8 at *
  have HB8 := Lib.hid hb8
  have B8_bx := Lib.hid b_bx8
  have B8_bz := Lib.hid b_bz8
  have K8_own := Lib.hid k_own8
  clear hb8 b_bx8 b_bz8 k_own8
  clear B7_bx B7_bz HB7 KS
  have hfin : ts.modify i (openT part ck) = (ts1.modify i (insT k part)) := by rw [← HT1.out, modify_two ts i _ _ (openT part ck) fun _ => openT_f HC.out HU.out]
  have c_bx0 := B8_bx.out.cell 0
  have c_bx1 := B8_bx.out.cell 1
  have c_bx2 := B8_bx.out.cell 2
  have c_bx3 := B8_bx.out.cell 3
  have l_bx := B8_bx.out.lt
  have c_bz0 := B8_bz.out.cell 0
  have f_bz0 := B8_bz.out.frozen 0
  have c_bz1 := B8_bz.out.cell 1
  have f_bz1 := B8_bz.out.frozen 1
  have c_bz2 := B8_bz.out.cell 2
  have f_bz2 := B8_bz.out.frozen 2
  have c_bz3 := B8_bz.out.cell 3
  have f_bz3 := B8_bz.out.frozen 3
  have l_bz := B8_bz.out.lt
  go_wp2_with fail
  clear c_bx0 c_bx1 c_bx2 c_bx3 l_bx c_bz0 f_bz0 c_bz1 f_bz1 c_bz2 f_bz2 c_bz3 f_bz3 l_bz
  have hszF := HB8.out.size
  have hbF : Below w.heap.size w ((((W8.setCell ⟨w.heap.size + 1, 0, none⟩ (.int .i64 ck)).setCell ⟨w.heap.size + 1, 1, none⟩ (.int .i64 nx)).setCell ⟨w.heap.size + 1, 2, none⟩ (.int .i64 wt)).setCell ⟨w.heap.size + 1, 3, none⟩ (.slice (some ⟨gg, 0, none⟩) ts.length c5)) := ((((HB8.out).setCell (by show w.heap.size ≤ w.heap.size + 1; omega) _).setCell (by show w.heap.size ≤ w.heap.size + 1; omega) _).setCell (by show w.heap.size ≤ w.heap.size + 1; omega) _).setCell (by show w.heap.size ≤ w.heap.size + 1; omega) _
  have b_bxF : Blk ((((W8.setCell ⟨w.heap.size + 1, 0, none⟩ (.int .i64 ck)).setCell ⟨w.heap.size + 1, 1, none⟩ (.int .i64 nx)).setCell ⟨w.heap.size + 1, 2, none⟩ (.int .i64 wt)).setCell ⟨w.heap.size + 1, 3, none⟩ (.slice (some ⟨gg, 0, none⟩) ts.length c5)) (w.heap.size) 28 #[.int .i64 ck, .int .i64 nx, .int .i64 wt, .slice (some ⟨gg, 0, none⟩) ts.length c5] := ((((B8_bx.out).far (p := ⟨w.heap.size + 1, 0, none⟩) (by show w.heap.size ≠ w.heap.size + 1; omega) _).far (p := ⟨w.heap.size + 1, 1, none⟩) (by show w.heap.size ≠ w.heap.size + 1; omega) _).far (p := ⟨w.heap.size + 1, 2, none⟩) (by show w.heap.size ≠ w.heap.size + 1; omega) _).far (p := ⟨w.heap.size + 1, 3, none⟩) (by show w.heap.size ≠ w.heap.size + 1; omega) _
  have b_bzF : Blk ((((W8.setCell ⟨w.heap.size + 1, 0, none⟩ (.int .i64 ck)).setCell ⟨w.heap.size + 1, 1, none⟩ (.int .i64 nx)).setCell ⟨w.heap.size + 1, 2, none⟩ (.int .i64 wt)).setCell ⟨w.heap.size + 1, 3, none⟩ (.slice (some ⟨gg, 0, none⟩) ts.length c5)) (w.heap.size + 1) 28 #[.int .i64 ck, .int .i64 nx, .int .i64 wt, .slice (some ⟨gg, 0, none⟩) ts.length c5] := ((((B8_bz.out).set_ 0 _).set_ 1 _).set_ 2 _).set_ 3 _
  have hoF := own_ds (K8_own.out.put4 (g := w.heap.size + 1) (by constructor <;> omega) (.int .i64 ck) (.int .i64 nx) (.int .i64 wt) (.slice (some ⟨gg, 0, none⟩) ts.length c5)) hfin
  have y0 := b_bzF.cell 0
  have y1 := b_bzF.cell 1
  have y2 := b_bzF.cell 2
  have y3 := b_bzF.cell 3
  exact bodyPost_ret (v := .tuple #[.agg #[.int .i64 ck, .int .i64 nx, .int .i64 wt, .slice (some ⟨gg, 0, none⟩) ts.length c5], .int .i64 0]) (by simp [results, Try.results56, go_sem, y0, y1, y2, y3]) rfl (⟨.slice (some ⟨gg, 0, none⟩) ts.length c5, _, rfl, own_len (hoF.rebase (by simp) (by omega) hbF) (by simp [CoordD.upd]), hbF⟩)
set_option maxRecDepth 100000 in
set_option maxHeartbeats 4000000 in
theorem add_2t (v : Value) (c : CoordD) (s : ByteArray) (ver part : Int) (i : Nat) (hk : CoordOk c) (hn : NameOk s) (hi : idxOf c.txns s = some i) (hl : i < c.txns.length) (hv : c.txns[i].ver = ver) (h0 : 0 ≤ part) (h3 : part ≤ 3) (hst : c.txns[i].state = 2) (hc : c.txns[i].parts.contains part = true) (w : World) (h : Cv w v c) :
    Calls Try.prog 56 #[v, .string s, .int .i64 ver, .int .i64 part] w (CRes (c.upd i (addT part)) [.int .i64 (0)] w) := by
  obtain ⟨tv, rfl, hx, hlen⟩ := id h
  obtain ⟨A, m, rfl, -⟩ := hx.at_
  have H := Lib.hid h
  have HX := Lib.hid hx
  clear h hx
  unfold coordV at *
  obtain ⟨ck, nx, wt, ts⟩ := c
  simp only at *
  have HK := Lib.hid hk
  have HN := Lib.hid hn
  have HI := Lib.hid hi
  have HV := Lib.hid hv
  have i0 : (0 : Int) ≤ (i : Int) := by omega
  have i1 : (i : Int) < (ts.length : Int) := Int.ofNat_lt.2 hl
  have i2 : decide ((i : Int) < 0) = false := decide_eq_false (by omega)
  have q0 : decide (part < 0) = false := decide_eq_false (by omega)
  have q1 : decide (4 ≤ part) = false := decide_eq_false (by omega)
  have q2 : ¬ (4 ≤ part) := by omega
  have HST := Lib.hid hst
  have HC := Lib.hid hc
  have hri := (hk.all i hl hl).1.rises
  have HSO := Lib.hid hri.sorted
  have HSM4 := Lib.hid (show ts[i].parts.length ≤ 4 from hri.small)
  have HSM := Lib.hid (show ts[i].parts.length < 4611686018427387904 by have := HSM4.out; omega)
  have ku : under ts[i].parts part ≤ ts[i].parts.length := under_le _ _
  have HKU := Lib.hid ku
  clear hk hn hi hv hst hc hri ku
  go_enter Try.func56, Try.ntmps56
  go_wp2_with fail
  have hb1 : Below w.heap.size w ((w.alloc (.cells #[.int .i64 ck, .int .i64 nx, .int .i64 wt, .slice A ts.length m] 28)).alloc (.cells #[.int .i64 0, .int .i64 0, .int .i64 0, .slice none 0 0] 28)) := ((Below.refl _ _).alloc (by first | omega | (simp; done) | (simp; omega)) _).alloc (by first | omega | (simp; done) | (simp; omega)) _
  have hal1 : Below w.heap.size w ((w.alloc (.cells #[.int .i64 ck, .int .i64 nx, .int .i64 wt, .slice A ts.length m] 28)).alloc (.cells #[.int .i64 0, .int .i64 0, .int .i64 0, .slice none 0 0] 28)) := ((Below.refl _ _).alloc (by first | omega | (simp; done) | (simp; omega)) _).alloc (by first | omega | (simp; done) | (simp; omega)) _
  have b_bx1 : Blk ((w.alloc (.cells #[.int .i64 ck, .int .i64 nx, .int .i64 wt, .slice A ts.length m] 28)).alloc (.cells #[.int .i64 0, .int .i64 0, .int .i64 0, .slice none 0 0] 28)) (w.heap.size) 28 #[.int .i64 ck, .int .i64 nx, .int .i64 wt, .slice A ts.length m] := (Blk.new_ _ 28 #[.int .i64 ck, .int .i64 nx, .int .i64 wt, .slice A ts.length m] (by first | rfl | (simp; done) | (simp; omega))).alloc _
  have b_bz1 : Blk ((w.alloc (.cells #[.int .i64 ck, .int .i64 nx, .int .i64 wt, .slice A ts.length m] 28)).alloc (.cells #[.int .i64 0, .int .i64 0, .int .i64 0, .slice none 0 0] 28)) (w.heap.size + 1) 28 #[.int .i64 0, .int .i64 0, .int .i64 0, .slice none 0 0] := Blk.new_ _ 28 #[.int .i64 0, .int .i64 0, .int .i64 0, .slice none 0 0] (by first | rfl | (simp; done) | (simp; omega))
  have hz1 : w.heap.size + 2 ≤ ((w.alloc (.cells #[.int .i64 ck, .int .i64 nx, .int .i64 wt, .slice A ts.length m] 28)).alloc (.cells #[.int .i64 0, .int .i64 0, .int .i64 0, .slice none 0 0] 28)).heap.size := by first | omega | (simp; done) | (simp; omega)
  generalize (w.alloc (.cells #[.int .i64 ck, .int .i64 nx, .int .i64 wt, .slice A ts.length m] 28)).alloc (.cells #[.int .i64 0, .int .i64 0, .int .i64 0, .slice none 0 0] 28) = W1 at *
  have HB1 := Lib.hid hb1
  have B1_bx := Lib.hid b_bx1
  have B1_bz := Lib.hid b_bz1
  clear hb1 b_bx1 b_bz1
  refine (known_good _ ⟨ck, nx, wt, ts⟩ s ver i HK.out HN.out HI.out hl HV.out _ (H.out.below hal1)).mono ?_
  rintro e W2 ⟨tv5, rows, rfl, hown, hb⟩
  obtain ⟨A5, c5, rfl, hc5⟩ := (Sl.of_own hown.own).form
  simp only at *
  unfold coordV
  simp only
  have hb2 : Below w.heap.size w W2 := below_then HB1.out hb
  have b_bx2 := B1_bx.out.below hb B1_bx.out.lt
  have b_bz2 := B1_bz.out.below hb B1_bz.out.lt
  have hz2 := hb.size
  have HB2 := Lib.hid hb2
  have B2_bx := Lib.hid b_bx2
  have B2_bz := Lib.hid b_bz2
  clear hb2 b_bx2 b_bz2
  clear B1_bx B1_bz HB1
  have ho := hown.rebase (w0 := w) rfl (Nat.le_refl _) HB2.out
  obtain ⟨gg, c6, hv6, hg1, hg2, hc6, -⟩ := ho.at_ (Nat.lt_of_le_of_lt (Nat.zero_le i) hl)
  injection hv6 with hv7 hv8 hv9
  subst hv7
  clear hv8 hv9 hc6 hc5
  have HO := Lib.hid ho
  clear ho hown
  have c_bx0 := B2_bx.out.cell 0
  have f_bx0 := B2_bx.out.frozen 0
  have c_bx1 := B2_bx.out.cell 1
  have f_bx1 := B2_bx.out.frozen 1
  have c_bx2 := B2_bx.out.cell 2
  have f_bx2 := B2_bx.out.frozen 2
  have c_bx3 := B2_bx.out.cell 3
  have f_bx3 := B2_bx.out.frozen 3
  have l_bx := B2_bx.out.lt
  go_upto_region 2 with fail
  clear c_bx0 f_bx0 c_bx1 f_bx1 c_bx2 f_bx2 c_bx3 f_bx3 l_bx
  have hsz3 := HB2.out.size
  have hb3 : Below w.heap.size w ((((W2.setCell ⟨w.heap.size, 0, none⟩ (.int .i64 ck)).setCell ⟨w.heap.size, 1, none⟩ (.int .i64 nx)).setCell ⟨w.heap.size, 2, none⟩ (.int .i64 wt)).setCell ⟨w.heap.size, 3, none⟩ (.slice (some ⟨gg, 0, none⟩) ts.length c5)) := ((((HB2.out).setCell (by show w.heap.size ≤ w.heap.size; omega) _).setCell (by show w.heap.size ≤ w.heap.size; omega) _).setCell (by show w.heap.size ≤ w.heap.size; omega) _).setCell (by show w.heap.size ≤ w.heap.size; omega) _
  have b_bx3 : Blk ((((W2.setCell ⟨w.heap.size, 0, none⟩ (.int .i64 ck)).setCell ⟨w.heap.size, 1, none⟩ (.int .i64 nx)).setCell ⟨w.heap.size, 2, none⟩ (.int .i64 wt)).setCell ⟨w.heap.size, 3, none⟩ (.slice (some ⟨gg, 0, none⟩) ts.length c5)) (w.heap.size) 28 #[.int .i64 ck, .int .i64 nx, .int .i64 wt, .slice (some ⟨gg, 0, none⟩) ts.length c5] := ((((B2_bx.out).set_ 0 _).set_ 1 _).set_ 2 _).set_ 3 _
  have b_bz3 : Blk ((((W2.setCell ⟨w.heap.size, 0, none⟩ (.int .i64 ck)).setCell ⟨w.heap.size, 1, none⟩ (.int .i64 nx)).setCell ⟨w.heap.size, 2, none⟩ (.int .i64 wt)).setCell ⟨w.heap.size, 3, none⟩ (.slice (some ⟨gg, 0, none⟩) ts.length c5)) (w.heap.size + 1) 28 #[.int .i64 0, .int .i64 0, .int .i64 0, .slice none 0 0] := ((((B2_bz.out).far (p := ⟨w.heap.size, 0, none⟩) (by show w.heap.size + 1 ≠ w.heap.size; omega) _).far (p := ⟨w.heap.size, 1, none⟩) (by show w.heap.size + 1 ≠ w.heap.size; omega) _).far (p := ⟨w.heap.size, 2, none⟩) (by show w.heap.size + 1 ≠ w.heap.size; omega) _).far (p := ⟨w.heap.size, 3, none⟩) (by show w.heap.size + 1 ≠ w.heap.size; omega) _
  have k_own3 := ((((HO.out).under (a := ⟨w.heap.size, 0, none⟩) (by constructor <;> (try dsimp only) <;> omega) (.int .i64 ck)).under (a := ⟨w.heap.size, 1, none⟩) (by constructor <;> (try dsimp only) <;> omega) (.int .i64 nx)).under (a := ⟨w.heap.size, 2, none⟩) (by constructor <;> (try dsimp only) <;> omega) (.int .i64 wt)).under (a := ⟨w.heap.size, 3, none⟩) (by constructor <;> (try dsimp only) <;> omega) (.slice (some ⟨gg, 0, none⟩) ts.length c5)
  have hz3 : W2.heap.size + 0 ≤ ((((W2.setCell ⟨w.heap.size, 0, none⟩ (.int .i64 ck)).setCell ⟨w.heap.size, 1, none⟩ (.int .i64 nx)).setCell ⟨w.heap.size, 2, none⟩ (.int .i64 wt)).setCell ⟨w.heap.size, 3, none⟩ (.slice (some ⟨gg, 0, none⟩) ts.length c5)).heap.size := by first | omega | (simp; done) | (simp; omega)
  generalize (((W2.setCell ⟨w.heap.size, 0, none⟩ (.int .i64 ck)).setCell ⟨w.heap.size, 1, none⟩ (.int .i64 nx)).setCell ⟨w.heap.size, 2, none⟩ (.int .i64 wt)).setCell ⟨w.heap.size, 3, none⟩ (.slice (some ⟨gg, 0, none⟩) ts.length c5) = W3 at *
  have HB3 := Lib.hid hb3
  have B3_bx := Lib.hid b_bx3
  have B3_bz := Lib.hid b_bz3
  have K3_own := Lib.hid k_own3
  clear hb3 b_bx3 b_bz3 k_own3
  clear B2_bx B2_bz HB2 HO
  have c_bx0 := B3_bx.out.cell 0
  have f_bx0 := B3_bx.out.frozen 0
  have c_bx1 := B3_bx.out.cell 1
  have f_bx1 := B3_bx.out.frozen 1
  have c_bx2 := B3_bx.out.cell 2
  have f_bx2 := B3_bx.out.frozen 2
  have c_bx3 := B3_bx.out.cell 3
  have f_bx3 := B3_bx.out.frozen 3
  have l_bx := B3_bx.out.lt
  obtain ⟨hg1, hg2, A3, m3, ⟨r0, r1, r2, r3, r4, r5, r6⟩, hrf, -⟩ := K3_own.out.row rfl i hl
  rw [HST.out] at r3
  have rf3 := hrf 3 (by decide)
  have rf4 := hrf 4 (by decide)
  have rf5 := hrf 5 (by decide)
  have rf6 := hrf 6 (by decide)
  clear hrf
  go_upto_region 12 with fail
  clear c_bx0 f_bx0 c_bx1 f_bx1 c_bx2 f_bx2 c_bx3 f_bx3 l_bx r0 r1 r2 r3 r4 r5 r6 rf3 rf4 rf5 rf6 hg1 hg2
  obtain ⟨ts1, ht1⟩ : ∃ ts1, ts = ts1 := ⟨_, rfl⟩
  have hl1 : i < ts1.length := by rw [← ht1]; exact hl
  have HLE := Lib.hid (show ts1.length = ts.length by rw [← ht1])
  have HP1 := Lib.hid (show ts1[i].parts = ts[i].parts by subst ht1; rfl)
  have ko := own_ds K3_own.out ht1.symm
  have KO1 := Lib.hid ko
  have HT1 := Lib.hid ht1
  clear ko ht1 K3_own
  obtain ⟨k, hku⟩ : ∃ k, ts[i].parts.countP (· < part) = k := ⟨_, rfl⟩
  have hkl : k ≤ ts[i].parts.length := by rw [← hku]; exact HKU.out
  have k0 : (0 : Int) ≤ (k : Int) := by omega
  have k4 : (k : Int) ≤ 4 := by have := HSM4.out; omega
  have HU := Lib.hid hku
  have HKL := Lib.hid hkl
  clear hku hkl
  obtain ⟨A4, m4, hr4, hp4, hq4, p4, po4⟩ := KO1.out.rowP HLE.out.symm i hl1
  rw [HP1.out] at p4 hp4 po4
  have lp4 := po4.lt
  have c_bx0 := B3_bx.out.cell 0
  have c_bx1 := B3_bx.out.cell 1
  have c_bx2 := B3_bx.out.cell 2
  have c_bx3 := B3_bx.out.cell 3
  have l_bx := B3_bx.out.lt
  go_wp2_with fail
  clear p4
  clear c_bx0 c_bx1 c_bx2 c_bx3 l_bx
  refine (search_any po4 HSM.out HSO.out part).mono ?_
  rintro e W4 ⟨rfl, q, hq⟩
  have hb : Below W3.heap.size W3 W4 := by rw [hq]; exact below_drewN_ _ _
  clear hq hr4 hp4 hq4 po4 lp4
  rw [HC.out, HU.out]
  have hb4 : Below w.heap.size w W4 := below_then HB3.out hb
  have b_bx4 := B3_bx.out.below hb B3_bx.out.lt
  have b_bz4 := B3_bz.out.below hb B3_bz.out.lt
  have k_own4 := KO1.out.keep hb
  have hz4 := hb.size
  have HB4 := Lib.hid hb4
  have B4_bx := Lib.hid b_bx4
  have B4_bz := Lib.hid b_bz4
  have K4_own := Lib.hid k_own4
  clear hb4 b_bx4 b_bz4 k_own4
  clear B3_bx B3_bz HB3 KO1
  have hfin : ts.modify i (addT part) = ts1 := by rw [← HT1.out]; exact modify_id _ _ _ fun _ => addT_t HC.out
  have c_bx0 := B4_bx.out.cell 0
  have c_bx1 := B4_bx.out.cell 1
  have c_bx2 := B4_bx.out.cell 2
  have c_bx3 := B4_bx.out.cell 3
  have l_bx := B4_bx.out.lt
  have c_bz0 := B4_bz.out.cell 0
  have f_bz0 := B4_bz.out.frozen 0
  have c_bz1 := B4_bz.out.cell 1
  have f_bz1 := B4_bz.out.frozen 1
  have c_bz2 := B4_bz.out.cell 2
  have f_bz2 := B4_bz.out.frozen 2
  have c_bz3 := B4_bz.out.cell 3
  have f_bz3 := B4_bz.out.frozen 3
  have l_bz := B4_bz.out.lt
  go_wp2_with fail
  clear c_bx0 c_bx1 c_bx2 c_bx3 l_bx c_bz0 f_bz0 c_bz1 f_bz1 c_bz2 f_bz2 c_bz3 f_bz3 l_bz
  have hszF := HB4.out.size
  have hbF : Below w.heap.size w ((((W4.setCell ⟨w.heap.size + 1, 0, none⟩ (.int .i64 ck)).setCell ⟨w.heap.size + 1, 1, none⟩ (.int .i64 nx)).setCell ⟨w.heap.size + 1, 2, none⟩ (.int .i64 wt)).setCell ⟨w.heap.size + 1, 3, none⟩ (.slice (some ⟨gg, 0, none⟩) ts.length c5)) := ((((HB4.out).setCell (by show w.heap.size ≤ w.heap.size + 1; omega) _).setCell (by show w.heap.size ≤ w.heap.size + 1; omega) _).setCell (by show w.heap.size ≤ w.heap.size + 1; omega) _).setCell (by show w.heap.size ≤ w.heap.size + 1; omega) _
  have b_bxF : Blk ((((W4.setCell ⟨w.heap.size + 1, 0, none⟩ (.int .i64 ck)).setCell ⟨w.heap.size + 1, 1, none⟩ (.int .i64 nx)).setCell ⟨w.heap.size + 1, 2, none⟩ (.int .i64 wt)).setCell ⟨w.heap.size + 1, 3, none⟩ (.slice (some ⟨gg, 0, none⟩) ts.length c5)) (w.heap.size) 28 #[.int .i64 ck, .int .i64 nx, .int .i64 wt, .slice (some ⟨gg, 0, none⟩) ts.length c5] := ((((B4_bx.out).far (p := ⟨w.heap.size + 1, 0, none⟩) (by show w.heap.size ≠ w.heap.size + 1; omega) _).far (p := ⟨w.heap.size + 1, 1, none⟩) (by show w.heap.size ≠ w.heap.size + 1; omega) _).far (p := ⟨w.heap.size + 1, 2, none⟩) (by show w.heap.size ≠ w.heap.size + 1; omega) _).far (p := ⟨w.heap.size + 1, 3, none⟩) (by show w.heap.size ≠ w.heap.size + 1; omega) _
  have b_bzF : Blk ((((W4.setCell ⟨w.heap.size + 1, 0, none⟩ (.int .i64 ck)).setCell ⟨w.heap.size + 1, 1, none⟩ (.int .i64 nx)).setCell ⟨w.heap.size + 1, 2, none⟩ (.int .i64 wt)).setCell ⟨w.heap.size + 1, 3, none⟩ (.slice (some ⟨gg, 0, none⟩) ts.length c5)) (w.heap.size + 1) 28 #[.int .i64 ck, .int .i64 nx, .int .i64 wt, .slice (some ⟨gg, 0, none⟩) ts.length c5] := ((((B4_bz.out).set_ 0 _).set_ 1 _).set_ 2 _).set_ 3 _
  have hoF := own_ds (K4_own.out.put4 (g := w.heap.size + 1) (by constructor <;> omega) (.int .i64 ck) (.int .i64 nx) (.int .i64 wt) (.slice (some ⟨gg, 0, none⟩) ts.length c5)) hfin
  have y0 := b_bzF.cell 0
  have y1 := b_bzF.cell 1
  have y2 := b_bzF.cell 2
  have y3 := b_bzF.cell 3
  exact bodyPost_ret (v := .tuple #[.agg #[.int .i64 ck, .int .i64 nx, .int .i64 wt, .slice (some ⟨gg, 0, none⟩) ts.length c5], .int .i64 0]) (by simp [results, Try.results56, go_sem, y0, y1, y2, y3]) rfl (⟨.slice (some ⟨gg, 0, none⟩) ts.length c5, _, rfl, own_len (hoF.rebase (by simp) (by omega) hbF) (by simp [CoordD.upd]), hbF⟩)
set_option maxRecDepth 100000 in
set_option maxHeartbeats 4000000 in
theorem add_2f (v : Value) (c : CoordD) (s : ByteArray) (ver part : Int) (i : Nat) (hk : CoordOk c) (hn : NameOk s) (hi : idxOf c.txns s = some i) (hl : i < c.txns.length) (hv : c.txns[i].ver = ver) (h0 : 0 ≤ part) (h3 : part ≤ 3) (hst : c.txns[i].state = 2) (hc : c.txns[i].parts.contains part = false) (w : World) (h : Cv w v c) :
    Calls Try.prog 56 #[v, .string s, .int .i64 ver, .int .i64 part] w (CRes (c.upd i (addT part)) [.int .i64 (0)] w) := by
  obtain ⟨tv, rfl, hx, hlen⟩ := id h
  obtain ⟨A, m, rfl, -⟩ := hx.at_
  have H := Lib.hid h
  have HX := Lib.hid hx
  clear h hx
  unfold coordV at *
  obtain ⟨ck, nx, wt, ts⟩ := c
  simp only at *
  have HK := Lib.hid hk
  have HN := Lib.hid hn
  have HI := Lib.hid hi
  have HV := Lib.hid hv
  have i0 : (0 : Int) ≤ (i : Int) := by omega
  have i1 : (i : Int) < (ts.length : Int) := Int.ofNat_lt.2 hl
  have i2 : decide ((i : Int) < 0) = false := decide_eq_false (by omega)
  have q0 : decide (part < 0) = false := decide_eq_false (by omega)
  have q1 : decide (4 ≤ part) = false := decide_eq_false (by omega)
  have q2 : ¬ (4 ≤ part) := by omega
  have HST := Lib.hid hst
  have HC := Lib.hid hc
  have hri := (hk.all i hl hl).1.rises
  have HSO := Lib.hid hri.sorted
  have HSM4 := Lib.hid (show ts[i].parts.length ≤ 4 from hri.small)
  have HSM := Lib.hid (show ts[i].parts.length < 4611686018427387904 by have := HSM4.out; omega)
  have ku : under ts[i].parts part ≤ ts[i].parts.length := under_le _ _
  have HKU := Lib.hid ku
  clear hk hn hi hv hst hc hri ku
  go_enter Try.func56, Try.ntmps56
  go_wp2_with fail
  have hb1 : Below w.heap.size w ((w.alloc (.cells #[.int .i64 ck, .int .i64 nx, .int .i64 wt, .slice A ts.length m] 28)).alloc (.cells #[.int .i64 0, .int .i64 0, .int .i64 0, .slice none 0 0] 28)) := ((Below.refl _ _).alloc (by first | omega | (simp; done) | (simp; omega)) _).alloc (by first | omega | (simp; done) | (simp; omega)) _
  have hal1 : Below w.heap.size w ((w.alloc (.cells #[.int .i64 ck, .int .i64 nx, .int .i64 wt, .slice A ts.length m] 28)).alloc (.cells #[.int .i64 0, .int .i64 0, .int .i64 0, .slice none 0 0] 28)) := ((Below.refl _ _).alloc (by first | omega | (simp; done) | (simp; omega)) _).alloc (by first | omega | (simp; done) | (simp; omega)) _
  have b_bx1 : Blk ((w.alloc (.cells #[.int .i64 ck, .int .i64 nx, .int .i64 wt, .slice A ts.length m] 28)).alloc (.cells #[.int .i64 0, .int .i64 0, .int .i64 0, .slice none 0 0] 28)) (w.heap.size) 28 #[.int .i64 ck, .int .i64 nx, .int .i64 wt, .slice A ts.length m] := (Blk.new_ _ 28 #[.int .i64 ck, .int .i64 nx, .int .i64 wt, .slice A ts.length m] (by first | rfl | (simp; done) | (simp; omega))).alloc _
  have b_bz1 : Blk ((w.alloc (.cells #[.int .i64 ck, .int .i64 nx, .int .i64 wt, .slice A ts.length m] 28)).alloc (.cells #[.int .i64 0, .int .i64 0, .int .i64 0, .slice none 0 0] 28)) (w.heap.size + 1) 28 #[.int .i64 0, .int .i64 0, .int .i64 0, .slice none 0 0] := Blk.new_ _ 28 #[.int .i64 0, .int .i64 0, .int .i64 0, .slice none 0 0] (by first | rfl | (simp; done) | (simp; omega))
  have hz1 : w.heap.size + 2 ≤ ((w.alloc (.cells #[.int .i64 ck, .int .i64 nx, .int .i64 wt, .slice A ts.length m] 28)).alloc (.cells #[.int .i64 0, .int .i64 0, .int .i64 0, .slice none 0 0] 28)).heap.size := by first | omega | (simp; done) | (simp; omega)
  generalize (w.alloc (.cells #[.int .i64 ck, .int .i64 nx, .int .i64 wt, .slice A ts.length m] 28)).alloc (.cells #[.int .i64 0, .int .i64 0, .int .i64 0, .slice none 0 0] 28) = W1 at *
  have HB1 := Lib.hid hb1
  have B1_bx := Lib.hid b_bx1
  have B1_bz := Lib.hid b_bz1
  clear hb1 b_bx1 b_bz1
  refine (known_good _ ⟨ck, nx, wt, ts⟩ s ver i HK.out HN.out HI.out hl HV.out _ (H.out.below hal1)).mono ?_
  rintro e W2 ⟨tv5, rows, rfl, hown, hb⟩
  obtain ⟨A5, c5, rfl, hc5⟩ := (Sl.of_own hown.own).form
  simp only at *
  unfold coordV
  simp only
  have hb2 : Below w.heap.size w W2 := below_then HB1.out hb
  have b_bx2 := B1_bx.out.below hb B1_bx.out.lt
  have b_bz2 := B1_bz.out.below hb B1_bz.out.lt
  have hz2 := hb.size
  have HB2 := Lib.hid hb2
  have B2_bx := Lib.hid b_bx2
  have B2_bz := Lib.hid b_bz2
  clear hb2 b_bx2 b_bz2
  clear B1_bx B1_bz HB1
  have ho := hown.rebase (w0 := w) rfl (Nat.le_refl _) HB2.out
  obtain ⟨gg, c6, hv6, hg1, hg2, hc6, -⟩ := ho.at_ (Nat.lt_of_le_of_lt (Nat.zero_le i) hl)
  injection hv6 with hv7 hv8 hv9
  subst hv7
  clear hv8 hv9 hc6 hc5
  have HO := Lib.hid ho
  clear ho hown
  have c_bx0 := B2_bx.out.cell 0
  have f_bx0 := B2_bx.out.frozen 0
  have c_bx1 := B2_bx.out.cell 1
  have f_bx1 := B2_bx.out.frozen 1
  have c_bx2 := B2_bx.out.cell 2
  have f_bx2 := B2_bx.out.frozen 2
  have c_bx3 := B2_bx.out.cell 3
  have f_bx3 := B2_bx.out.frozen 3
  have l_bx := B2_bx.out.lt
  go_upto_region 2 with fail
  clear c_bx0 f_bx0 c_bx1 f_bx1 c_bx2 f_bx2 c_bx3 f_bx3 l_bx
  have hsz3 := HB2.out.size
  have hb3 : Below w.heap.size w ((((W2.setCell ⟨w.heap.size, 0, none⟩ (.int .i64 ck)).setCell ⟨w.heap.size, 1, none⟩ (.int .i64 nx)).setCell ⟨w.heap.size, 2, none⟩ (.int .i64 wt)).setCell ⟨w.heap.size, 3, none⟩ (.slice (some ⟨gg, 0, none⟩) ts.length c5)) := ((((HB2.out).setCell (by show w.heap.size ≤ w.heap.size; omega) _).setCell (by show w.heap.size ≤ w.heap.size; omega) _).setCell (by show w.heap.size ≤ w.heap.size; omega) _).setCell (by show w.heap.size ≤ w.heap.size; omega) _
  have b_bx3 : Blk ((((W2.setCell ⟨w.heap.size, 0, none⟩ (.int .i64 ck)).setCell ⟨w.heap.size, 1, none⟩ (.int .i64 nx)).setCell ⟨w.heap.size, 2, none⟩ (.int .i64 wt)).setCell ⟨w.heap.size, 3, none⟩ (.slice (some ⟨gg, 0, none⟩) ts.length c5)) (w.heap.size) 28 #[.int .i64 ck, .int .i64 nx, .int .i64 wt, .slice (some ⟨gg, 0, none⟩) ts.length c5] := ((((B2_bx.out).set_ 0 _).set_ 1 _).set_ 2 _).set_ 3 _
  have b_bz3 : Blk ((((W2.setCell ⟨w.heap.size, 0, none⟩ (.int .i64 ck)).setCell ⟨w.heap.size, 1, none⟩ (.int .i64 nx)).setCell ⟨w.heap.size, 2, none⟩ (.int .i64 wt)).setCell ⟨w.heap.size, 3, none⟩ (.slice (some ⟨gg, 0, none⟩) ts.length c5)) (w.heap.size + 1) 28 #[.int .i64 0, .int .i64 0, .int .i64 0, .slice none 0 0] := ((((B2_bz.out).far (p := ⟨w.heap.size, 0, none⟩) (by show w.heap.size + 1 ≠ w.heap.size; omega) _).far (p := ⟨w.heap.size, 1, none⟩) (by show w.heap.size + 1 ≠ w.heap.size; omega) _).far (p := ⟨w.heap.size, 2, none⟩) (by show w.heap.size + 1 ≠ w.heap.size; omega) _).far (p := ⟨w.heap.size, 3, none⟩) (by show w.heap.size + 1 ≠ w.heap.size; omega) _
  have k_own3 := ((((HO.out).under (a := ⟨w.heap.size, 0, none⟩) (by constructor <;> (try dsimp only) <;> omega) (.int .i64 ck)).under (a := ⟨w.heap.size, 1, none⟩) (by constructor <;> (try dsimp only) <;> omega) (.int .i64 nx)).under (a := ⟨w.heap.size, 2, none⟩) (by constructor <;> (try dsimp only) <;> omega) (.int .i64 wt)).under (a := ⟨w.heap.size, 3, none⟩) (by constructor <;> (try dsimp only) <;> omega) (.slice (some ⟨gg, 0, none⟩) ts.length c5)
  have hz3 : W2.heap.size + 0 ≤ ((((W2.setCell ⟨w.heap.size, 0, none⟩ (.int .i64 ck)).setCell ⟨w.heap.size, 1, none⟩ (.int .i64 nx)).setCell ⟨w.heap.size, 2, none⟩ (.int .i64 wt)).setCell ⟨w.heap.size, 3, none⟩ (.slice (some ⟨gg, 0, none⟩) ts.length c5)).heap.size := by first | omega | (simp; done) | (simp; omega)
  generalize (((W2.setCell ⟨w.heap.size, 0, none⟩ (.int .i64 ck)).setCell ⟨w.heap.size, 1, none⟩ (.int .i64 nx)).setCell ⟨w.heap.size, 2, none⟩ (.int .i64 wt)).setCell ⟨w.heap.size, 3, none⟩ (.slice (some ⟨gg, 0, none⟩) ts.length c5) = W3 at *
  have HB3 := Lib.hid hb3
  have B3_bx := Lib.hid b_bx3
  have B3_bz := Lib.hid b_bz3
  have K3_own := Lib.hid k_own3
  clear hb3 b_bx3 b_bz3 k_own3
  clear B2_bx B2_bz HB2 HO
  have c_bx0 := B3_bx.out.cell 0
  have f_bx0 := B3_bx.out.frozen 0
  have c_bx1 := B3_bx.out.cell 1
  have f_bx1 := B3_bx.out.frozen 1
  have c_bx2 := B3_bx.out.cell 2
  have f_bx2 := B3_bx.out.frozen 2
  have c_bx3 := B3_bx.out.cell 3
  have f_bx3 := B3_bx.out.frozen 3
  have l_bx := B3_bx.out.lt
  obtain ⟨hg1, hg2, A3, m3, ⟨r0, r1, r2, r3, r4, r5, r6⟩, hrf, -⟩ := K3_own.out.row rfl i hl
  rw [HST.out] at r3
  have rf3 := hrf 3 (by decide)
  have rf4 := hrf 4 (by decide)
  have rf5 := hrf 5 (by decide)
  have rf6 := hrf 6 (by decide)
  clear hrf
  go_upto_region 12 with fail
  clear c_bx0 f_bx0 c_bx1 f_bx1 c_bx2 f_bx2 c_bx3 f_bx3 l_bx r0 r1 r2 r3 r4 r5 r6 rf3 rf4 rf5 rf6 hg1 hg2
  obtain ⟨ts1, ht1⟩ : ∃ ts1, ts = ts1 := ⟨_, rfl⟩
  have hl1 : i < ts1.length := by rw [← ht1]; exact hl
  have HLE := Lib.hid (show ts1.length = ts.length by rw [← ht1])
  have HP1 := Lib.hid (show ts1[i].parts = ts[i].parts by subst ht1; rfl)
  have ko := own_ds K3_own.out ht1.symm
  have KO1 := Lib.hid ko
  have HT1 := Lib.hid ht1
  clear ko ht1 K3_own
  obtain ⟨k, hku⟩ : ∃ k, ts[i].parts.countP (· < part) = k := ⟨_, rfl⟩
  have hkl : k ≤ ts[i].parts.length := by rw [← hku]; exact HKU.out
  have k0 : (0 : Int) ≤ (k : Int) := by omega
  have k4 : (k : Int) ≤ 4 := by have := HSM4.out; omega
  have HU := Lib.hid hku
  have HKL := Lib.hid hkl
  clear hku hkl
  obtain ⟨A4, m4, hr4, hp4, hq4, p4, po4⟩ := KO1.out.rowP HLE.out.symm i hl1
  rw [HP1.out] at p4 hp4 po4
  have lp4 := po4.lt
  have c_bx0 := B3_bx.out.cell 0
  have c_bx1 := B3_bx.out.cell 1
  have c_bx2 := B3_bx.out.cell 2
  have c_bx3 := B3_bx.out.cell 3
  have l_bx := B3_bx.out.lt
  go_wp2_with fail
  clear p4
  clear c_bx0 c_bx1 c_bx2 c_bx3 l_bx
  refine (search_any po4 HSM.out HSO.out part).mono ?_
  rintro e W4 ⟨rfl, q, hq⟩
  have hb : Below W3.heap.size W3 W4 := by rw [hq]; exact below_drewN_ _ _
  clear hq hr4 hp4 hq4 po4 lp4
  rw [HC.out, HU.out]
  have hb4 : Below w.heap.size w W4 := below_then HB3.out hb
  have b_bx4 := B3_bx.out.below hb B3_bx.out.lt
  have b_bz4 := B3_bz.out.below hb B3_bz.out.lt
  have k_own4 := KO1.out.keep hb
  have hz4 := hb.size
  have HB4 := Lib.hid hb4
  have B4_bx := Lib.hid b_bx4
  have B4_bz := Lib.hid b_bz4
  have K4_own := Lib.hid k_own4
  clear hb4 b_bx4 b_bz4 k_own4
  clear B3_bx B3_bz HB3 KO1
  obtain ⟨A4, m4, hr4, hp4, hq4, p4, po4⟩ := K4_own.out.rowP HLE.out.symm i hl1
  rw [HP1.out] at p4 hp4 po4
  have lp4 := po4.lt
  have c_bx0 := B4_bx.out.cell 0
  have c_bx1 := B4_bx.out.cell 1
  have c_bx2 := B4_bx.out.cell 2
  have c_bx3 := B4_bx.out.cell 3
  have l_bx := B4_bx.out.lt
  go_wp2_with fail
  clear p4
  have HPO := Lib.hid po4
  clear po4
  clear c_bx0 c_bx1 c_bx2 c_bx3 l_bx
  have hsz5 := HB4.out.size
  have hb5 : Below w.heap.size w (W4.alloc (.cells #[.int .i64 part] 3)) := (HB4.out).alloc (by first | omega | (simp; done) | (simp; omega)) _
  have hal5 : Below W4.heap.size W4 (W4.alloc (.cells #[.int .i64 part] 3)) := (Below.refl _ _).alloc (by first | omega | (simp; done) | (simp; omega)) _
  have b_bx5 : Blk (W4.alloc (.cells #[.int .i64 part] 3)) (w.heap.size) 28 #[.int .i64 ck, .int .i64 nx, .int .i64 wt, .slice (some ⟨gg, 0, none⟩) ts.length c5] := (B4_bx.out).alloc _
  have b_bz5 : Blk (W4.alloc (.cells #[.int .i64 part] 3)) (w.heap.size + 1) 28 #[.int .i64 0, .int .i64 0, .int .i64 0, .slice none 0 0] := (B4_bz.out).alloc _
  have b_bp5 : Blk (W4.alloc (.cells #[.int .i64 part] 3)) (W4.heap.size) 3 #[.int .i64 part] := Blk.new_ _ 3 #[.int .i64 part] (by first | rfl | (simp; done) | (simp; omega))
  have k_own5 := (K4_own.out).alloc (.cells #[.int .i64 part] 3)
  have k_pp5 := (HPO.out).alloc (.cells #[.int .i64 part] 3)
  have hz5 : W4.heap.size + 1 ≤ (W4.alloc (.cells #[.int .i64 part] 3)).heap.size := by first | omega | (simp; done) | (simp; omega)
  generalize W4.alloc (.cells #[.int .i64 part] 3) = W5 at *
  have HB5 := Lib.hid hb5
  have B5_bx := Lib.hid b_bx5
  have B5_bz := Lib.hid b_bz5
  have B5_bp := Lib.hid b_bp5
  have K5_own := Lib.hid k_own5
  have K5_pp := Lib.hid k_pp5
  clear hb5 b_bx5 b_bz5 b_bp5 k_own5 k_pp5
  clear B4_bx B4_bz HB4 K4_own HPO
  refine (insert_any K5_pp.out HKL.out (by have := HSM4.out; omega) part B5_bp.out (fun e => by have := (lp4 _ e).2; omega) (by omega)).mono ?_
  rintro e W6 ⟨p5, rfl, ho5, hst5⟩
  obtain ⟨A9, c9, rfl, hc9⟩ := (Sl.of_own ho5).form
  have hb6 : Below w.heap.size w W6 := HB5.out.trans (hst5.below HB5.out.size (fun q hq => by have := (lp4 q hq).1; omega))
  have b_bx6 := B5_bx.out.grown hst5.1 (fun e => by have := (lp4 _ e.symm).1; omega)
  have b_bz6 := B5_bz.out.grown hst5.1 (fun e => by have := (lp4 _ e.symm).1; omega)
  have hz6 := hst5.size
  have km := K5_own.out.midRow HLE.out.symm i hr4 (by rw [hp4]; exact hst5.1)
  have ks := K5_own.out.swap HLE.out.symm i hr4 (by rw [hp4]; exact hst5.1) (Or.inr (by rw [hp4]; exact hst5.2)) (own_eq ho5 (insAt_len HKL.out part) rfl) (by omega) (insT k part) (fun _ => rfl) (by rw [hq4]; show insAt ts1[i].parts k part = _; rw [HP1.out])
  rw [hp4] at km
  have KS := Lib.hid ks
  clear ks hr4 hp4 hq4 ho5 hst5 lp4 hc9
  have HB6 := Lib.hid hb6
  have B6_bx := Lib.hid b_bx6
  have B6_bz := Lib.hid b_bz6
  clear hb6 b_bx6 b_bz6
  clear B5_bx B5_bz B5_bp HB5 K5_own K5_pp
  obtain ⟨km4, kmf⟩ := km
  obtain ⟨hg1, -⟩ := (show W1.heap.size ≤ gg ∧ True from ⟨(KS.out.own.lt gg rfl).1, trivial⟩)
  go_upto_region 15 with fail
  clear km4 kmf
  have hsz7 := HB6.out.size
  have hb7 : Below w.heap.size w (W6.setCell ⟨gg, i * 7 + 4, none⟩ (.slice A9 (ts[i].parts.length + 1) c9)) := (HB6.out).setCell (by show w.heap.size ≤ gg; omega) _
  have b_bx7 : Blk (W6.setCell ⟨gg, i * 7 + 4, none⟩ (.slice A9 (ts[i].parts.length + 1) c9)) (w.heap.size) 28 #[.int .i64 ck, .int .i64 nx, .int .i64 wt, .slice (some ⟨gg, 0, none⟩) ts.length c5] := (B6_bx.out).far (p := ⟨gg, i * 7 + 4, none⟩) (by show w.heap.size ≠ gg; omega) _
  have b_bz7 : Blk (W6.setCell ⟨gg, i * 7 + 4, none⟩ (.slice A9 (ts[i].parts.length + 1) c9)) (w.heap.size + 1) 28 #[.int .i64 0, .int .i64 0, .int .i64 0, .slice none 0 0] := (B6_bz.out).far (p := ⟨gg, i * 7 + 4, none⟩) (by show w.heap.size + 1 ≠ gg; omega) _
  have k_own7 := KS.out
  have hz7 : W6.heap.size + 0 ≤ (W6.setCell ⟨gg, i * 7 + 4, none⟩ (.slice A9 (ts[i].parts.length + 1) c9)).heap.size := by first | omega | (simp; done) | (simp; omega)
  generalize W6.setCell ⟨gg, i * 7 + 4, none⟩ (.slice A9 (ts[i].parts.length + 1) c9) = W7 at *
  have HB7 := Lib.hid hb7
  have B7_bx := Lib.hid b_bx7
  have B7_bz := Lib.hid b_bz7
  have K7_own := Lib.hid k_own7
  clear hb7 b_bx7 b_bz7 k_own7
  clear B6_bx B6_bz HB6 KS
  have hfin : ts.modify i (addT part) = (ts1.modify i (insT k part)) := by rw [← HT1.out]; exact modify_at ts i _ _ fun _ => addT_f HC.out HU.out
  have c_bx0 := B7_bx.out.cell 0
  have c_bx1 := B7_bx.out.cell 1
  have c_bx2 := B7_bx.out.cell 2
  have c_bx3 := B7_bx.out.cell 3
  have l_bx := B7_bx.out.lt
  have c_bz0 := B7_bz.out.cell 0
  have f_bz0 := B7_bz.out.frozen 0
  have c_bz1 := B7_bz.out.cell 1
  have f_bz1 := B7_bz.out.frozen 1
  have c_bz2 := B7_bz.out.cell 2
  have f_bz2 := B7_bz.out.frozen 2
  have c_bz3 := B7_bz.out.cell 3
  have f_bz3 := B7_bz.out.frozen 3
  have l_bz := B7_bz.out.lt
  go_wp2_with fail
  clear c_bx0 c_bx1 c_bx2 c_bx3 l_bx c_bz0 f_bz0 c_bz1 f_bz1 c_bz2 f_bz2 c_bz3 f_bz3 l_bz
  have hszF := HB7.out.size
  have hbF : Below w.heap.size w ((((W7.setCell ⟨w.heap.size + 1, 0, none⟩ (.int .i64 ck)).setCell ⟨w.heap.size + 1, 1, none⟩ (.int .i64 nx)).setCell ⟨w.heap.size + 1, 2, none⟩ (.int .i64 wt)).setCell ⟨w.heap.size + 1, 3, none⟩ (.slice (some ⟨gg, 0, none⟩) ts.length c5)) := ((((HB7.out).setCell (by show w.heap.size ≤ w.heap.size + 1; omega) _).setCell (by show w.heap.size ≤ w.heap.size + 1; omega) _).setCell (by show w.heap.size ≤ w.heap.size + 1; omega) _).setCell (by show w.heap.size ≤ w.heap.size + 1; omega) _
  have b_bxF : Blk ((((W7.setCell ⟨w.heap.size + 1, 0, none⟩ (.int .i64 ck)).setCell ⟨w.heap.size + 1, 1, none⟩ (.int .i64 nx)).setCell ⟨w.heap.size + 1, 2, none⟩ (.int .i64 wt)).setCell ⟨w.heap.size + 1, 3, none⟩ (.slice (some ⟨gg, 0, none⟩) ts.length c5)) (w.heap.size) 28 #[.int .i64 ck, .int .i64 nx, .int .i64 wt, .slice (some ⟨gg, 0, none⟩) ts.length c5] := ((((B7_bx.out).far (p := ⟨w.heap.size + 1, 0, none⟩) (by show w.heap.size ≠ w.heap.size + 1; omega) _).far (p := ⟨w.heap.size + 1, 1, none⟩) (by show w.heap.size ≠ w.heap.size + 1; omega) _).far (p := ⟨w.heap.size + 1, 2, none⟩) (by show w.heap.size ≠ w.heap.size + 1; omega) _).far (p := ⟨w.heap.size + 1, 3, none⟩) (by show w.heap.size ≠ w.heap.size + 1; omega) _
  have b_bzF : Blk ((((W7.setCell ⟨w.heap.size + 1, 0, none⟩ (.int .i64 ck)).setCell ⟨w.heap.size + 1, 1, none⟩ (.int .i64 nx)).setCell ⟨w.heap.size + 1, 2, none⟩ (.int .i64 wt)).setCell ⟨w.heap.size + 1, 3, none⟩ (.slice (some ⟨gg, 0, none⟩) ts.length c5)) (w.heap.size + 1) 28 #[.int .i64 ck, .int .i64 nx, .int .i64 wt, .slice (some ⟨gg, 0, none⟩) ts.length c5] := ((((B7_bz.out).set_ 0 _).set_ 1 _).set_ 2 _).set_ 3 _
  have hoF := own_ds (K7_own.out.put4 (g := w.heap.size + 1) (by constructor <;> omega) (.int .i64 ck) (.int .i64 nx) (.int .i64 wt) (.slice (some ⟨gg, 0, none⟩) ts.length c5)) hfin
  have y0 := b_bzF.cell 0
  have y1 := b_bzF.cell 1
  have y2 := b_bzF.cell 2
  have y3 := b_bzF.cell 3
  exact bodyPost_ret (v := .tuple #[.agg #[.int .i64 ck, .int .i64 nx, .int .i64 wt, .slice (some ⟨gg, 0, none⟩) ts.length c5], .int .i64 0]) (by simp [results, Try.results56, go_sem, y0, y1, y2, y3]) rfl (⟨.slice (some ⟨gg, 0, none⟩) ts.length c5, _, rfl, own_len (hoF.rebase (by simp) (by omega) hbF) (by simp [CoordD.upd]), hbF⟩)
end Go.Proofs.Ytjkoceacjbhblaa
