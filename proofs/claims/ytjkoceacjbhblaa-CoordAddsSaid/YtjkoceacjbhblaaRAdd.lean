/- tailraceref.AddedOf. -/
import Derived.Test.YtjkoceacjbhblaaCoordJ
import Derived.BigRegion
import Derived.Test.YtjkoceacjbhblaaCAdd
import Derived.Test.YtjkoceacjbhblaaRDone
import Derived.Test.YtjkoceacjbhblaaInB
namespace Go.Proofs.Ytjkoceacjbhblaa
open Go.RowKit

theorem four_len : four.length = 4 := rfl
theorem four_take {x : Int} {P : List Int} {p : Nat} (h : p < 4) : (four.take (p + 1)).filter (hasP P x) = (four.take p).filter (hasP P x) ++ (if hasP P x (p : Int) = true then [(p : Int)] else []) := by
  have e : four.take (p + 1) = four.take p ++ [(p : Int)] := by
    rcases p with _ | _ | _ | _ | p
    · rfl
    · rfl
    · rfl
    · rfl
    · omega
  rw [e, List.filter_append, List.filter_cons]
  rfl
theorem four_le (P : List Int) (x : Int) (p : Nat) : ((four.take p).filter (hasP P x)).length ≤ 4 := by
  have h1 := List.length_filter_le (hasP P x) (four.take p)
  have h2 : (four.take p).length ≤ 4 := by rw [List.length_take, four_len]; omega
  omega
def hasTo (P : List Int) (x p : Int) (k : Nat) : Bool := p == x || (P.take k).contains p
theorem hasTo_zero (P : List Int) (x p : Int) : hasTo P x p 0 = (p == x) := by simp [hasTo]
theorem hasTo_all (P : List Int) (x p : Int) : hasTo P x p P.length = hasP P x p := by simp [hasTo, hasP]
theorem hasTo_succ {P : List Int} {x p : Int} {k : Nat} (h : k < P.length) : hasTo P x p (k + 1) = (hasTo P x p k || P[k] == p) := by
  unfold hasTo
  rw [List.take_succ_eq_append_getElem h, List.contains_eq_any_beq, List.any_append, ← List.contains_eq_any_beq, ← Bool.or_assoc]
  simp only [List.any_cons, List.any_nil, Bool.or_false]
  congr 1
  rw [Bool.eq_iff_iff]
  simp only [beq_iff_eq]
  exact eq_comm
def setP (R : List Int) (t : TxnD) : TxnD := ⟨t.name, t.pid, t.ver, t.state, R, t.since, t.done⟩
theorem setP_open {t : TxnD} {x ck : Int} {P R : List Int} (hp : t.parts = P) (h : withPart P x = R) : setP R (setSince ck (setState 2 t)) = openT x ck t := by unfold openT; rw [hp, h]; rfl
theorem setP_add {t : TxnD} {x : Int} {P R : List Int} (hp : t.parts = P) (h : withPart P x = R) : setP R t = addT x t := by unfold addT; rw [hp, h]; rfl
set_option maxRecDepth 100000 in
set_option maxHeartbeats 4000000 in
theorem addedOf_fault (v : Value) (c : CoordD) (s : ByteArray) (ver part : Int) (n : Int) (hf : KnownFault c s ver n) (w : World) (h : Cv w v c) (hnm : ∀ t ∈ c.txns, t.name.size ≤ 9223372036854775807) (hs : s.size ≤ 9223372036854775807) :
    Calls Try.prog 57 #[v, .string s, .int .i64 ver, .int .i64 part] w (CRes zeroC [.int .i64 (n)] w) := by
  obtain ⟨tv, rfl, hx, hlen⟩ := id h
  obtain ⟨A, m, rfl, -⟩ := hx.at_
  have H := Lib.hid h
  have HX := Lib.hid hx
  clear h hx
  unfold coordV at *
  obtain ⟨ck, nx, wt, ts⟩ := c
  simp only at *
  have hn0 := hf.ne
  have n1 : (n == 0) = false := beq_eq_false_iff_ne.2 hn0
  have n2 : (n != 0) = true := by simpa using hn0
  have HF := Lib.hid hf
  clear hf hn0
  have HNM := Lib.hid hnm
  clear hnm
  go_enter Try.func57, Try.ntmps57
  go_wp2_with fail
  have hb1 : Below w.heap.size w ((w.alloc (.cells #[.int .i64 ck, .int .i64 nx, .int .i64 wt, .slice A ts.length m] 28)).alloc (.cells #[.int .i64 0, .int .i64 0, .int .i64 0, .slice none 0 0] 28)) := ((Below.refl _ _).alloc (by first | omega | (simp; done) | (simp; omega)) _).alloc (by first | omega | (simp; done) | (simp; omega)) _
  have hal1 : Below w.heap.size w ((w.alloc (.cells #[.int .i64 ck, .int .i64 nx, .int .i64 wt, .slice A ts.length m] 28)).alloc (.cells #[.int .i64 0, .int .i64 0, .int .i64 0, .slice none 0 0] 28)) := ((Below.refl _ _).alloc (by first | omega | (simp; done) | (simp; omega)) _).alloc (by first | omega | (simp; done) | (simp; omega)) _
  have b_bx1 : Blk ((w.alloc (.cells #[.int .i64 ck, .int .i64 nx, .int .i64 wt, .slice A ts.length m] 28)).alloc (.cells #[.int .i64 0, .int .i64 0, .int .i64 0, .slice none 0 0] 28)) (w.heap.size) 28 #[.int .i64 ck, .int .i64 nx, .int .i64 wt, .slice A ts.length m] := (Blk.new_ _ 28 #[.int .i64 ck, .int .i64 nx, .int .i64 wt, .slice A ts.length m] (by first | rfl | (simp; done) | (simp; omega))).alloc _
  have b_bz1 : Blk ((w.alloc (.cells #[.int .i64 ck, .int .i64 nx, .int .i64 wt, .slice A ts.length m] 28)).alloc (.cells #[.int .i64 0, .int .i64 0, .int .i64 0, .slice none 0 0] 28)) (w.heap.size + 1) 28 #[.int .i64 0, .int .i64 0, .int .i64 0, .slice none 0 0] := Blk.new_ _ 28 #[.int .i64 0, .int .i64 0, .int .i64 0, .slice none 0 0] (by first | rfl | (simp; done) | (simp; omega))
  have k_c1 := H.out.below hal1
  have hz1 : w.heap.size + 2 ≤ ((w.alloc (.cells #[.int .i64 ck, .int .i64 nx, .int .i64 wt, .slice A ts.length m] 28)).alloc (.cells #[.int .i64 0, .int .i64 0, .int .i64 0, .slice none 0 0] 28)).heap.size := by first | omega | (simp; done) | (simp; omega)
  generalize (w.alloc (.cells #[.int .i64 ck, .int .i64 nx, .int .i64 wt, .slice A ts.length m] 28)).alloc (.cells #[.int .i64 0, .int .i64 0, .int .i64 0, .slice none 0 0] 28) = W1 at *
  have HB1 := Lib.hid hb1
  have B1_bx := Lib.hid b_bx1
  have B1_bz := Lib.hid b_bz1
  have K1_c := Lib.hid k_c1
  clear hb1 b_bx1 b_bz1 k_c1
  clear H
  refine (kfault_any K1_c.out HF.out HNM.out hs).mono ?_
  rintro e W2 ⟨rfl, hb⟩
  have hb2 : Below w.heap.size w W2 := below_then HB1.out hb
  have b_bx2 := B1_bx.out.below hb B1_bx.out.lt
  have b_bz2 := B1_bz.out.below hb B1_bz.out.lt
  have k_c2 := K1_c.out.below hb
  have hz2 := hb.size
  have HB2 := Lib.hid hb2
  have B2_bx := Lib.hid b_bx2
  have B2_bz := Lib.hid b_bz2
  have K2_c := Lib.hid k_c2
  clear hb2 b_bx2 b_bz2 k_c2
  clear B1_bx B1_bz HB1 K1_c
  have c_bx0 := B2_bx.out.cell 0
  have c_bx1 := B2_bx.out.cell 1
  have c_bx2 := B2_bx.out.cell 2
  have c_bx3 := B2_bx.out.cell 3
  have l_bx := B2_bx.out.lt
  go_wp2_with fail
  clear c_bx0 c_bx1 c_bx2 c_bx3 l_bx
  go_quiet (fail)
  generalize hd : World.drewN W2 _ = W3 at *
  have hb : Below W2.heap.size W2 W3 := by rw [← hd]; exact below_drewN_ _ _
  have hb3 : Below w.heap.size w W3 := below_then HB2.out hb
  have b_bx3 := B2_bx.out.below hb B2_bx.out.lt
  have b_bz3 := B2_bz.out.below hb B2_bz.out.lt
  have k_c3 := K2_c.out.below hb
  have hz3 := hb.size
  have HB3 := Lib.hid hb3
  have B3_bx := Lib.hid b_bx3
  have B3_bz := Lib.hid b_bz3
  have K3_c := Lib.hid k_c3
  clear hb3 b_bx3 b_bz3 k_c3
  clear B2_bx B2_bz HB2 K2_c
  clear hd hb
  have c_bx0 := B3_bx.out.cell 0
  have c_bx1 := B3_bx.out.cell 1
  have c_bx2 := B3_bx.out.cell 2
  have c_bx3 := B3_bx.out.cell 3
  have l_bx := B3_bx.out.lt
  have c_bz0 := B3_bz.out.cell 0
  have f_bz0 := B3_bz.out.frozen 0
  have c_bz1 := B3_bz.out.cell 1
  have f_bz1 := B3_bz.out.frozen 1
  have c_bz2 := B3_bz.out.cell 2
  have f_bz2 := B3_bz.out.frozen 2
  have c_bz3 := B3_bz.out.cell 3
  have f_bz3 := B3_bz.out.frozen 3
  have l_bz := B3_bz.out.lt
  go_wp2_with fail
  clear c_bx0 c_bx1 c_bx2 c_bx3 l_bx c_bz0 f_bz0 c_bz1 f_bz1 c_bz2 f_bz2 c_bz3 f_bz3 l_bz
  have hszF := HB3.out.size
  have hbF : Below w.heap.size w ((((W3.setCell ⟨w.heap.size + 1, 0, none⟩ (.int .i64 0)).setCell ⟨w.heap.size + 1, 1, none⟩ (.int .i64 0)).setCell ⟨w.heap.size + 1, 2, none⟩ (.int .i64 0)).setCell ⟨w.heap.size + 1, 3, none⟩ (.slice none 0 0)) := ((((HB3.out).setCell (by show w.heap.size ≤ w.heap.size + 1; omega) _).setCell (by show w.heap.size ≤ w.heap.size + 1; omega) _).setCell (by show w.heap.size ≤ w.heap.size + 1; omega) _).setCell (by show w.heap.size ≤ w.heap.size + 1; omega) _
  have b_bxF : Blk ((((W3.setCell ⟨w.heap.size + 1, 0, none⟩ (.int .i64 0)).setCell ⟨w.heap.size + 1, 1, none⟩ (.int .i64 0)).setCell ⟨w.heap.size + 1, 2, none⟩ (.int .i64 0)).setCell ⟨w.heap.size + 1, 3, none⟩ (.slice none 0 0)) (w.heap.size) 28 #[.int .i64 ck, .int .i64 nx, .int .i64 wt, .slice A ts.length m] := ((((B3_bx.out).far (p := ⟨w.heap.size + 1, 0, none⟩) (by show w.heap.size ≠ w.heap.size + 1; omega) _).far (p := ⟨w.heap.size + 1, 1, none⟩) (by show w.heap.size ≠ w.heap.size + 1; omega) _).far (p := ⟨w.heap.size + 1, 2, none⟩) (by show w.heap.size ≠ w.heap.size + 1; omega) _).far (p := ⟨w.heap.size + 1, 3, none⟩) (by show w.heap.size ≠ w.heap.size + 1; omega) _
  have b_bzF : Blk ((((W3.setCell ⟨w.heap.size + 1, 0, none⟩ (.int .i64 0)).setCell ⟨w.heap.size + 1, 1, none⟩ (.int .i64 0)).setCell ⟨w.heap.size + 1, 2, none⟩ (.int .i64 0)).setCell ⟨w.heap.size + 1, 3, none⟩ (.slice none 0 0)) (w.heap.size + 1) 28 #[.int .i64 0, .int .i64 0, .int .i64 0, .slice none 0 0] := ((((B3_bz.out).set_ 0 _).set_ 1 _).set_ 2 _).set_ 3 _
  have y0 := b_bzF.cell 0
  have y1 := b_bzF.cell 1
  have y2 := b_bzF.cell 2
  have y3 := b_bzF.cell 3
  exact bodyPost_ret (v := .tuple #[.agg #[.int .i64 0, .int .i64 0, .int .i64 0, .slice none 0 0], .int .i64 (n)]) (by simp [results, Try.results57, go_sem, y0, y1, y2, y3]) rfl (CRes.zero hbF)
set_option maxRecDepth 100000 in
set_option maxHeartbeats 4000000 in
theorem addedOf_range (v : Value) (c : CoordD) (s : ByteArray) (ver part : Int) (i : Nat) (hk : CoordOk c) (hn : NameOk s) (hi : idxOf c.txns s = some i) (hl : i < c.txns.length) (hv : c.txns[i].ver = ver) (hp : part < 0 ∨ 3 < part) (w : World) (h : Cv w v c) (hnm : ∀ t ∈ c.txns, t.name.size ≤ 9223372036854775807) (hs : s.size ≤ 9223372036854775807) :
    Calls Try.prog 57 #[v, .string s, .int .i64 ver, .int .i64 part] w (CRes zeroC [.int .i64 (2)] w) := by
  obtain ⟨tv, rfl, hx, hlen⟩ := id h
  obtain ⟨A, m, rfl, -⟩ := hx.at_
  have H := Lib.hid h
  have HX := Lib.hid hx
  clear h hx
  unfold coordV at *
  obtain ⟨ck, nx, wt, ts⟩ := c
  simp only at *
  have HK := Lib.hid hk
  have HN := Lib.hid hn
  have HI := Lib.hid hi
  have HV := Lib.hid hv
  have hix : ixOf ts s = i := (ix_some hi).2
  have HIX := Lib.hid hix
  have HNM := Lib.hid hnm
  have i0 : (0 : Int) ≤ (i : Int) := by omega
  have i1 : (i : Int) < (ts.length : Int) := Int.ofNat_lt.2 hl
  have i2 : decide ((i : Int) < 0) = false := decide_eq_false (by omega)
  clear hk hn hi hv hix hnm
  have HIN := Lib.hid (show inB part 0 3 = false by unfold inB; rcases hp with h | h <;> simp <;> omega)
  clear hp
  go_enter Try.func57, Try.ntmps57
  go_wp2_with fail
  have hb1 : Below w.heap.size w ((w.alloc (.cells #[.int .i64 ck, .int .i64 nx, .int .i64 wt, .slice A ts.length m] 28)).alloc (.cells #[.int .i64 0, .int .i64 0, .int .i64 0, .slice none 0 0] 28)) := ((Below.refl _ _).alloc (by first | omega | (simp; done) | (simp; omega)) _).alloc (by first | omega | (simp; done) | (simp; omega)) _
  have hal1 : Below w.heap.size w ((w.alloc (.cells #[.int .i64 ck, .int .i64 nx, .int .i64 wt, .slice A ts.length m] 28)).alloc (.cells #[.int .i64 0, .int .i64 0, .int .i64 0, .slice none 0 0] 28)) := ((Below.refl _ _).alloc (by first | omega | (simp; done) | (simp; omega)) _).alloc (by first | omega | (simp; done) | (simp; omega)) _
  have b_bx1 : Blk ((w.alloc (.cells #[.int .i64 ck, .int .i64 nx, .int .i64 wt, .slice A ts.length m] 28)).alloc (.cells #[.int .i64 0, .int .i64 0, .int .i64 0, .slice none 0 0] 28)) (w.heap.size) 28 #[.int .i64 ck, .int .i64 nx, .int .i64 wt, .slice A ts.length m] := (Blk.new_ _ 28 #[.int .i64 ck, .int .i64 nx, .int .i64 wt, .slice A ts.length m] (by first | rfl | (simp; done) | (simp; omega))).alloc _
  have b_bz1 : Blk ((w.alloc (.cells #[.int .i64 ck, .int .i64 nx, .int .i64 wt, .slice A ts.length m] 28)).alloc (.cells #[.int .i64 0, .int .i64 0, .int .i64 0, .slice none 0 0] 28)) (w.heap.size + 1) 28 #[.int .i64 0, .int .i64 0, .int .i64 0, .slice none 0 0] := Blk.new_ _ 28 #[.int .i64 0, .int .i64 0, .int .i64 0, .slice none 0 0] (by first | rfl | (simp; done) | (simp; omega))
  have k_c1 := H.out.below hal1
  have hz1 : w.heap.size + 2 ≤ ((w.alloc (.cells #[.int .i64 ck, .int .i64 nx, .int .i64 wt, .slice A ts.length m] 28)).alloc (.cells #[.int .i64 0, .int .i64 0, .int .i64 0, .slice none 0 0] 28)).heap.size := by first | omega | (simp; done) | (simp; omega)
  generalize (w.alloc (.cells #[.int .i64 ck, .int .i64 nx, .int .i64 wt, .slice A ts.length m] 28)).alloc (.cells #[.int .i64 0, .int .i64 0, .int .i64 0, .slice none 0 0] 28) = W1 at *
  have HB1 := Lib.hid hb1
  have B1_bx := Lib.hid b_bx1
  have B1_bz := Lib.hid b_bz1
  have K1_c := Lib.hid k_c1
  clear hb1 b_bx1 b_bz1 k_c1
  clear H
  refine (knownFault_good _ ⟨ck, nx, wt, ts⟩ s ver i HK.out HN.out HI.out hl HV.out _ K1_c.out HNM.out hs).mono ?_
  rintro e W2 ⟨rfl, hb⟩
  have hb2 : Below w.heap.size w W2 := below_then HB1.out hb
  have b_bx2 := B1_bx.out.below hb B1_bx.out.lt
  have b_bz2 := B1_bz.out.below hb B1_bz.out.lt
  have k_c2 := K1_c.out.below hb
  have hz2 := hb.size
  have HB2 := Lib.hid hb2
  have B2_bx := Lib.hid b_bx2
  have B2_bz := Lib.hid b_bz2
  have K2_c := Lib.hid k_c2
  clear hb2 b_bx2 b_bz2 k_c2
  clear B1_bx B1_bz HB1 K1_c
  have c_bx0 := B2_bx.out.cell 0
  have c_bx1 := B2_bx.out.cell 1
  have c_bx2 := B2_bx.out.cell 2
  have c_bx3 := B2_bx.out.cell 3
  have l_bx := B2_bx.out.lt
  go_wp2_with (go_at_call 64; refine (In_any _ _ _ _).mono ?_; rintro e wi ⟨rfl, rfl⟩; rw [HIN.out])
  clear c_bx0 c_bx1 c_bx2 c_bx3 l_bx
  have c_bx0 := B2_bx.out.cell 0
  have c_bx1 := B2_bx.out.cell 1
  have c_bx2 := B2_bx.out.cell 2
  have c_bx3 := B2_bx.out.cell 3
  have l_bx := B2_bx.out.lt
  go_quiet (fail)
  clear c_bx0 c_bx1 c_bx2 c_bx3 l_bx
  generalize hd : World.drewN W2 _ = W3 at *
  have hb : Below W2.heap.size W2 W3 := by rw [← hd]; exact below_drewN_ _ _
  have hb3 : Below w.heap.size w W3 := below_then HB2.out hb
  have b_bx3 := B2_bx.out.below hb B2_bx.out.lt
  have b_bz3 := B2_bz.out.below hb B2_bz.out.lt
  have k_c3 := K2_c.out.below hb
  have hz3 := hb.size
  have HB3 := Lib.hid hb3
  have B3_bx := Lib.hid b_bx3
  have B3_bz := Lib.hid b_bz3
  have K3_c := Lib.hid k_c3
  clear hb3 b_bx3 b_bz3 k_c3
  clear B2_bx B2_bz HB2 K2_c
  clear hd hb
  have c_bx0 := B3_bx.out.cell 0
  have c_bx1 := B3_bx.out.cell 1
  have c_bx2 := B3_bx.out.cell 2
  have c_bx3 := B3_bx.out.cell 3
  have l_bx := B3_bx.out.lt
  have c_bz0 := B3_bz.out.cell 0
  have f_bz0 := B3_bz.out.frozen 0
  have c_bz1 := B3_bz.out.cell 1
  have f_bz1 := B3_bz.out.frozen 1
  have c_bz2 := B3_bz.out.cell 2
  have f_bz2 := B3_bz.out.frozen 2
  have c_bz3 := B3_bz.out.cell 3
  have f_bz3 := B3_bz.out.frozen 3
  have l_bz := B3_bz.out.lt
  go_wp2_with fail
  clear c_bx0 c_bx1 c_bx2 c_bx3 l_bx c_bz0 f_bz0 c_bz1 f_bz1 c_bz2 f_bz2 c_bz3 f_bz3 l_bz
  have hszF := HB3.out.size
  have hbF : Below w.heap.size w ((((W3.setCell ⟨w.heap.size + 1, 0, none⟩ (.int .i64 0)).setCell ⟨w.heap.size + 1, 1, none⟩ (.int .i64 0)).setCell ⟨w.heap.size + 1, 2, none⟩ (.int .i64 0)).setCell ⟨w.heap.size + 1, 3, none⟩ (.slice none 0 0)) := ((((HB3.out).setCell (by show w.heap.size ≤ w.heap.size + 1; omega) _).setCell (by show w.heap.size ≤ w.heap.size + 1; omega) _).setCell (by show w.heap.size ≤ w.heap.size + 1; omega) _).setCell (by show w.heap.size ≤ w.heap.size + 1; omega) _
  have b_bxF : Blk ((((W3.setCell ⟨w.heap.size + 1, 0, none⟩ (.int .i64 0)).setCell ⟨w.heap.size + 1, 1, none⟩ (.int .i64 0)).setCell ⟨w.heap.size + 1, 2, none⟩ (.int .i64 0)).setCell ⟨w.heap.size + 1, 3, none⟩ (.slice none 0 0)) (w.heap.size) 28 #[.int .i64 ck, .int .i64 nx, .int .i64 wt, .slice A ts.length m] := ((((B3_bx.out).far (p := ⟨w.heap.size + 1, 0, none⟩) (by show w.heap.size ≠ w.heap.size + 1; omega) _).far (p := ⟨w.heap.size + 1, 1, none⟩) (by show w.heap.size ≠ w.heap.size + 1; omega) _).far (p := ⟨w.heap.size + 1, 2, none⟩) (by show w.heap.size ≠ w.heap.size + 1; omega) _).far (p := ⟨w.heap.size + 1, 3, none⟩) (by show w.heap.size ≠ w.heap.size + 1; omega) _
  have b_bzF : Blk ((((W3.setCell ⟨w.heap.size + 1, 0, none⟩ (.int .i64 0)).setCell ⟨w.heap.size + 1, 1, none⟩ (.int .i64 0)).setCell ⟨w.heap.size + 1, 2, none⟩ (.int .i64 0)).setCell ⟨w.heap.size + 1, 3, none⟩ (.slice none 0 0)) (w.heap.size + 1) 28 #[.int .i64 0, .int .i64 0, .int .i64 0, .slice none 0 0] := ((((B3_bz.out).set_ 0 _).set_ 1 _).set_ 2 _).set_ 3 _
  have y0 := b_bzF.cell 0
  have y1 := b_bzF.cell 1
  have y2 := b_bzF.cell 2
  have y3 := b_bzF.cell 3
  exact bodyPost_ret (v := .tuple #[.agg #[.int .i64 0, .int .i64 0, .int .i64 0, .slice none 0 0], .int .i64 (2)]) (by simp [results, Try.results57, go_sem, y0, y1, y2, y3]) rfl (CRes.zero hbF)
set_option maxRecDepth 100000 in
set_option maxHeartbeats 4000000 in
theorem addedOf_state (v : Value) (c : CoordD) (s : ByteArray) (ver part : Int) (i : Nat) (hk : CoordOk c) (hn : NameOk s) (hi : idxOf c.txns s = some i) (hl : i < c.txns.length) (hv : c.txns[i].ver = ver) (h0 : 0 ≤ part) (h3 : part ≤ 3) (st : Int) (hst : c.txns[i].state = st) (h34 : st = 3 ∨ st = 4) (w : World) (h : Cv w v c) (hnm : ∀ t ∈ c.txns, t.name.size ≤ 9223372036854775807) (hs : s.size ≤ 9223372036854775807) :
    Calls Try.prog 57 #[v, .string s, .int .i64 ver, .int .i64 part] w (CRes zeroC [.int .i64 (12)] w) := by
  obtain ⟨tv, rfl, hx, hlen⟩ := id h
  obtain ⟨A, m, rfl, -⟩ := hx.at_
  obtain ⟨b, off, -, -, rfl, -⟩ := hx.row (Below.refl _ _) i hl
  have H := Lib.hid h
  have HX := Lib.hid hx
  clear h hx
  unfold coordV at *
  obtain ⟨ck, nx, wt, ts⟩ := c
  simp only at *
  have HST := Lib.hid hst
  have HK := Lib.hid hk
  have HN := Lib.hid hn
  have HI := Lib.hid hi
  have HV := Lib.hid hv
  have hix : ixOf ts s = i := (ix_some hi).2
  have HIX := Lib.hid hix
  have HNM := Lib.hid hnm
  have i0 : (0 : Int) ≤ (i : Int) := by omega
  have i1 : (i : Int) < (ts.length : Int) := Int.ofNat_lt.2 hl
  have i2 : decide ((i : Int) < 0) = false := decide_eq_false (by omega)
  clear hk hn hi hv hix hnm
  obtain ⟨hbw, A3, m3, x0, x1, x2, x3, x4, x5, x6, xi⟩ := HX.out.rowAt (Below.refl _ _) i hl
  have xc := Is.cells xi
  have HBW := Lib.hid hbw
  have XS := Lib.hid (show w.cell? ⟨b, off + i * 7, none⟩ = some (.string ts[i].name) ∧ w.cell? ⟨b, off + i * 7 + 1, none⟩ = some (.int .i64 ts[i].pid) ∧ w.cell? ⟨b, off + i * 7 + 2, none⟩ = some (.int .i64 ts[i].ver) ∧ w.cell? ⟨b, off + i * 7 + 3, none⟩ = some (.int .i64 ts[i].state) ∧ w.cell? ⟨b, off + i * 7 + 4, none⟩ = some (.slice A3 ts[i].parts.length m3) ∧ w.cell? ⟨b, off + i * 7 + 5, none⟩ = some (.int .i64 ts[i].since) ∧ w.cell? ⟨b, off + i * 7 + 6, none⟩ = some (.int .i64 ts[i].done) from ⟨x0, x1, x2, x3, x4, x5, x6⟩)
  have XC := Lib.hid xc
  clear hbw x0 x1 x2 x3 x4 x5 x6 xi xc
  have HIN := Lib.hid (show inB part 0 3 = true by unfold inB; simp; omega)
  clear hst
  have HEN := Lib.hid (show (st == 3 || st == 4) = true by rcases h34 with rfl | rfl <;> rfl)
  generalize hP : ts[i].parts = P at *
  have HPP := Lib.hid hP
  clear hP h34
  go_enter Try.func57, Try.ntmps57
  go_wp2_with fail
  have hb1 : Below w.heap.size w ((w.alloc (.cells #[.int .i64 ck, .int .i64 nx, .int .i64 wt, .slice (some ⟨b, off, none⟩) ts.length m] 28)).alloc (.cells #[.int .i64 0, .int .i64 0, .int .i64 0, .slice none 0 0] 28)) := ((Below.refl _ _).alloc (by first | omega | (simp; done) | (simp; omega)) _).alloc (by first | omega | (simp; done) | (simp; omega)) _
  have hal1 : Below w.heap.size w ((w.alloc (.cells #[.int .i64 ck, .int .i64 nx, .int .i64 wt, .slice (some ⟨b, off, none⟩) ts.length m] 28)).alloc (.cells #[.int .i64 0, .int .i64 0, .int .i64 0, .slice none 0 0] 28)) := ((Below.refl _ _).alloc (by first | omega | (simp; done) | (simp; omega)) _).alloc (by first | omega | (simp; done) | (simp; omega)) _
  have b_bx1 : Blk ((w.alloc (.cells #[.int .i64 ck, .int .i64 nx, .int .i64 wt, .slice (some ⟨b, off, none⟩) ts.length m] 28)).alloc (.cells #[.int .i64 0, .int .i64 0, .int .i64 0, .slice none 0 0] 28)) (w.heap.size) 28 #[.int .i64 ck, .int .i64 nx, .int .i64 wt, .slice (some ⟨b, off, none⟩) ts.length m] := (Blk.new_ _ 28 #[.int .i64 ck, .int .i64 nx, .int .i64 wt, .slice (some ⟨b, off, none⟩) ts.length m] (by first | rfl | (simp; done) | (simp; omega))).alloc _
  have b_bz1 : Blk ((w.alloc (.cells #[.int .i64 ck, .int .i64 nx, .int .i64 wt, .slice (some ⟨b, off, none⟩) ts.length m] 28)).alloc (.cells #[.int .i64 0, .int .i64 0, .int .i64 0, .slice none 0 0] 28)) (w.heap.size + 1) 28 #[.int .i64 0, .int .i64 0, .int .i64 0, .slice none 0 0] := Blk.new_ _ 28 #[.int .i64 0, .int .i64 0, .int .i64 0, .slice none 0 0] (by first | rfl | (simp; done) | (simp; omega))
  have k_c1 := H.out.below hal1
  have hz1 : w.heap.size + 2 ≤ ((w.alloc (.cells #[.int .i64 ck, .int .i64 nx, .int .i64 wt, .slice (some ⟨b, off, none⟩) ts.length m] 28)).alloc (.cells #[.int .i64 0, .int .i64 0, .int .i64 0, .slice none 0 0] 28)).heap.size := by first | omega | (simp; done) | (simp; omega)
  generalize (w.alloc (.cells #[.int .i64 ck, .int .i64 nx, .int .i64 wt, .slice (some ⟨b, off, none⟩) ts.length m] 28)).alloc (.cells #[.int .i64 0, .int .i64 0, .int .i64 0, .slice none 0 0] 28) = W1 at *
  have HB1 := Lib.hid hb1
  have B1_bx := Lib.hid b_bx1
  have B1_bz := Lib.hid b_bz1
  have K1_c := Lib.hid k_c1
  clear hb1 b_bx1 b_bz1 k_c1
  clear H
  refine (knownFault_good _ ⟨ck, nx, wt, ts⟩ s ver i HK.out HN.out HI.out hl HV.out _ K1_c.out HNM.out hs).mono ?_
  rintro e W2 ⟨rfl, hb⟩
  have hb2 : Below w.heap.size w W2 := below_then HB1.out hb
  have b_bx2 := B1_bx.out.below hb B1_bx.out.lt
  have b_bz2 := B1_bz.out.below hb B1_bz.out.lt
  have k_c2 := K1_c.out.below hb
  have hz2 := hb.size
  have HB2 := Lib.hid hb2
  have B2_bx := Lib.hid b_bx2
  have B2_bz := Lib.hid b_bz2
  have K2_c := Lib.hid k_c2
  clear hb2 b_bx2 b_bz2 k_c2
  clear B1_bx B1_bz HB1 K1_c
  have c_bx0 := B2_bx.out.cell 0
  have c_bx1 := B2_bx.out.cell 1
  have c_bx2 := B2_bx.out.cell 2
  have c_bx3 := B2_bx.out.cell 3
  have l_bx := B2_bx.out.lt
  go_wp2_with (go_at_call 64; refine (In_any _ _ _ _).mono ?_; rintro e wi ⟨rfl, rfl⟩; rw [HIN.out])
  clear c_bx0 c_bx1 c_bx2 c_bx3 l_bx
  have c_bx0 := B2_bx.out.cell 0
  have c_bx1 := B2_bx.out.cell 1
  have c_bx2 := B2_bx.out.cell 2
  have c_bx3 := B2_bx.out.cell 3
  have l_bx := B2_bx.out.lt
  go_wp2_with fail
  clear c_bx0 c_bx1 c_bx2 c_bx3 l_bx
  obtain ⟨a0, a1, a2, a3, a4, a5, a6⟩ := XS.out
  have x0 := (HB2.out.cell (p := ⟨b, off + i * 7, none⟩) HBW.out).trans a0
  have x1 := (HB2.out.cell (p := ⟨b, off + i * 7 + 1, none⟩) HBW.out).trans a1
  have x2 := (HB2.out.cell (p := ⟨b, off + i * 7 + 2, none⟩) HBW.out).trans a2
  have x3 := (HB2.out.cell (p := ⟨b, off + i * 7 + 3, none⟩) HBW.out).trans a3
  rw [HST.out] at x3
  have x4 := (HB2.out.cell (p := ⟨b, off + i * 7 + 4, none⟩) HBW.out).trans a4
  have x5 := (HB2.out.cell (p := ⟨b, off + i * 7 + 5, none⟩) HBW.out).trans a5
  have x6 := (HB2.out.cell (p := ⟨b, off + i * 7 + 6, none⟩) HBW.out).trans a6
  clear a0 a1 a2 a3 a4 a5 a6
  have hblz := HB2.out.size
  have hbl := HBW.out
  have c_bx0 := B2_bx.out.cell 0
  have c_bx1 := B2_bx.out.cell 1
  have c_bx2 := B2_bx.out.cell 2
  have c_bx3 := B2_bx.out.cell 3
  have l_bx := B2_bx.out.lt
  refine wp_region_held_drew (S := fun w0 => w0.cell? ⟨w.heap.size, 0, none⟩ = some (.int .i64 ck) ∧ w0.cell? ⟨w.heap.size, 1, none⟩ = some (.int .i64 nx) ∧ w0.cell? ⟨w.heap.size, 2, none⟩ = some (.int .i64 wt) ∧ w0.cell? ⟨w.heap.size, 3, none⟩ = some (.slice (some ⟨b, off, none⟩) ts.length m) ∧ w0.cell? ⟨b, off + i * 7, none⟩ = some (.string ts[i].name) ∧ w0.cell? ⟨b, off + i * 7 + 1, none⟩ = some (.int .i64 ts[i].pid) ∧ w0.cell? ⟨b, off + i * 7 + 2, none⟩ = some (.int .i64 ts[i].ver) ∧ w0.cell? ⟨b, off + i * 7 + 3, none⟩ = some (.int .i64 st) ∧ w0.cell? ⟨b, off + i * 7 + 4, none⟩ = some (.slice A3 P.length m3) ∧ w0.cell? ⟨b, off + i * 7 + 5, none⟩ = some (.int .i64 ts[i].since) ∧ w0.cell? ⟨b, off + i * 7 + 6, none⟩ = some (.int .i64 ts[i].done)) (by kernel_rfl) ?_ (fun hHeld => ?_)
  · exact ⟨c_bx0, c_bx1, c_bx2, c_bx3, x0, x1, x2, x3, x4, x5, x6⟩
  clear c_bx0 c_bx1 c_bx2 c_bx3 l_bx
  generalize hd : World.drew W2 = W3 at *
  have hb : Below W2.heap.size W2 W3 := by rw [← hd]; exact (Below.refl _ _).drew
  have hb3 : Below w.heap.size w W3 := below_then HB2.out hb
  have b_bx3 := B2_bx.out.below hb B2_bx.out.lt
  have b_bz3 := B2_bz.out.below hb B2_bz.out.lt
  have k_c3 := K2_c.out.below hb
  have hz3 := hb.size
  have HB3 := Lib.hid hb3
  have B3_bx := Lib.hid b_bx3
  have B3_bz := Lib.hid b_bz3
  have K3_c := Lib.hid k_c3
  clear hb3 b_bx3 b_bz3 k_c3
  clear B2_bx B2_bz HB2 K2_c
  have x0n := (hb.cell (p := ⟨b, off + i * 7, none⟩) (show b < W2.heap.size by omega)).trans x0
  clear x0
  have x0 := x0n
  clear x0n
  have x1n := (hb.cell (p := ⟨b, off + i * 7 + 1, none⟩) (show b < W2.heap.size by omega)).trans x1
  clear x1
  have x1 := x1n
  clear x1n
  have x2n := (hb.cell (p := ⟨b, off + i * 7 + 2, none⟩) (show b < W2.heap.size by omega)).trans x2
  clear x2
  have x2 := x2n
  clear x2n
  have x3n := (hb.cell (p := ⟨b, off + i * 7 + 3, none⟩) (show b < W2.heap.size by omega)).trans x3
  clear x3
  have x3 := x3n
  clear x3n
  have x4n := (hb.cell (p := ⟨b, off + i * 7 + 4, none⟩) (show b < W2.heap.size by omega)).trans x4
  clear x4
  have x4 := x4n
  clear x4n
  have x5n := (hb.cell (p := ⟨b, off + i * 7 + 5, none⟩) (show b < W2.heap.size by omega)).trans x5
  clear x5
  have x5 := x5n
  clear x5n
  have x6n := (hb.cell (p := ⟨b, off + i * 7 + 6, none⟩) (show b < W2.heap.size by omega)).trans x6
  clear x6
  have x6 := x6n
  clear x6n
  clear hd hb
  refine wpAnyH_take (i := 0) (v := ?_) rfl (by kernel_rfl) (by kernel_rfl) (by kernel_rfl) (fun _ _ _ h => h) (Or.inl ⟨by rfl, ?_⟩) (by assumption) ?_
  rotate_left
  · intro w0 hSw
    (try dsimp only at hSw)
    go_simp
    all_goals with_reducible rfl
  try simp only [Act.put, List.getElem_toArray, List.getElem_cons_zero, List.setIfInBounds_toArray, List.set_cons_zero, List.set_cons_succ]
  refine wpAnyH_take (i := 1) (v := ?_) rfl (by kernel_rfl) (by kernel_rfl) (by kernel_rfl) (fun _ _ _ h => h) (Or.inl ⟨by rfl, ?_⟩) (by assumption) ?_
  rotate_left
  · intro w0 hSw
    (try dsimp only at hSw)
    go_simp
    all_goals with_reducible rfl
  try simp only [Act.put, List.getElem_toArray, List.getElem_cons_zero, List.getElem_cons_succ, List.setIfInBounds_toArray, List.set_cons_zero, List.set_cons_succ]
  refine wpAnyH_take (i := 2) (v := ?_) rfl (by kernel_rfl) (by kernel_rfl) (by kernel_rfl) (fun _ _ _ h => h) (Or.inl ⟨by rfl, ?_⟩) (by assumption) ?_
  rotate_left
  · intro w0 hSw
    (try dsimp only at hSw)
    go_simp
    all_goals with_reducible rfl
  try simp only [Act.put, List.getElem_toArray, List.getElem_cons_zero, List.getElem_cons_succ, List.setIfInBounds_toArray, List.set_cons_zero, List.set_cons_succ]
  refine wpAnyH_take (i := 3) (v := ?_) rfl (by kernel_rfl) (by kernel_rfl) (by kernel_rfl) (fun _ _ _ h => h) (Or.inl ⟨by rfl, ?_⟩) (by assumption) ?_
  rotate_left
  · intro w0 hSw
    (try dsimp only at hSw)
    go_simp
    all_goals with_reducible rfl
  try simp only [Act.put, List.getElem_toArray, List.getElem_cons_zero, List.getElem_cons_succ, List.setIfInBounds_toArray, List.set_cons_zero, List.set_cons_succ]
  refine wpAnyH_take (i := 4) (v := ?_) rfl (by kernel_rfl) (by kernel_rfl) (by kernel_rfl) (fun _ _ _ h => h) (Or.inl ⟨by rfl, ?_⟩) (by assumption) ?_
  rotate_left
  · intro w0 hSw
    (try dsimp only at hSw)
    go_simp
    all_goals with_reducible rfl
  try simp only [Act.put, List.getElem_toArray, List.getElem_cons_zero, List.getElem_cons_succ, List.setIfInBounds_toArray, List.set_cons_zero, List.set_cons_succ]
  refine wpAnyH_take (i := 5) (v := ?_) rfl (by kernel_rfl) (by kernel_rfl) (by kernel_rfl) (fun _ _ _ h => h) (Or.inl ⟨by rfl, ?_⟩) (by assumption) ?_
  rotate_left
  · intro w0 hSw
    (try dsimp only at hSw)
    go_simp
    all_goals with_reducible rfl
  try simp only [Act.put, List.getElem_toArray, List.getElem_cons_zero, List.getElem_cons_succ, List.setIfInBounds_toArray, List.set_cons_zero, List.set_cons_succ]
  refine wpAnyH_take (i := 6) (v := ?_) rfl (by kernel_rfl) (by kernel_rfl) (by kernel_rfl) (fun _ _ _ h => h) (Or.inl ⟨by rfl, ?_⟩) (by assumption) ?_
  rotate_left
  · intro w0 hSw
    (try dsimp only at hSw)
    go_simp
    all_goals with_reducible rfl
  try simp only [Act.put, List.getElem_toArray, List.getElem_cons_zero, List.getElem_cons_succ, List.setIfInBounds_toArray, List.set_cons_zero, List.set_cons_succ]
  refine wpAnyH_ready (rs := [7]) (by kernel_rfl) (by simp) (AllReadyH.cons rfl (fun K hK => ?_) AllReadyH.nil)
  go_simp
  go_at_call 86
  refine (txnOf_any _ ⟨ck, nx, wt, ts⟩ s _ K3_c.out).mono ?_
  rintro e W4 ⟨rfl, hb⟩
  simp only
  rw [HIX.out]
  have hb4 : Below w.heap.size w W4 := below_then HB3.out hb
  have b_bx4 := B3_bx.out.below hb B3_bx.out.lt
  have b_bz4 := B3_bz.out.below hb B3_bz.out.lt
  have k_c4 := K3_c.out.below hb
  have hz4 := hb.size
  have HB4 := Lib.hid hb4
  have B4_bx := Lib.hid b_bx4
  have B4_bz := Lib.hid b_bz4
  have K4_c := Lib.hid k_c4
  clear hb4 b_bx4 b_bz4 k_c4
  clear B3_bx B3_bz HB3 K3_c
  clear x0 x1 x2 x3 x4 x5 x6 hbl hblz
  obtain ⟨a0, a1, a2, a3, a4, a5, a6⟩ := XS.out
  have x0 := (HB4.out.cell (p := ⟨b, off + i * 7, none⟩) HBW.out).trans a0
  have x1 := (HB4.out.cell (p := ⟨b, off + i * 7 + 1, none⟩) HBW.out).trans a1
  have x2 := (HB4.out.cell (p := ⟨b, off + i * 7 + 2, none⟩) HBW.out).trans a2
  have x3 := (HB4.out.cell (p := ⟨b, off + i * 7 + 3, none⟩) HBW.out).trans a3
  have x4 := (HB4.out.cell (p := ⟨b, off + i * 7 + 4, none⟩) HBW.out).trans a4
  have x5 := (HB4.out.cell (p := ⟨b, off + i * 7 + 5, none⟩) HBW.out).trans a5
  have x6 := (HB4.out.cell (p := ⟨b, off + i * 7 + 6, none⟩) HBW.out).trans a6
  rw [HST.out] at x3
  clear a0 a1 a2 a3 a4 a5 a6
  have hblz := HB4.out.size
  have hbl := HBW.out
  refine hK.out _ _ ?_ (fun hHeld => ?_)
  · exact ⟨(B4_bx.out).cell 0, (B4_bx.out).cell 1, (B4_bx.out).cell 2, (B4_bx.out).cell 3, x0, x1, x2, x3, x4, x5, x6⟩
  clear hK K
  try simp only [Act.put, List.getElem_toArray, List.getElem_cons_zero, List.getElem_cons_succ, List.setIfInBounds_toArray, List.set_cons_zero, List.set_cons_succ]
  refine wpAnyH_take (i := 8) (v := ?_) rfl (by kernel_rfl) (by kernel_rfl) (by kernel_rfl) (fun _ _ _ h => h) (Or.inl ⟨by rfl, ?_⟩) (by assumption) ?_
  rotate_left
  · intro w0 hSw
    (try dsimp only at hSw)
    go_simp
    all_goals with_reducible rfl
  try simp only [Act.put, List.getElem_toArray, List.getElem_cons_zero, List.getElem_cons_succ, List.setIfInBounds_toArray, List.set_cons_zero, List.set_cons_succ]
  refine wpAnyH_take (i := 9) (v := ?_) rfl (by kernel_rfl) (by kernel_rfl) (by kernel_rfl) (fun _ _ _ h => h) (Or.inl ⟨by rfl, ?_⟩) (by assumption) ?_
  rotate_left
  · intro w0 hSw
    (try dsimp only at hSw)
    go_simp
    all_goals with_reducible rfl
  try simp only [Act.put, List.getElem_toArray, List.getElem_cons_zero, List.getElem_cons_succ, List.setIfInBounds_toArray, List.set_cons_zero, List.set_cons_succ]
  refine wpAnyH_ready (rs := [10]) (by kernel_rfl) (by simp) (AllReadyH.cons rfl (fun K hK => ?_) AllReadyH.nil)
  go_simp
  go_at_call 79
  refine (endin_b true HEN.out rfl).mono ?_
  rintro e W5 ⟨rfl, hb⟩
  have hb5 : Below w.heap.size w W5 := below_then HB4.out hb
  have b_bx5 := B4_bx.out.below hb B4_bx.out.lt
  have b_bz5 := B4_bz.out.below hb B4_bz.out.lt
  have k_c5 := K4_c.out.below hb
  have hz5 := hb.size
  have HB5 := Lib.hid hb5
  have B5_bx := Lib.hid b_bx5
  have B5_bz := Lib.hid b_bz5
  have K5_c := Lib.hid k_c5
  clear hb5 b_bx5 b_bz5 k_c5
  clear B4_bx B4_bz HB4 K4_c
  clear x0 x1 x2 x3 x4 x5 x6 hbl hblz
  obtain ⟨a0, a1, a2, a3, a4, a5, a6⟩ := XS.out
  have x0 := (HB5.out.cell (p := ⟨b, off + i * 7, none⟩) HBW.out).trans a0
  have x1 := (HB5.out.cell (p := ⟨b, off + i * 7 + 1, none⟩) HBW.out).trans a1
  have x2 := (HB5.out.cell (p := ⟨b, off + i * 7 + 2, none⟩) HBW.out).trans a2
  have x3 := (HB5.out.cell (p := ⟨b, off + i * 7 + 3, none⟩) HBW.out).trans a3
  have x4 := (HB5.out.cell (p := ⟨b, off + i * 7 + 4, none⟩) HBW.out).trans a4
  have x5 := (HB5.out.cell (p := ⟨b, off + i * 7 + 5, none⟩) HBW.out).trans a5
  have x6 := (HB5.out.cell (p := ⟨b, off + i * 7 + 6, none⟩) HBW.out).trans a6
  rw [HST.out] at x3
  clear a0 a1 a2 a3 a4 a5 a6
  have hblz := HB5.out.size
  have hbl := HBW.out
  refine hK.out _ _ ?_ (fun hHeld => ?_)
  · exact ⟨(B5_bx.out).cell 0, (B5_bx.out).cell 1, (B5_bx.out).cell 2, (B5_bx.out).cell 3, x0, x1, x2, x3, x4, x5, x6⟩
  clear hK K
  try simp only [Act.put, List.getElem_toArray, List.getElem_cons_zero, List.getElem_cons_succ, List.setIfInBounds_toArray, List.set_cons_zero, List.set_cons_succ]
  refine wpAnyH_take (i := 11) (v := ?_) rfl (by kernel_rfl) (by kernel_rfl) (by kernel_rfl) (fun _ _ _ h => h) (Or.inl ⟨by rfl, ?_⟩) (by assumption) ?_
  rotate_left
  · intro w0 hSw
    (try dsimp only at hSw)
    go_simp
    all_goals with_reducible rfl
  try simp only [Act.put, List.getElem_toArray, List.getElem_cons_zero, List.getElem_cons_succ, List.setIfInBounds_toArray, List.set_cons_zero, List.set_cons_succ]
  refine wpAnyH_done (by kernel_rfl) ?_ _
  clear x0 x1 x2 x3 x4 x5 x6 hbl hblz
  have c_bx0 := B5_bx.out.cell 0
  have c_bx1 := B5_bx.out.cell 1
  have c_bx2 := B5_bx.out.cell 2
  have c_bx3 := B5_bx.out.cell 3
  have l_bx := B5_bx.out.lt
  have c_bz0 := B5_bz.out.cell 0
  have f_bz0 := B5_bz.out.frozen 0
  have c_bz1 := B5_bz.out.cell 1
  have f_bz1 := B5_bz.out.frozen 1
  have c_bz2 := B5_bz.out.cell 2
  have f_bz2 := B5_bz.out.frozen 2
  have c_bz3 := B5_bz.out.cell 3
  have f_bz3 := B5_bz.out.frozen 3
  have l_bz := B5_bz.out.lt
  go_wp2_with fail
  clear c_bx0 c_bx1 c_bx2 c_bx3 l_bx c_bz0 f_bz0 c_bz1 f_bz1 c_bz2 f_bz2 c_bz3 f_bz3 l_bz
  have hszF := HB5.out.size
  have hbF : Below w.heap.size w ((((W5.setCell ⟨w.heap.size + 1, 0, none⟩ (.int .i64 0)).setCell ⟨w.heap.size + 1, 1, none⟩ (.int .i64 0)).setCell ⟨w.heap.size + 1, 2, none⟩ (.int .i64 0)).setCell ⟨w.heap.size + 1, 3, none⟩ (.slice none 0 0)) := ((((HB5.out).setCell (by show w.heap.size ≤ w.heap.size + 1; omega) _).setCell (by show w.heap.size ≤ w.heap.size + 1; omega) _).setCell (by show w.heap.size ≤ w.heap.size + 1; omega) _).setCell (by show w.heap.size ≤ w.heap.size + 1; omega) _
  have b_bxF : Blk ((((W5.setCell ⟨w.heap.size + 1, 0, none⟩ (.int .i64 0)).setCell ⟨w.heap.size + 1, 1, none⟩ (.int .i64 0)).setCell ⟨w.heap.size + 1, 2, none⟩ (.int .i64 0)).setCell ⟨w.heap.size + 1, 3, none⟩ (.slice none 0 0)) (w.heap.size) 28 #[.int .i64 ck, .int .i64 nx, .int .i64 wt, .slice (some ⟨b, off, none⟩) ts.length m] := ((((B5_bx.out).far (p := ⟨w.heap.size + 1, 0, none⟩) (by show w.heap.size ≠ w.heap.size + 1; omega) _).far (p := ⟨w.heap.size + 1, 1, none⟩) (by show w.heap.size ≠ w.heap.size + 1; omega) _).far (p := ⟨w.heap.size + 1, 2, none⟩) (by show w.heap.size ≠ w.heap.size + 1; omega) _).far (p := ⟨w.heap.size + 1, 3, none⟩) (by show w.heap.size ≠ w.heap.size + 1; omega) _
  have b_bzF : Blk ((((W5.setCell ⟨w.heap.size + 1, 0, none⟩ (.int .i64 0)).setCell ⟨w.heap.size + 1, 1, none⟩ (.int .i64 0)).setCell ⟨w.heap.size + 1, 2, none⟩ (.int .i64 0)).setCell ⟨w.heap.size + 1, 3, none⟩ (.slice none 0 0)) (w.heap.size + 1) 28 #[.int .i64 0, .int .i64 0, .int .i64 0, .slice none 0 0] := ((((B5_bz.out).set_ 0 _).set_ 1 _).set_ 2 _).set_ 3 _
  have y0 := b_bzF.cell 0
  have y1 := b_bzF.cell 1
  have y2 := b_bzF.cell 2
  have y3 := b_bzF.cell 3
  exact bodyPost_ret (v := .tuple #[.agg #[.int .i64 0, .int .i64 0, .int .i64 0, .slice none 0 0], .int .i64 (12)]) (by simp [results, Try.results57, go_sem, y0, y1, y2, y3]) rfl (CRes.zero hbF)
set_option maxRecDepth 100000 in
set_option maxHeartbeats 4000000 in
theorem addedOf_1 (v : Value) (c : CoordD) (s : ByteArray) (ver part : Int) (i : Nat) (hk : CoordOk c) (hn : NameOk s) (hi : idxOf c.txns s = some i) (hl : i < c.txns.length) (hv : c.txns[i].ver = ver) (h0 : 0 ≤ part) (h3 : part ≤ 3) (st : Int) (hst : c.txns[i].state = st) (h34 : st = 1) (w : World) (h : Cv w v c) (hnm : ∀ t ∈ c.txns, t.name.size ≤ 9223372036854775807) (hs : s.size ≤ 9223372036854775807) :
    Calls Try.prog 57 #[v, .string s, .int .i64 ver, .int .i64 part] w (CRes (c.upd i (openT part c.clock)) [.int .i64 (0)] w) := by
  have hri0 := (hk.all i hl hl).1.rises
  obtain ⟨tv, rfl, hx, hlen⟩ := id h
  obtain ⟨A, m, rfl, -⟩ := hx.at_
  obtain ⟨b, off, -, -, rfl, -⟩ := hx.row (Below.refl _ _) i hl
  have H := Lib.hid h
  have HX := Lib.hid hx
  clear h hx
  unfold coordV at *
  obtain ⟨ck, nx, wt, ts⟩ := c
  simp only at *
  have HST := Lib.hid hst
  have HK := Lib.hid hk
  have HN := Lib.hid hn
  have HI := Lib.hid hi
  have HV := Lib.hid hv
  have hix : ixOf ts s = i := (ix_some hi).2
  have HIX := Lib.hid hix
  have HNM := Lib.hid hnm
  have i0 : (0 : Int) ≤ (i : Int) := by omega
  have i1 : (i : Int) < (ts.length : Int) := Int.ofNat_lt.2 hl
  have i2 : decide ((i : Int) < 0) = false := decide_eq_false (by omega)
  clear hk hn hi hv hix hnm
  obtain ⟨hbw, A3, m3, x0, x1, x2, x3, x4, x5, x6, xi⟩ := HX.out.rowAt (Below.refl _ _) i hl
  have xc := Is.cells xi
  have HBW := Lib.hid hbw
  have XS := Lib.hid (show w.cell? ⟨b, off + i * 7, none⟩ = some (.string ts[i].name) ∧ w.cell? ⟨b, off + i * 7 + 1, none⟩ = some (.int .i64 ts[i].pid) ∧ w.cell? ⟨b, off + i * 7 + 2, none⟩ = some (.int .i64 ts[i].ver) ∧ w.cell? ⟨b, off + i * 7 + 3, none⟩ = some (.int .i64 ts[i].state) ∧ w.cell? ⟨b, off + i * 7 + 4, none⟩ = some (.slice A3 ts[i].parts.length m3) ∧ w.cell? ⟨b, off + i * 7 + 5, none⟩ = some (.int .i64 ts[i].since) ∧ w.cell? ⟨b, off + i * 7 + 6, none⟩ = some (.int .i64 ts[i].done) from ⟨x0, x1, x2, x3, x4, x5, x6⟩)
  have XC := Lib.hid xc
  clear hbw x0 x1 x2 x3 x4 x5 x6 xi xc
  have HIN := Lib.hid (show inB part 0 3 = true by unfold inB; simp; omega)
  clear hst
  have HEN := Lib.hid (show (st == 3 || st == 4) = false by rw [h34]; rfl)
  have s1 : (st == 1) = true := by rw [h34]; rfl
  generalize hP : ts[i].parts = P at *
  have HPP := Lib.hid hP
  have HRI := Lib.hid (show Rises P from hri0)
  have HSM := Lib.hid (show P.length ≤ 4 from HRI.out.small)
  have HFW := Lib.hid (four_with HRI.out h0 h3)
  clear hP hri0 h34
  go_enter Try.func57, Try.ntmps57
  go_wp2_with fail
  have hb1 : Below w.heap.size w ((w.alloc (.cells #[.int .i64 ck, .int .i64 nx, .int .i64 wt, .slice (some ⟨b, off, none⟩) ts.length m] 28)).alloc (.cells #[.int .i64 0, .int .i64 0, .int .i64 0, .slice none 0 0] 28)) := ((Below.refl _ _).alloc (by first | omega | (simp; done) | (simp; omega)) _).alloc (by first | omega | (simp; done) | (simp; omega)) _
  have hal1 : Below w.heap.size w ((w.alloc (.cells #[.int .i64 ck, .int .i64 nx, .int .i64 wt, .slice (some ⟨b, off, none⟩) ts.length m] 28)).alloc (.cells #[.int .i64 0, .int .i64 0, .int .i64 0, .slice none 0 0] 28)) := ((Below.refl _ _).alloc (by first | omega | (simp; done) | (simp; omega)) _).alloc (by first | omega | (simp; done) | (simp; omega)) _
  have b_bx1 : Blk ((w.alloc (.cells #[.int .i64 ck, .int .i64 nx, .int .i64 wt, .slice (some ⟨b, off, none⟩) ts.length m] 28)).alloc (.cells #[.int .i64 0, .int .i64 0, .int .i64 0, .slice none 0 0] 28)) (w.heap.size) 28 #[.int .i64 ck, .int .i64 nx, .int .i64 wt, .slice (some ⟨b, off, none⟩) ts.length m] := (Blk.new_ _ 28 #[.int .i64 ck, .int .i64 nx, .int .i64 wt, .slice (some ⟨b, off, none⟩) ts.length m] (by first | rfl | (simp; done) | (simp; omega))).alloc _
  have b_bz1 : Blk ((w.alloc (.cells #[.int .i64 ck, .int .i64 nx, .int .i64 wt, .slice (some ⟨b, off, none⟩) ts.length m] 28)).alloc (.cells #[.int .i64 0, .int .i64 0, .int .i64 0, .slice none 0 0] 28)) (w.heap.size + 1) 28 #[.int .i64 0, .int .i64 0, .int .i64 0, .slice none 0 0] := Blk.new_ _ 28 #[.int .i64 0, .int .i64 0, .int .i64 0, .slice none 0 0] (by first | rfl | (simp; done) | (simp; omega))
  have k_c1 := H.out.below hal1
  have hz1 : w.heap.size + 2 ≤ ((w.alloc (.cells #[.int .i64 ck, .int .i64 nx, .int .i64 wt, .slice (some ⟨b, off, none⟩) ts.length m] 28)).alloc (.cells #[.int .i64 0, .int .i64 0, .int .i64 0, .slice none 0 0] 28)).heap.size := by first | omega | (simp; done) | (simp; omega)
  generalize (w.alloc (.cells #[.int .i64 ck, .int .i64 nx, .int .i64 wt, .slice (some ⟨b, off, none⟩) ts.length m] 28)).alloc (.cells #[.int .i64 0, .int .i64 0, .int .i64 0, .slice none 0 0] 28) = W1 at *
  have HB1 := Lib.hid hb1
  have B1_bx := Lib.hid b_bx1
  have B1_bz := Lib.hid b_bz1
  have K1_c := Lib.hid k_c1
  clear hb1 b_bx1 b_bz1 k_c1
  clear H
  refine (knownFault_good _ ⟨ck, nx, wt, ts⟩ s ver i HK.out HN.out HI.out hl HV.out _ K1_c.out HNM.out hs).mono ?_
  rintro e W2 ⟨rfl, hb⟩
  have hb2 : Below w.heap.size w W2 := below_then HB1.out hb
  have b_bx2 := B1_bx.out.below hb B1_bx.out.lt
  have b_bz2 := B1_bz.out.below hb B1_bz.out.lt
  have k_c2 := K1_c.out.below hb
  have hz2 := hb.size
  have HB2 := Lib.hid hb2
  have B2_bx := Lib.hid b_bx2
  have B2_bz := Lib.hid b_bz2
  have K2_c := Lib.hid k_c2
  clear hb2 b_bx2 b_bz2 k_c2
  clear B1_bx B1_bz HB1 K1_c
  have c_bx0 := B2_bx.out.cell 0
  have c_bx1 := B2_bx.out.cell 1
  have c_bx2 := B2_bx.out.cell 2
  have c_bx3 := B2_bx.out.cell 3
  have l_bx := B2_bx.out.lt
  go_wp2_with (go_at_call 64; refine (In_any _ _ _ _).mono ?_; rintro e wi ⟨rfl, rfl⟩; rw [HIN.out])
  clear c_bx0 c_bx1 c_bx2 c_bx3 l_bx
  have c_bx0 := B2_bx.out.cell 0
  have c_bx1 := B2_bx.out.cell 1
  have c_bx2 := B2_bx.out.cell 2
  have c_bx3 := B2_bx.out.cell 3
  have l_bx := B2_bx.out.lt
  go_wp2_with fail
  clear c_bx0 c_bx1 c_bx2 c_bx3 l_bx
  obtain ⟨a0, a1, a2, a3, a4, a5, a6⟩ := XS.out
  have x0 := (HB2.out.cell (p := ⟨b, off + i * 7, none⟩) HBW.out).trans a0
  have x1 := (HB2.out.cell (p := ⟨b, off + i * 7 + 1, none⟩) HBW.out).trans a1
  have x2 := (HB2.out.cell (p := ⟨b, off + i * 7 + 2, none⟩) HBW.out).trans a2
  have x3 := (HB2.out.cell (p := ⟨b, off + i * 7 + 3, none⟩) HBW.out).trans a3
  rw [HST.out] at x3
  have x4 := (HB2.out.cell (p := ⟨b, off + i * 7 + 4, none⟩) HBW.out).trans a4
  have x5 := (HB2.out.cell (p := ⟨b, off + i * 7 + 5, none⟩) HBW.out).trans a5
  have x6 := (HB2.out.cell (p := ⟨b, off + i * 7 + 6, none⟩) HBW.out).trans a6
  clear a0 a1 a2 a3 a4 a5 a6
  have hblz := HB2.out.size
  have hbl := HBW.out
  have c_bx0 := B2_bx.out.cell 0
  have c_bx1 := B2_bx.out.cell 1
  have c_bx2 := B2_bx.out.cell 2
  have c_bx3 := B2_bx.out.cell 3
  have l_bx := B2_bx.out.lt
  refine wp_region_held_drew (S := fun w0 => w0.cell? ⟨w.heap.size, 0, none⟩ = some (.int .i64 ck) ∧ w0.cell? ⟨w.heap.size, 1, none⟩ = some (.int .i64 nx) ∧ w0.cell? ⟨w.heap.size, 2, none⟩ = some (.int .i64 wt) ∧ w0.cell? ⟨w.heap.size, 3, none⟩ = some (.slice (some ⟨b, off, none⟩) ts.length m) ∧ w0.cell? ⟨b, off + i * 7, none⟩ = some (.string ts[i].name) ∧ w0.cell? ⟨b, off + i * 7 + 1, none⟩ = some (.int .i64 ts[i].pid) ∧ w0.cell? ⟨b, off + i * 7 + 2, none⟩ = some (.int .i64 ts[i].ver) ∧ w0.cell? ⟨b, off + i * 7 + 3, none⟩ = some (.int .i64 st) ∧ w0.cell? ⟨b, off + i * 7 + 4, none⟩ = some (.slice A3 P.length m3) ∧ w0.cell? ⟨b, off + i * 7 + 5, none⟩ = some (.int .i64 ts[i].since) ∧ w0.cell? ⟨b, off + i * 7 + 6, none⟩ = some (.int .i64 ts[i].done)) (by kernel_rfl) ?_ (fun hHeld => ?_)
  · exact ⟨c_bx0, c_bx1, c_bx2, c_bx3, x0, x1, x2, x3, x4, x5, x6⟩
  clear c_bx0 c_bx1 c_bx2 c_bx3 l_bx
  generalize hd : World.drew W2 = W3 at *
  have hb : Below W2.heap.size W2 W3 := by rw [← hd]; exact (Below.refl _ _).drew
  have hb3 : Below w.heap.size w W3 := below_then HB2.out hb
  have b_bx3 := B2_bx.out.below hb B2_bx.out.lt
  have b_bz3 := B2_bz.out.below hb B2_bz.out.lt
  have k_c3 := K2_c.out.below hb
  have hz3 := hb.size
  have HB3 := Lib.hid hb3
  have B3_bx := Lib.hid b_bx3
  have B3_bz := Lib.hid b_bz3
  have K3_c := Lib.hid k_c3
  clear hb3 b_bx3 b_bz3 k_c3
  clear B2_bx B2_bz HB2 K2_c
  have x0n := (hb.cell (p := ⟨b, off + i * 7, none⟩) (show b < W2.heap.size by omega)).trans x0
  clear x0
  have x0 := x0n
  clear x0n
  have x1n := (hb.cell (p := ⟨b, off + i * 7 + 1, none⟩) (show b < W2.heap.size by omega)).trans x1
  clear x1
  have x1 := x1n
  clear x1n
  have x2n := (hb.cell (p := ⟨b, off + i * 7 + 2, none⟩) (show b < W2.heap.size by omega)).trans x2
  clear x2
  have x2 := x2n
  clear x2n
  have x3n := (hb.cell (p := ⟨b, off + i * 7 + 3, none⟩) (show b < W2.heap.size by omega)).trans x3
  clear x3
  have x3 := x3n
  clear x3n
  have x4n := (hb.cell (p := ⟨b, off + i * 7 + 4, none⟩) (show b < W2.heap.size by omega)).trans x4
  clear x4
  have x4 := x4n
  clear x4n
  have x5n := (hb.cell (p := ⟨b, off + i * 7 + 5, none⟩) (show b < W2.heap.size by omega)).trans x5
  clear x5
  have x5 := x5n
  clear x5n
  have x6n := (hb.cell (p := ⟨b, off + i * 7 + 6, none⟩) (show b < W2.heap.size by omega)).trans x6
  clear x6
  have x6 := x6n
  clear x6n
  clear hd hb
  refine wpAnyH_take (i := 0) (v := ?_) rfl (by kernel_rfl) (by kernel_rfl) (by kernel_rfl) (fun _ _ _ h => h) (Or.inl ⟨by rfl, ?_⟩) (by assumption) ?_
  rotate_left
  · intro w0 hSw
    (try dsimp only at hSw)
    go_simp
    all_goals with_reducible rfl
  try simp only [Act.put, List.getElem_toArray, List.getElem_cons_zero, List.setIfInBounds_toArray, List.set_cons_zero, List.set_cons_succ]
  refine wpAnyH_take (i := 1) (v := ?_) rfl (by kernel_rfl) (by kernel_rfl) (by kernel_rfl) (fun _ _ _ h => h) (Or.inl ⟨by rfl, ?_⟩) (by assumption) ?_
  rotate_left
  · intro w0 hSw
    (try dsimp only at hSw)
    go_simp
    all_goals with_reducible rfl
  try simp only [Act.put, List.getElem_toArray, List.getElem_cons_zero, List.getElem_cons_succ, List.setIfInBounds_toArray, List.set_cons_zero, List.set_cons_succ]
  refine wpAnyH_take (i := 2) (v := ?_) rfl (by kernel_rfl) (by kernel_rfl) (by kernel_rfl) (fun _ _ _ h => h) (Or.inl ⟨by rfl, ?_⟩) (by assumption) ?_
  rotate_left
  · intro w0 hSw
    (try dsimp only at hSw)
    go_simp
    all_goals with_reducible rfl
  try simp only [Act.put, List.getElem_toArray, List.getElem_cons_zero, List.getElem_cons_succ, List.setIfInBounds_toArray, List.set_cons_zero, List.set_cons_succ]
  refine wpAnyH_take (i := 3) (v := ?_) rfl (by kernel_rfl) (by kernel_rfl) (by kernel_rfl) (fun _ _ _ h => h) (Or.inl ⟨by rfl, ?_⟩) (by assumption) ?_
  rotate_left
  · intro w0 hSw
    (try dsimp only at hSw)
    go_simp
    all_goals with_reducible rfl
  try simp only [Act.put, List.getElem_toArray, List.getElem_cons_zero, List.getElem_cons_succ, List.setIfInBounds_toArray, List.set_cons_zero, List.set_cons_succ]
  refine wpAnyH_take (i := 4) (v := ?_) rfl (by kernel_rfl) (by kernel_rfl) (by kernel_rfl) (fun _ _ _ h => h) (Or.inl ⟨by rfl, ?_⟩) (by assumption) ?_
  rotate_left
  · intro w0 hSw
    (try dsimp only at hSw)
    go_simp
    all_goals with_reducible rfl
  try simp only [Act.put, List.getElem_toArray, List.getElem_cons_zero, List.getElem_cons_succ, List.setIfInBounds_toArray, List.set_cons_zero, List.set_cons_succ]
  refine wpAnyH_take (i := 5) (v := ?_) rfl (by kernel_rfl) (by kernel_rfl) (by kernel_rfl) (fun _ _ _ h => h) (Or.inl ⟨by rfl, ?_⟩) (by assumption) ?_
  rotate_left
  · intro w0 hSw
    (try dsimp only at hSw)
    go_simp
    all_goals with_reducible rfl
  try simp only [Act.put, List.getElem_toArray, List.getElem_cons_zero, List.getElem_cons_succ, List.setIfInBounds_toArray, List.set_cons_zero, List.set_cons_succ]
  refine wpAnyH_take (i := 6) (v := ?_) rfl (by kernel_rfl) (by kernel_rfl) (by kernel_rfl) (fun _ _ _ h => h) (Or.inl ⟨by rfl, ?_⟩) (by assumption) ?_
  rotate_left
  · intro w0 hSw
    (try dsimp only at hSw)
    go_simp
    all_goals with_reducible rfl
  try simp only [Act.put, List.getElem_toArray, List.getElem_cons_zero, List.getElem_cons_succ, List.setIfInBounds_toArray, List.set_cons_zero, List.set_cons_succ]
  refine wpAnyH_ready (rs := [7]) (by kernel_rfl) (by simp) (AllReadyH.cons rfl (fun K hK => ?_) AllReadyH.nil)
  go_simp
  go_at_call 86
  refine (txnOf_any _ ⟨ck, nx, wt, ts⟩ s _ K3_c.out).mono ?_
  rintro e W4 ⟨rfl, hb⟩
  simp only
  rw [HIX.out]
  have hb4 : Below w.heap.size w W4 := below_then HB3.out hb
  have b_bx4 := B3_bx.out.below hb B3_bx.out.lt
  have b_bz4 := B3_bz.out.below hb B3_bz.out.lt
  have k_c4 := K3_c.out.below hb
  have hz4 := hb.size
  have HB4 := Lib.hid hb4
  have B4_bx := Lib.hid b_bx4
  have B4_bz := Lib.hid b_bz4
  have K4_c := Lib.hid k_c4
  clear hb4 b_bx4 b_bz4 k_c4
  clear B3_bx B3_bz HB3 K3_c
  clear x0 x1 x2 x3 x4 x5 x6 hbl hblz
  obtain ⟨a0, a1, a2, a3, a4, a5, a6⟩ := XS.out
  have x0 := (HB4.out.cell (p := ⟨b, off + i * 7, none⟩) HBW.out).trans a0
  have x1 := (HB4.out.cell (p := ⟨b, off + i * 7 + 1, none⟩) HBW.out).trans a1
  have x2 := (HB4.out.cell (p := ⟨b, off + i * 7 + 2, none⟩) HBW.out).trans a2
  have x3 := (HB4.out.cell (p := ⟨b, off + i * 7 + 3, none⟩) HBW.out).trans a3
  have x4 := (HB4.out.cell (p := ⟨b, off + i * 7 + 4, none⟩) HBW.out).trans a4
  have x5 := (HB4.out.cell (p := ⟨b, off + i * 7 + 5, none⟩) HBW.out).trans a5
  have x6 := (HB4.out.cell (p := ⟨b, off + i * 7 + 6, none⟩) HBW.out).trans a6
  rw [HST.out] at x3
  clear a0 a1 a2 a3 a4 a5 a6
  have hblz := HB4.out.size
  have hbl := HBW.out
  refine hK.out _ _ ?_ (fun hHeld => ?_)
  · exact ⟨(B4_bx.out).cell 0, (B4_bx.out).cell 1, (B4_bx.out).cell 2, (B4_bx.out).cell 3, x0, x1, x2, x3, x4, x5, x6⟩
  clear hK K
  try simp only [Act.put, List.getElem_toArray, List.getElem_cons_zero, List.getElem_cons_succ, List.setIfInBounds_toArray, List.set_cons_zero, List.set_cons_succ]
  refine wpAnyH_take (i := 8) (v := ?_) rfl (by kernel_rfl) (by kernel_rfl) (by kernel_rfl) (fun _ _ _ h => h) (Or.inl ⟨by rfl, ?_⟩) (by assumption) ?_
  rotate_left
  · intro w0 hSw
    (try dsimp only at hSw)
    go_simp
    all_goals with_reducible rfl
  try simp only [Act.put, List.getElem_toArray, List.getElem_cons_zero, List.getElem_cons_succ, List.setIfInBounds_toArray, List.set_cons_zero, List.set_cons_succ]
  refine wpAnyH_take (i := 9) (v := ?_) rfl (by kernel_rfl) (by kernel_rfl) (by kernel_rfl) (fun _ _ _ h => h) (Or.inl ⟨by rfl, ?_⟩) (by assumption) ?_
  rotate_left
  · intro w0 hSw
    (try dsimp only at hSw)
    go_simp
    all_goals with_reducible rfl
  try simp only [Act.put, List.getElem_toArray, List.getElem_cons_zero, List.getElem_cons_succ, List.setIfInBounds_toArray, List.set_cons_zero, List.set_cons_succ]
  refine wpAnyH_ready (rs := [10]) (by kernel_rfl) (by simp) (AllReadyH.cons rfl (fun K hK => ?_) AllReadyH.nil)
  go_simp
  go_at_call 79
  refine (endin_b false HEN.out rfl).mono ?_
  rintro e W5 ⟨rfl, hb⟩
  have hb5 : Below w.heap.size w W5 := below_then HB4.out hb
  have b_bx5 := B4_bx.out.below hb B4_bx.out.lt
  have b_bz5 := B4_bz.out.below hb B4_bz.out.lt
  have k_c5 := K4_c.out.below hb
  have hz5 := hb.size
  have HB5 := Lib.hid hb5
  have B5_bx := Lib.hid b_bx5
  have B5_bz := Lib.hid b_bz5
  have K5_c := Lib.hid k_c5
  clear hb5 b_bx5 b_bz5 k_c5
  clear B4_bx B4_bz HB4 K4_c
  clear x0 x1 x2 x3 x4 x5 x6 hbl hblz
  obtain ⟨a0, a1, a2, a3, a4, a5, a6⟩ := XS.out
  have x0 := (HB5.out.cell (p := ⟨b, off + i * 7, none⟩) HBW.out).trans a0
  have x1 := (HB5.out.cell (p := ⟨b, off + i * 7 + 1, none⟩) HBW.out).trans a1
  have x2 := (HB5.out.cell (p := ⟨b, off + i * 7 + 2, none⟩) HBW.out).trans a2
  have x3 := (HB5.out.cell (p := ⟨b, off + i * 7 + 3, none⟩) HBW.out).trans a3
  have x4 := (HB5.out.cell (p := ⟨b, off + i * 7 + 4, none⟩) HBW.out).trans a4
  have x5 := (HB5.out.cell (p := ⟨b, off + i * 7 + 5, none⟩) HBW.out).trans a5
  have x6 := (HB5.out.cell (p := ⟨b, off + i * 7 + 6, none⟩) HBW.out).trans a6
  rw [HST.out] at x3
  clear a0 a1 a2 a3 a4 a5 a6
  have hblz := HB5.out.size
  have hbl := HBW.out
  refine hK.out _ _ ?_ (fun hHeld => ?_)
  · exact ⟨(B5_bx.out).cell 0, (B5_bx.out).cell 1, (B5_bx.out).cell 2, (B5_bx.out).cell 3, x0, x1, x2, x3, x4, x5, x6⟩
  clear hK K
  try simp only [Act.put, List.getElem_toArray, List.getElem_cons_zero, List.getElem_cons_succ, List.setIfInBounds_toArray, List.set_cons_zero, List.set_cons_succ]
  refine wpAnyH_take (i := 11) (v := ?_) rfl (by kernel_rfl) (by kernel_rfl) (by kernel_rfl) (fun _ _ _ h => h) (Or.inl ⟨by rfl, ?_⟩) (by assumption) ?_
  rotate_left
  · intro w0 hSw
    (try dsimp only at hSw)
    go_simp
    all_goals with_reducible rfl
  try simp only [Act.put, List.getElem_toArray, List.getElem_cons_zero, List.getElem_cons_succ, List.setIfInBounds_toArray, List.set_cons_zero, List.set_cons_succ]
  refine wpAnyH_done (by kernel_rfl) ?_ _
  clear x0 x1 x2 x3 x4 x5 x6 hbl hblz
  have c_bx0 := B5_bx.out.cell 0
  have c_bx1 := B5_bx.out.cell 1
  have c_bx2 := B5_bx.out.cell 2
  have c_bx3 := B5_bx.out.cell 3
  have l_bx := B5_bx.out.lt
  go_wp2_with fail
  clear c_bx0 c_bx1 c_bx2 c_bx3 l_bx
  have hfit := HK.out.fits
  refine (refCoordCopy_any _ ⟨ck, nx, wt, ts⟩ _ K5_c.out hfit.1 hfit.2.1).mono ?_
  rintro e W6 ⟨tv5, rows, rfl, hown, hb⟩
  obtain ⟨A5, c5, rfl, hc5⟩ := (Sl.of_own hown.own).form
  simp only at *
  unfold coordV
  simp only
  clear hfit
  have hb6 : Below w.heap.size w W6 := below_then HB5.out hb
  have b_bx6 := B5_bx.out.below hb B5_bx.out.lt
  have b_bz6 := B5_bz.out.below hb B5_bz.out.lt
  have k_c6 := K5_c.out.below hb
  have hz6 := hb.size
  have HB6 := Lib.hid hb6
  have B6_bx := Lib.hid b_bx6
  have B6_bz := Lib.hid b_bz6
  have K6_c := Lib.hid k_c6
  clear hb6 b_bx6 b_bz6 k_c6
  clear B5_bx B5_bz HB5 K5_c
  have ho := hown.rebase (w0 := w) rfl (Nat.le_refl _) HB6.out
  obtain ⟨gg, c6, hv6, hg1, hg2, hc6, -⟩ := ho.at_ (Nat.lt_of_le_of_lt (Nat.zero_le i) hl)
  injection hv6 with hv7 hv8 hv9
  subst hv7
  clear hv8 hv9 hc6 hc5 hg1 hg2
  have hgg1 := (ho.own.lt gg rfl).1
  have hgg2 := (ho.own.lt gg rfl).2
  have HO := Lib.hid ho
  clear ho hown
  have c_bx0 := B6_bx.out.cell 0
  have c_bx1 := B6_bx.out.cell 1
  have c_bx2 := B6_bx.out.cell 2
  have c_bx3 := B6_bx.out.cell 3
  have l_bx := B6_bx.out.lt
  go_wp2_with fail
  clear c_bx0 c_bx1 c_bx2 c_bx3 l_bx
  have hsz7 := HB6.out.size
  have hb7 : Below w.heap.size w (W6.alloc (.cells #[.int .i64 ck, .int .i64 nx, .int .i64 wt, .slice (some ⟨gg, 0, none⟩) ts.length c5] 28)) := (HB6.out).alloc (by first | omega | (simp; done) | (simp; omega)) _
  have hal7 : Below W6.heap.size W6 (W6.alloc (.cells #[.int .i64 ck, .int .i64 nx, .int .i64 wt, .slice (some ⟨gg, 0, none⟩) ts.length c5] 28)) := (Below.refl _ _).alloc (by first | omega | (simp; done) | (simp; omega)) _
  have b_bx7 : Blk (W6.alloc (.cells #[.int .i64 ck, .int .i64 nx, .int .i64 wt, .slice (some ⟨gg, 0, none⟩) ts.length c5] 28)) (w.heap.size) 28 #[.int .i64 ck, .int .i64 nx, .int .i64 wt, .slice (some ⟨b, off, none⟩) ts.length m] := (B6_bx.out).alloc _
  have b_bz7 : Blk (W6.alloc (.cells #[.int .i64 ck, .int .i64 nx, .int .i64 wt, .slice (some ⟨gg, 0, none⟩) ts.length c5] 28)) (w.heap.size + 1) 28 #[.int .i64 0, .int .i64 0, .int .i64 0, .slice none 0 0] := (B6_bz.out).alloc _
  have b_bo7 : Blk (W6.alloc (.cells #[.int .i64 ck, .int .i64 nx, .int .i64 wt, .slice (some ⟨gg, 0, none⟩) ts.length c5] 28)) (W6.heap.size) 28 #[.int .i64 ck, .int .i64 nx, .int .i64 wt, .slice (some ⟨gg, 0, none⟩) ts.length c5] := Blk.new_ _ 28 #[.int .i64 ck, .int .i64 nx, .int .i64 wt, .slice (some ⟨gg, 0, none⟩) ts.length c5] (by first | rfl | (simp; done) | (simp; omega))
  have k_c7 := K6_c.out.below hal7
  have k_own7 := (HO.out).alloc (.cells #[.int .i64 ck, .int .i64 nx, .int .i64 wt, .slice (some ⟨gg, 0, none⟩) ts.length c5] 28)
  have hz7 : W6.heap.size + 1 ≤ (W6.alloc (.cells #[.int .i64 ck, .int .i64 nx, .int .i64 wt, .slice (some ⟨gg, 0, none⟩) ts.length c5] 28)).heap.size := by first | omega | (simp; done) | (simp; omega)
  generalize W6.alloc (.cells #[.int .i64 ck, .int .i64 nx, .int .i64 wt, .slice (some ⟨gg, 0, none⟩) ts.length c5] 28) = W7 at *
  have HB7 := Lib.hid hb7
  have B7_bx := Lib.hid b_bx7
  have B7_bz := Lib.hid b_bz7
  have B7_bo := Lib.hid b_bo7
  have K7_c := Lib.hid k_c7
  have K7_own := Lib.hid k_own7
  clear hb7 b_bx7 b_bz7 b_bo7 k_c7 k_own7
  clear B6_bx B6_bz HB6 K6_c HO
  refine (txnOf_any _ ⟨ck, nx, wt, ts⟩ s _ K7_c.out).mono ?_
  rintro e W8 ⟨rfl, hb⟩
  simp only
  rw [HIX.out]
  have hb8 : Below w.heap.size w W8 := below_then HB7.out hb
  have b_bx8 := B7_bx.out.below hb B7_bx.out.lt
  have b_bz8 := B7_bz.out.below hb B7_bz.out.lt
  have b_bo8 := B7_bo.out.below hb B7_bo.out.lt
  have k_c8 := K7_c.out.below hb
  have k_own8 := K7_own.out.keep hb
  have hz8 := hb.size
  have HB8 := Lib.hid hb8
  have B8_bx := Lib.hid b_bx8
  have B8_bz := Lib.hid b_bz8
  have B8_bo := Lib.hid b_bo8
  have K8_c := Lib.hid k_c8
  have K8_own := Lib.hid k_own8
  clear hb8 b_bx8 b_bz8 b_bo8 k_c8 k_own8
  clear B7_bx B7_bz B7_bo HB7 K7_c K7_own
  obtain ⟨hg3, hg4, A6, m6, ⟨-, -, -, u3, -, u5, -⟩, hrf, -⟩ := K8_own.out.row rfl i hl
  have uf3 := hrf 3 (by decide)
  have uf5 := hrf 5 (by decide)
  clear hrf hg3 hg4
  have c_bx0 := B8_bx.out.cell 0
  have c_bx1 := B8_bx.out.cell 1
  have c_bx2 := B8_bx.out.cell 2
  have c_bx3 := B8_bx.out.cell 3
  have l_bx := B8_bx.out.lt
  have c_bo0 := B8_bo.out.cell 0
  have c_bo1 := B8_bo.out.cell 1
  have c_bo2 := B8_bo.out.cell 2
  have c_bo3 := B8_bo.out.cell 3
  have l_bo := B8_bo.out.lt
  obtain ⟨a0, a1, a2, a3, a4, a5, a6⟩ := XS.out
  have x0 := (HB8.out.cell (p := ⟨b, off + i * 7, none⟩) HBW.out).trans a0
  have x1 := (HB8.out.cell (p := ⟨b, off + i * 7 + 1, none⟩) HBW.out).trans a1
  have x2 := (HB8.out.cell (p := ⟨b, off + i * 7 + 2, none⟩) HBW.out).trans a2
  have x3 := (HB8.out.cell (p := ⟨b, off + i * 7 + 3, none⟩) HBW.out).trans a3
  rw [HST.out] at x3
  have x4 := (HB8.out.cell (p := ⟨b, off + i * 7 + 4, none⟩) HBW.out).trans a4
  have x5 := (HB8.out.cell (p := ⟨b, off + i * 7 + 5, none⟩) HBW.out).trans a5
  have x6 := (HB8.out.cell (p := ⟨b, off + i * 7 + 6, none⟩) HBW.out).trans a6
  clear a0 a1 a2 a3 a4 a5 a6
  have hblz := HB8.out.size
  have hbl := HBW.out
  go_wp2_with fail
  clear u3 u5 uf3 uf5 c_bx0 c_bx1 c_bx2 c_bx3 l_bx c_bo0 c_bo1 c_bo2 c_bo3 l_bo x0 x1 x2 x3 x4 x5 x6 hblz hbl
  obtain ⟨rows6, h6⟩ := K8_own.out.putd rfl (by omega) i 3 (.int .i64 2) (setState 2) hl (by decide) (fun _ => rfl) rfl
  obtain ⟨rows7, h7⟩ := h6.putd (by simp) (by omega) i 5 (.int .i64 ck) (setSince ck) (by simpa using hl) (by decide) (fun _ => by simp [tcells, setSince]) rfl
  rw [modify_two ts i _ _ (fun t => setSince ck (setState 2 t)) (fun _ => rfl)] at h7
  have hsz9 := HB8.out.size
  have hb9 : Below w.heap.size w ((W8.setCell ⟨gg, i * 7 + 3, none⟩ (.int .i64 2)).setCell ⟨gg, i * 7 + 5, none⟩ (.int .i64 ck)) := ((HB8.out).setCell (by show w.heap.size ≤ gg; omega) _).setCell (by show w.heap.size ≤ gg; omega) _
  have b_bx9 : Blk ((W8.setCell ⟨gg, i * 7 + 3, none⟩ (.int .i64 2)).setCell ⟨gg, i * 7 + 5, none⟩ (.int .i64 ck)) (w.heap.size) 28 #[.int .i64 ck, .int .i64 nx, .int .i64 wt, .slice (some ⟨b, off, none⟩) ts.length m] := ((B8_bx.out).far (p := ⟨gg, i * 7 + 3, none⟩) (by show w.heap.size ≠ gg; omega) _).far (p := ⟨gg, i * 7 + 5, none⟩) (by show w.heap.size ≠ gg; omega) _
  have b_bz9 : Blk ((W8.setCell ⟨gg, i * 7 + 3, none⟩ (.int .i64 2)).setCell ⟨gg, i * 7 + 5, none⟩ (.int .i64 ck)) (w.heap.size + 1) 28 #[.int .i64 0, .int .i64 0, .int .i64 0, .slice none 0 0] := ((B8_bz.out).far (p := ⟨gg, i * 7 + 3, none⟩) (by show w.heap.size + 1 ≠ gg; omega) _).far (p := ⟨gg, i * 7 + 5, none⟩) (by show w.heap.size + 1 ≠ gg; omega) _
  have b_bo9 : Blk ((W8.setCell ⟨gg, i * 7 + 3, none⟩ (.int .i64 2)).setCell ⟨gg, i * 7 + 5, none⟩ (.int .i64 ck)) (W6.heap.size) 28 #[.int .i64 ck, .int .i64 nx, .int .i64 wt, .slice (some ⟨gg, 0, none⟩) ts.length c5] := ((B8_bo.out).far (p := ⟨gg, i * 7 + 3, none⟩) (by show W6.heap.size ≠ gg; omega) _).far (p := ⟨gg, i * 7 + 5, none⟩) (by show W6.heap.size ≠ gg; omega) _
  have k_own9 := h7
  have hz9 : W8.heap.size + 0 ≤ ((W8.setCell ⟨gg, i * 7 + 3, none⟩ (.int .i64 2)).setCell ⟨gg, i * 7 + 5, none⟩ (.int .i64 ck)).heap.size := by first | omega | (simp; done) | (simp; omega)
  generalize (W8.setCell ⟨gg, i * 7 + 3, none⟩ (.int .i64 2)).setCell ⟨gg, i * 7 + 5, none⟩ (.int .i64 ck) = W9 at *
  have HB9 := Lib.hid hb9
  have B9_bx := Lib.hid b_bx9
  have B9_bz := Lib.hid b_bz9
  have B9_bo := Lib.hid b_bo9
  have K9_own := Lib.hid k_own9
  clear hb9 b_bx9 b_bz9 b_bo9 k_own9
  clear B8_bx B8_bz B8_bo HB8 K8_own
  clear h6 h7
  obtain ⟨ts1, ht1⟩ : ∃ ts1, ts.modify i (fun t => setSince ck (setState 2 t)) = ts1 := ⟨_, rfl⟩
  have hl1 : i < ts1.length := by rw [← ht1]; simpa using hl
  have HLE := Lib.hid (show ts1.length = ts.length by rw [← ht1]; simp)
  have ko := own_ds K9_own.out ht1.symm
  have KO1 := Lib.hid ko
  have HT1 := Lib.hid ht1
  clear ko ht1 K9_own
  obtain ⟨i0x, hi0, hz0, hz1, hz2'⟩ := info_parts CloneInt_info
  have hWn := HB9.out.size
  have lbx := B9_bx.out.lt
  have lbo := B9_bo.out.lt
  go_loopw [13, 14] (fun l q wr => ∃ p : Nat, p ≤ 4 ∧ q = .int .i64 p ∧ Hid (wr.ownsRow W9.heap.size 3 1 l ((four.take p).filter (hasP P part)).length (((four.take p).filter (hasP P part)).map (Value.int .i64))) ∧ Hid (Below W9.heap.size W9 wr)) (fun _ q _ => 4 - (intOf q).toNat)
  case atStart => exact ⟨0, Nat.zero_le _, rfl, World.ownsRow_nil _ _ _ _, Below.refl _ _⟩
  case round =>
    obtain ⟨p, hp, rfl, HL, HW⟩ := hrel
    have hbw := HB9.out.trans (HW.out.mono HB9.out.size)
    have HBL := Lib.hid hbw
    clear hbw
    obtain ⟨A7, c7, rfl, hc7⟩ := (Sl.of_own HL.out).form
    have hwz := HW.out.size
    have p0 : (0 : Int) ≤ (p : Int) := by omega
    have p4 : (p : Int) ≤ 4 := by omega
    have q0 := (B9_bx.out.below HW.out lbx).cell 0
    have q1 := (B9_bx.out.below HW.out lbx).cell 1
    have q2 := (B9_bx.out.below HW.out lbx).cell 2
    have q3 := (B9_bx.out.below HW.out lbx).cell 3
    have ql := (B9_bx.out.below HW.out lbx).lt
    obtain ⟨a0, a1, a2, a3, a4, a5, a6⟩ := XS.out
    have x4 := (HBL.out.cell (p := ⟨b, off + i * 7 + 4, none⟩) HBW.out).trans a4
    clear a0 a1 a2 a3 a4 a5 a6
    have hblz := HBL.out.size
    have hbl := HBW.out
    by_cases hlt : p < 4
    · have p1 : (p : Int) < 4 := by omega
      go_wp2_with fail
      go_loopw [15, 16] (fun t q wq => ∃ k : Nat, k ≤ P.length ∧ q = .int .i64 k ∧ t = .bool (hasTo P part p k) ∧ wq = wr) (fun _ q _ => P.length - (intOf q).toNat)
      case atStart => exact ⟨0, Nat.zero_le _, rfl, by rw [hasTo_zero], rfl⟩
      case round =>
        obtain ⟨k, hk, rfl, rfl, rfl⟩ := hrel
        have k0 : (0 : Int) ≤ (k : Int) := by omega
        have k4 : (k : Int) ≤ 4 := by have := HSM.out; omega
        by_cases hkt : k < P.length
        · have k1 : (k : Int) < (P.length : Int) := by omega
          obtain ⟨b3, o3, rfl, hb3, hc3⟩ := XC.out (by omega)
          have x9 := (HBL.out.cell (p := ⟨b3, o3 + k, none⟩) hb3).trans (hc3 k hkt)
          have HS9 := Lib.hid (hasTo_succ (x := part) (p := (p : Int)) hkt)
          clear hc3
          generalize hasTo P part p k = tb at *
          rcases tb with _ | _
          · go_wp2
            go_light
            exact ⟨⟨k + 1, by omega, by go_num, by rw [HS9.out]; rfl, by first | rfl | trivial⟩, by simp [intOf]; omega⟩
          · go_wp2
            go_light
            exact ⟨⟨k + 1, by omega, by go_num, by rw [HS9.out]; rfl, by first | rfl | trivial⟩, by simp [intOf]; omega⟩
        · obtain rfl : k = P.length := by omega
          rw [hasTo_all]
          have HTK := Lib.hid (four_take (x := part) (P := P) hlt)
          have HFL := Lib.hid (four_le P part p)
          generalize hasP P part p = tb at *
          rcases tb with _ | _
          · go_wp2
            go_light
            refine ⟨⟨p + 1, by omega, by go_num, ?_, HW⟩, by simp [intOf]; omega⟩
            rw [HTK.out]
            simpa using HL
          · go_wp2_with (at_builtin; go_must (refine wpList_append_sl _ rfl (.tmp 101) (.tmp 103) 24 rfl W9.heap.size 3 i0x (.int .i64 0) 1 8 Try.underlying24 hi0 hz0 hz1 hz2' rfl (by decide) _ _ _ (by rfl) (HL.out.alloc _) _ 1 _ (by rfl) (Sl.lit _ _ _ 1 1 rfl) (by intro x hx; simp at hx; subst hx; rfl) (by have := HFL.out; simp only [maxLen]; omega) (by have := HFL.out; omega) (by simp; omega) ?_; intro v4 w4 ho4 hg4 ha4))
            go_light
            refine ⟨⟨p + 1, by omega, by go_num, ?_, own_below HW.out (Nat.le_refl _) HL.out _ hg4⟩, by simp [intOf]; omega⟩
            rw [HTK.out]
            exact own_eq ho4 (by simp) (by simp)
    · obtain rfl : p = 4 := by omega
      have KN := Lib.hid KO1.out
      have lbz := B9_bz.out.lt
      have BE_bx := Lib.hid (B9_bx.out.below HW.out lbx)
      have BE_bo := Lib.hid (B9_bo.out.below HW.out lbo)
      have BE_bz := Lib.hid (B9_bz.out.below HW.out lbz)
      clear KO1 B9_bx B9_bo B9_bz HB9 lbx lbo lbz
      clear q0 q1 q2 q3 ql x4 hbl hblz
      generalize hE0 : (four.take 4).filter (hasP P part) = R at *
      have hR : withPart P part = R := by rw [← hE0, ← HFW.out]; rfl
      have HR := Lib.hid hR
      clear hE0 hR
      obtain ⟨A4, m4, hr4, hp4, hq4, p4, po4⟩ := KN.out.rowP HLE.out.symm i hl1
      have hgr := below_grown HW.out (rows7[i]).2.ownBlock
      have km := KN.out.midRow HLE.out.symm i hr4 hgr
      have ks := KN.out.swap HLE.out.symm i hr4 hgr (own_at2 HL.out) (own_base HL.out (by omega)) (by omega) (setP R) (fun _ => rfl) rfl
      rw [hp4] at km
      obtain ⟨km4, kmf⟩ := km
      have KS := Lib.hid ks
      clear hr4 hp4 hq4 p4 po4 hgr ks HL KN
      have c_bx0 := BE_bx.out.cell 0
      have c_bx1 := BE_bx.out.cell 1
      have c_bx2 := BE_bx.out.cell 2
      have c_bx3 := BE_bx.out.cell 3
      have l_bx := BE_bx.out.lt
      have c_bo0 := BE_bo.out.cell 0
      have c_bo1 := BE_bo.out.cell 1
      have c_bo2 := BE_bo.out.cell 2
      have c_bo3 := BE_bo.out.cell 3
      have l_bo := BE_bo.out.lt
      go_upto_region 25 with fail
      clear km4 kmf
      clear c_bx0 c_bx1 c_bx2 c_bx3 l_bx c_bo0 c_bo1 c_bo2 c_bo3 l_bo
      have hsz10 := HBL.out.size
      have hb10 : Below w.heap.size w (wr.setCell ⟨gg, i * 7 + 4, none⟩ (.slice A7 R.length c7)) := (HBL.out).setCell (by show w.heap.size ≤ gg; omega) _
      have b_bx10 : Blk (wr.setCell ⟨gg, i * 7 + 4, none⟩ (.slice A7 R.length c7)) (w.heap.size) 28 #[.int .i64 ck, .int .i64 nx, .int .i64 wt, .slice (some ⟨b, off, none⟩) ts.length m] := (BE_bx.out).far (p := ⟨gg, i * 7 + 4, none⟩) (by show w.heap.size ≠ gg; omega) _
      have b_bz10 : Blk (wr.setCell ⟨gg, i * 7 + 4, none⟩ (.slice A7 R.length c7)) (w.heap.size + 1) 28 #[.int .i64 0, .int .i64 0, .int .i64 0, .slice none 0 0] := (BE_bz.out).far (p := ⟨gg, i * 7 + 4, none⟩) (by show w.heap.size + 1 ≠ gg; omega) _
      have b_bo10 : Blk (wr.setCell ⟨gg, i * 7 + 4, none⟩ (.slice A7 R.length c7)) (W6.heap.size) 28 #[.int .i64 ck, .int .i64 nx, .int .i64 wt, .slice (some ⟨gg, 0, none⟩) ts.length c5] := (BE_bo.out).far (p := ⟨gg, i * 7 + 4, none⟩) (by show W6.heap.size ≠ gg; omega) _
      have k_own10 := KS.out
      have hz10 : wr.heap.size + 0 ≤ (wr.setCell ⟨gg, i * 7 + 4, none⟩ (.slice A7 R.length c7)).heap.size := by first | omega | (simp; done) | (simp; omega)
      generalize wr.setCell ⟨gg, i * 7 + 4, none⟩ (.slice A7 R.length c7) = W10 at *
      have HB10 := Lib.hid hb10
      have B10_bx := Lib.hid b_bx10
      have B10_bz := Lib.hid b_bz10
      have B10_bo := Lib.hid b_bo10
      have K10_own := Lib.hid k_own10
      clear hb10 b_bx10 b_bz10 b_bo10 k_own10
      clear BE_bx BE_bz BE_bo HBL KS
      have hfin : ts.modify i (openT part ck) = ts1.modify i (setP R) := by rw [← HT1.out, modify_two ts i _ _ (openT part ck) fun _ => setP_open HPP.out HR.out]
      have c_bo0 := B10_bo.out.cell 0
      have c_bo1 := B10_bo.out.cell 1
      have c_bo2 := B10_bo.out.cell 2
      have c_bo3 := B10_bo.out.cell 3
      have l_bo := B10_bo.out.lt
      have c_bz0 := B10_bz.out.cell 0
      have f_bz0 := B10_bz.out.frozen 0
      have c_bz1 := B10_bz.out.cell 1
      have f_bz1 := B10_bz.out.frozen 1
      have c_bz2 := B10_bz.out.cell 2
      have f_bz2 := B10_bz.out.frozen 2
      have c_bz3 := B10_bz.out.cell 3
      have f_bz3 := B10_bz.out.frozen 3
      have l_bz := B10_bz.out.lt
      go_wp2_with fail
      clear c_bo0 c_bo1 c_bo2 c_bo3 l_bo c_bz0 f_bz0 c_bz1 f_bz1 c_bz2 f_bz2 c_bz3 f_bz3 l_bz
      have hszF := HB10.out.size
      have hbF : Below w.heap.size w ((((W10.setCell ⟨w.heap.size + 1, 0, none⟩ (.int .i64 ck)).setCell ⟨w.heap.size + 1, 1, none⟩ (.int .i64 nx)).setCell ⟨w.heap.size + 1, 2, none⟩ (.int .i64 wt)).setCell ⟨w.heap.size + 1, 3, none⟩ (.slice (some ⟨gg, 0, none⟩) ts.length c5)) := ((((HB10.out).setCell (by show w.heap.size ≤ w.heap.size + 1; omega) _).setCell (by show w.heap.size ≤ w.heap.size + 1; omega) _).setCell (by show w.heap.size ≤ w.heap.size + 1; omega) _).setCell (by show w.heap.size ≤ w.heap.size + 1; omega) _
      have b_bxF : Blk ((((W10.setCell ⟨w.heap.size + 1, 0, none⟩ (.int .i64 ck)).setCell ⟨w.heap.size + 1, 1, none⟩ (.int .i64 nx)).setCell ⟨w.heap.size + 1, 2, none⟩ (.int .i64 wt)).setCell ⟨w.heap.size + 1, 3, none⟩ (.slice (some ⟨gg, 0, none⟩) ts.length c5)) (w.heap.size) 28 #[.int .i64 ck, .int .i64 nx, .int .i64 wt, .slice (some ⟨b, off, none⟩) ts.length m] := ((((B10_bx.out).far (p := ⟨w.heap.size + 1, 0, none⟩) (by show w.heap.size ≠ w.heap.size + 1; omega) _).far (p := ⟨w.heap.size + 1, 1, none⟩) (by show w.heap.size ≠ w.heap.size + 1; omega) _).far (p := ⟨w.heap.size + 1, 2, none⟩) (by show w.heap.size ≠ w.heap.size + 1; omega) _).far (p := ⟨w.heap.size + 1, 3, none⟩) (by show w.heap.size ≠ w.heap.size + 1; omega) _
      have b_bzF : Blk ((((W10.setCell ⟨w.heap.size + 1, 0, none⟩ (.int .i64 ck)).setCell ⟨w.heap.size + 1, 1, none⟩ (.int .i64 nx)).setCell ⟨w.heap.size + 1, 2, none⟩ (.int .i64 wt)).setCell ⟨w.heap.size + 1, 3, none⟩ (.slice (some ⟨gg, 0, none⟩) ts.length c5)) (w.heap.size + 1) 28 #[.int .i64 ck, .int .i64 nx, .int .i64 wt, .slice (some ⟨gg, 0, none⟩) ts.length c5] := ((((B10_bz.out).set_ 0 _).set_ 1 _).set_ 2 _).set_ 3 _
      have b_boF : Blk ((((W10.setCell ⟨w.heap.size + 1, 0, none⟩ (.int .i64 ck)).setCell ⟨w.heap.size + 1, 1, none⟩ (.int .i64 nx)).setCell ⟨w.heap.size + 1, 2, none⟩ (.int .i64 wt)).setCell ⟨w.heap.size + 1, 3, none⟩ (.slice (some ⟨gg, 0, none⟩) ts.length c5)) (W6.heap.size) 28 #[.int .i64 ck, .int .i64 nx, .int .i64 wt, .slice (some ⟨gg, 0, none⟩) ts.length c5] := ((((B10_bo.out).far (p := ⟨w.heap.size + 1, 0, none⟩) (by show W6.heap.size ≠ w.heap.size + 1; omega) _).far (p := ⟨w.heap.size + 1, 1, none⟩) (by show W6.heap.size ≠ w.heap.size + 1; omega) _).far (p := ⟨w.heap.size + 1, 2, none⟩) (by show W6.heap.size ≠ w.heap.size + 1; omega) _).far (p := ⟨w.heap.size + 1, 3, none⟩) (by show W6.heap.size ≠ w.heap.size + 1; omega) _
      have hoF := own_ds (K10_own.out.put4 (g := w.heap.size + 1) (by constructor <;> omega) (.int .i64 ck) (.int .i64 nx) (.int .i64 wt) (.slice (some ⟨gg, 0, none⟩) ts.length c5)) hfin
      have y0 := b_bzF.cell 0
      have y1 := b_bzF.cell 1
      have y2 := b_bzF.cell 2
      have y3 := b_bzF.cell 3
      refine bodyPost_ret (v := .tuple #[.agg #[.int .i64 ck, .int .i64 nx, .int .i64 wt, .slice (some ⟨gg, 0, none⟩) ts.length c5], .int .i64 0]) ?_ ?_ (⟨.slice (some ⟨gg, 0, none⟩) ts.length c5, _, rfl, own_len (hoF.rebase (by simp) (by omega) hbF) (by simp [CoordD.upd]), hbF⟩)
      · simp [results, Try.results57, go_sem, y0, y1, y2, y3]
      · rfl
set_option maxRecDepth 100000 in
set_option maxHeartbeats 4000000 in
theorem addedOf_2 (v : Value) (c : CoordD) (s : ByteArray) (ver part : Int) (i : Nat) (hk : CoordOk c) (hn : NameOk s) (hi : idxOf c.txns s = some i) (hl : i < c.txns.length) (hv : c.txns[i].ver = ver) (h0 : 0 ≤ part) (h3 : part ≤ 3) (st : Int) (hst : c.txns[i].state = st) (h34 : st = 2) (w : World) (h : Cv w v c) (hnm : ∀ t ∈ c.txns, t.name.size ≤ 9223372036854775807) (hs : s.size ≤ 9223372036854775807) :
    Calls Try.prog 57 #[v, .string s, .int .i64 ver, .int .i64 part] w (CRes (c.upd i (addT part)) [.int .i64 (0)] w) := by
  have hri0 := (hk.all i hl hl).1.rises
  obtain ⟨tv, rfl, hx, hlen⟩ := id h
  obtain ⟨A, m, rfl, -⟩ := hx.at_
  obtain ⟨b, off, -, -, rfl, -⟩ := hx.row (Below.refl _ _) i hl
  have H := Lib.hid h
  have HX := Lib.hid hx
  clear h hx
  unfold coordV at *
  obtain ⟨ck, nx, wt, ts⟩ := c
  simp only at *
  have HST := Lib.hid hst
  have HK := Lib.hid hk
  have HN := Lib.hid hn
  have HI := Lib.hid hi
  have HV := Lib.hid hv
  have hix : ixOf ts s = i := (ix_some hi).2
  have HIX := Lib.hid hix
  have HNM := Lib.hid hnm
  have i0 : (0 : Int) ≤ (i : Int) := by omega
  have i1 : (i : Int) < (ts.length : Int) := Int.ofNat_lt.2 hl
  have i2 : decide ((i : Int) < 0) = false := decide_eq_false (by omega)
  clear hk hn hi hv hix hnm
  obtain ⟨hbw, A3, m3, x0, x1, x2, x3, x4, x5, x6, xi⟩ := HX.out.rowAt (Below.refl _ _) i hl
  have xc := Is.cells xi
  have HBW := Lib.hid hbw
  have XS := Lib.hid (show w.cell? ⟨b, off + i * 7, none⟩ = some (.string ts[i].name) ∧ w.cell? ⟨b, off + i * 7 + 1, none⟩ = some (.int .i64 ts[i].pid) ∧ w.cell? ⟨b, off + i * 7 + 2, none⟩ = some (.int .i64 ts[i].ver) ∧ w.cell? ⟨b, off + i * 7 + 3, none⟩ = some (.int .i64 ts[i].state) ∧ w.cell? ⟨b, off + i * 7 + 4, none⟩ = some (.slice A3 ts[i].parts.length m3) ∧ w.cell? ⟨b, off + i * 7 + 5, none⟩ = some (.int .i64 ts[i].since) ∧ w.cell? ⟨b, off + i * 7 + 6, none⟩ = some (.int .i64 ts[i].done) from ⟨x0, x1, x2, x3, x4, x5, x6⟩)
  have XC := Lib.hid xc
  clear hbw x0 x1 x2 x3 x4 x5 x6 xi xc
  have HIN := Lib.hid (show inB part 0 3 = true by unfold inB; simp; omega)
  clear hst
  have HEN := Lib.hid (show (st == 3 || st == 4) = false by rw [h34]; rfl)
  have s1 : (st == 1) = false := by rw [h34]; rfl
  generalize hP : ts[i].parts = P at *
  have HPP := Lib.hid hP
  have HRI := Lib.hid (show Rises P from hri0)
  have HSM := Lib.hid (show P.length ≤ 4 from HRI.out.small)
  have HFW := Lib.hid (four_with HRI.out h0 h3)
  clear hP hri0 h34
  go_enter Try.func57, Try.ntmps57
  go_wp2_with fail
  have hb1 : Below w.heap.size w ((w.alloc (.cells #[.int .i64 ck, .int .i64 nx, .int .i64 wt, .slice (some ⟨b, off, none⟩) ts.length m] 28)).alloc (.cells #[.int .i64 0, .int .i64 0, .int .i64 0, .slice none 0 0] 28)) := ((Below.refl _ _).alloc (by first | omega | (simp; done) | (simp; omega)) _).alloc (by first | omega | (simp; done) | (simp; omega)) _
  have hal1 : Below w.heap.size w ((w.alloc (.cells #[.int .i64 ck, .int .i64 nx, .int .i64 wt, .slice (some ⟨b, off, none⟩) ts.length m] 28)).alloc (.cells #[.int .i64 0, .int .i64 0, .int .i64 0, .slice none 0 0] 28)) := ((Below.refl _ _).alloc (by first | omega | (simp; done) | (simp; omega)) _).alloc (by first | omega | (simp; done) | (simp; omega)) _
  have b_bx1 : Blk ((w.alloc (.cells #[.int .i64 ck, .int .i64 nx, .int .i64 wt, .slice (some ⟨b, off, none⟩) ts.length m] 28)).alloc (.cells #[.int .i64 0, .int .i64 0, .int .i64 0, .slice none 0 0] 28)) (w.heap.size) 28 #[.int .i64 ck, .int .i64 nx, .int .i64 wt, .slice (some ⟨b, off, none⟩) ts.length m] := (Blk.new_ _ 28 #[.int .i64 ck, .int .i64 nx, .int .i64 wt, .slice (some ⟨b, off, none⟩) ts.length m] (by first | rfl | (simp; done) | (simp; omega))).alloc _
  have b_bz1 : Blk ((w.alloc (.cells #[.int .i64 ck, .int .i64 nx, .int .i64 wt, .slice (some ⟨b, off, none⟩) ts.length m] 28)).alloc (.cells #[.int .i64 0, .int .i64 0, .int .i64 0, .slice none 0 0] 28)) (w.heap.size + 1) 28 #[.int .i64 0, .int .i64 0, .int .i64 0, .slice none 0 0] := Blk.new_ _ 28 #[.int .i64 0, .int .i64 0, .int .i64 0, .slice none 0 0] (by first | rfl | (simp; done) | (simp; omega))
  have k_c1 := H.out.below hal1
  have hz1 : w.heap.size + 2 ≤ ((w.alloc (.cells #[.int .i64 ck, .int .i64 nx, .int .i64 wt, .slice (some ⟨b, off, none⟩) ts.length m] 28)).alloc (.cells #[.int .i64 0, .int .i64 0, .int .i64 0, .slice none 0 0] 28)).heap.size := by first | omega | (simp; done) | (simp; omega)
  generalize (w.alloc (.cells #[.int .i64 ck, .int .i64 nx, .int .i64 wt, .slice (some ⟨b, off, none⟩) ts.length m] 28)).alloc (.cells #[.int .i64 0, .int .i64 0, .int .i64 0, .slice none 0 0] 28) = W1 at *
  have HB1 := Lib.hid hb1
  have B1_bx := Lib.hid b_bx1
  have B1_bz := Lib.hid b_bz1
  have K1_c := Lib.hid k_c1
  clear hb1 b_bx1 b_bz1 k_c1
  clear H
  refine (knownFault_good _ ⟨ck, nx, wt, ts⟩ s ver i HK.out HN.out HI.out hl HV.out _ K1_c.out HNM.out hs).mono ?_
  rintro e W2 ⟨rfl, hb⟩
  have hb2 : Below w.heap.size w W2 := below_then HB1.out hb
  have b_bx2 := B1_bx.out.below hb B1_bx.out.lt
  have b_bz2 := B1_bz.out.below hb B1_bz.out.lt
  have k_c2 := K1_c.out.below hb
  have hz2 := hb.size
  have HB2 := Lib.hid hb2
  have B2_bx := Lib.hid b_bx2
  have B2_bz := Lib.hid b_bz2
  have K2_c := Lib.hid k_c2
  clear hb2 b_bx2 b_bz2 k_c2
  clear B1_bx B1_bz HB1 K1_c
  have c_bx0 := B2_bx.out.cell 0
  have c_bx1 := B2_bx.out.cell 1
  have c_bx2 := B2_bx.out.cell 2
  have c_bx3 := B2_bx.out.cell 3
  have l_bx := B2_bx.out.lt
  go_wp2_with (go_at_call 64; refine (In_any _ _ _ _).mono ?_; rintro e wi ⟨rfl, rfl⟩; rw [HIN.out])
  clear c_bx0 c_bx1 c_bx2 c_bx3 l_bx
  have c_bx0 := B2_bx.out.cell 0
  have c_bx1 := B2_bx.out.cell 1
  have c_bx2 := B2_bx.out.cell 2
  have c_bx3 := B2_bx.out.cell 3
  have l_bx := B2_bx.out.lt
  go_wp2_with fail
  clear c_bx0 c_bx1 c_bx2 c_bx3 l_bx
  obtain ⟨a0, a1, a2, a3, a4, a5, a6⟩ := XS.out
  have x0 := (HB2.out.cell (p := ⟨b, off + i * 7, none⟩) HBW.out).trans a0
  have x1 := (HB2.out.cell (p := ⟨b, off + i * 7 + 1, none⟩) HBW.out).trans a1
  have x2 := (HB2.out.cell (p := ⟨b, off + i * 7 + 2, none⟩) HBW.out).trans a2
  have x3 := (HB2.out.cell (p := ⟨b, off + i * 7 + 3, none⟩) HBW.out).trans a3
  rw [HST.out] at x3
  have x4 := (HB2.out.cell (p := ⟨b, off + i * 7 + 4, none⟩) HBW.out).trans a4
  have x5 := (HB2.out.cell (p := ⟨b, off + i * 7 + 5, none⟩) HBW.out).trans a5
  have x6 := (HB2.out.cell (p := ⟨b, off + i * 7 + 6, none⟩) HBW.out).trans a6
  clear a0 a1 a2 a3 a4 a5 a6
  have hblz := HB2.out.size
  have hbl := HBW.out
  have c_bx0 := B2_bx.out.cell 0
  have c_bx1 := B2_bx.out.cell 1
  have c_bx2 := B2_bx.out.cell 2
  have c_bx3 := B2_bx.out.cell 3
  have l_bx := B2_bx.out.lt
  refine wp_region_held_drew (S := fun w0 => w0.cell? ⟨w.heap.size, 0, none⟩ = some (.int .i64 ck) ∧ w0.cell? ⟨w.heap.size, 1, none⟩ = some (.int .i64 nx) ∧ w0.cell? ⟨w.heap.size, 2, none⟩ = some (.int .i64 wt) ∧ w0.cell? ⟨w.heap.size, 3, none⟩ = some (.slice (some ⟨b, off, none⟩) ts.length m) ∧ w0.cell? ⟨b, off + i * 7, none⟩ = some (.string ts[i].name) ∧ w0.cell? ⟨b, off + i * 7 + 1, none⟩ = some (.int .i64 ts[i].pid) ∧ w0.cell? ⟨b, off + i * 7 + 2, none⟩ = some (.int .i64 ts[i].ver) ∧ w0.cell? ⟨b, off + i * 7 + 3, none⟩ = some (.int .i64 st) ∧ w0.cell? ⟨b, off + i * 7 + 4, none⟩ = some (.slice A3 P.length m3) ∧ w0.cell? ⟨b, off + i * 7 + 5, none⟩ = some (.int .i64 ts[i].since) ∧ w0.cell? ⟨b, off + i * 7 + 6, none⟩ = some (.int .i64 ts[i].done)) (by kernel_rfl) ?_ (fun hHeld => ?_)
  · exact ⟨c_bx0, c_bx1, c_bx2, c_bx3, x0, x1, x2, x3, x4, x5, x6⟩
  clear c_bx0 c_bx1 c_bx2 c_bx3 l_bx
  generalize hd : World.drew W2 = W3 at *
  have hb : Below W2.heap.size W2 W3 := by rw [← hd]; exact (Below.refl _ _).drew
  have hb3 : Below w.heap.size w W3 := below_then HB2.out hb
  have b_bx3 := B2_bx.out.below hb B2_bx.out.lt
  have b_bz3 := B2_bz.out.below hb B2_bz.out.lt
  have k_c3 := K2_c.out.below hb
  have hz3 := hb.size
  have HB3 := Lib.hid hb3
  have B3_bx := Lib.hid b_bx3
  have B3_bz := Lib.hid b_bz3
  have K3_c := Lib.hid k_c3
  clear hb3 b_bx3 b_bz3 k_c3
  clear B2_bx B2_bz HB2 K2_c
  have x0n := (hb.cell (p := ⟨b, off + i * 7, none⟩) (show b < W2.heap.size by omega)).trans x0
  clear x0
  have x0 := x0n
  clear x0n
  have x1n := (hb.cell (p := ⟨b, off + i * 7 + 1, none⟩) (show b < W2.heap.size by omega)).trans x1
  clear x1
  have x1 := x1n
  clear x1n
  have x2n := (hb.cell (p := ⟨b, off + i * 7 + 2, none⟩) (show b < W2.heap.size by omega)).trans x2
  clear x2
  have x2 := x2n
  clear x2n
  have x3n := (hb.cell (p := ⟨b, off + i * 7 + 3, none⟩) (show b < W2.heap.size by omega)).trans x3
  clear x3
  have x3 := x3n
  clear x3n
  have x4n := (hb.cell (p := ⟨b, off + i * 7 + 4, none⟩) (show b < W2.heap.size by omega)).trans x4
  clear x4
  have x4 := x4n
  clear x4n
  have x5n := (hb.cell (p := ⟨b, off + i * 7 + 5, none⟩) (show b < W2.heap.size by omega)).trans x5
  clear x5
  have x5 := x5n
  clear x5n
  have x6n := (hb.cell (p := ⟨b, off + i * 7 + 6, none⟩) (show b < W2.heap.size by omega)).trans x6
  clear x6
  have x6 := x6n
  clear x6n
  clear hd hb
  refine wpAnyH_take (i := 0) (v := ?_) rfl (by kernel_rfl) (by kernel_rfl) (by kernel_rfl) (fun _ _ _ h => h) (Or.inl ⟨by rfl, ?_⟩) (by assumption) ?_
  rotate_left
  · intro w0 hSw
    (try dsimp only at hSw)
    go_simp
    all_goals with_reducible rfl
  try simp only [Act.put, List.getElem_toArray, List.getElem_cons_zero, List.setIfInBounds_toArray, List.set_cons_zero, List.set_cons_succ]
  refine wpAnyH_take (i := 1) (v := ?_) rfl (by kernel_rfl) (by kernel_rfl) (by kernel_rfl) (fun _ _ _ h => h) (Or.inl ⟨by rfl, ?_⟩) (by assumption) ?_
  rotate_left
  · intro w0 hSw
    (try dsimp only at hSw)
    go_simp
    all_goals with_reducible rfl
  try simp only [Act.put, List.getElem_toArray, List.getElem_cons_zero, List.getElem_cons_succ, List.setIfInBounds_toArray, List.set_cons_zero, List.set_cons_succ]
  refine wpAnyH_take (i := 2) (v := ?_) rfl (by kernel_rfl) (by kernel_rfl) (by kernel_rfl) (fun _ _ _ h => h) (Or.inl ⟨by rfl, ?_⟩) (by assumption) ?_
  rotate_left
  · intro w0 hSw
    (try dsimp only at hSw)
    go_simp
    all_goals with_reducible rfl
  try simp only [Act.put, List.getElem_toArray, List.getElem_cons_zero, List.getElem_cons_succ, List.setIfInBounds_toArray, List.set_cons_zero, List.set_cons_succ]
  refine wpAnyH_take (i := 3) (v := ?_) rfl (by kernel_rfl) (by kernel_rfl) (by kernel_rfl) (fun _ _ _ h => h) (Or.inl ⟨by rfl, ?_⟩) (by assumption) ?_
  rotate_left
  · intro w0 hSw
    (try dsimp only at hSw)
    go_simp
    all_goals with_reducible rfl
  try simp only [Act.put, List.getElem_toArray, List.getElem_cons_zero, List.getElem_cons_succ, List.setIfInBounds_toArray, List.set_cons_zero, List.set_cons_succ]
  refine wpAnyH_take (i := 4) (v := ?_) rfl (by kernel_rfl) (by kernel_rfl) (by kernel_rfl) (fun _ _ _ h => h) (Or.inl ⟨by rfl, ?_⟩) (by assumption) ?_
  rotate_left
  · intro w0 hSw
    (try dsimp only at hSw)
    go_simp
    all_goals with_reducible rfl
  try simp only [Act.put, List.getElem_toArray, List.getElem_cons_zero, List.getElem_cons_succ, List.setIfInBounds_toArray, List.set_cons_zero, List.set_cons_succ]
  refine wpAnyH_take (i := 5) (v := ?_) rfl (by kernel_rfl) (by kernel_rfl) (by kernel_rfl) (fun _ _ _ h => h) (Or.inl ⟨by rfl, ?_⟩) (by assumption) ?_
  rotate_left
  · intro w0 hSw
    (try dsimp only at hSw)
    go_simp
    all_goals with_reducible rfl
  try simp only [Act.put, List.getElem_toArray, List.getElem_cons_zero, List.getElem_cons_succ, List.setIfInBounds_toArray, List.set_cons_zero, List.set_cons_succ]
  refine wpAnyH_take (i := 6) (v := ?_) rfl (by kernel_rfl) (by kernel_rfl) (by kernel_rfl) (fun _ _ _ h => h) (Or.inl ⟨by rfl, ?_⟩) (by assumption) ?_
  rotate_left
  · intro w0 hSw
    (try dsimp only at hSw)
    go_simp
    all_goals with_reducible rfl
  try simp only [Act.put, List.getElem_toArray, List.getElem_cons_zero, List.getElem_cons_succ, List.setIfInBounds_toArray, List.set_cons_zero, List.set_cons_succ]
  refine wpAnyH_ready (rs := [7]) (by kernel_rfl) (by simp) (AllReadyH.cons rfl (fun K hK => ?_) AllReadyH.nil)
  go_simp
  go_at_call 86
  refine (txnOf_any _ ⟨ck, nx, wt, ts⟩ s _ K3_c.out).mono ?_
  rintro e W4 ⟨rfl, hb⟩
  simp only
  rw [HIX.out]
  have hb4 : Below w.heap.size w W4 := below_then HB3.out hb
  have b_bx4 := B3_bx.out.below hb B3_bx.out.lt
  have b_bz4 := B3_bz.out.below hb B3_bz.out.lt
  have k_c4 := K3_c.out.below hb
  have hz4 := hb.size
  have HB4 := Lib.hid hb4
  have B4_bx := Lib.hid b_bx4
  have B4_bz := Lib.hid b_bz4
  have K4_c := Lib.hid k_c4
  clear hb4 b_bx4 b_bz4 k_c4
  clear B3_bx B3_bz HB3 K3_c
  clear x0 x1 x2 x3 x4 x5 x6 hbl hblz
  obtain ⟨a0, a1, a2, a3, a4, a5, a6⟩ := XS.out
  have x0 := (HB4.out.cell (p := ⟨b, off + i * 7, none⟩) HBW.out).trans a0
  have x1 := (HB4.out.cell (p := ⟨b, off + i * 7 + 1, none⟩) HBW.out).trans a1
  have x2 := (HB4.out.cell (p := ⟨b, off + i * 7 + 2, none⟩) HBW.out).trans a2
  have x3 := (HB4.out.cell (p := ⟨b, off + i * 7 + 3, none⟩) HBW.out).trans a3
  have x4 := (HB4.out.cell (p := ⟨b, off + i * 7 + 4, none⟩) HBW.out).trans a4
  have x5 := (HB4.out.cell (p := ⟨b, off + i * 7 + 5, none⟩) HBW.out).trans a5
  have x6 := (HB4.out.cell (p := ⟨b, off + i * 7 + 6, none⟩) HBW.out).trans a6
  rw [HST.out] at x3
  clear a0 a1 a2 a3 a4 a5 a6
  have hblz := HB4.out.size
  have hbl := HBW.out
  refine hK.out _ _ ?_ (fun hHeld => ?_)
  · exact ⟨(B4_bx.out).cell 0, (B4_bx.out).cell 1, (B4_bx.out).cell 2, (B4_bx.out).cell 3, x0, x1, x2, x3, x4, x5, x6⟩
  clear hK K
  try simp only [Act.put, List.getElem_toArray, List.getElem_cons_zero, List.getElem_cons_succ, List.setIfInBounds_toArray, List.set_cons_zero, List.set_cons_succ]
  refine wpAnyH_take (i := 8) (v := ?_) rfl (by kernel_rfl) (by kernel_rfl) (by kernel_rfl) (fun _ _ _ h => h) (Or.inl ⟨by rfl, ?_⟩) (by assumption) ?_
  rotate_left
  · intro w0 hSw
    (try dsimp only at hSw)
    go_simp
    all_goals with_reducible rfl
  try simp only [Act.put, List.getElem_toArray, List.getElem_cons_zero, List.getElem_cons_succ, List.setIfInBounds_toArray, List.set_cons_zero, List.set_cons_succ]
  refine wpAnyH_take (i := 9) (v := ?_) rfl (by kernel_rfl) (by kernel_rfl) (by kernel_rfl) (fun _ _ _ h => h) (Or.inl ⟨by rfl, ?_⟩) (by assumption) ?_
  rotate_left
  · intro w0 hSw
    (try dsimp only at hSw)
    go_simp
    all_goals with_reducible rfl
  try simp only [Act.put, List.getElem_toArray, List.getElem_cons_zero, List.getElem_cons_succ, List.setIfInBounds_toArray, List.set_cons_zero, List.set_cons_succ]
  refine wpAnyH_ready (rs := [10]) (by kernel_rfl) (by simp) (AllReadyH.cons rfl (fun K hK => ?_) AllReadyH.nil)
  go_simp
  go_at_call 79
  refine (endin_b false HEN.out rfl).mono ?_
  rintro e W5 ⟨rfl, hb⟩
  have hb5 : Below w.heap.size w W5 := below_then HB4.out hb
  have b_bx5 := B4_bx.out.below hb B4_bx.out.lt
  have b_bz5 := B4_bz.out.below hb B4_bz.out.lt
  have k_c5 := K4_c.out.below hb
  have hz5 := hb.size
  have HB5 := Lib.hid hb5
  have B5_bx := Lib.hid b_bx5
  have B5_bz := Lib.hid b_bz5
  have K5_c := Lib.hid k_c5
  clear hb5 b_bx5 b_bz5 k_c5
  clear B4_bx B4_bz HB4 K4_c
  clear x0 x1 x2 x3 x4 x5 x6 hbl hblz
  obtain ⟨a0, a1, a2, a3, a4, a5, a6⟩ := XS.out
  have x0 := (HB5.out.cell (p := ⟨b, off + i * 7, none⟩) HBW.out).trans a0
  have x1 := (HB5.out.cell (p := ⟨b, off + i * 7 + 1, none⟩) HBW.out).trans a1
  have x2 := (HB5.out.cell (p := ⟨b, off + i * 7 + 2, none⟩) HBW.out).trans a2
  have x3 := (HB5.out.cell (p := ⟨b, off + i * 7 + 3, none⟩) HBW.out).trans a3
  have x4 := (HB5.out.cell (p := ⟨b, off + i * 7 + 4, none⟩) HBW.out).trans a4
  have x5 := (HB5.out.cell (p := ⟨b, off + i * 7 + 5, none⟩) HBW.out).trans a5
  have x6 := (HB5.out.cell (p := ⟨b, off + i * 7 + 6, none⟩) HBW.out).trans a6
  rw [HST.out] at x3
  clear a0 a1 a2 a3 a4 a5 a6
  have hblz := HB5.out.size
  have hbl := HBW.out
  refine hK.out _ _ ?_ (fun hHeld => ?_)
  · exact ⟨(B5_bx.out).cell 0, (B5_bx.out).cell 1, (B5_bx.out).cell 2, (B5_bx.out).cell 3, x0, x1, x2, x3, x4, x5, x6⟩
  clear hK K
  try simp only [Act.put, List.getElem_toArray, List.getElem_cons_zero, List.getElem_cons_succ, List.setIfInBounds_toArray, List.set_cons_zero, List.set_cons_succ]
  refine wpAnyH_take (i := 11) (v := ?_) rfl (by kernel_rfl) (by kernel_rfl) (by kernel_rfl) (fun _ _ _ h => h) (Or.inl ⟨by rfl, ?_⟩) (by assumption) ?_
  rotate_left
  · intro w0 hSw
    (try dsimp only at hSw)
    go_simp
    all_goals with_reducible rfl
  try simp only [Act.put, List.getElem_toArray, List.getElem_cons_zero, List.getElem_cons_succ, List.setIfInBounds_toArray, List.set_cons_zero, List.set_cons_succ]
  refine wpAnyH_done (by kernel_rfl) ?_ _
  clear x0 x1 x2 x3 x4 x5 x6 hbl hblz
  have c_bx0 := B5_bx.out.cell 0
  have c_bx1 := B5_bx.out.cell 1
  have c_bx2 := B5_bx.out.cell 2
  have c_bx3 := B5_bx.out.cell 3
  have l_bx := B5_bx.out.lt
  go_wp2_with fail
  clear c_bx0 c_bx1 c_bx2 c_bx3 l_bx
  have hfit := HK.out.fits
  refine (refCoordCopy_any _ ⟨ck, nx, wt, ts⟩ _ K5_c.out hfit.1 hfit.2.1).mono ?_
  rintro e W6 ⟨tv5, rows, rfl, hown, hb⟩
  obtain ⟨A5, c5, rfl, hc5⟩ := (Sl.of_own hown.own).form
  simp only at *
  unfold coordV
  simp only
  clear hfit
  have hb6 : Below w.heap.size w W6 := below_then HB5.out hb
  have b_bx6 := B5_bx.out.below hb B5_bx.out.lt
  have b_bz6 := B5_bz.out.below hb B5_bz.out.lt
  have k_c6 := K5_c.out.below hb
  have hz6 := hb.size
  have HB6 := Lib.hid hb6
  have B6_bx := Lib.hid b_bx6
  have B6_bz := Lib.hid b_bz6
  have K6_c := Lib.hid k_c6
  clear hb6 b_bx6 b_bz6 k_c6
  clear B5_bx B5_bz HB5 K5_c
  have ho := hown.rebase (w0 := w) rfl (Nat.le_refl _) HB6.out
  obtain ⟨gg, c6, hv6, hg1, hg2, hc6, -⟩ := ho.at_ (Nat.lt_of_le_of_lt (Nat.zero_le i) hl)
  injection hv6 with hv7 hv8 hv9
  subst hv7
  clear hv8 hv9 hc6 hc5 hg1 hg2
  have hgg1 := (ho.own.lt gg rfl).1
  have hgg2 := (ho.own.lt gg rfl).2
  have HO := Lib.hid ho
  clear ho hown
  have c_bx0 := B6_bx.out.cell 0
  have c_bx1 := B6_bx.out.cell 1
  have c_bx2 := B6_bx.out.cell 2
  have c_bx3 := B6_bx.out.cell 3
  have l_bx := B6_bx.out.lt
  go_wp2_with fail
  clear c_bx0 c_bx1 c_bx2 c_bx3 l_bx
  have hsz7 := HB6.out.size
  have hb7 : Below w.heap.size w (W6.alloc (.cells #[.int .i64 ck, .int .i64 nx, .int .i64 wt, .slice (some ⟨gg, 0, none⟩) ts.length c5] 28)) := (HB6.out).alloc (by first | omega | (simp; done) | (simp; omega)) _
  have hal7 : Below W6.heap.size W6 (W6.alloc (.cells #[.int .i64 ck, .int .i64 nx, .int .i64 wt, .slice (some ⟨gg, 0, none⟩) ts.length c5] 28)) := (Below.refl _ _).alloc (by first | omega | (simp; done) | (simp; omega)) _
  have b_bx7 : Blk (W6.alloc (.cells #[.int .i64 ck, .int .i64 nx, .int .i64 wt, .slice (some ⟨gg, 0, none⟩) ts.length c5] 28)) (w.heap.size) 28 #[.int .i64 ck, .int .i64 nx, .int .i64 wt, .slice (some ⟨b, off, none⟩) ts.length m] := (B6_bx.out).alloc _
  have b_bz7 : Blk (W6.alloc (.cells #[.int .i64 ck, .int .i64 nx, .int .i64 wt, .slice (some ⟨gg, 0, none⟩) ts.length c5] 28)) (w.heap.size + 1) 28 #[.int .i64 0, .int .i64 0, .int .i64 0, .slice none 0 0] := (B6_bz.out).alloc _
  have b_bo7 : Blk (W6.alloc (.cells #[.int .i64 ck, .int .i64 nx, .int .i64 wt, .slice (some ⟨gg, 0, none⟩) ts.length c5] 28)) (W6.heap.size) 28 #[.int .i64 ck, .int .i64 nx, .int .i64 wt, .slice (some ⟨gg, 0, none⟩) ts.length c5] := Blk.new_ _ 28 #[.int .i64 ck, .int .i64 nx, .int .i64 wt, .slice (some ⟨gg, 0, none⟩) ts.length c5] (by first | rfl | (simp; done) | (simp; omega))
  have k_c7 := K6_c.out.below hal7
  have k_own7 := (HO.out).alloc (.cells #[.int .i64 ck, .int .i64 nx, .int .i64 wt, .slice (some ⟨gg, 0, none⟩) ts.length c5] 28)
  have hz7 : W6.heap.size + 1 ≤ (W6.alloc (.cells #[.int .i64 ck, .int .i64 nx, .int .i64 wt, .slice (some ⟨gg, 0, none⟩) ts.length c5] 28)).heap.size := by first | omega | (simp; done) | (simp; omega)
  generalize W6.alloc (.cells #[.int .i64 ck, .int .i64 nx, .int .i64 wt, .slice (some ⟨gg, 0, none⟩) ts.length c5] 28) = W7 at *
  have HB7 := Lib.hid hb7
  have B7_bx := Lib.hid b_bx7
  have B7_bz := Lib.hid b_bz7
  have B7_bo := Lib.hid b_bo7
  have K7_c := Lib.hid k_c7
  have K7_own := Lib.hid k_own7
  clear hb7 b_bx7 b_bz7 b_bo7 k_c7 k_own7
  clear B6_bx B6_bz HB6 K6_c HO
  refine (txnOf_any _ ⟨ck, nx, wt, ts⟩ s _ K7_c.out).mono ?_
  rintro e W8 ⟨rfl, hb⟩
  simp only
  rw [HIX.out]
  have hb8 : Below w.heap.size w W8 := below_then HB7.out hb
  have b_bx8 := B7_bx.out.below hb B7_bx.out.lt
  have b_bz8 := B7_bz.out.below hb B7_bz.out.lt
  have b_bo8 := B7_bo.out.below hb B7_bo.out.lt
  have k_c8 := K7_c.out.below hb
  have k_own8 := K7_own.out.keep hb
  have hz8 := hb.size
  have HB8 := Lib.hid hb8
  have B8_bx := Lib.hid b_bx8
  have B8_bz := Lib.hid b_bz8
  have B8_bo := Lib.hid b_bo8
  have K8_c := Lib.hid k_c8
  have K8_own := Lib.hid k_own8
  clear hb8 b_bx8 b_bz8 b_bo8 k_c8 k_own8
  clear B7_bx B7_bz B7_bo HB7 K7_c K7_own
  have c_bx0 := B8_bx.out.cell 0
  have c_bx1 := B8_bx.out.cell 1
  have c_bx2 := B8_bx.out.cell 2
  have c_bx3 := B8_bx.out.cell 3
  have l_bx := B8_bx.out.lt
  have c_bo0 := B8_bo.out.cell 0
  have c_bo1 := B8_bo.out.cell 1
  have c_bo2 := B8_bo.out.cell 2
  have c_bo3 := B8_bo.out.cell 3
  have l_bo := B8_bo.out.lt
  obtain ⟨a0, a1, a2, a3, a4, a5, a6⟩ := XS.out
  have x0 := (HB8.out.cell (p := ⟨b, off + i * 7, none⟩) HBW.out).trans a0
  have x1 := (HB8.out.cell (p := ⟨b, off + i * 7 + 1, none⟩) HBW.out).trans a1
  have x2 := (HB8.out.cell (p := ⟨b, off + i * 7 + 2, none⟩) HBW.out).trans a2
  have x3 := (HB8.out.cell (p := ⟨b, off + i * 7 + 3, none⟩) HBW.out).trans a3
  rw [HST.out] at x3
  have x4 := (HB8.out.cell (p := ⟨b, off + i * 7 + 4, none⟩) HBW.out).trans a4
  have x5 := (HB8.out.cell (p := ⟨b, off + i * 7 + 5, none⟩) HBW.out).trans a5
  have x6 := (HB8.out.cell (p := ⟨b, off + i * 7 + 6, none⟩) HBW.out).trans a6
  clear a0 a1 a2 a3 a4 a5 a6
  have hblz := HB8.out.size
  have hbl := HBW.out
  go_wp2_with fail
  clear c_bx0 c_bx1 c_bx2 c_bx3 l_bx c_bo0 c_bo1 c_bo2 c_bo3 l_bo x0 x1 x2 x3 x4 x5 x6 hblz hbl
  obtain ⟨ts1, ht1⟩ : ∃ ts1, ts = ts1 := ⟨_, rfl⟩
  have hl1 : i < ts1.length := by rw [← ht1]; exact hl
  have HLE := Lib.hid (show ts1.length = ts.length by rw [← ht1])
  have ko := own_ds K8_own.out ht1.symm
  have KO1 := Lib.hid ko
  have HT1 := Lib.hid ht1
  clear ko ht1 K8_own
  obtain ⟨i0x, hi0, hz0, hz1, hz2'⟩ := info_parts CloneInt_info
  have hWn := HB8.out.size
  have lbx := B8_bx.out.lt
  have lbo := B8_bo.out.lt
  go_loopw [13, 14] (fun l q wr => ∃ p : Nat, p ≤ 4 ∧ q = .int .i64 p ∧ Hid (wr.ownsRow W8.heap.size 3 1 l ((four.take p).filter (hasP P part)).length (((four.take p).filter (hasP P part)).map (Value.int .i64))) ∧ Hid (Below W8.heap.size W8 wr)) (fun _ q _ => 4 - (intOf q).toNat)
  case atStart => exact ⟨0, Nat.zero_le _, rfl, World.ownsRow_nil _ _ _ _, Below.refl _ _⟩
  case round =>
    obtain ⟨p, hp, rfl, HL, HW⟩ := hrel
    have hbw := HB8.out.trans (HW.out.mono HB8.out.size)
    have HBL := Lib.hid hbw
    clear hbw
    obtain ⟨A7, c7, rfl, hc7⟩ := (Sl.of_own HL.out).form
    have hwz := HW.out.size
    have p0 : (0 : Int) ≤ (p : Int) := by omega
    have p4 : (p : Int) ≤ 4 := by omega
    have q0 := (B8_bx.out.below HW.out lbx).cell 0
    have q1 := (B8_bx.out.below HW.out lbx).cell 1
    have q2 := (B8_bx.out.below HW.out lbx).cell 2
    have q3 := (B8_bx.out.below HW.out lbx).cell 3
    have ql := (B8_bx.out.below HW.out lbx).lt
    obtain ⟨a0, a1, a2, a3, a4, a5, a6⟩ := XS.out
    have x4 := (HBL.out.cell (p := ⟨b, off + i * 7 + 4, none⟩) HBW.out).trans a4
    clear a0 a1 a2 a3 a4 a5 a6
    have hblz := HBL.out.size
    have hbl := HBW.out
    by_cases hlt : p < 4
    · have p1 : (p : Int) < 4 := by omega
      go_wp2_with fail
      go_loopw [15, 16] (fun t q wq => ∃ k : Nat, k ≤ P.length ∧ q = .int .i64 k ∧ t = .bool (hasTo P part p k) ∧ wq = wr) (fun _ q _ => P.length - (intOf q).toNat)
      case atStart => exact ⟨0, Nat.zero_le _, rfl, by rw [hasTo_zero], rfl⟩
      case round =>
        obtain ⟨k, hk, rfl, rfl, rfl⟩ := hrel
        have k0 : (0 : Int) ≤ (k : Int) := by omega
        have k4 : (k : Int) ≤ 4 := by have := HSM.out; omega
        by_cases hkt : k < P.length
        · have k1 : (k : Int) < (P.length : Int) := by omega
          obtain ⟨b3, o3, rfl, hb3, hc3⟩ := XC.out (by omega)
          have x9 := (HBL.out.cell (p := ⟨b3, o3 + k, none⟩) hb3).trans (hc3 k hkt)
          have HS9 := Lib.hid (hasTo_succ (x := part) (p := (p : Int)) hkt)
          clear hc3
          generalize hasTo P part p k = tb at *
          rcases tb with _ | _
          · go_wp2
            go_light
            exact ⟨⟨k + 1, by omega, by go_num, by rw [HS9.out]; rfl, by first | rfl | trivial⟩, by simp [intOf]; omega⟩
          · go_wp2
            go_light
            exact ⟨⟨k + 1, by omega, by go_num, by rw [HS9.out]; rfl, by first | rfl | trivial⟩, by simp [intOf]; omega⟩
        · obtain rfl : k = P.length := by omega
          rw [hasTo_all]
          have HTK := Lib.hid (four_take (x := part) (P := P) hlt)
          have HFL := Lib.hid (four_le P part p)
          generalize hasP P part p = tb at *
          rcases tb with _ | _
          · go_wp2
            go_light
            refine ⟨⟨p + 1, by omega, by go_num, ?_, HW⟩, by simp [intOf]; omega⟩
            rw [HTK.out]
            simpa using HL
          · go_wp2_with (at_builtin; go_must (refine wpList_append_sl _ rfl (.tmp 101) (.tmp 103) 24 rfl W8.heap.size 3 i0x (.int .i64 0) 1 8 Try.underlying24 hi0 hz0 hz1 hz2' rfl (by decide) _ _ _ (by rfl) (HL.out.alloc _) _ 1 _ (by rfl) (Sl.lit _ _ _ 1 1 rfl) (by intro x hx; simp at hx; subst hx; rfl) (by have := HFL.out; simp only [maxLen]; omega) (by have := HFL.out; omega) (by simp; omega) ?_; intro v4 w4 ho4 hg4 ha4))
            go_light
            refine ⟨⟨p + 1, by omega, by go_num, ?_, own_below HW.out (Nat.le_refl _) HL.out _ hg4⟩, by simp [intOf]; omega⟩
            rw [HTK.out]
            exact own_eq ho4 (by simp) (by simp)
    · obtain rfl : p = 4 := by omega
      have KN := Lib.hid KO1.out
      have lbz := B8_bz.out.lt
      have BE_bx := Lib.hid (B8_bx.out.below HW.out lbx)
      have BE_bo := Lib.hid (B8_bo.out.below HW.out lbo)
      have BE_bz := Lib.hid (B8_bz.out.below HW.out lbz)
      clear KO1 B8_bx B8_bo B8_bz HB8 lbx lbo lbz
      clear q0 q1 q2 q3 ql x4 hbl hblz
      generalize hE0 : (four.take 4).filter (hasP P part) = R at *
      have hR : withPart P part = R := by rw [← hE0, ← HFW.out]; rfl
      have HR := Lib.hid hR
      clear hE0 hR
      obtain ⟨A4, m4, hr4, hp4, hq4, p4, po4⟩ := KN.out.rowP HLE.out.symm i hl1
      have hgr := below_grown HW.out (rows[i]).2.ownBlock
      have km := KN.out.midRow HLE.out.symm i hr4 hgr
      have ks := KN.out.swap HLE.out.symm i hr4 hgr (own_at2 HL.out) (own_base HL.out (by omega)) (by omega) (setP R) (fun _ => rfl) rfl
      rw [hp4] at km
      obtain ⟨km4, kmf⟩ := km
      have KS := Lib.hid ks
      clear hr4 hp4 hq4 p4 po4 hgr ks HL KN
      have c_bx0 := BE_bx.out.cell 0
      have c_bx1 := BE_bx.out.cell 1
      have c_bx2 := BE_bx.out.cell 2
      have c_bx3 := BE_bx.out.cell 3
      have l_bx := BE_bx.out.lt
      have c_bo0 := BE_bo.out.cell 0
      have c_bo1 := BE_bo.out.cell 1
      have c_bo2 := BE_bo.out.cell 2
      have c_bo3 := BE_bo.out.cell 3
      have l_bo := BE_bo.out.lt
      go_upto_region 25 with fail
      clear km4 kmf
      clear c_bx0 c_bx1 c_bx2 c_bx3 l_bx c_bo0 c_bo1 c_bo2 c_bo3 l_bo
      have hsz9 := HBL.out.size
      have hb9 : Below w.heap.size w (wr.setCell ⟨gg, i * 7 + 4, none⟩ (.slice A7 R.length c7)) := (HBL.out).setCell (by show w.heap.size ≤ gg; omega) _
      have b_bx9 : Blk (wr.setCell ⟨gg, i * 7 + 4, none⟩ (.slice A7 R.length c7)) (w.heap.size) 28 #[.int .i64 ck, .int .i64 nx, .int .i64 wt, .slice (some ⟨b, off, none⟩) ts.length m] := (BE_bx.out).far (p := ⟨gg, i * 7 + 4, none⟩) (by show w.heap.size ≠ gg; omega) _
      have b_bz9 : Blk (wr.setCell ⟨gg, i * 7 + 4, none⟩ (.slice A7 R.length c7)) (w.heap.size + 1) 28 #[.int .i64 0, .int .i64 0, .int .i64 0, .slice none 0 0] := (BE_bz.out).far (p := ⟨gg, i * 7 + 4, none⟩) (by show w.heap.size + 1 ≠ gg; omega) _
      have b_bo9 : Blk (wr.setCell ⟨gg, i * 7 + 4, none⟩ (.slice A7 R.length c7)) (W6.heap.size) 28 #[.int .i64 ck, .int .i64 nx, .int .i64 wt, .slice (some ⟨gg, 0, none⟩) ts.length c5] := (BE_bo.out).far (p := ⟨gg, i * 7 + 4, none⟩) (by show W6.heap.size ≠ gg; omega) _
      have k_own9 := KS.out
      have hz9 : wr.heap.size + 0 ≤ (wr.setCell ⟨gg, i * 7 + 4, none⟩ (.slice A7 R.length c7)).heap.size := by first | omega | (simp; done) | (simp; omega)
      generalize wr.setCell ⟨gg, i * 7 + 4, none⟩ (.slice A7 R.length c7) = W9 at *
      have HB9 := Lib.hid hb9
      have B9_bx := Lib.hid b_bx9
      have B9_bz := Lib.hid b_bz9
      have B9_bo := Lib.hid b_bo9
      have K9_own := Lib.hid k_own9
      clear hb9 b_bx9 b_bz9 b_bo9 k_own9
      clear BE_bx BE_bz BE_bo HBL KS
      have hfin : ts.modify i (addT part) = ts1.modify i (setP R) := by rw [← HT1.out]; exact modify_at ts i _ _ fun _ => setP_add HPP.out HR.out
      have c_bo0 := B9_bo.out.cell 0
      have c_bo1 := B9_bo.out.cell 1
      have c_bo2 := B9_bo.out.cell 2
      have c_bo3 := B9_bo.out.cell 3
      have l_bo := B9_bo.out.lt
      have c_bz0 := B9_bz.out.cell 0
      have f_bz0 := B9_bz.out.frozen 0
      have c_bz1 := B9_bz.out.cell 1
      have f_bz1 := B9_bz.out.frozen 1
      have c_bz2 := B9_bz.out.cell 2
      have f_bz2 := B9_bz.out.frozen 2
      have c_bz3 := B9_bz.out.cell 3
      have f_bz3 := B9_bz.out.frozen 3
      have l_bz := B9_bz.out.lt
      go_wp2_with fail
      clear c_bo0 c_bo1 c_bo2 c_bo3 l_bo c_bz0 f_bz0 c_bz1 f_bz1 c_bz2 f_bz2 c_bz3 f_bz3 l_bz
      have hszF := HB9.out.size
      have hbF : Below w.heap.size w ((((W9.setCell ⟨w.heap.size + 1, 0, none⟩ (.int .i64 ck)).setCell ⟨w.heap.size + 1, 1, none⟩ (.int .i64 nx)).setCell ⟨w.heap.size + 1, 2, none⟩ (.int .i64 wt)).setCell ⟨w.heap.size + 1, 3, none⟩ (.slice (some ⟨gg, 0, none⟩) ts.length c5)) := ((((HB9.out).setCell (by show w.heap.size ≤ w.heap.size + 1; omega) _).setCell (by show w.heap.size ≤ w.heap.size + 1; omega) _).setCell (by show w.heap.size ≤ w.heap.size + 1; omega) _).setCell (by show w.heap.size ≤ w.heap.size + 1; omega) _
      have b_bxF : Blk ((((W9.setCell ⟨w.heap.size + 1, 0, none⟩ (.int .i64 ck)).setCell ⟨w.heap.size + 1, 1, none⟩ (.int .i64 nx)).setCell ⟨w.heap.size + 1, 2, none⟩ (.int .i64 wt)).setCell ⟨w.heap.size + 1, 3, none⟩ (.slice (some ⟨gg, 0, none⟩) ts.length c5)) (w.heap.size) 28 #[.int .i64 ck, .int .i64 nx, .int .i64 wt, .slice (some ⟨b, off, none⟩) ts.length m] := ((((B9_bx.out).far (p := ⟨w.heap.size + 1, 0, none⟩) (by show w.heap.size ≠ w.heap.size + 1; omega) _).far (p := ⟨w.heap.size + 1, 1, none⟩) (by show w.heap.size ≠ w.heap.size + 1; omega) _).far (p := ⟨w.heap.size + 1, 2, none⟩) (by show w.heap.size ≠ w.heap.size + 1; omega) _).far (p := ⟨w.heap.size + 1, 3, none⟩) (by show w.heap.size ≠ w.heap.size + 1; omega) _
      have b_bzF : Blk ((((W9.setCell ⟨w.heap.size + 1, 0, none⟩ (.int .i64 ck)).setCell ⟨w.heap.size + 1, 1, none⟩ (.int .i64 nx)).setCell ⟨w.heap.size + 1, 2, none⟩ (.int .i64 wt)).setCell ⟨w.heap.size + 1, 3, none⟩ (.slice (some ⟨gg, 0, none⟩) ts.length c5)) (w.heap.size + 1) 28 #[.int .i64 ck, .int .i64 nx, .int .i64 wt, .slice (some ⟨gg, 0, none⟩) ts.length c5] := ((((B9_bz.out).set_ 0 _).set_ 1 _).set_ 2 _).set_ 3 _
      have b_boF : Blk ((((W9.setCell ⟨w.heap.size + 1, 0, none⟩ (.int .i64 ck)).setCell ⟨w.heap.size + 1, 1, none⟩ (.int .i64 nx)).setCell ⟨w.heap.size + 1, 2, none⟩ (.int .i64 wt)).setCell ⟨w.heap.size + 1, 3, none⟩ (.slice (some ⟨gg, 0, none⟩) ts.length c5)) (W6.heap.size) 28 #[.int .i64 ck, .int .i64 nx, .int .i64 wt, .slice (some ⟨gg, 0, none⟩) ts.length c5] := ((((B9_bo.out).far (p := ⟨w.heap.size + 1, 0, none⟩) (by show W6.heap.size ≠ w.heap.size + 1; omega) _).far (p := ⟨w.heap.size + 1, 1, none⟩) (by show W6.heap.size ≠ w.heap.size + 1; omega) _).far (p := ⟨w.heap.size + 1, 2, none⟩) (by show W6.heap.size ≠ w.heap.size + 1; omega) _).far (p := ⟨w.heap.size + 1, 3, none⟩) (by show W6.heap.size ≠ w.heap.size + 1; omega) _
      have hoF := own_ds (K9_own.out.put4 (g := w.heap.size + 1) (by constructor <;> omega) (.int .i64 ck) (.int .i64 nx) (.int .i64 wt) (.slice (some ⟨gg, 0, none⟩) ts.length c5)) hfin
      have y0 := b_bzF.cell 0
      have y1 := b_bzF.cell 1
      have y2 := b_bzF.cell 2
      have y3 := b_bzF.cell 3
      refine bodyPost_ret (v := .tuple #[.agg #[.int .i64 ck, .int .i64 nx, .int .i64 wt, .slice (some ⟨gg, 0, none⟩) ts.length c5], .int .i64 0]) ?_ ?_ (⟨.slice (some ⟨gg, 0, none⟩) ts.length c5, _, rfl, own_len (hoF.rebase (by simp) (by omega) hbF) (by simp [CoordD.upd]), hbF⟩)
      · simp [results, Try.results57, go_sem, y0, y1, y2, y3]
      · rfl
end Go.Proofs.Ytjkoceacjbhblaa
