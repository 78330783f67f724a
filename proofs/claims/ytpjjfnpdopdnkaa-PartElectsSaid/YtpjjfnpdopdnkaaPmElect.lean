/- part.Elect, tailraceref.ElectedOf. -/
import Derived.Test.YtpjjfnpdopdnkaaPartU
import Derived.Test.YtpjjfnpdopdnkaaPartV
import Derived.Deep.RegionHeld3
import Derived.Deep.DrawnRows
import Derived.Deep.OwnRows
import Derived.Test.YtpjjfnpdopdnkaaPmLed
namespace Go.Proofs.Ytpjjfnpdopdnkaa
open Go.RowKit
attribute [local go_sem ↓] Go.wp_at_zero Go.wp_at_succ

theorem PO.newKnown {base : Nat} {w : World} {c : PartD} {iv kv rv : Value} (h : PO base w c iv kv rv) (n g : Nat) (hn : n ≤ 5) (hg : g = w.heap.size) (hb : base ≤ w.heap.size) : PO base (w.alloc (.cells (madeCells #[.int .i64 0] n) 3)) { c with known := List.replicate n 0 } iv (.slice (some ⟨g, 0, none⟩) n n) rv := by
  subst hg
  have h' := h.alloc (.cells (madeCells #[.int .i64 0] n) 3)
  have h7 := World.ownsRow_lit (base := base) (e := 3) (size := 1) w (madeCells #[Value.int .i64 0] n) n hb (by simp only [maxLen]; omega) (by simp [size_madeCells])
  rw [toList_madeCells_one] at h7
  exact ⟨h'.isr, own_eq h7 (by simp) (by simp), h'.reps⟩
/-- the first k of the numbers are 0 -/
def zk (k : Nat) (ks : List Int) : List Int := List.replicate k 0 ++ ks.drop k
theorem zk_zero (ks : List Int) : zk 0 ks = ks := by simp [zk]
theorem zk_len {k : Nat} {ks : List Int} (h : k ≤ ks.length) : (zk k ks).length = ks.length := by simp [zk]; omega
theorem zk_all {n : Nat} {ks : List Int} (h : ks.length = n) : zk ks.length ks = List.replicate n 0 := by simp [zk, h]
theorem zk_step {k : Nat} {ks : List Int} (h : k < ks.length) : (zk k ks).set k 0 = zk (k + 1) ks := by
  unfold zk
  rw [List.drop_eq_getElem_cons h, List.set_append_right _ _ (by simp), List.length_replicate, Nat.sub_self, List.set_cons_zero, List.replicate_succ', List.append_assoc]
  rfl
theorem PO.knownIn {base : Nat} {w : World} {c : PartD} {iv rv : Value} {gk d n : Nat} (h : PO base w c iv (.slice (some ⟨gk, 0, none⟩) n d) rv) (hn : c.known.length = n) (k : Nat) (hk : k < n) : (∃ x, w.cell? ⟨gk, k, none⟩ = some x) ∧ w.frozen? ⟨gk, k, none⟩ = false ∧ ∀ x : Int, PO base (w.setCell ⟨gk, k, none⟩ (.int .i64 x)) { c with known := c.known.set k x } iv (.slice (some ⟨gk, 0, none⟩) n d) rv := by
  subst hn
  obtain ⟨x1, x2⟩ := h.knownAt k hk
  exact ⟨⟨_, x1⟩, x2, fun x => h.setKnown k x (by omega)⟩
theorem PO.heads {base : Nat} {w : World} {c : PartD} {iv kv rv : Value} (h : PO base w c iv kv rv) (e l f b : Int) : PO base w ⟨e, l, c.isr, c.known, c.reps, f, b⟩ iv kv rv := ⟨h.isr, h.known, h.reps⟩
theorem PSm.elected {c : PartD} (h : PSm c) (e l f b : Int) (ks : List Int) (hk : ks.length ≤ 5) : PSm ⟨e, l, c.isr, ks, c.reps, f, b⟩ := ⟨h.isr, hk, h.reps, h.bytes⟩
set_option maxRecDepth 100000 in
set_option maxHeartbeats 4000000 in
theorem elect_bad (v : Value) (c : PartD) (r n : Int) (hf : AtFault c r n) (w : World) (h : Pv w v c) : Calls Try.prog 58 #[v, .int .i64 r] w (RefusesP n w) := by
  obtain ⟨xi, xk, xr, rfl, ix, kx, rx, hli, hlk, hlr⟩ := id h
  obtain ⟨A5, c5, rfl, hc5, -⟩ := rx.at_
  obtain ⟨A1, c1, rfl, hc1, -⟩ := ix.at_
  obtain ⟨A3, c3, rfl, hc3, -⟩ := kx.at_
  have H := Lib.hid h
  clear h ix kx rx
  unfold partV at *
  obtain ⟨ep, ld, is, ks, rs, fw, ba⟩ := c
  simp only at *
  have hn0 := hf.ne
  have n1 : (n == 0) = false := beq_eq_false_iff_ne.2 hn0
  have n2 : (n != 0) = true := by simpa using hn0
  have HF := Lib.hid hf
  clear hf hn0
  go_enter Try.func58, Try.ntmps58
  go_wp2_with fail
  have hb1 : Below w.heap.size w ((w.alloc (.cells #[.int .i64 ep, .int .i64 ld, .slice A1 is.length c1, .slice A3 ks.length c3, .slice A5 rs.length c5, .int .i64 fw, .int .i64 ba] 26)).alloc (.cells #[.int .i64 0, .int .i64 0, .slice none 0 0, .slice none 0 0, .slice none 0 0, .int .i64 0, .int .i64 0] 26)) := ((Below.refl _ _).alloc (by first | omega | (simp; done) | (simp; omega)) _).alloc (by first | omega | (simp; done) | (simp; omega)) _
  have hal1 : Below w.heap.size w ((w.alloc (.cells #[.int .i64 ep, .int .i64 ld, .slice A1 is.length c1, .slice A3 ks.length c3, .slice A5 rs.length c5, .int .i64 fw, .int .i64 ba] 26)).alloc (.cells #[.int .i64 0, .int .i64 0, .slice none 0 0, .slice none 0 0, .slice none 0 0, .int .i64 0, .int .i64 0] 26)) := ((Below.refl _ _).alloc (by first | omega | (simp; done) | (simp; omega)) _).alloc (by first | omega | (simp; done) | (simp; omega)) _
  have b_bx1 : Blk ((w.alloc (.cells #[.int .i64 ep, .int .i64 ld, .slice A1 is.length c1, .slice A3 ks.length c3, .slice A5 rs.length c5, .int .i64 fw, .int .i64 ba] 26)).alloc (.cells #[.int .i64 0, .int .i64 0, .slice none 0 0, .slice none 0 0, .slice none 0 0, .int .i64 0, .int .i64 0] 26)) (w.heap.size) 26 #[.int .i64 ep, .int .i64 ld, .slice A1 is.length c1, .slice A3 ks.length c3, .slice A5 rs.length c5, .int .i64 fw, .int .i64 ba] := (Blk.new_ _ 26 #[.int .i64 ep, .int .i64 ld, .slice A1 is.length c1, .slice A3 ks.length c3, .slice A5 rs.length c5, .int .i64 fw, .int .i64 ba] (by first | rfl | (simp; done) | (simp; omega))).alloc _
  have b_bz1 : Blk ((w.alloc (.cells #[.int .i64 ep, .int .i64 ld, .slice A1 is.length c1, .slice A3 ks.length c3, .slice A5 rs.length c5, .int .i64 fw, .int .i64 ba] 26)).alloc (.cells #[.int .i64 0, .int .i64 0, .slice none 0 0, .slice none 0 0, .slice none 0 0, .int .i64 0, .int .i64 0] 26)) (w.heap.size + 1) 26 #[.int .i64 0, .int .i64 0, .slice none 0 0, .slice none 0 0, .slice none 0 0, .int .i64 0, .int .i64 0] := Blk.new_ _ 26 #[.int .i64 0, .int .i64 0, .slice none 0 0, .slice none 0 0, .slice none 0 0, .int .i64 0, .int .i64 0] (by first | rfl | (simp; done) | (simp; omega))
  have k_v1 := H.out.below hal1
  have hz1 : w.heap.size + 2 ≤ ((w.alloc (.cells #[.int .i64 ep, .int .i64 ld, .slice A1 is.length c1, .slice A3 ks.length c3, .slice A5 rs.length c5, .int .i64 fw, .int .i64 ba] 26)).alloc (.cells #[.int .i64 0, .int .i64 0, .slice none 0 0, .slice none 0 0, .slice none 0 0, .int .i64 0, .int .i64 0] 26)).heap.size := by first | omega | (simp; done) | (simp; omega)
  generalize (w.alloc (.cells #[.int .i64 ep, .int .i64 ld, .slice A1 is.length c1, .slice A3 ks.length c3, .slice A5 rs.length c5, .int .i64 fw, .int .i64 ba] 26)).alloc (.cells #[.int .i64 0, .int .i64 0, .slice none 0 0, .slice none 0 0, .slice none 0 0, .int .i64 0, .int .i64 0] 26) = W1 at *
  have HB1 := Lib.hid hb1
  have B1_bx := Lib.hid b_bx1
  have B1_bz := Lib.hid b_bz1
  have K1_v := Lib.hid k_v1
  clear hb1 b_bx1 b_bz1 k_v1
  clear H
  refine (at_refuses K1_v.out HF.out).mono ?_
  rintro e W2 ⟨rfl, hb⟩
  have hb2 : Below w.heap.size w W2 := below_then HB1.out hb
  have b_bx2 := B1_bx.out.below hb B1_bx.out.lt
  have b_bz2 := B1_bz.out.below hb B1_bz.out.lt
  have k_v2 := K1_v.out.below hb
  have hz2 := hb.size
  have HB2 := Lib.hid hb2
  have B2_bx := Lib.hid b_bx2
  have B2_bz := Lib.hid b_bz2
  have K2_v := Lib.hid k_v2
  clear hb2 b_bx2 b_bz2 k_v2
  clear B1_bx B1_bz HB1 K1_v
  have c_bx0 := B2_bx.out.cell 0
  have f_bx0 := B2_bx.out.frozen 0
  have c_bx1 := B2_bx.out.cell 1
  have f_bx1 := B2_bx.out.frozen 1
  have c_bx2 := B2_bx.out.cell 2
  have f_bx2 := B2_bx.out.frozen 2
  have c_bx3 := B2_bx.out.cell 3
  have f_bx3 := B2_bx.out.frozen 3
  have c_bx4 := B2_bx.out.cell 4
  have f_bx4 := B2_bx.out.frozen 4
  have c_bx5 := B2_bx.out.cell 5
  have f_bx5 := B2_bx.out.frozen 5
  have c_bx6 := B2_bx.out.cell 6
  have f_bx6 := B2_bx.out.frozen 6
  have l_bx := B2_bx.out.lt
  have c_bz0 := B2_bz.out.cell 0
  have f_bz0 := B2_bz.out.frozen 0
  have c_bz1 := B2_bz.out.cell 1
  have f_bz1 := B2_bz.out.frozen 1
  have c_bz2 := B2_bz.out.cell 2
  have f_bz2 := B2_bz.out.frozen 2
  have c_bz3 := B2_bz.out.cell 3
  have f_bz3 := B2_bz.out.frozen 3
  have c_bz4 := B2_bz.out.cell 4
  have f_bz4 := B2_bz.out.frozen 4
  have c_bz5 := B2_bz.out.cell 5
  have f_bz5 := B2_bz.out.frozen 5
  have c_bz6 := B2_bz.out.cell 6
  have f_bz6 := B2_bz.out.frozen 6
  have l_bz := B2_bz.out.lt
  have hszE := HB2.out.size
  have hbE : Below w.heap.size w (((((((W2.setCell ⟨w.heap.size, 0, none⟩ (.int .i64 0)).setCell ⟨w.heap.size, 1, none⟩ (.int .i64 0)).setCell ⟨w.heap.size, 2, none⟩ (.slice none 0 0)).setCell ⟨w.heap.size, 3, none⟩ (.slice none 0 0)).setCell ⟨w.heap.size, 4, none⟩ (.slice none 0 0)).setCell ⟨w.heap.size, 5, none⟩ (.int .i64 0)).setCell ⟨w.heap.size, 6, none⟩ (.int .i64 0)) := (((((((HB2.out).setCell (by show w.heap.size ≤ w.heap.size; omega) _).setCell (by show w.heap.size ≤ w.heap.size; omega) _).setCell (by show w.heap.size ≤ w.heap.size; omega) _).setCell (by show w.heap.size ≤ w.heap.size; omega) _).setCell (by show w.heap.size ≤ w.heap.size; omega) _).setCell (by show w.heap.size ≤ w.heap.size; omega) _).setCell (by show w.heap.size ≤ w.heap.size; omega) _
  have b_bxE : Blk (((((((W2.setCell ⟨w.heap.size, 0, none⟩ (.int .i64 0)).setCell ⟨w.heap.size, 1, none⟩ (.int .i64 0)).setCell ⟨w.heap.size, 2, none⟩ (.slice none 0 0)).setCell ⟨w.heap.size, 3, none⟩ (.slice none 0 0)).setCell ⟨w.heap.size, 4, none⟩ (.slice none 0 0)).setCell ⟨w.heap.size, 5, none⟩ (.int .i64 0)).setCell ⟨w.heap.size, 6, none⟩ (.int .i64 0)) (w.heap.size) 26 #[.int .i64 0, .int .i64 0, .slice none 0 0, .slice none 0 0, .slice none 0 0, .int .i64 0, .int .i64 0] := (((((((B2_bx.out).set_ 0 _).set_ 1 _).set_ 2 _).set_ 3 _).set_ 4 _).set_ 5 _).set_ 6 _
  have b_bzE : Blk (((((((W2.setCell ⟨w.heap.size, 0, none⟩ (.int .i64 0)).setCell ⟨w.heap.size, 1, none⟩ (.int .i64 0)).setCell ⟨w.heap.size, 2, none⟩ (.slice none 0 0)).setCell ⟨w.heap.size, 3, none⟩ (.slice none 0 0)).setCell ⟨w.heap.size, 4, none⟩ (.slice none 0 0)).setCell ⟨w.heap.size, 5, none⟩ (.int .i64 0)).setCell ⟨w.heap.size, 6, none⟩ (.int .i64 0)) (w.heap.size + 1) 26 #[.int .i64 0, .int .i64 0, .slice none 0 0, .slice none 0 0, .slice none 0 0, .int .i64 0, .int .i64 0] := (((((((B2_bz.out).far (p := ⟨w.heap.size, 0, none⟩) (by show w.heap.size + 1 ≠ w.heap.size; omega) _).far (p := ⟨w.heap.size, 1, none⟩) (by show w.heap.size + 1 ≠ w.heap.size; omega) _).far (p := ⟨w.heap.size, 2, none⟩) (by show w.heap.size + 1 ≠ w.heap.size; omega) _).far (p := ⟨w.heap.size, 3, none⟩) (by show w.heap.size + 1 ≠ w.heap.size; omega) _).far (p := ⟨w.heap.size, 4, none⟩) (by show w.heap.size + 1 ≠ w.heap.size; omega) _).far (p := ⟨w.heap.size, 5, none⟩) (by show w.heap.size + 1 ≠ w.heap.size; omega) _).far (p := ⟨w.heap.size, 6, none⟩) (by show w.heap.size + 1 ≠ w.heap.size; omega) _
  have z0 := b_bzE.cell 0
  have zf0 := b_bzE.frozen 0
  have z1 := b_bzE.cell 1
  have zf1 := b_bzE.frozen 1
  have z2 := b_bzE.cell 2
  have zf2 := b_bzE.frozen 2
  have z3 := b_bzE.cell 3
  have zf3 := b_bzE.frozen 3
  have z4 := b_bzE.cell 4
  have zf4 := b_bzE.frozen 4
  have z5 := b_bzE.cell 5
  have zf5 := b_bzE.frozen 5
  have z6 := b_bzE.cell 6
  have zf6 := b_bzE.frozen 6
  have zl := b_bzE.lt
  clear b_bxE b_bzE hbE
  go_wp2_with fail
  clear c_bx0 f_bx0 c_bx1 f_bx1 c_bx2 f_bx2 c_bx3 f_bx3 c_bx4 f_bx4 c_bx5 f_bx5 c_bx6 f_bx6 l_bx c_bz0 f_bz0 c_bz1 f_bz1 c_bz2 f_bz2 c_bz3 f_bz3 c_bz4 f_bz4 c_bz5 f_bz5 c_bz6 f_bz6 l_bz
  have hszF := HB2.out.size
  have hbF : Below w.heap.size w ((((((((((((((W2.setCell ⟨w.heap.size, 0, none⟩ (.int .i64 0)).setCell ⟨w.heap.size, 1, none⟩ (.int .i64 0)).setCell ⟨w.heap.size, 2, none⟩ (.slice none 0 0)).setCell ⟨w.heap.size, 3, none⟩ (.slice none 0 0)).setCell ⟨w.heap.size, 4, none⟩ (.slice none 0 0)).setCell ⟨w.heap.size, 5, none⟩ (.int .i64 0)).setCell ⟨w.heap.size, 6, none⟩ (.int .i64 0)).setCell ⟨w.heap.size + 1, 0, none⟩ (.int .i64 0)).setCell ⟨w.heap.size + 1, 1, none⟩ (.int .i64 0)).setCell ⟨w.heap.size + 1, 2, none⟩ (.slice none 0 0)).setCell ⟨w.heap.size + 1, 3, none⟩ (.slice none 0 0)).setCell ⟨w.heap.size + 1, 4, none⟩ (.slice none 0 0)).setCell ⟨w.heap.size + 1, 5, none⟩ (.int .i64 0)).setCell ⟨w.heap.size + 1, 6, none⟩ (.int .i64 0)) := ((((((((((((((HB2.out).setCell (by show w.heap.size ≤ w.heap.size; omega) _).setCell (by show w.heap.size ≤ w.heap.size; omega) _).setCell (by show w.heap.size ≤ w.heap.size; omega) _).setCell (by show w.heap.size ≤ w.heap.size; omega) _).setCell (by show w.heap.size ≤ w.heap.size; omega) _).setCell (by show w.heap.size ≤ w.heap.size; omega) _).setCell (by show w.heap.size ≤ w.heap.size; omega) _).setCell (by show w.heap.size ≤ w.heap.size + 1; omega) _).setCell (by show w.heap.size ≤ w.heap.size + 1; omega) _).setCell (by show w.heap.size ≤ w.heap.size + 1; omega) _).setCell (by show w.heap.size ≤ w.heap.size + 1; omega) _).setCell (by show w.heap.size ≤ w.heap.size + 1; omega) _).setCell (by show w.heap.size ≤ w.heap.size + 1; omega) _).setCell (by show w.heap.size ≤ w.heap.size + 1; omega) _
  have b_bxF : Blk ((((((((((((((W2.setCell ⟨w.heap.size, 0, none⟩ (.int .i64 0)).setCell ⟨w.heap.size, 1, none⟩ (.int .i64 0)).setCell ⟨w.heap.size, 2, none⟩ (.slice none 0 0)).setCell ⟨w.heap.size, 3, none⟩ (.slice none 0 0)).setCell ⟨w.heap.size, 4, none⟩ (.slice none 0 0)).setCell ⟨w.heap.size, 5, none⟩ (.int .i64 0)).setCell ⟨w.heap.size, 6, none⟩ (.int .i64 0)).setCell ⟨w.heap.size + 1, 0, none⟩ (.int .i64 0)).setCell ⟨w.heap.size + 1, 1, none⟩ (.int .i64 0)).setCell ⟨w.heap.size + 1, 2, none⟩ (.slice none 0 0)).setCell ⟨w.heap.size + 1, 3, none⟩ (.slice none 0 0)).setCell ⟨w.heap.size + 1, 4, none⟩ (.slice none 0 0)).setCell ⟨w.heap.size + 1, 5, none⟩ (.int .i64 0)).setCell ⟨w.heap.size + 1, 6, none⟩ (.int .i64 0)) (w.heap.size) 26 #[.int .i64 0, .int .i64 0, .slice none 0 0, .slice none 0 0, .slice none 0 0, .int .i64 0, .int .i64 0] := ((((((((((((((B2_bx.out).set_ 0 _).set_ 1 _).set_ 2 _).set_ 3 _).set_ 4 _).set_ 5 _).set_ 6 _).far (p := ⟨w.heap.size + 1, 0, none⟩) (by show w.heap.size ≠ w.heap.size + 1; omega) _).far (p := ⟨w.heap.size + 1, 1, none⟩) (by show w.heap.size ≠ w.heap.size + 1; omega) _).far (p := ⟨w.heap.size + 1, 2, none⟩) (by show w.heap.size ≠ w.heap.size + 1; omega) _).far (p := ⟨w.heap.size + 1, 3, none⟩) (by show w.heap.size ≠ w.heap.size + 1; omega) _).far (p := ⟨w.heap.size + 1, 4, none⟩) (by show w.heap.size ≠ w.heap.size + 1; omega) _).far (p := ⟨w.heap.size + 1, 5, none⟩) (by show w.heap.size ≠ w.heap.size + 1; omega) _).far (p := ⟨w.heap.size + 1, 6, none⟩) (by show w.heap.size ≠ w.heap.size + 1; omega) _
  have b_bzF : Blk ((((((((((((((W2.setCell ⟨w.heap.size, 0, none⟩ (.int .i64 0)).setCell ⟨w.heap.size, 1, none⟩ (.int .i64 0)).setCell ⟨w.heap.size, 2, none⟩ (.slice none 0 0)).setCell ⟨w.heap.size, 3, none⟩ (.slice none 0 0)).setCell ⟨w.heap.size, 4, none⟩ (.slice none 0 0)).setCell ⟨w.heap.size, 5, none⟩ (.int .i64 0)).setCell ⟨w.heap.size, 6, none⟩ (.int .i64 0)).setCell ⟨w.heap.size + 1, 0, none⟩ (.int .i64 0)).setCell ⟨w.heap.size + 1, 1, none⟩ (.int .i64 0)).setCell ⟨w.heap.size + 1, 2, none⟩ (.slice none 0 0)).setCell ⟨w.heap.size + 1, 3, none⟩ (.slice none 0 0)).setCell ⟨w.heap.size + 1, 4, none⟩ (.slice none 0 0)).setCell ⟨w.heap.size + 1, 5, none⟩ (.int .i64 0)).setCell ⟨w.heap.size + 1, 6, none⟩ (.int .i64 0)) (w.heap.size + 1) 26 #[.int .i64 0, .int .i64 0, .slice none 0 0, .slice none 0 0, .slice none 0 0, .int .i64 0, .int .i64 0] := ((((((((((((((B2_bz.out).far (p := ⟨w.heap.size, 0, none⟩) (by show w.heap.size + 1 ≠ w.heap.size; omega) _).far (p := ⟨w.heap.size, 1, none⟩) (by show w.heap.size + 1 ≠ w.heap.size; omega) _).far (p := ⟨w.heap.size, 2, none⟩) (by show w.heap.size + 1 ≠ w.heap.size; omega) _).far (p := ⟨w.heap.size, 3, none⟩) (by show w.heap.size + 1 ≠ w.heap.size; omega) _).far (p := ⟨w.heap.size, 4, none⟩) (by show w.heap.size + 1 ≠ w.heap.size; omega) _).far (p := ⟨w.heap.size, 5, none⟩) (by show w.heap.size + 1 ≠ w.heap.size; omega) _).far (p := ⟨w.heap.size, 6, none⟩) (by show w.heap.size + 1 ≠ w.heap.size; omega) _).set_ 0 _).set_ 1 _).set_ 2 _).set_ 3 _).set_ 4 _).set_ 5 _).set_ 6 _
  have y0 := b_bzF.cell 0
  have y1 := b_bzF.cell 1
  have y2 := b_bzF.cell 2
  have y3 := b_bzF.cell 3
  have y4 := b_bzF.cell 4
  have y5 := b_bzF.cell 5
  have y6 := b_bzF.cell 6
  exact bodyPost_ret (v := .tuple #[.agg #[.int .i64 0, .int .i64 0, .slice none 0 0, .slice none 0 0, .slice none 0 0, .int .i64 0, .int .i64 0], .int .i64 n]) (by simp [results, Try.results58, go_sem, y0, y1, y2, y3, y4, y5, y6]) rfl (⟨rfl, hbF⟩)
set_option maxRecDepth 100000 in
set_option maxHeartbeats 4000000 in
theorem elect_down (v : Value) (c : PartD) (i : Nat) (hn : PartOk c) (hi : i < c.reps.length) (hu : c.reps[i].up = false) (w : World) (h : Pv w v c) : Calls Try.prog 58 #[v, .int .i64 i] w (RefusesP 7 w) := by
  have eqk := hn.known
  have eqi := hn.isr
  obtain ⟨xi, xk, xr, rfl, ix, kx, rx, hli, hlk, hlr⟩ := id h
  obtain ⟨A5, c5, rfl, hc5, -⟩ := rx.at_
  obtain ⟨A1, c1, rfl, hc1, -⟩ := ix.at_
  obtain ⟨A3, c3, rfl, hc3, -⟩ := kx.at_
  have H := Lib.hid h
  clear h ix kx rx
  unfold partV at *
  obtain ⟨ep, ld, is, ks, rs, fw, ba⟩ := c
  simp only at *
  have HN := Lib.hid hn
  have HSM := Lib.hid hn.small
  clear hn
  (try simp only at eqk eqi)
  have E1 := Lib.hid eqi
  have E2 := Lib.hid eqk
  have i0 : (0 : Int) ≤ (i : Int) := by omega
  have i1 : (i : Int) < (rs.length : Int) := Int.ofNat_lt.2 hi
  have i2 : (i : Int) < (is.length : Int) := by omega
  have i3 : (i : Int) < (ks.length : Int) := by omega
  have j2 : i < is.length := by omega
  have j3 : i < ks.length := by omega
  clear eqk eqi
  have hup : rs[i].up = false := hu
  have HU := Lib.hid hup
  clear hu hup
  go_enter Try.func58, Try.ntmps58
  go_wp2_with fail
  have hb1 : Below w.heap.size w ((w.alloc (.cells #[.int .i64 ep, .int .i64 ld, .slice A1 is.length c1, .slice A3 ks.length c3, .slice A5 rs.length c5, .int .i64 fw, .int .i64 ba] 26)).alloc (.cells #[.int .i64 0, .int .i64 0, .slice none 0 0, .slice none 0 0, .slice none 0 0, .int .i64 0, .int .i64 0] 26)) := ((Below.refl _ _).alloc (by first | omega | (simp; done) | (simp; omega)) _).alloc (by first | omega | (simp; done) | (simp; omega)) _
  have hal1 : Below w.heap.size w ((w.alloc (.cells #[.int .i64 ep, .int .i64 ld, .slice A1 is.length c1, .slice A3 ks.length c3, .slice A5 rs.length c5, .int .i64 fw, .int .i64 ba] 26)).alloc (.cells #[.int .i64 0, .int .i64 0, .slice none 0 0, .slice none 0 0, .slice none 0 0, .int .i64 0, .int .i64 0] 26)) := ((Below.refl _ _).alloc (by first | omega | (simp; done) | (simp; omega)) _).alloc (by first | omega | (simp; done) | (simp; omega)) _
  have b_bx1 : Blk ((w.alloc (.cells #[.int .i64 ep, .int .i64 ld, .slice A1 is.length c1, .slice A3 ks.length c3, .slice A5 rs.length c5, .int .i64 fw, .int .i64 ba] 26)).alloc (.cells #[.int .i64 0, .int .i64 0, .slice none 0 0, .slice none 0 0, .slice none 0 0, .int .i64 0, .int .i64 0] 26)) (w.heap.size) 26 #[.int .i64 ep, .int .i64 ld, .slice A1 is.length c1, .slice A3 ks.length c3, .slice A5 rs.length c5, .int .i64 fw, .int .i64 ba] := (Blk.new_ _ 26 #[.int .i64 ep, .int .i64 ld, .slice A1 is.length c1, .slice A3 ks.length c3, .slice A5 rs.length c5, .int .i64 fw, .int .i64 ba] (by first | rfl | (simp; done) | (simp; omega))).alloc _
  have b_bz1 : Blk ((w.alloc (.cells #[.int .i64 ep, .int .i64 ld, .slice A1 is.length c1, .slice A3 ks.length c3, .slice A5 rs.length c5, .int .i64 fw, .int .i64 ba] 26)).alloc (.cells #[.int .i64 0, .int .i64 0, .slice none 0 0, .slice none 0 0, .slice none 0 0, .int .i64 0, .int .i64 0] 26)) (w.heap.size + 1) 26 #[.int .i64 0, .int .i64 0, .slice none 0 0, .slice none 0 0, .slice none 0 0, .int .i64 0, .int .i64 0] := Blk.new_ _ 26 #[.int .i64 0, .int .i64 0, .slice none 0 0, .slice none 0 0, .slice none 0 0, .int .i64 0, .int .i64 0] (by first | rfl | (simp; done) | (simp; omega))
  have k_v1 := H.out.below hal1
  have hz1 : w.heap.size + 2 ≤ ((w.alloc (.cells #[.int .i64 ep, .int .i64 ld, .slice A1 is.length c1, .slice A3 ks.length c3, .slice A5 rs.length c5, .int .i64 fw, .int .i64 ba] 26)).alloc (.cells #[.int .i64 0, .int .i64 0, .slice none 0 0, .slice none 0 0, .slice none 0 0, .int .i64 0, .int .i64 0] 26)).heap.size := by first | omega | (simp; done) | (simp; omega)
  generalize (w.alloc (.cells #[.int .i64 ep, .int .i64 ld, .slice A1 is.length c1, .slice A3 ks.length c3, .slice A5 rs.length c5, .int .i64 fw, .int .i64 ba] 26)).alloc (.cells #[.int .i64 0, .int .i64 0, .slice none 0 0, .slice none 0 0, .slice none 0 0, .int .i64 0, .int .i64 0] 26) = W1 at *
  have HB1 := Lib.hid hb1
  have B1_bx := Lib.hid b_bx1
  have B1_bz := Lib.hid b_bz1
  have K1_v := Lib.hid k_v1
  clear hb1 b_bx1 b_bz1 k_v1
  clear H
  refine (at_good _ ⟨ep, ld, is, ks, rs, fw, ba⟩ i HN.out hi _ K1_v.out).mono ?_
  rintro e W2 ⟨iv, kv, rv, rfl, ho, hb⟩
  obtain ⟨gi, d1, gk, d3, gr, d5, rfl, rfl, rfl, hgi, hgk, hgr, hgi', hgk', hgr'⟩ := ho.rows (by have := HN.out.isr; have := HN.out.many; simp only at *; omega) (by have := HN.out.known; have := HN.out.many; simp only at *; omega) (by have := HN.out.many; simp only at *; omega)
  unfold partV
  simp only at *
  have HO := Lib.hid ho
  clear ho
  have hb2 : Below w.heap.size w W2 := below_then HB1.out hb
  have b_bx2 := B1_bx.out.below hb B1_bx.out.lt
  have b_bz2 := B1_bz.out.below hb B1_bz.out.lt
  have k_v2 := K1_v.out.below hb
  have hz2 := hb.size
  have HB2 := Lib.hid hb2
  have B2_bx := Lib.hid b_bx2
  have B2_bz := Lib.hid b_bz2
  have K2_v := Lib.hid k_v2
  clear hb2 b_bx2 b_bz2 k_v2
  clear B1_bx B1_bz HB1 K1_v
  have c_bx0 := B2_bx.out.cell 0
  have f_bx0 := B2_bx.out.frozen 0
  have c_bx1 := B2_bx.out.cell 1
  have f_bx1 := B2_bx.out.frozen 1
  have c_bx2 := B2_bx.out.cell 2
  have f_bx2 := B2_bx.out.frozen 2
  have c_bx3 := B2_bx.out.cell 3
  have f_bx3 := B2_bx.out.frozen 3
  have c_bx4 := B2_bx.out.cell 4
  have f_bx4 := B2_bx.out.frozen 4
  have c_bx5 := B2_bx.out.cell 5
  have f_bx5 := B2_bx.out.frozen 5
  have c_bx6 := B2_bx.out.cell 6
  have f_bx6 := B2_bx.out.frozen 6
  have l_bx := B2_bx.out.lt
  go_upto_region 2 with fail
  clear c_bx0 f_bx0 c_bx1 f_bx1 c_bx2 f_bx2 c_bx3 f_bx3 c_bx4 f_bx4 c_bx5 f_bx5 c_bx6 f_bx6 l_bx
  have hsz3 := HB2.out.size
  have hb3 : Below w.heap.size w (((((((W2.setCell ⟨w.heap.size, 0, none⟩ (.int .i64 ep)).setCell ⟨w.heap.size, 1, none⟩ (.int .i64 ld)).setCell ⟨w.heap.size, 2, none⟩ (.slice (some ⟨gi, 0, none⟩) is.length d1)).setCell ⟨w.heap.size, 3, none⟩ (.slice (some ⟨gk, 0, none⟩) ks.length d3)).setCell ⟨w.heap.size, 4, none⟩ (.slice (some ⟨gr, 0, none⟩) rs.length d5)).setCell ⟨w.heap.size, 5, none⟩ (.int .i64 fw)).setCell ⟨w.heap.size, 6, none⟩ (.int .i64 ba)) := (((((((HB2.out).setCell (by show w.heap.size ≤ w.heap.size; omega) _).setCell (by show w.heap.size ≤ w.heap.size; omega) _).setCell (by show w.heap.size ≤ w.heap.size; omega) _).setCell (by show w.heap.size ≤ w.heap.size; omega) _).setCell (by show w.heap.size ≤ w.heap.size; omega) _).setCell (by show w.heap.size ≤ w.heap.size; omega) _).setCell (by show w.heap.size ≤ w.heap.size; omega) _
  have b_bx3 : Blk (((((((W2.setCell ⟨w.heap.size, 0, none⟩ (.int .i64 ep)).setCell ⟨w.heap.size, 1, none⟩ (.int .i64 ld)).setCell ⟨w.heap.size, 2, none⟩ (.slice (some ⟨gi, 0, none⟩) is.length d1)).setCell ⟨w.heap.size, 3, none⟩ (.slice (some ⟨gk, 0, none⟩) ks.length d3)).setCell ⟨w.heap.size, 4, none⟩ (.slice (some ⟨gr, 0, none⟩) rs.length d5)).setCell ⟨w.heap.size, 5, none⟩ (.int .i64 fw)).setCell ⟨w.heap.size, 6, none⟩ (.int .i64 ba)) (w.heap.size) 26 #[.int .i64 ep, .int .i64 ld, .slice (some ⟨gi, 0, none⟩) is.length d1, .slice (some ⟨gk, 0, none⟩) ks.length d3, .slice (some ⟨gr, 0, none⟩) rs.length d5, .int .i64 fw, .int .i64 ba] := (((((((B2_bx.out).set_ 0 _).set_ 1 _).set_ 2 _).set_ 3 _).set_ 4 _).set_ 5 _).set_ 6 _
  have b_bz3 : Blk (((((((W2.setCell ⟨w.heap.size, 0, none⟩ (.int .i64 ep)).setCell ⟨w.heap.size, 1, none⟩ (.int .i64 ld)).setCell ⟨w.heap.size, 2, none⟩ (.slice (some ⟨gi, 0, none⟩) is.length d1)).setCell ⟨w.heap.size, 3, none⟩ (.slice (some ⟨gk, 0, none⟩) ks.length d3)).setCell ⟨w.heap.size, 4, none⟩ (.slice (some ⟨gr, 0, none⟩) rs.length d5)).setCell ⟨w.heap.size, 5, none⟩ (.int .i64 fw)).setCell ⟨w.heap.size, 6, none⟩ (.int .i64 ba)) (w.heap.size + 1) 26 #[.int .i64 0, .int .i64 0, .slice none 0 0, .slice none 0 0, .slice none 0 0, .int .i64 0, .int .i64 0] := (((((((B2_bz.out).far (p := ⟨w.heap.size, 0, none⟩) (by show w.heap.size + 1 ≠ w.heap.size; omega) _).far (p := ⟨w.heap.size, 1, none⟩) (by show w.heap.size + 1 ≠ w.heap.size; omega) _).far (p := ⟨w.heap.size, 2, none⟩) (by show w.heap.size + 1 ≠ w.heap.size; omega) _).far (p := ⟨w.heap.size, 3, none⟩) (by show w.heap.size + 1 ≠ w.heap.size; omega) _).far (p := ⟨w.heap.size, 4, none⟩) (by show w.heap.size + 1 ≠ w.heap.size; omega) _).far (p := ⟨w.heap.size, 5, none⟩) (by show w.heap.size + 1 ≠ w.heap.size; omega) _).far (p := ⟨w.heap.size, 6, none⟩) (by show w.heap.size + 1 ≠ w.heap.size; omega) _
  have k_own3 := (((((((HO.out).under (a := ⟨w.heap.size, 0, none⟩) (by (try dsimp only); omega) (.int .i64 ep)).under (a := ⟨w.heap.size, 1, none⟩) (by (try dsimp only); omega) (.int .i64 ld)).under (a := ⟨w.heap.size, 2, none⟩) (by (try dsimp only); omega) (.slice (some ⟨gi, 0, none⟩) is.length d1)).under (a := ⟨w.heap.size, 3, none⟩) (by (try dsimp only); omega) (.slice (some ⟨gk, 0, none⟩) ks.length d3)).under (a := ⟨w.heap.size, 4, none⟩) (by (try dsimp only); omega) (.slice (some ⟨gr, 0, none⟩) rs.length d5)).under (a := ⟨w.heap.size, 5, none⟩) (by (try dsimp only); omega) (.int .i64 fw)).under (a := ⟨w.heap.size, 6, none⟩) (by (try dsimp only); omega) (.int .i64 ba)
  have hz3 : W2.heap.size + 0 ≤ (((((((W2.setCell ⟨w.heap.size, 0, none⟩ (.int .i64 ep)).setCell ⟨w.heap.size, 1, none⟩ (.int .i64 ld)).setCell ⟨w.heap.size, 2, none⟩ (.slice (some ⟨gi, 0, none⟩) is.length d1)).setCell ⟨w.heap.size, 3, none⟩ (.slice (some ⟨gk, 0, none⟩) ks.length d3)).setCell ⟨w.heap.size, 4, none⟩ (.slice (some ⟨gr, 0, none⟩) rs.length d5)).setCell ⟨w.heap.size, 5, none⟩ (.int .i64 fw)).setCell ⟨w.heap.size, 6, none⟩ (.int .i64 ba)).heap.size := by first | omega | (simp; done) | (simp; omega)
  generalize ((((((W2.setCell ⟨w.heap.size, 0, none⟩ (.int .i64 ep)).setCell ⟨w.heap.size, 1, none⟩ (.int .i64 ld)).setCell ⟨w.heap.size, 2, none⟩ (.slice (some ⟨gi, 0, none⟩) is.length d1)).setCell ⟨w.heap.size, 3, none⟩ (.slice (some ⟨gk, 0, none⟩) ks.length d3)).setCell ⟨w.heap.size, 4, none⟩ (.slice (some ⟨gr, 0, none⟩) rs.length d5)).setCell ⟨w.heap.size, 5, none⟩ (.int .i64 fw)).setCell ⟨w.heap.size, 6, none⟩ (.int .i64 ba) = W3 at *
  have HB3 := Lib.hid hb3
  have B3_bx := Lib.hid b_bx3
  have B3_bz := Lib.hid b_bz3
  have K3_own := Lib.hid k_own3
  clear hb3 b_bx3 b_bz3 k_own3
  clear B2_bx B2_bz HB2 HO
  have c_bx0 := B3_bx.out.cell 0
  have c_bx1 := B3_bx.out.cell 1
  have c_bx2 := B3_bx.out.cell 2
  have c_bx3 := B3_bx.out.cell 3
  have c_bx4 := B3_bx.out.cell 4
  have c_bx5 := B3_bx.out.cell 5
  have c_bx6 := B3_bx.out.cell 6
  have l_bx := B3_bx.out.lt
  have c_bz0 := B3_bz.out.cell 0
  have f_bz0 := B3_bz.out.frozen 0
  have c_bz1 := B3_bz.out.cell 1
  have f_bz1 := B3_bz.out.frozen 1
  have c_bz2 := B3_bz.out.cell 2
  have f_bz2 := B3_bz.out.frozen 2
  have c_bz3 := B3_bz.out.cell 3
  have f_bz3 := B3_bz.out.frozen 3
  have c_bz4 := B3_bz.out.cell 4
  have f_bz4 := B3_bz.out.frozen 4
  have c_bz5 := B3_bz.out.cell 5
  have f_bz5 := B3_bz.out.frozen 5
  have c_bz6 := B3_bz.out.cell 6
  have f_bz6 := B3_bz.out.frozen 6
  have l_bz := B3_bz.out.lt
  obtain ⟨A7, c7, ⟨r0, r1, r2, r3⟩, ⟨rf0, rf1, rf2, rf3⟩, rby⟩ := K3_own.out.repAt i hi
  obtain ⟨s0, sf0⟩ := K3_own.out.isrAt i j2
  obtain ⟨t0, tf0⟩ := K3_own.out.knownAt i j3
  (try simp only at r0 r1 r2 r3 rby s0 t0)
  rw [HU.out] at r0
  go_wp2_with fail
  clear c_bx0 c_bx1 c_bx2 c_bx3 c_bx4 c_bx5 c_bx6 l_bx c_bz0 f_bz0 c_bz1 f_bz1 c_bz2 f_bz2 c_bz3 f_bz3 c_bz4 f_bz4 c_bz5 f_bz5 c_bz6 f_bz6 l_bz r0 r1 r2 r3 rf0 rf1 rf2 rf3 rby s0 sf0 t0 tf0
  have hszF := HB3.out.size
  have hbF : Below w.heap.size w (((((((W3.setCell ⟨w.heap.size + 1, 0, none⟩ (.int .i64 0)).setCell ⟨w.heap.size + 1, 1, none⟩ (.int .i64 0)).setCell ⟨w.heap.size + 1, 2, none⟩ (.slice none 0 0)).setCell ⟨w.heap.size + 1, 3, none⟩ (.slice none 0 0)).setCell ⟨w.heap.size + 1, 4, none⟩ (.slice none 0 0)).setCell ⟨w.heap.size + 1, 5, none⟩ (.int .i64 0)).setCell ⟨w.heap.size + 1, 6, none⟩ (.int .i64 0)) := (((((((HB3.out).setCell (by show w.heap.size ≤ w.heap.size + 1; omega) _).setCell (by show w.heap.size ≤ w.heap.size + 1; omega) _).setCell (by show w.heap.size ≤ w.heap.size + 1; omega) _).setCell (by show w.heap.size ≤ w.heap.size + 1; omega) _).setCell (by show w.heap.size ≤ w.heap.size + 1; omega) _).setCell (by show w.heap.size ≤ w.heap.size + 1; omega) _).setCell (by show w.heap.size ≤ w.heap.size + 1; omega) _
  have b_bxF : Blk (((((((W3.setCell ⟨w.heap.size + 1, 0, none⟩ (.int .i64 0)).setCell ⟨w.heap.size + 1, 1, none⟩ (.int .i64 0)).setCell ⟨w.heap.size + 1, 2, none⟩ (.slice none 0 0)).setCell ⟨w.heap.size + 1, 3, none⟩ (.slice none 0 0)).setCell ⟨w.heap.size + 1, 4, none⟩ (.slice none 0 0)).setCell ⟨w.heap.size + 1, 5, none⟩ (.int .i64 0)).setCell ⟨w.heap.size + 1, 6, none⟩ (.int .i64 0)) (w.heap.size) 26 #[.int .i64 ep, .int .i64 ld, .slice (some ⟨gi, 0, none⟩) is.length d1, .slice (some ⟨gk, 0, none⟩) ks.length d3, .slice (some ⟨gr, 0, none⟩) rs.length d5, .int .i64 fw, .int .i64 ba] := (((((((B3_bx.out).far (p := ⟨w.heap.size + 1, 0, none⟩) (by show w.heap.size ≠ w.heap.size + 1; omega) _).far (p := ⟨w.heap.size + 1, 1, none⟩) (by show w.heap.size ≠ w.heap.size + 1; omega) _).far (p := ⟨w.heap.size + 1, 2, none⟩) (by show w.heap.size ≠ w.heap.size + 1; omega) _).far (p := ⟨w.heap.size + 1, 3, none⟩) (by show w.heap.size ≠ w.heap.size + 1; omega) _).far (p := ⟨w.heap.size + 1, 4, none⟩) (by show w.heap.size ≠ w.heap.size + 1; omega) _).far (p := ⟨w.heap.size + 1, 5, none⟩) (by show w.heap.size ≠ w.heap.size + 1; omega) _).far (p := ⟨w.heap.size + 1, 6, none⟩) (by show w.heap.size ≠ w.heap.size + 1; omega) _
  have b_bzF : Blk (((((((W3.setCell ⟨w.heap.size + 1, 0, none⟩ (.int .i64 0)).setCell ⟨w.heap.size + 1, 1, none⟩ (.int .i64 0)).setCell ⟨w.heap.size + 1, 2, none⟩ (.slice none 0 0)).setCell ⟨w.heap.size + 1, 3, none⟩ (.slice none 0 0)).setCell ⟨w.heap.size + 1, 4, none⟩ (.slice none 0 0)).setCell ⟨w.heap.size + 1, 5, none⟩ (.int .i64 0)).setCell ⟨w.heap.size + 1, 6, none⟩ (.int .i64 0)) (w.heap.size + 1) 26 #[.int .i64 0, .int .i64 0, .slice none 0 0, .slice none 0 0, .slice none 0 0, .int .i64 0, .int .i64 0] := (((((((B3_bz.out).set_ 0 _).set_ 1 _).set_ 2 _).set_ 3 _).set_ 4 _).set_ 5 _).set_ 6 _
  have y0 := b_bzF.cell 0
  have y1 := b_bzF.cell 1
  have y2 := b_bzF.cell 2
  have y3 := b_bzF.cell 3
  have y4 := b_bzF.cell 4
  have y5 := b_bzF.cell 5
  have y6 := b_bzF.cell 6
  exact bodyPost_ret (v := .tuple #[.agg #[.int .i64 0, .int .i64 0, .slice none 0 0, .slice none 0 0, .slice none 0 0, .int .i64 0, .int .i64 0], .int .i64 7]) (by simp [results, Try.results58, go_sem, y0, y1, y2, y3, y4, y5, y6]) rfl (⟨rfl, hbF⟩)
set_option maxRecDepth 100000 in
set_option maxHeartbeats 4000000 in
theorem elect_behind (v : Value) (c : PartD) (i : Nat) (hn : PartOk c) (hi : i < c.reps.length) (hu : c.reps[i].up = true) (hj : i < c.isr.length) (hs : c.isr[i] = false) (w : World) (h : Pv w v c) : Calls Try.prog 58 #[v, .int .i64 i] w (RefusesP 13 w) := by
  have eqk := hn.known
  have eqi := hn.isr
  obtain ⟨xi, xk, xr, rfl, ix, kx, rx, hli, hlk, hlr⟩ := id h
  obtain ⟨A5, c5, rfl, hc5, -⟩ := rx.at_
  obtain ⟨A1, c1, rfl, hc1, -⟩ := ix.at_
  obtain ⟨A3, c3, rfl, hc3, -⟩ := kx.at_
  have H := Lib.hid h
  clear h ix kx rx
  unfold partV at *
  obtain ⟨ep, ld, is, ks, rs, fw, ba⟩ := c
  simp only at *
  have HN := Lib.hid hn
  have HSM := Lib.hid hn.small
  clear hn
  (try simp only at eqk eqi)
  have E1 := Lib.hid eqi
  have E2 := Lib.hid eqk
  have i0 : (0 : Int) ≤ (i : Int) := by omega
  have i1 : (i : Int) < (rs.length : Int) := Int.ofNat_lt.2 hi
  have i2 : (i : Int) < (is.length : Int) := by omega
  have i3 : (i : Int) < (ks.length : Int) := by omega
  have j2 : i < is.length := by omega
  have j3 : i < ks.length := by omega
  clear eqk eqi
  have hup : rs[i].up = true := hu
  have HU := Lib.hid hup
  clear hu hup
  have hib : is[i] = false := hs
  have HS := Lib.hid hib
  clear hs hib
  go_enter Try.func58, Try.ntmps58
  go_wp2_with fail
  have hb1 : Below w.heap.size w ((w.alloc (.cells #[.int .i64 ep, .int .i64 ld, .slice A1 is.length c1, .slice A3 ks.length c3, .slice A5 rs.length c5, .int .i64 fw, .int .i64 ba] 26)).alloc (.cells #[.int .i64 0, .int .i64 0, .slice none 0 0, .slice none 0 0, .slice none 0 0, .int .i64 0, .int .i64 0] 26)) := ((Below.refl _ _).alloc (by first | omega | (simp; done) | (simp; omega)) _).alloc (by first | omega | (simp; done) | (simp; omega)) _
  have hal1 : Below w.heap.size w ((w.alloc (.cells #[.int .i64 ep, .int .i64 ld, .slice A1 is.length c1, .slice A3 ks.length c3, .slice A5 rs.length c5, .int .i64 fw, .int .i64 ba] 26)).alloc (.cells #[.int .i64 0, .int .i64 0, .slice none 0 0, .slice none 0 0, .slice none 0 0, .int .i64 0, .int .i64 0] 26)) := ((Below.refl _ _).alloc (by first | omega | (simp; done) | (simp; omega)) _).alloc (by first | omega | (simp; done) | (simp; omega)) _
  have b_bx1 : Blk ((w.alloc (.cells #[.int .i64 ep, .int .i64 ld, .slice A1 is.length c1, .slice A3 ks.length c3, .slice A5 rs.length c5, .int .i64 fw, .int .i64 ba] 26)).alloc (.cells #[.int .i64 0, .int .i64 0, .slice none 0 0, .slice none 0 0, .slice none 0 0, .int .i64 0, .int .i64 0] 26)) (w.heap.size) 26 #[.int .i64 ep, .int .i64 ld, .slice A1 is.length c1, .slice A3 ks.length c3, .slice A5 rs.length c5, .int .i64 fw, .int .i64 ba] := (Blk.new_ _ 26 #[.int .i64 ep, .int .i64 ld, .slice A1 is.length c1, .slice A3 ks.length c3, .slice A5 rs.length c5, .int .i64 fw, .int .i64 ba] (by first | rfl | (simp; done) | (simp; omega))).alloc _
  have b_bz1 : Blk ((w.alloc (.cells #[.int .i64 ep, .int .i64 ld, .slice A1 is.length c1, .slice A3 ks.length c3, .slice A5 rs.length c5, .int .i64 fw, .int .i64 ba] 26)).alloc (.cells #[.int .i64 0, .int .i64 0, .slice none 0 0, .slice none 0 0, .slice none 0 0, .int .i64 0, .int .i64 0] 26)) (w.heap.size + 1) 26 #[.int .i64 0, .int .i64 0, .slice none 0 0, .slice none 0 0, .slice none 0 0, .int .i64 0, .int .i64 0] := Blk.new_ _ 26 #[.int .i64 0, .int .i64 0, .slice none 0 0, .slice none 0 0, .slice none 0 0, .int .i64 0, .int .i64 0] (by first | rfl | (simp; done) | (simp; omega))
  have k_v1 := H.out.below hal1
  have hz1 : w.heap.size + 2 ≤ ((w.alloc (.cells #[.int .i64 ep, .int .i64 ld, .slice A1 is.length c1, .slice A3 ks.length c3, .slice A5 rs.length c5, .int .i64 fw, .int .i64 ba] 26)).alloc (.cells #[.int .i64 0, .int .i64 0, .slice none 0 0, .slice none 0 0, .slice none 0 0, .int .i64 0, .int .i64 0] 26)).heap.size := by first | omega | (simp; done) | (simp; omega)
  generalize (w.alloc (.cells #[.int .i64 ep, .int .i64 ld, .slice A1 is.length c1, .slice A3 ks.length c3, .slice A5 rs.length c5, .int .i64 fw, .int .i64 ba] 26)).alloc (.cells #[.int .i64 0, .int .i64 0, .slice none 0 0, .slice none 0 0, .slice none 0 0, .int .i64 0, .int .i64 0] 26) = W1 at *
  have HB1 := Lib.hid hb1
  have B1_bx := Lib.hid b_bx1
  have B1_bz := Lib.hid b_bz1
  have K1_v := Lib.hid k_v1
  clear hb1 b_bx1 b_bz1 k_v1
  clear H
  refine (at_good _ ⟨ep, ld, is, ks, rs, fw, ba⟩ i HN.out hi _ K1_v.out).mono ?_
  rintro e W2 ⟨iv, kv, rv, rfl, ho, hb⟩
  obtain ⟨gi, d1, gk, d3, gr, d5, rfl, rfl, rfl, hgi, hgk, hgr, hgi', hgk', hgr'⟩ := ho.rows (by have := HN.out.isr; have := HN.out.many; simp only at *; omega) (by have := HN.out.known; have := HN.out.many; simp only at *; omega) (by have := HN.out.many; simp only at *; omega)
  unfold partV
  simp only at *
  have HO := Lib.hid ho
  clear ho
  have hb2 : Below w.heap.size w W2 := below_then HB1.out hb
  have b_bx2 := B1_bx.out.below hb B1_bx.out.lt
  have b_bz2 := B1_bz.out.below hb B1_bz.out.lt
  have k_v2 := K1_v.out.below hb
  have hz2 := hb.size
  have HB2 := Lib.hid hb2
  have B2_bx := Lib.hid b_bx2
  have B2_bz := Lib.hid b_bz2
  have K2_v := Lib.hid k_v2
  clear hb2 b_bx2 b_bz2 k_v2
  clear B1_bx B1_bz HB1 K1_v
  have c_bx0 := B2_bx.out.cell 0
  have f_bx0 := B2_bx.out.frozen 0
  have c_bx1 := B2_bx.out.cell 1
  have f_bx1 := B2_bx.out.frozen 1
  have c_bx2 := B2_bx.out.cell 2
  have f_bx2 := B2_bx.out.frozen 2
  have c_bx3 := B2_bx.out.cell 3
  have f_bx3 := B2_bx.out.frozen 3
  have c_bx4 := B2_bx.out.cell 4
  have f_bx4 := B2_bx.out.frozen 4
  have c_bx5 := B2_bx.out.cell 5
  have f_bx5 := B2_bx.out.frozen 5
  have c_bx6 := B2_bx.out.cell 6
  have f_bx6 := B2_bx.out.frozen 6
  have l_bx := B2_bx.out.lt
  go_upto_region 2 with fail
  clear c_bx0 f_bx0 c_bx1 f_bx1 c_bx2 f_bx2 c_bx3 f_bx3 c_bx4 f_bx4 c_bx5 f_bx5 c_bx6 f_bx6 l_bx
  have hsz3 := HB2.out.size
  have hb3 : Below w.heap.size w (((((((W2.setCell ⟨w.heap.size, 0, none⟩ (.int .i64 ep)).setCell ⟨w.heap.size, 1, none⟩ (.int .i64 ld)).setCell ⟨w.heap.size, 2, none⟩ (.slice (some ⟨gi, 0, none⟩) is.length d1)).setCell ⟨w.heap.size, 3, none⟩ (.slice (some ⟨gk, 0, none⟩) ks.length d3)).setCell ⟨w.heap.size, 4, none⟩ (.slice (some ⟨gr, 0, none⟩) rs.length d5)).setCell ⟨w.heap.size, 5, none⟩ (.int .i64 fw)).setCell ⟨w.heap.size, 6, none⟩ (.int .i64 ba)) := (((((((HB2.out).setCell (by show w.heap.size ≤ w.heap.size; omega) _).setCell (by show w.heap.size ≤ w.heap.size; omega) _).setCell (by show w.heap.size ≤ w.heap.size; omega) _).setCell (by show w.heap.size ≤ w.heap.size; omega) _).setCell (by show w.heap.size ≤ w.heap.size; omega) _).setCell (by show w.heap.size ≤ w.heap.size; omega) _).setCell (by show w.heap.size ≤ w.heap.size; omega) _
  have b_bx3 : Blk (((((((W2.setCell ⟨w.heap.size, 0, none⟩ (.int .i64 ep)).setCell ⟨w.heap.size, 1, none⟩ (.int .i64 ld)).setCell ⟨w.heap.size, 2, none⟩ (.slice (some ⟨gi, 0, none⟩) is.length d1)).setCell ⟨w.heap.size, 3, none⟩ (.slice (some ⟨gk, 0, none⟩) ks.length d3)).setCell ⟨w.heap.size, 4, none⟩ (.slice (some ⟨gr, 0, none⟩) rs.length d5)).setCell ⟨w.heap.size, 5, none⟩ (.int .i64 fw)).setCell ⟨w.heap.size, 6, none⟩ (.int .i64 ba)) (w.heap.size) 26 #[.int .i64 ep, .int .i64 ld, .slice (some ⟨gi, 0, none⟩) is.length d1, .slice (some ⟨gk, 0, none⟩) ks.length d3, .slice (some ⟨gr, 0, none⟩) rs.length d5, .int .i64 fw, .int .i64 ba] := (((((((B2_bx.out).set_ 0 _).set_ 1 _).set_ 2 _).set_ 3 _).set_ 4 _).set_ 5 _).set_ 6 _
  have b_bz3 : Blk (((((((W2.setCell ⟨w.heap.size, 0, none⟩ (.int .i64 ep)).setCell ⟨w.heap.size, 1, none⟩ (.int .i64 ld)).setCell ⟨w.heap.size, 2, none⟩ (.slice (some ⟨gi, 0, none⟩) is.length d1)).setCell ⟨w.heap.size, 3, none⟩ (.slice (some ⟨gk, 0, none⟩) ks.length d3)).setCell ⟨w.heap.size, 4, none⟩ (.slice (some ⟨gr, 0, none⟩) rs.length d5)).setCell ⟨w.heap.size, 5, none⟩ (.int .i64 fw)).setCell ⟨w.heap.size, 6, none⟩ (.int .i64 ba)) (w.heap.size + 1) 26 #[.int .i64 0, .int .i64 0, .slice none 0 0, .slice none 0 0, .slice none 0 0, .int .i64 0, .int .i64 0] := (((((((B2_bz.out).far (p := ⟨w.heap.size, 0, none⟩) (by show w.heap.size + 1 ≠ w.heap.size; omega) _).far (p := ⟨w.heap.size, 1, none⟩) (by show w.heap.size + 1 ≠ w.heap.size; omega) _).far (p := ⟨w.heap.size, 2, none⟩) (by show w.heap.size + 1 ≠ w.heap.size; omega) _).far (p := ⟨w.heap.size, 3, none⟩) (by show w.heap.size + 1 ≠ w.heap.size; omega) _).far (p := ⟨w.heap.size, 4, none⟩) (by show w.heap.size + 1 ≠ w.heap.size; omega) _).far (p := ⟨w.heap.size, 5, none⟩) (by show w.heap.size + 1 ≠ w.heap.size; omega) _).far (p := ⟨w.heap.size, 6, none⟩) (by show w.heap.size + 1 ≠ w.heap.size; omega) _
  have k_own3 := (((((((HO.out).under (a := ⟨w.heap.size, 0, none⟩) (by (try dsimp only); omega) (.int .i64 ep)).under (a := ⟨w.heap.size, 1, none⟩) (by (try dsimp only); omega) (.int .i64 ld)).under (a := ⟨w.heap.size, 2, none⟩) (by (try dsimp only); omega) (.slice (some ⟨gi, 0, none⟩) is.length d1)).under (a := ⟨w.heap.size, 3, none⟩) (by (try dsimp only); omega) (.slice (some ⟨gk, 0, none⟩) ks.length d3)).under (a := ⟨w.heap.size, 4, none⟩) (by (try dsimp only); omega) (.slice (some ⟨gr, 0, none⟩) rs.length d5)).under (a := ⟨w.heap.size, 5, none⟩) (by (try dsimp only); omega) (.int .i64 fw)).under (a := ⟨w.heap.size, 6, none⟩) (by (try dsimp only); omega) (.int .i64 ba)
  have hz3 : W2.heap.size + 0 ≤ (((((((W2.setCell ⟨w.heap.size, 0, none⟩ (.int .i64 ep)).setCell ⟨w.heap.size, 1, none⟩ (.int .i64 ld)).setCell ⟨w.heap.size, 2, none⟩ (.slice (some ⟨gi, 0, none⟩) is.length d1)).setCell ⟨w.heap.size, 3, none⟩ (.slice (some ⟨gk, 0, none⟩) ks.length d3)).setCell ⟨w.heap.size, 4, none⟩ (.slice (some ⟨gr, 0, none⟩) rs.length d5)).setCell ⟨w.heap.size, 5, none⟩ (.int .i64 fw)).setCell ⟨w.heap.size, 6, none⟩ (.int .i64 ba)).heap.size := by first | omega | (simp; done) | (simp; omega)
  generalize ((((((W2.setCell ⟨w.heap.size, 0, none⟩ (.int .i64 ep)).setCell ⟨w.heap.size, 1, none⟩ (.int .i64 ld)).setCell ⟨w.heap.size, 2, none⟩ (.slice (some ⟨gi, 0, none⟩) is.length d1)).setCell ⟨w.heap.size, 3, none⟩ (.slice (some ⟨gk, 0, none⟩) ks.length d3)).setCell ⟨w.heap.size, 4, none⟩ (.slice (some ⟨gr, 0, none⟩) rs.length d5)).setCell ⟨w.heap.size, 5, none⟩ (.int .i64 fw)).setCell ⟨w.heap.size, 6, none⟩ (.int .i64 ba) = W3 at *
  have HB3 := Lib.hid hb3
  have B3_bx := Lib.hid b_bx3
  have B3_bz := Lib.hid b_bz3
  have K3_own := Lib.hid k_own3
  clear hb3 b_bx3 b_bz3 k_own3
  clear B2_bx B2_bz HB2 HO
  have c_bx0 := B3_bx.out.cell 0
  have c_bx1 := B3_bx.out.cell 1
  have c_bx2 := B3_bx.out.cell 2
  have c_bx3 := B3_bx.out.cell 3
  have c_bx4 := B3_bx.out.cell 4
  have c_bx5 := B3_bx.out.cell 5
  have c_bx6 := B3_bx.out.cell 6
  have l_bx := B3_bx.out.lt
  have c_bz0 := B3_bz.out.cell 0
  have f_bz0 := B3_bz.out.frozen 0
  have c_bz1 := B3_bz.out.cell 1
  have f_bz1 := B3_bz.out.frozen 1
  have c_bz2 := B3_bz.out.cell 2
  have f_bz2 := B3_bz.out.frozen 2
  have c_bz3 := B3_bz.out.cell 3
  have f_bz3 := B3_bz.out.frozen 3
  have c_bz4 := B3_bz.out.cell 4
  have f_bz4 := B3_bz.out.frozen 4
  have c_bz5 := B3_bz.out.cell 5
  have f_bz5 := B3_bz.out.frozen 5
  have c_bz6 := B3_bz.out.cell 6
  have f_bz6 := B3_bz.out.frozen 6
  have l_bz := B3_bz.out.lt
  obtain ⟨A7, c7, ⟨r0, r1, r2, r3⟩, ⟨rf0, rf1, rf2, rf3⟩, rby⟩ := K3_own.out.repAt i hi
  obtain ⟨s0, sf0⟩ := K3_own.out.isrAt i j2
  obtain ⟨t0, tf0⟩ := K3_own.out.knownAt i j3
  (try simp only at r0 r1 r2 r3 rby s0 t0)
  rw [HU.out] at r0
  rw [HS.out] at s0
  go_wp2_with fail
  clear c_bx0 c_bx1 c_bx2 c_bx3 c_bx4 c_bx5 c_bx6 l_bx c_bz0 f_bz0 c_bz1 f_bz1 c_bz2 f_bz2 c_bz3 f_bz3 c_bz4 f_bz4 c_bz5 f_bz5 c_bz6 f_bz6 l_bz r0 r1 r2 r3 rf0 rf1 rf2 rf3 rby s0 sf0 t0 tf0
  have hszF := HB3.out.size
  have hbF : Below w.heap.size w (((((((W3.setCell ⟨w.heap.size + 1, 0, none⟩ (.int .i64 0)).setCell ⟨w.heap.size + 1, 1, none⟩ (.int .i64 0)).setCell ⟨w.heap.size + 1, 2, none⟩ (.slice none 0 0)).setCell ⟨w.heap.size + 1, 3, none⟩ (.slice none 0 0)).setCell ⟨w.heap.size + 1, 4, none⟩ (.slice none 0 0)).setCell ⟨w.heap.size + 1, 5, none⟩ (.int .i64 0)).setCell ⟨w.heap.size + 1, 6, none⟩ (.int .i64 0)) := (((((((HB3.out).setCell (by show w.heap.size ≤ w.heap.size + 1; omega) _).setCell (by show w.heap.size ≤ w.heap.size + 1; omega) _).setCell (by show w.heap.size ≤ w.heap.size + 1; omega) _).setCell (by show w.heap.size ≤ w.heap.size + 1; omega) _).setCell (by show w.heap.size ≤ w.heap.size + 1; omega) _).setCell (by show w.heap.size ≤ w.heap.size + 1; omega) _).setCell (by show w.heap.size ≤ w.heap.size + 1; omega) _
  have b_bxF : Blk (((((((W3.setCell ⟨w.heap.size + 1, 0, none⟩ (.int .i64 0)).setCell ⟨w.heap.size + 1, 1, none⟩ (.int .i64 0)).setCell ⟨w.heap.size + 1, 2, none⟩ (.slice none 0 0)).setCell ⟨w.heap.size + 1, 3, none⟩ (.slice none 0 0)).setCell ⟨w.heap.size + 1, 4, none⟩ (.slice none 0 0)).setCell ⟨w.heap.size + 1, 5, none⟩ (.int .i64 0)).setCell ⟨w.heap.size + 1, 6, none⟩ (.int .i64 0)) (w.heap.size) 26 #[.int .i64 ep, .int .i64 ld, .slice (some ⟨gi, 0, none⟩) is.length d1, .slice (some ⟨gk, 0, none⟩) ks.length d3, .slice (some ⟨gr, 0, none⟩) rs.length d5, .int .i64 fw, .int .i64 ba] := (((((((B3_bx.out).far (p := ⟨w.heap.size + 1, 0, none⟩) (by show w.heap.size ≠ w.heap.size + 1; omega) _).far (p := ⟨w.heap.size + 1, 1, none⟩) (by show w.heap.size ≠ w.heap.size + 1; omega) _).far (p := ⟨w.heap.size + 1, 2, none⟩) (by show w.heap.size ≠ w.heap.size + 1; omega) _).far (p := ⟨w.heap.size + 1, 3, none⟩) (by show w.heap.size ≠ w.heap.size + 1; omega) _).far (p := ⟨w.heap.size + 1, 4, none⟩) (by show w.heap.size ≠ w.heap.size + 1; omega) _).far (p := ⟨w.heap.size + 1, 5, none⟩) (by show w.heap.size ≠ w.heap.size + 1; omega) _).far (p := ⟨w.heap.size + 1, 6, none⟩) (by show w.heap.size ≠ w.heap.size + 1; omega) _
  have b_bzF : Blk (((((((W3.setCell ⟨w.heap.size + 1, 0, none⟩ (.int .i64 0)).setCell ⟨w.heap.size + 1, 1, none⟩ (.int .i64 0)).setCell ⟨w.heap.size + 1, 2, none⟩ (.slice none 0 0)).setCell ⟨w.heap.size + 1, 3, none⟩ (.slice none 0 0)).setCell ⟨w.heap.size + 1, 4, none⟩ (.slice none 0 0)).setCell ⟨w.heap.size + 1, 5, none⟩ (.int .i64 0)).setCell ⟨w.heap.size + 1, 6, none⟩ (.int .i64 0)) (w.heap.size + 1) 26 #[.int .i64 0, .int .i64 0, .slice none 0 0, .slice none 0 0, .slice none 0 0, .int .i64 0, .int .i64 0] := (((((((B3_bz.out).set_ 0 _).set_ 1 _).set_ 2 _).set_ 3 _).set_ 4 _).set_ 5 _).set_ 6 _
  have y0 := b_bzF.cell 0
  have y1 := b_bzF.cell 1
  have y2 := b_bzF.cell 2
  have y3 := b_bzF.cell 3
  have y4 := b_bzF.cell 4
  have y5 := b_bzF.cell 5
  have y6 := b_bzF.cell 6
  exact bodyPost_ret (v := .tuple #[.agg #[.int .i64 0, .int .i64 0, .slice none 0 0, .slice none 0 0, .slice none 0 0, .int .i64 0, .int .i64 0], .int .i64 13]) (by simp [results, Try.results58, go_sem, y0, y1, y2, y3, y4, y5, y6]) rfl (⟨rfl, hbF⟩)
set_option maxRecDepth 100000 in
set_option maxHeartbeats 4000000 in
theorem elect_twice (v : Value) (c : PartD) (i : Nat) (hn : PartOk c) (hi : i < c.reps.length) (hu : c.reps[i].up = true) (hj : i < c.isr.length) (hs : c.isr[i] = true) (hl : c.leader = i) (w : World) (h : Pv w v c) : Calls Try.prog 58 #[v, .int .i64 i] w (RefusesP 6 w) := by
  have eqk := hn.known
  have eqi := hn.isr
  obtain ⟨xi, xk, xr, rfl, ix, kx, rx, hli, hlk, hlr⟩ := id h
  obtain ⟨A5, c5, rfl, hc5, -⟩ := rx.at_
  obtain ⟨A1, c1, rfl, hc1, -⟩ := ix.at_
  obtain ⟨A3, c3, rfl, hc3, -⟩ := kx.at_
  have H := Lib.hid h
  clear h ix kx rx
  unfold partV at *
  obtain ⟨ep, ld, is, ks, rs, fw, ba⟩ := c
  simp only at *
  have HN := Lib.hid hn
  have HSM := Lib.hid hn.small
  clear hn
  (try simp only at eqk eqi)
  have E1 := Lib.hid eqi
  have E2 := Lib.hid eqk
  have i0 : (0 : Int) ≤ (i : Int) := by omega
  have i1 : (i : Int) < (rs.length : Int) := Int.ofNat_lt.2 hi
  have i2 : (i : Int) < (is.length : Int) := by omega
  have i3 : (i : Int) < (ks.length : Int) := by omega
  have j2 : i < is.length := by omega
  have j3 : i < ks.length := by omega
  clear eqk eqi
  have hup : rs[i].up = true := hu
  have HU := Lib.hid hup
  clear hu hup
  have hib : is[i] = true := hs
  have HS := Lib.hid hib
  clear hs hib
  have y9 : (ld == (i : Int)) = true := beq_iff_eq.2 hl
  clear hl
  go_enter Try.func58, Try.ntmps58
  go_wp2_with fail
  have hb1 : Below w.heap.size w ((w.alloc (.cells #[.int .i64 ep, .int .i64 ld, .slice A1 is.length c1, .slice A3 ks.length c3, .slice A5 rs.length c5, .int .i64 fw, .int .i64 ba] 26)).alloc (.cells #[.int .i64 0, .int .i64 0, .slice none 0 0, .slice none 0 0, .slice none 0 0, .int .i64 0, .int .i64 0] 26)) := ((Below.refl _ _).alloc (by first | omega | (simp; done) | (simp; omega)) _).alloc (by first | omega | (simp; done) | (simp; omega)) _
  have hal1 : Below w.heap.size w ((w.alloc (.cells #[.int .i64 ep, .int .i64 ld, .slice A1 is.length c1, .slice A3 ks.length c3, .slice A5 rs.length c5, .int .i64 fw, .int .i64 ba] 26)).alloc (.cells #[.int .i64 0, .int .i64 0, .slice none 0 0, .slice none 0 0, .slice none 0 0, .int .i64 0, .int .i64 0] 26)) := ((Below.refl _ _).alloc (by first | omega | (simp; done) | (simp; omega)) _).alloc (by first | omega | (simp; done) | (simp; omega)) _
  have b_bx1 : Blk ((w.alloc (.cells #[.int .i64 ep, .int .i64 ld, .slice A1 is.length c1, .slice A3 ks.length c3, .slice A5 rs.length c5, .int .i64 fw, .int .i64 ba] 26)).alloc (.cells #[.int .i64 0, .int .i64 0, .slice none 0 0, .slice none 0 0, .slice none 0 0, .int .i64 0, .int .i64 0] 26)) (w.heap.size) 26 #[.int .i64 ep, .int .i64 ld, .slice A1 is.length c1, .slice A3 ks.length c3, .slice A5 rs.length c5, .int .i64 fw, .int .i64 ba] := (Blk.new_ _ 26 #[.int .i64 ep, .int .i64 ld, .slice A1 is.length c1, .slice A3 ks.length c3, .slice A5 rs.length c5, .int .i64 fw, .int .i64 ba] (by first | rfl | (simp; done) | (simp; omega))).alloc _
  have b_bz1 : Blk ((w.alloc (.cells #[.int .i64 ep, .int .i64 ld, .slice A1 is.length c1, .slice A3 ks.length c3, .slice A5 rs.length c5, .int .i64 fw, .int .i64 ba] 26)).alloc (.cells #[.int .i64 0, .int .i64 0, .slice none 0 0, .slice none 0 0, .slice none 0 0, .int .i64 0, .int .i64 0] 26)) (w.heap.size + 1) 26 #[.int .i64 0, .int .i64 0, .slice none 0 0, .slice none 0 0, .slice none 0 0, .int .i64 0, .int .i64 0] := Blk.new_ _ 26 #[.int .i64 0, .int .i64 0, .slice none 0 0, .slice none 0 0, .slice none 0 0, .int .i64 0, .int .i64 0] (by first | rfl | (simp; done) | (simp; omega))
  have k_v1 := H.out.below hal1
  have hz1 : w.heap.size + 2 ≤ ((w.alloc (.cells #[.int .i64 ep, .int .i64 ld, .slice A1 is.length c1, .slice A3 ks.length c3, .slice A5 rs.length c5, .int .i64 fw, .int .i64 ba] 26)).alloc (.cells #[.int .i64 0, .int .i64 0, .slice none 0 0, .slice none 0 0, .slice none 0 0, .int .i64 0, .int .i64 0] 26)).heap.size := by first | omega | (simp; done) | (simp; omega)
  generalize (w.alloc (.cells #[.int .i64 ep, .int .i64 ld, .slice A1 is.length c1, .slice A3 ks.length c3, .slice A5 rs.length c5, .int .i64 fw, .int .i64 ba] 26)).alloc (.cells #[.int .i64 0, .int .i64 0, .slice none 0 0, .slice none 0 0, .slice none 0 0, .int .i64 0, .int .i64 0] 26) = W1 at *
  have HB1 := Lib.hid hb1
  have B1_bx := Lib.hid b_bx1
  have B1_bz := Lib.hid b_bz1
  have K1_v := Lib.hid k_v1
  clear hb1 b_bx1 b_bz1 k_v1
  clear H
  refine (at_good _ ⟨ep, ld, is, ks, rs, fw, ba⟩ i HN.out hi _ K1_v.out).mono ?_
  rintro e W2 ⟨iv, kv, rv, rfl, ho, hb⟩
  obtain ⟨gi, d1, gk, d3, gr, d5, rfl, rfl, rfl, hgi, hgk, hgr, hgi', hgk', hgr'⟩ := ho.rows (by have := HN.out.isr; have := HN.out.many; simp only at *; omega) (by have := HN.out.known; have := HN.out.many; simp only at *; omega) (by have := HN.out.many; simp only at *; omega)
  unfold partV
  simp only at *
  have HO := Lib.hid ho
  clear ho
  have hb2 : Below w.heap.size w W2 := below_then HB1.out hb
  have b_bx2 := B1_bx.out.below hb B1_bx.out.lt
  have b_bz2 := B1_bz.out.below hb B1_bz.out.lt
  have k_v2 := K1_v.out.below hb
  have hz2 := hb.size
  have HB2 := Lib.hid hb2
  have B2_bx := Lib.hid b_bx2
  have B2_bz := Lib.hid b_bz2
  have K2_v := Lib.hid k_v2
  clear hb2 b_bx2 b_bz2 k_v2
  clear B1_bx B1_bz HB1 K1_v
  have c_bx0 := B2_bx.out.cell 0
  have f_bx0 := B2_bx.out.frozen 0
  have c_bx1 := B2_bx.out.cell 1
  have f_bx1 := B2_bx.out.frozen 1
  have c_bx2 := B2_bx.out.cell 2
  have f_bx2 := B2_bx.out.frozen 2
  have c_bx3 := B2_bx.out.cell 3
  have f_bx3 := B2_bx.out.frozen 3
  have c_bx4 := B2_bx.out.cell 4
  have f_bx4 := B2_bx.out.frozen 4
  have c_bx5 := B2_bx.out.cell 5
  have f_bx5 := B2_bx.out.frozen 5
  have c_bx6 := B2_bx.out.cell 6
  have f_bx6 := B2_bx.out.frozen 6
  have l_bx := B2_bx.out.lt
  go_upto_region 2 with fail
  clear c_bx0 f_bx0 c_bx1 f_bx1 c_bx2 f_bx2 c_bx3 f_bx3 c_bx4 f_bx4 c_bx5 f_bx5 c_bx6 f_bx6 l_bx
  have hsz3 := HB2.out.size
  have hb3 : Below w.heap.size w (((((((W2.setCell ⟨w.heap.size, 0, none⟩ (.int .i64 ep)).setCell ⟨w.heap.size, 1, none⟩ (.int .i64 ld)).setCell ⟨w.heap.size, 2, none⟩ (.slice (some ⟨gi, 0, none⟩) is.length d1)).setCell ⟨w.heap.size, 3, none⟩ (.slice (some ⟨gk, 0, none⟩) ks.length d3)).setCell ⟨w.heap.size, 4, none⟩ (.slice (some ⟨gr, 0, none⟩) rs.length d5)).setCell ⟨w.heap.size, 5, none⟩ (.int .i64 fw)).setCell ⟨w.heap.size, 6, none⟩ (.int .i64 ba)) := (((((((HB2.out).setCell (by show w.heap.size ≤ w.heap.size; omega) _).setCell (by show w.heap.size ≤ w.heap.size; omega) _).setCell (by show w.heap.size ≤ w.heap.size; omega) _).setCell (by show w.heap.size ≤ w.heap.size; omega) _).setCell (by show w.heap.size ≤ w.heap.size; omega) _).setCell (by show w.heap.size ≤ w.heap.size; omega) _).setCell (by show w.heap.size ≤ w.heap.size; omega) _
  have b_bx3 : Blk (((((((W2.setCell ⟨w.heap.size, 0, none⟩ (.int .i64 ep)).setCell ⟨w.heap.size, 1, none⟩ (.int .i64 ld)).setCell ⟨w.heap.size, 2, none⟩ (.slice (some ⟨gi, 0, none⟩) is.length d1)).setCell ⟨w.heap.size, 3, none⟩ (.slice (some ⟨gk, 0, none⟩) ks.length d3)).setCell ⟨w.heap.size, 4, none⟩ (.slice (some ⟨gr, 0, none⟩) rs.length d5)).setCell ⟨w.heap.size, 5, none⟩ (.int .i64 fw)).setCell ⟨w.heap.size, 6, none⟩ (.int .i64 ba)) (w.heap.size) 26 #[.int .i64 ep, .int .i64 ld, .slice (some ⟨gi, 0, none⟩) is.length d1, .slice (some ⟨gk, 0, none⟩) ks.length d3, .slice (some ⟨gr, 0, none⟩) rs.length d5, .int .i64 fw, .int .i64 ba] := (((((((B2_bx.out).set_ 0 _).set_ 1 _).set_ 2 _).set_ 3 _).set_ 4 _).set_ 5 _).set_ 6 _
  have b_bz3 : Blk (((((((W2.setCell ⟨w.heap.size, 0, none⟩ (.int .i64 ep)).setCell ⟨w.heap.size, 1, none⟩ (.int .i64 ld)).setCell ⟨w.heap.size, 2, none⟩ (.slice (some ⟨gi, 0, none⟩) is.length d1)).setCell ⟨w.heap.size, 3, none⟩ (.slice (some ⟨gk, 0, none⟩) ks.length d3)).setCell ⟨w.heap.size, 4, none⟩ (.slice (some ⟨gr, 0, none⟩) rs.length d5)).setCell ⟨w.heap.size, 5, none⟩ (.int .i64 fw)).setCell ⟨w.heap.size, 6, none⟩ (.int .i64 ba)) (w.heap.size + 1) 26 #[.int .i64 0, .int .i64 0, .slice none 0 0, .slice none 0 0, .slice none 0 0, .int .i64 0, .int .i64 0] := (((((((B2_bz.out).far (p := ⟨w.heap.size, 0, none⟩) (by show w.heap.size + 1 ≠ w.heap.size; omega) _).far (p := ⟨w.heap.size, 1, none⟩) (by show w.heap.size + 1 ≠ w.heap.size; omega) _).far (p := ⟨w.heap.size, 2, none⟩) (by show w.heap.size + 1 ≠ w.heap.size; omega) _).far (p := ⟨w.heap.size, 3, none⟩) (by show w.heap.size + 1 ≠ w.heap.size; omega) _).far (p := ⟨w.heap.size, 4, none⟩) (by show w.heap.size + 1 ≠ w.heap.size; omega) _).far (p := ⟨w.heap.size, 5, none⟩) (by show w.heap.size + 1 ≠ w.heap.size; omega) _).far (p := ⟨w.heap.size, 6, none⟩) (by show w.heap.size + 1 ≠ w.heap.size; omega) _
  have k_own3 := (((((((HO.out).under (a := ⟨w.heap.size, 0, none⟩) (by (try dsimp only); omega) (.int .i64 ep)).under (a := ⟨w.heap.size, 1, none⟩) (by (try dsimp only); omega) (.int .i64 ld)).under (a := ⟨w.heap.size, 2, none⟩) (by (try dsimp only); omega) (.slice (some ⟨gi, 0, none⟩) is.length d1)).under (a := ⟨w.heap.size, 3, none⟩) (by (try dsimp only); omega) (.slice (some ⟨gk, 0, none⟩) ks.length d3)).under (a := ⟨w.heap.size, 4, none⟩) (by (try dsimp only); omega) (.slice (some ⟨gr, 0, none⟩) rs.length d5)).under (a := ⟨w.heap.size, 5, none⟩) (by (try dsimp only); omega) (.int .i64 fw)).under (a := ⟨w.heap.size, 6, none⟩) (by (try dsimp only); omega) (.int .i64 ba)
  have hz3 : W2.heap.size + 0 ≤ (((((((W2.setCell ⟨w.heap.size, 0, none⟩ (.int .i64 ep)).setCell ⟨w.heap.size, 1, none⟩ (.int .i64 ld)).setCell ⟨w.heap.size, 2, none⟩ (.slice (some ⟨gi, 0, none⟩) is.length d1)).setCell ⟨w.heap.size, 3, none⟩ (.slice (some ⟨gk, 0, none⟩) ks.length d3)).setCell ⟨w.heap.size, 4, none⟩ (.slice (some ⟨gr, 0, none⟩) rs.length d5)).setCell ⟨w.heap.size, 5, none⟩ (.int .i64 fw)).setCell ⟨w.heap.size, 6, none⟩ (.int .i64 ba)).heap.size := by first | omega | (simp; done) | (simp; omega)
  generalize ((((((W2.setCell ⟨w.heap.size, 0, none⟩ (.int .i64 ep)).setCell ⟨w.heap.size, 1, none⟩ (.int .i64 ld)).setCell ⟨w.heap.size, 2, none⟩ (.slice (some ⟨gi, 0, none⟩) is.length d1)).setCell ⟨w.heap.size, 3, none⟩ (.slice (some ⟨gk, 0, none⟩) ks.length d3)).setCell ⟨w.heap.size, 4, none⟩ (.slice (some ⟨gr, 0, none⟩) rs.length d5)).setCell ⟨w.heap.size, 5, none⟩ (.int .i64 fw)).setCell ⟨w.heap.size, 6, none⟩ (.int .i64 ba) = W3 at *
  have HB3 := Lib.hid hb3
  have B3_bx := Lib.hid b_bx3
  have B3_bz := Lib.hid b_bz3
  have K3_own := Lib.hid k_own3
  clear hb3 b_bx3 b_bz3 k_own3
  clear B2_bx B2_bz HB2 HO
  have c_bx0 := B3_bx.out.cell 0
  have c_bx1 := B3_bx.out.cell 1
  have c_bx2 := B3_bx.out.cell 2
  have c_bx3 := B3_bx.out.cell 3
  have c_bx4 := B3_bx.out.cell 4
  have c_bx5 := B3_bx.out.cell 5
  have c_bx6 := B3_bx.out.cell 6
  have l_bx := B3_bx.out.lt
  have c_bz0 := B3_bz.out.cell 0
  have f_bz0 := B3_bz.out.frozen 0
  have c_bz1 := B3_bz.out.cell 1
  have f_bz1 := B3_bz.out.frozen 1
  have c_bz2 := B3_bz.out.cell 2
  have f_bz2 := B3_bz.out.frozen 2
  have c_bz3 := B3_bz.out.cell 3
  have f_bz3 := B3_bz.out.frozen 3
  have c_bz4 := B3_bz.out.cell 4
  have f_bz4 := B3_bz.out.frozen 4
  have c_bz5 := B3_bz.out.cell 5
  have f_bz5 := B3_bz.out.frozen 5
  have c_bz6 := B3_bz.out.cell 6
  have f_bz6 := B3_bz.out.frozen 6
  have l_bz := B3_bz.out.lt
  obtain ⟨A7, c7, ⟨r0, r1, r2, r3⟩, ⟨rf0, rf1, rf2, rf3⟩, rby⟩ := K3_own.out.repAt i hi
  obtain ⟨s0, sf0⟩ := K3_own.out.isrAt i j2
  obtain ⟨t0, tf0⟩ := K3_own.out.knownAt i j3
  (try simp only at r0 r1 r2 r3 rby s0 t0)
  rw [HU.out] at r0
  rw [HS.out] at s0
  go_wp2_with fail
  clear c_bx0 c_bx1 c_bx2 c_bx3 c_bx4 c_bx5 c_bx6 l_bx c_bz0 f_bz0 c_bz1 f_bz1 c_bz2 f_bz2 c_bz3 f_bz3 c_bz4 f_bz4 c_bz5 f_bz5 c_bz6 f_bz6 l_bz r0 r1 r2 r3 rf0 rf1 rf2 rf3 rby s0 sf0 t0 tf0
  have hszF := HB3.out.size
  have hbF : Below w.heap.size w (((((((W3.setCell ⟨w.heap.size + 1, 0, none⟩ (.int .i64 0)).setCell ⟨w.heap.size + 1, 1, none⟩ (.int .i64 0)).setCell ⟨w.heap.size + 1, 2, none⟩ (.slice none 0 0)).setCell ⟨w.heap.size + 1, 3, none⟩ (.slice none 0 0)).setCell ⟨w.heap.size + 1, 4, none⟩ (.slice none 0 0)).setCell ⟨w.heap.size + 1, 5, none⟩ (.int .i64 0)).setCell ⟨w.heap.size + 1, 6, none⟩ (.int .i64 0)) := (((((((HB3.out).setCell (by show w.heap.size ≤ w.heap.size + 1; omega) _).setCell (by show w.heap.size ≤ w.heap.size + 1; omega) _).setCell (by show w.heap.size ≤ w.heap.size + 1; omega) _).setCell (by show w.heap.size ≤ w.heap.size + 1; omega) _).setCell (by show w.heap.size ≤ w.heap.size + 1; omega) _).setCell (by show w.heap.size ≤ w.heap.size + 1; omega) _).setCell (by show w.heap.size ≤ w.heap.size + 1; omega) _
  have b_bxF : Blk (((((((W3.setCell ⟨w.heap.size + 1, 0, none⟩ (.int .i64 0)).setCell ⟨w.heap.size + 1, 1, none⟩ (.int .i64 0)).setCell ⟨w.heap.size + 1, 2, none⟩ (.slice none 0 0)).setCell ⟨w.heap.size + 1, 3, none⟩ (.slice none 0 0)).setCell ⟨w.heap.size + 1, 4, none⟩ (.slice none 0 0)).setCell ⟨w.heap.size + 1, 5, none⟩ (.int .i64 0)).setCell ⟨w.heap.size + 1, 6, none⟩ (.int .i64 0)) (w.heap.size) 26 #[.int .i64 ep, .int .i64 ld, .slice (some ⟨gi, 0, none⟩) is.length d1, .slice (some ⟨gk, 0, none⟩) ks.length d3, .slice (some ⟨gr, 0, none⟩) rs.length d5, .int .i64 fw, .int .i64 ba] := (((((((B3_bx.out).far (p := ⟨w.heap.size + 1, 0, none⟩) (by show w.heap.size ≠ w.heap.size + 1; omega) _).far (p := ⟨w.heap.size + 1, 1, none⟩) (by show w.heap.size ≠ w.heap.size + 1; omega) _).far (p := ⟨w.heap.size + 1, 2, none⟩) (by show w.heap.size ≠ w.heap.size + 1; omega) _).far (p := ⟨w.heap.size + 1, 3, none⟩) (by show w.heap.size ≠ w.heap.size + 1; omega) _).far (p := ⟨w.heap.size + 1, 4, none⟩) (by show w.heap.size ≠ w.heap.size + 1; omega) _).far (p := ⟨w.heap.size + 1, 5, none⟩) (by show w.heap.size ≠ w.heap.size + 1; omega) _).far (p := ⟨w.heap.size + 1, 6, none⟩) (by show w.heap.size ≠ w.heap.size + 1; omega) _
  have b_bzF : Blk (((((((W3.setCell ⟨w.heap.size + 1, 0, none⟩ (.int .i64 0)).setCell ⟨w.heap.size + 1, 1, none⟩ (.int .i64 0)).setCell ⟨w.heap.size + 1, 2, none⟩ (.slice none 0 0)).setCell ⟨w.heap.size + 1, 3, none⟩ (.slice none 0 0)).setCell ⟨w.heap.size + 1, 4, none⟩ (.slice none 0 0)).setCell ⟨w.heap.size + 1, 5, none⟩ (.int .i64 0)).setCell ⟨w.heap.size + 1, 6, none⟩ (.int .i64 0)) (w.heap.size + 1) 26 #[.int .i64 0, .int .i64 0, .slice none 0 0, .slice none 0 0, .slice none 0 0, .int .i64 0, .int .i64 0] := (((((((B3_bz.out).set_ 0 _).set_ 1 _).set_ 2 _).set_ 3 _).set_ 4 _).set_ 5 _).set_ 6 _
  have y0 := b_bzF.cell 0
  have y1 := b_bzF.cell 1
  have y2 := b_bzF.cell 2
  have y3 := b_bzF.cell 3
  have y4 := b_bzF.cell 4
  have y5 := b_bzF.cell 5
  have y6 := b_bzF.cell 6
  exact bodyPost_ret (v := .tuple #[.agg #[.int .i64 0, .int .i64 0, .slice none 0 0, .slice none 0 0, .slice none 0 0, .int .i64 0, .int .i64 0], .int .i64 6]) (by simp [results, Try.results58, go_sem, y0, y1, y2, y3, y4, y5, y6]) rfl (⟨rfl, hbF⟩)
set_option maxRecDepth 100000 in
set_option maxHeartbeats 4000000 in
theorem elect_full (v : Value) (c : PartD) (i : Nat) (hn : PartOk c) (hi : i < c.reps.length) (hu : c.reps[i].up = true) (hj : i < c.isr.length) (hs : c.isr[i] = true) (hl : c.leader ≠ i) (he : c.epoch = 1073741824) (w : World) (h : Pv w v c) : Calls Try.prog 58 #[v, .int .i64 i] w (RefusesP 2 w) := by
  have eqk := hn.known
  have eqi := hn.isr
  obtain ⟨xi, xk, xr, rfl, ix, kx, rx, hli, hlk, hlr⟩ := id h
  obtain ⟨A5, c5, rfl, hc5, -⟩ := rx.at_
  obtain ⟨A1, c1, rfl, hc1, -⟩ := ix.at_
  obtain ⟨A3, c3, rfl, hc3, -⟩ := kx.at_
  have H := Lib.hid h
  clear h ix kx rx
  unfold partV at *
  obtain ⟨ep, ld, is, ks, rs, fw, ba⟩ := c
  simp only at *
  have HN := Lib.hid hn
  have HSM := Lib.hid hn.small
  clear hn
  (try simp only at eqk eqi)
  have E1 := Lib.hid eqi
  have E2 := Lib.hid eqk
  have i0 : (0 : Int) ≤ (i : Int) := by omega
  have i1 : (i : Int) < (rs.length : Int) := Int.ofNat_lt.2 hi
  have i2 : (i : Int) < (is.length : Int) := by omega
  have i3 : (i : Int) < (ks.length : Int) := by omega
  have j2 : i < is.length := by omega
  have j3 : i < ks.length := by omega
  clear eqk eqi
  have hup : rs[i].up = true := hu
  have HU := Lib.hid hup
  clear hu hup
  have hib : is[i] = true := hs
  have HS := Lib.hid hib
  clear hs hib
  have y9 : (ld == (i : Int)) = false := beq_eq_false_iff_ne.2 hl
  clear hl
  have y8 : (ep == 1073741824) = true := beq_iff_eq.2 he
  clear he
  go_enter Try.func58, Try.ntmps58
  go_wp2_with fail
  have hb1 : Below w.heap.size w ((w.alloc (.cells #[.int .i64 ep, .int .i64 ld, .slice A1 is.length c1, .slice A3 ks.length c3, .slice A5 rs.length c5, .int .i64 fw, .int .i64 ba] 26)).alloc (.cells #[.int .i64 0, .int .i64 0, .slice none 0 0, .slice none 0 0, .slice none 0 0, .int .i64 0, .int .i64 0] 26)) := ((Below.refl _ _).alloc (by first | omega | (simp; done) | (simp; omega)) _).alloc (by first | omega | (simp; done) | (simp; omega)) _
  have hal1 : Below w.heap.size w ((w.alloc (.cells #[.int .i64 ep, .int .i64 ld, .slice A1 is.length c1, .slice A3 ks.length c3, .slice A5 rs.length c5, .int .i64 fw, .int .i64 ba] 26)).alloc (.cells #[.int .i64 0, .int .i64 0, .slice none 0 0, .slice none 0 0, .slice none 0 0, .int .i64 0, .int .i64 0] 26)) := ((Below.refl _ _).alloc (by first | omega | (simp; done) | (simp; omega)) _).alloc (by first | omega | (simp; done) | (simp; omega)) _
  have b_bx1 : Blk ((w.alloc (.cells #[.int .i64 ep, .int .i64 ld, .slice A1 is.length c1, .slice A3 ks.length c3, .slice A5 rs.length c5, .int .i64 fw, .int .i64 ba] 26)).alloc (.cells #[.int .i64 0, .int .i64 0, .slice none 0 0, .slice none 0 0, .slice none 0 0, .int .i64 0, .int .i64 0] 26)) (w.heap.size) 26 #[.int .i64 ep, .int .i64 ld, .slice A1 is.length c1, .slice A3 ks.length c3, .slice A5 rs.length c5, .int .i64 fw, .int .i64 ba] := (Blk.new_ _ 26 #[.int .i64 ep, .int .i64 ld, .slice A1 is.length c1, .slice A3 ks.length c3, .slice A5 rs.length c5, .int .i64 fw, .int .i64 ba] (by first | rfl | (simp; done) | (simp; omega))).alloc _
  have b_bz1 : Blk ((w.alloc (.cells #[.int .i64 ep, .int .i64 ld, .slice A1 is.length c1, .slice A3 ks.length c3, .slice A5 rs.length c5, .int .i64 fw, .int .i64 ba] 26)).alloc (.cells #[.int .i64 0, .int .i64 0, .slice none 0 0, .slice none 0 0, .slice none 0 0, .int .i64 0, .int .i64 0] 26)) (w.heap.size + 1) 26 #[.int .i64 0, .int .i64 0, .slice none 0 0, .slice none 0 0, .slice none 0 0, .int .i64 0, .int .i64 0] := Blk.new_ _ 26 #[.int .i64 0, .int .i64 0, .slice none 0 0, .slice none 0 0, .slice none 0 0, .int .i64 0, .int .i64 0] (by first | rfl | (simp; done) | (simp; omega))
  have k_v1 := H.out.below hal1
  have hz1 : w.heap.size + 2 ≤ ((w.alloc (.cells #[.int .i64 ep, .int .i64 ld, .slice A1 is.length c1, .slice A3 ks.length c3, .slice A5 rs.length c5, .int .i64 fw, .int .i64 ba] 26)).alloc (.cells #[.int .i64 0, .int .i64 0, .slice none 0 0, .slice none 0 0, .slice none 0 0, .int .i64 0, .int .i64 0] 26)).heap.size := by first | omega | (simp; done) | (simp; omega)
  generalize (w.alloc (.cells #[.int .i64 ep, .int .i64 ld, .slice A1 is.length c1, .slice A3 ks.length c3, .slice A5 rs.length c5, .int .i64 fw, .int .i64 ba] 26)).alloc (.cells #[.int .i64 0, .int .i64 0, .slice none 0 0, .slice none 0 0, .slice none 0 0, .int .i64 0, .int .i64 0] 26) = W1 at *
  have HB1 := Lib.hid hb1
  have B1_bx := Lib.hid b_bx1
  have B1_bz := Lib.hid b_bz1
  have K1_v := Lib.hid k_v1
  clear hb1 b_bx1 b_bz1 k_v1
  clear H
  refine (at_good _ ⟨ep, ld, is, ks, rs, fw, ba⟩ i HN.out hi _ K1_v.out).mono ?_
  rintro e W2 ⟨iv, kv, rv, rfl, ho, hb⟩
  obtain ⟨gi, d1, gk, d3, gr, d5, rfl, rfl, rfl, hgi, hgk, hgr, hgi', hgk', hgr'⟩ := ho.rows (by have := HN.out.isr; have := HN.out.many; simp only at *; omega) (by have := HN.out.known; have := HN.out.many; simp only at *; omega) (by have := HN.out.many; simp only at *; omega)
  unfold partV
  simp only at *
  have HO := Lib.hid ho
  clear ho
  have hb2 : Below w.heap.size w W2 := below_then HB1.out hb
  have b_bx2 := B1_bx.out.below hb B1_bx.out.lt
  have b_bz2 := B1_bz.out.below hb B1_bz.out.lt
  have k_v2 := K1_v.out.below hb
  have hz2 := hb.size
  have HB2 := Lib.hid hb2
  have B2_bx := Lib.hid b_bx2
  have B2_bz := Lib.hid b_bz2
  have K2_v := Lib.hid k_v2
  clear hb2 b_bx2 b_bz2 k_v2
  clear B1_bx B1_bz HB1 K1_v
  have c_bx0 := B2_bx.out.cell 0
  have f_bx0 := B2_bx.out.frozen 0
  have c_bx1 := B2_bx.out.cell 1
  have f_bx1 := B2_bx.out.frozen 1
  have c_bx2 := B2_bx.out.cell 2
  have f_bx2 := B2_bx.out.frozen 2
  have c_bx3 := B2_bx.out.cell 3
  have f_bx3 := B2_bx.out.frozen 3
  have c_bx4 := B2_bx.out.cell 4
  have f_bx4 := B2_bx.out.frozen 4
  have c_bx5 := B2_bx.out.cell 5
  have f_bx5 := B2_bx.out.frozen 5
  have c_bx6 := B2_bx.out.cell 6
  have f_bx6 := B2_bx.out.frozen 6
  have l_bx := B2_bx.out.lt
  go_upto_region 2 with fail
  clear c_bx0 f_bx0 c_bx1 f_bx1 c_bx2 f_bx2 c_bx3 f_bx3 c_bx4 f_bx4 c_bx5 f_bx5 c_bx6 f_bx6 l_bx
  have hsz3 := HB2.out.size
  have hb3 : Below w.heap.size w (((((((W2.setCell ⟨w.heap.size, 0, none⟩ (.int .i64 ep)).setCell ⟨w.heap.size, 1, none⟩ (.int .i64 ld)).setCell ⟨w.heap.size, 2, none⟩ (.slice (some ⟨gi, 0, none⟩) is.length d1)).setCell ⟨w.heap.size, 3, none⟩ (.slice (some ⟨gk, 0, none⟩) ks.length d3)).setCell ⟨w.heap.size, 4, none⟩ (.slice (some ⟨gr, 0, none⟩) rs.length d5)).setCell ⟨w.heap.size, 5, none⟩ (.int .i64 fw)).setCell ⟨w.heap.size, 6, none⟩ (.int .i64 ba)) := (((((((HB2.out).setCell (by show w.heap.size ≤ w.heap.size; omega) _).setCell (by show w.heap.size ≤ w.heap.size; omega) _).setCell (by show w.heap.size ≤ w.heap.size; omega) _).setCell (by show w.heap.size ≤ w.heap.size; omega) _).setCell (by show w.heap.size ≤ w.heap.size; omega) _).setCell (by show w.heap.size ≤ w.heap.size; omega) _).setCell (by show w.heap.size ≤ w.heap.size; omega) _
  have b_bx3 : Blk (((((((W2.setCell ⟨w.heap.size, 0, none⟩ (.int .i64 ep)).setCell ⟨w.heap.size, 1, none⟩ (.int .i64 ld)).setCell ⟨w.heap.size, 2, none⟩ (.slice (some ⟨gi, 0, none⟩) is.length d1)).setCell ⟨w.heap.size, 3, none⟩ (.slice (some ⟨gk, 0, none⟩) ks.length d3)).setCell ⟨w.heap.size, 4, none⟩ (.slice (some ⟨gr, 0, none⟩) rs.length d5)).setCell ⟨w.heap.size, 5, none⟩ (.int .i64 fw)).setCell ⟨w.heap.size, 6, none⟩ (.int .i64 ba)) (w.heap.size) 26 #[.int .i64 ep, .int .i64 ld, .slice (some ⟨gi, 0, none⟩) is.length d1, .slice (some ⟨gk, 0, none⟩) ks.length d3, .slice (some ⟨gr, 0, none⟩) rs.length d5, .int .i64 fw, .int .i64 ba] := (((((((B2_bx.out).set_ 0 _).set_ 1 _).set_ 2 _).set_ 3 _).set_ 4 _).set_ 5 _).set_ 6 _
  have b_bz3 : Blk (((((((W2.setCell ⟨w.heap.size, 0, none⟩ (.int .i64 ep)).setCell ⟨w.heap.size, 1, none⟩ (.int .i64 ld)).setCell ⟨w.heap.size, 2, none⟩ (.slice (some ⟨gi, 0, none⟩) is.length d1)).setCell ⟨w.heap.size, 3, none⟩ (.slice (some ⟨gk, 0, none⟩) ks.length d3)).setCell ⟨w.heap.size, 4, none⟩ (.slice (some ⟨gr, 0, none⟩) rs.length d5)).setCell ⟨w.heap.size, 5, none⟩ (.int .i64 fw)).setCell ⟨w.heap.size, 6, none⟩ (.int .i64 ba)) (w.heap.size + 1) 26 #[.int .i64 0, .int .i64 0, .slice none 0 0, .slice none 0 0, .slice none 0 0, .int .i64 0, .int .i64 0] := (((((((B2_bz.out).far (p := ⟨w.heap.size, 0, none⟩) (by show w.heap.size + 1 ≠ w.heap.size; omega) _).far (p := ⟨w.heap.size, 1, none⟩) (by show w.heap.size + 1 ≠ w.heap.size; omega) _).far (p := ⟨w.heap.size, 2, none⟩) (by show w.heap.size + 1 ≠ w.heap.size; omega) _).far (p := ⟨w.heap.size, 3, none⟩) (by show w.heap.size + 1 ≠ w.heap.size; omega) _).far (p := ⟨w.heap.size, 4, none⟩) (by show w.heap.size + 1 ≠ w.heap.size; omega) _).far (p := ⟨w.heap.size, 5, none⟩) (by show w.heap.size + 1 ≠ w.heap.size; omega) _).far (p := ⟨w.heap.size, 6, none⟩) (by show w.heap.size + 1 ≠ w.heap.size; omega) _
  have k_own3 := (((((((HO.out).under (a := ⟨w.heap.size, 0, none⟩) (by (try dsimp only); omega) (.int .i64 ep)).under (a := ⟨w.heap.size, 1, none⟩) (by (try dsimp only); omega) (.int .i64 ld)).under (a := ⟨w.heap.size, 2, none⟩) (by (try dsimp only); omega) (.slice (some ⟨gi, 0, none⟩) is.length d1)).under (a := ⟨w.heap.size, 3, none⟩) (by (try dsimp only); omega) (.slice (some ⟨gk, 0, none⟩) ks.length d3)).under (a := ⟨w.heap.size, 4, none⟩) (by (try dsimp only); omega) (.slice (some ⟨gr, 0, none⟩) rs.length d5)).under (a := ⟨w.heap.size, 5, none⟩) (by (try dsimp only); omega) (.int .i64 fw)).under (a := ⟨w.heap.size, 6, none⟩) (by (try dsimp only); omega) (.int .i64 ba)
  have hz3 : W2.heap.size + 0 ≤ (((((((W2.setCell ⟨w.heap.size, 0, none⟩ (.int .i64 ep)).setCell ⟨w.heap.size, 1, none⟩ (.int .i64 ld)).setCell ⟨w.heap.size, 2, none⟩ (.slice (some ⟨gi, 0, none⟩) is.length d1)).setCell ⟨w.heap.size, 3, none⟩ (.slice (some ⟨gk, 0, none⟩) ks.length d3)).setCell ⟨w.heap.size, 4, none⟩ (.slice (some ⟨gr, 0, none⟩) rs.length d5)).setCell ⟨w.heap.size, 5, none⟩ (.int .i64 fw)).setCell ⟨w.heap.size, 6, none⟩ (.int .i64 ba)).heap.size := by first | omega | (simp; done) | (simp; omega)
  generalize ((((((W2.setCell ⟨w.heap.size, 0, none⟩ (.int .i64 ep)).setCell ⟨w.heap.size, 1, none⟩ (.int .i64 ld)).setCell ⟨w.heap.size, 2, none⟩ (.slice (some ⟨gi, 0, none⟩) is.length d1)).setCell ⟨w.heap.size, 3, none⟩ (.slice (some ⟨gk, 0, none⟩) ks.length d3)).setCell ⟨w.heap.size, 4, none⟩ (.slice (some ⟨gr, 0, none⟩) rs.length d5)).setCell ⟨w.heap.size, 5, none⟩ (.int .i64 fw)).setCell ⟨w.heap.size, 6, none⟩ (.int .i64 ba) = W3 at *
  have HB3 := Lib.hid hb3
  have B3_bx := Lib.hid b_bx3
  have B3_bz := Lib.hid b_bz3
  have K3_own := Lib.hid k_own3
  clear hb3 b_bx3 b_bz3 k_own3
  clear B2_bx B2_bz HB2 HO
  have c_bx0 := B3_bx.out.cell 0
  have c_bx1 := B3_bx.out.cell 1
  have c_bx2 := B3_bx.out.cell 2
  have c_bx3 := B3_bx.out.cell 3
  have c_bx4 := B3_bx.out.cell 4
  have c_bx5 := B3_bx.out.cell 5
  have c_bx6 := B3_bx.out.cell 6
  have l_bx := B3_bx.out.lt
  have c_bz0 := B3_bz.out.cell 0
  have f_bz0 := B3_bz.out.frozen 0
  have c_bz1 := B3_bz.out.cell 1
  have f_bz1 := B3_bz.out.frozen 1
  have c_bz2 := B3_bz.out.cell 2
  have f_bz2 := B3_bz.out.frozen 2
  have c_bz3 := B3_bz.out.cell 3
  have f_bz3 := B3_bz.out.frozen 3
  have c_bz4 := B3_bz.out.cell 4
  have f_bz4 := B3_bz.out.frozen 4
  have c_bz5 := B3_bz.out.cell 5
  have f_bz5 := B3_bz.out.frozen 5
  have c_bz6 := B3_bz.out.cell 6
  have f_bz6 := B3_bz.out.frozen 6
  have l_bz := B3_bz.out.lt
  obtain ⟨A7, c7, ⟨r0, r1, r2, r3⟩, ⟨rf0, rf1, rf2, rf3⟩, rby⟩ := K3_own.out.repAt i hi
  obtain ⟨s0, sf0⟩ := K3_own.out.isrAt i j2
  obtain ⟨t0, tf0⟩ := K3_own.out.knownAt i j3
  (try simp only at r0 r1 r2 r3 rby s0 t0)
  rw [HU.out] at r0
  rw [HS.out] at s0
  go_wp2_with fail
  clear c_bx0 c_bx1 c_bx2 c_bx3 c_bx4 c_bx5 c_bx6 l_bx c_bz0 f_bz0 c_bz1 f_bz1 c_bz2 f_bz2 c_bz3 f_bz3 c_bz4 f_bz4 c_bz5 f_bz5 c_bz6 f_bz6 l_bz r0 r1 r2 r3 rf0 rf1 rf2 rf3 rby s0 sf0 t0 tf0
  have hszF := HB3.out.size
  have hbF : Below w.heap.size w (((((((W3.setCell ⟨w.heap.size + 1, 0, none⟩ (.int .i64 0)).setCell ⟨w.heap.size + 1, 1, none⟩ (.int .i64 0)).setCell ⟨w.heap.size + 1, 2, none⟩ (.slice none 0 0)).setCell ⟨w.heap.size + 1, 3, none⟩ (.slice none 0 0)).setCell ⟨w.heap.size + 1, 4, none⟩ (.slice none 0 0)).setCell ⟨w.heap.size + 1, 5, none⟩ (.int .i64 0)).setCell ⟨w.heap.size + 1, 6, none⟩ (.int .i64 0)) := (((((((HB3.out).setCell (by show w.heap.size ≤ w.heap.size + 1; omega) _).setCell (by show w.heap.size ≤ w.heap.size + 1; omega) _).setCell (by show w.heap.size ≤ w.heap.size + 1; omega) _).setCell (by show w.heap.size ≤ w.heap.size + 1; omega) _).setCell (by show w.heap.size ≤ w.heap.size + 1; omega) _).setCell (by show w.heap.size ≤ w.heap.size + 1; omega) _).setCell (by show w.heap.size ≤ w.heap.size + 1; omega) _
  have b_bxF : Blk (((((((W3.setCell ⟨w.heap.size + 1, 0, none⟩ (.int .i64 0)).setCell ⟨w.heap.size + 1, 1, none⟩ (.int .i64 0)).setCell ⟨w.heap.size + 1, 2, none⟩ (.slice none 0 0)).setCell ⟨w.heap.size + 1, 3, none⟩ (.slice none 0 0)).setCell ⟨w.heap.size + 1, 4, none⟩ (.slice none 0 0)).setCell ⟨w.heap.size + 1, 5, none⟩ (.int .i64 0)).setCell ⟨w.heap.size + 1, 6, none⟩ (.int .i64 0)) (w.heap.size) 26 #[.int .i64 ep, .int .i64 ld, .slice (some ⟨gi, 0, none⟩) is.length d1, .slice (some ⟨gk, 0, none⟩) ks.length d3, .slice (some ⟨gr, 0, none⟩) rs.length d5, .int .i64 fw, .int .i64 ba] := (((((((B3_bx.out).far (p := ⟨w.heap.size + 1, 0, none⟩) (by show w.heap.size ≠ w.heap.size + 1; omega) _).far (p := ⟨w.heap.size + 1, 1, none⟩) (by show w.heap.size ≠ w.heap.size + 1; omega) _).far (p := ⟨w.heap.size + 1, 2, none⟩) (by show w.heap.size ≠ w.heap.size + 1; omega) _).far (p := ⟨w.heap.size + 1, 3, none⟩) (by show w.heap.size ≠ w.heap.size + 1; omega) _).far (p := ⟨w.heap.size + 1, 4, none⟩) (by show w.heap.size ≠ w.heap.size + 1; omega) _).far (p := ⟨w.heap.size + 1, 5, none⟩) (by show w.heap.size ≠ w.heap.size + 1; omega) _).far (p := ⟨w.heap.size + 1, 6, none⟩) (by show w.heap.size ≠ w.heap.size + 1; omega) _
  have b_bzF : Blk (((((((W3.setCell ⟨w.heap.size + 1, 0, none⟩ (.int .i64 0)).setCell ⟨w.heap.size + 1, 1, none⟩ (.int .i64 0)).setCell ⟨w.heap.size + 1, 2, none⟩ (.slice none 0 0)).setCell ⟨w.heap.size + 1, 3, none⟩ (.slice none 0 0)).setCell ⟨w.heap.size + 1, 4, none⟩ (.slice none 0 0)).setCell ⟨w.heap.size + 1, 5, none⟩ (.int .i64 0)).setCell ⟨w.heap.size + 1, 6, none⟩ (.int .i64 0)) (w.heap.size + 1) 26 #[.int .i64 0, .int .i64 0, .slice none 0 0, .slice none 0 0, .slice none 0 0, .int .i64 0, .int .i64 0] := (((((((B3_bz.out).set_ 0 _).set_ 1 _).set_ 2 _).set_ 3 _).set_ 4 _).set_ 5 _).set_ 6 _
  have y0 := b_bzF.cell 0
  have y1 := b_bzF.cell 1
  have y2 := b_bzF.cell 2
  have y3 := b_bzF.cell 3
  have y4 := b_bzF.cell 4
  have y5 := b_bzF.cell 5
  have y6 := b_bzF.cell 6
  exact bodyPost_ret (v := .tuple #[.agg #[.int .i64 0, .int .i64 0, .slice none 0 0, .slice none 0 0, .slice none 0 0, .int .i64 0, .int .i64 0], .int .i64 2]) (by simp [results, Try.results58, go_sem, y0, y1, y2, y3, y4, y5, y6]) rfl (⟨rfl, hbF⟩)
set_option maxRecDepth 100000 in
set_option maxHeartbeats 4000000 in
theorem elect_good (v : Value) (c : PartD) (i : Nat) (hn : PartOk c) (hi : i < c.reps.length) (hu : c.reps[i].up = true) (hj : i < c.isr.length) (hs : c.isr[i] = true) (hl : c.leader ≠ i) (he : c.epoch ≠ 1073741824) (w : World) (h : Pv w v c) : Calls Try.prog 58 #[v, .int .i64 i] w (OwnsP (advD ⟨c.epoch + 1, (i : Int), c.isr, (List.replicate c.reps.length (0 : Int)).set i (c.reps[i].safe : Int), c.reps, c.few, (c.reps[i].all : Int)⟩) w) := by
  have eqk := hn.known
  have eqi := hn.isr
  obtain ⟨xi, xk, xr, rfl, ix, kx, rx, hli, hlk, hlr⟩ := id h
  obtain ⟨A5, c5, rfl, hc5, -⟩ := rx.at_
  obtain ⟨A1, c1, rfl, hc1, -⟩ := ix.at_
  obtain ⟨A3, c3, rfl, hc3, -⟩ := kx.at_
  have H := Lib.hid h
  clear h ix kx rx
  unfold partV at *
  obtain ⟨ep, ld, is, ks, rs, fw, ba⟩ := c
  simp only at *
  have HN := Lib.hid hn
  have HSM := Lib.hid hn.small
  clear hn
  (try simp only at eqk eqi)
  have E1 := Lib.hid eqi
  have E2 := Lib.hid eqk
  have i0 : (0 : Int) ≤ (i : Int) := by omega
  have i1 : (i : Int) < (rs.length : Int) := Int.ofNat_lt.2 hi
  have i2 : (i : Int) < (is.length : Int) := by omega
  have i3 : (i : Int) < (ks.length : Int) := by omega
  have j2 : i < is.length := by omega
  have j3 : i < ks.length := by omega
  clear eqk eqi
  have hup : rs[i].up = true := hu
  have HU := Lib.hid hup
  clear hu hup
  have hib : is[i] = true := hs
  have HS := Lib.hid hib
  clear hs hib
  have y9 : (ld == (i : Int)) = false := beq_eq_false_iff_ne.2 hl
  clear hl
  have y8 : (ep == 1073741824) = false := beq_eq_false_iff_ne.2 he
  have e0 : 0 ≤ ep := HN.out.epoch.1
  have e1 : ep < 1073741824 := by have : ep ≤ 1073741824 := HN.out.epoch.2; omega
  clear he
  obtain ⟨es, j, hlog⟩ := HN.out.log i hi
  have HLG := Lib.hid hlog
  have HA := Lib.hid (RepD.ents hlog).1
  have HSF := Lib.hid (RepD.ents hlog).2
  clear hlog
  have rl5 : rs.length ≤ 5 := HSM.out.reps
  have rl0 : 0 < rs.length := Nat.lt_of_le_of_lt (Nat.zero_le _) hi
  go_enter Try.func58, Try.ntmps58
  go_wp2_with fail
  have hb1 : Below w.heap.size w ((w.alloc (.cells #[.int .i64 ep, .int .i64 ld, .slice A1 is.length c1, .slice A3 ks.length c3, .slice A5 rs.length c5, .int .i64 fw, .int .i64 ba] 26)).alloc (.cells #[.int .i64 0, .int .i64 0, .slice none 0 0, .slice none 0 0, .slice none 0 0, .int .i64 0, .int .i64 0] 26)) := ((Below.refl _ _).alloc (by first | omega | (simp; done) | (simp; omega)) _).alloc (by first | omega | (simp; done) | (simp; omega)) _
  have hal1 : Below w.heap.size w ((w.alloc (.cells #[.int .i64 ep, .int .i64 ld, .slice A1 is.length c1, .slice A3 ks.length c3, .slice A5 rs.length c5, .int .i64 fw, .int .i64 ba] 26)).alloc (.cells #[.int .i64 0, .int .i64 0, .slice none 0 0, .slice none 0 0, .slice none 0 0, .int .i64 0, .int .i64 0] 26)) := ((Below.refl _ _).alloc (by first | omega | (simp; done) | (simp; omega)) _).alloc (by first | omega | (simp; done) | (simp; omega)) _
  have b_bx1 : Blk ((w.alloc (.cells #[.int .i64 ep, .int .i64 ld, .slice A1 is.length c1, .slice A3 ks.length c3, .slice A5 rs.length c5, .int .i64 fw, .int .i64 ba] 26)).alloc (.cells #[.int .i64 0, .int .i64 0, .slice none 0 0, .slice none 0 0, .slice none 0 0, .int .i64 0, .int .i64 0] 26)) (w.heap.size) 26 #[.int .i64 ep, .int .i64 ld, .slice A1 is.length c1, .slice A3 ks.length c3, .slice A5 rs.length c5, .int .i64 fw, .int .i64 ba] := (Blk.new_ _ 26 #[.int .i64 ep, .int .i64 ld, .slice A1 is.length c1, .slice A3 ks.length c3, .slice A5 rs.length c5, .int .i64 fw, .int .i64 ba] (by first | rfl | (simp; done) | (simp; omega))).alloc _
  have b_bz1 : Blk ((w.alloc (.cells #[.int .i64 ep, .int .i64 ld, .slice A1 is.length c1, .slice A3 ks.length c3, .slice A5 rs.length c5, .int .i64 fw, .int .i64 ba] 26)).alloc (.cells #[.int .i64 0, .int .i64 0, .slice none 0 0, .slice none 0 0, .slice none 0 0, .int .i64 0, .int .i64 0] 26)) (w.heap.size + 1) 26 #[.int .i64 0, .int .i64 0, .slice none 0 0, .slice none 0 0, .slice none 0 0, .int .i64 0, .int .i64 0] := Blk.new_ _ 26 #[.int .i64 0, .int .i64 0, .slice none 0 0, .slice none 0 0, .slice none 0 0, .int .i64 0, .int .i64 0] (by first | rfl | (simp; done) | (simp; omega))
  have k_v1 := H.out.below hal1
  have hz1 : w.heap.size + 2 ≤ ((w.alloc (.cells #[.int .i64 ep, .int .i64 ld, .slice A1 is.length c1, .slice A3 ks.length c3, .slice A5 rs.length c5, .int .i64 fw, .int .i64 ba] 26)).alloc (.cells #[.int .i64 0, .int .i64 0, .slice none 0 0, .slice none 0 0, .slice none 0 0, .int .i64 0, .int .i64 0] 26)).heap.size := by first | omega | (simp; done) | (simp; omega)
  generalize (w.alloc (.cells #[.int .i64 ep, .int .i64 ld, .slice A1 is.length c1, .slice A3 ks.length c3, .slice A5 rs.length c5, .int .i64 fw, .int .i64 ba] 26)).alloc (.cells #[.int .i64 0, .int .i64 0, .slice none 0 0, .slice none 0 0, .slice none 0 0, .int .i64 0, .int .i64 0] 26) = W1 at *
  have HB1 := Lib.hid hb1
  have B1_bx := Lib.hid b_bx1
  have B1_bz := Lib.hid b_bz1
  have K1_v := Lib.hid k_v1
  clear hb1 b_bx1 b_bz1 k_v1
  clear H
  refine (at_good _ ⟨ep, ld, is, ks, rs, fw, ba⟩ i HN.out hi _ K1_v.out).mono ?_
  rintro e W2 ⟨iv, kv, rv, rfl, ho, hb⟩
  obtain ⟨gi, d1, gk, d3, gr, d5, rfl, rfl, rfl, hgi, hgk, hgr, hgi', hgk', hgr'⟩ := ho.rows (by have := HN.out.isr; have := HN.out.many; simp only at *; omega) (by have := HN.out.known; have := HN.out.many; simp only at *; omega) (by have := HN.out.many; simp only at *; omega)
  unfold partV
  simp only at *
  have HO := Lib.hid ho
  clear ho
  have hb2 : Below w.heap.size w W2 := below_then HB1.out hb
  have b_bx2 := B1_bx.out.below hb B1_bx.out.lt
  have b_bz2 := B1_bz.out.below hb B1_bz.out.lt
  have k_v2 := K1_v.out.below hb
  have hz2 := hb.size
  have HB2 := Lib.hid hb2
  have B2_bx := Lib.hid b_bx2
  have B2_bz := Lib.hid b_bz2
  have K2_v := Lib.hid k_v2
  clear hb2 b_bx2 b_bz2 k_v2
  clear B1_bx B1_bz HB1 K1_v
  have c_bx0 := B2_bx.out.cell 0
  have f_bx0 := B2_bx.out.frozen 0
  have c_bx1 := B2_bx.out.cell 1
  have f_bx1 := B2_bx.out.frozen 1
  have c_bx2 := B2_bx.out.cell 2
  have f_bx2 := B2_bx.out.frozen 2
  have c_bx3 := B2_bx.out.cell 3
  have f_bx3 := B2_bx.out.frozen 3
  have c_bx4 := B2_bx.out.cell 4
  have f_bx4 := B2_bx.out.frozen 4
  have c_bx5 := B2_bx.out.cell 5
  have f_bx5 := B2_bx.out.frozen 5
  have c_bx6 := B2_bx.out.cell 6
  have f_bx6 := B2_bx.out.frozen 6
  have l_bx := B2_bx.out.lt
  go_upto_region 2 with fail
  clear c_bx0 f_bx0 c_bx1 f_bx1 c_bx2 f_bx2 c_bx3 f_bx3 c_bx4 f_bx4 c_bx5 f_bx5 c_bx6 f_bx6 l_bx
  have hsz3 := HB2.out.size
  have hb3 : Below w.heap.size w (((((((W2.setCell ⟨w.heap.size, 0, none⟩ (.int .i64 ep)).setCell ⟨w.heap.size, 1, none⟩ (.int .i64 ld)).setCell ⟨w.heap.size, 2, none⟩ (.slice (some ⟨gi, 0, none⟩) is.length d1)).setCell ⟨w.heap.size, 3, none⟩ (.slice (some ⟨gk, 0, none⟩) ks.length d3)).setCell ⟨w.heap.size, 4, none⟩ (.slice (some ⟨gr, 0, none⟩) rs.length d5)).setCell ⟨w.heap.size, 5, none⟩ (.int .i64 fw)).setCell ⟨w.heap.size, 6, none⟩ (.int .i64 ba)) := (((((((HB2.out).setCell (by show w.heap.size ≤ w.heap.size; omega) _).setCell (by show w.heap.size ≤ w.heap.size; omega) _).setCell (by show w.heap.size ≤ w.heap.size; omega) _).setCell (by show w.heap.size ≤ w.heap.size; omega) _).setCell (by show w.heap.size ≤ w.heap.size; omega) _).setCell (by show w.heap.size ≤ w.heap.size; omega) _).setCell (by show w.heap.size ≤ w.heap.size; omega) _
  have b_bx3 : Blk (((((((W2.setCell ⟨w.heap.size, 0, none⟩ (.int .i64 ep)).setCell ⟨w.heap.size, 1, none⟩ (.int .i64 ld)).setCell ⟨w.heap.size, 2, none⟩ (.slice (some ⟨gi, 0, none⟩) is.length d1)).setCell ⟨w.heap.size, 3, none⟩ (.slice (some ⟨gk, 0, none⟩) ks.length d3)).setCell ⟨w.heap.size, 4, none⟩ (.slice (some ⟨gr, 0, none⟩) rs.length d5)).setCell ⟨w.heap.size, 5, none⟩ (.int .i64 fw)).setCell ⟨w.heap.size, 6, none⟩ (.int .i64 ba)) (w.heap.size) 26 #[.int .i64 ep, .int .i64 ld, .slice (some ⟨gi, 0, none⟩) is.length d1, .slice (some ⟨gk, 0, none⟩) ks.length d3, .slice (some ⟨gr, 0, none⟩) rs.length d5, .int .i64 fw, .int .i64 ba] := (((((((B2_bx.out).set_ 0 _).set_ 1 _).set_ 2 _).set_ 3 _).set_ 4 _).set_ 5 _).set_ 6 _
  have b_bz3 : Blk (((((((W2.setCell ⟨w.heap.size, 0, none⟩ (.int .i64 ep)).setCell ⟨w.heap.size, 1, none⟩ (.int .i64 ld)).setCell ⟨w.heap.size, 2, none⟩ (.slice (some ⟨gi, 0, none⟩) is.length d1)).setCell ⟨w.heap.size, 3, none⟩ (.slice (some ⟨gk, 0, none⟩) ks.length d3)).setCell ⟨w.heap.size, 4, none⟩ (.slice (some ⟨gr, 0, none⟩) rs.length d5)).setCell ⟨w.heap.size, 5, none⟩ (.int .i64 fw)).setCell ⟨w.heap.size, 6, none⟩ (.int .i64 ba)) (w.heap.size + 1) 26 #[.int .i64 0, .int .i64 0, .slice none 0 0, .slice none 0 0, .slice none 0 0, .int .i64 0, .int .i64 0] := (((((((B2_bz.out).far (p := ⟨w.heap.size, 0, none⟩) (by show w.heap.size + 1 ≠ w.heap.size; omega) _).far (p := ⟨w.heap.size, 1, none⟩) (by show w.heap.size + 1 ≠ w.heap.size; omega) _).far (p := ⟨w.heap.size, 2, none⟩) (by show w.heap.size + 1 ≠ w.heap.size; omega) _).far (p := ⟨w.heap.size, 3, none⟩) (by show w.heap.size + 1 ≠ w.heap.size; omega) _).far (p := ⟨w.heap.size, 4, none⟩) (by show w.heap.size + 1 ≠ w.heap.size; omega) _).far (p := ⟨w.heap.size, 5, none⟩) (by show w.heap.size + 1 ≠ w.heap.size; omega) _).far (p := ⟨w.heap.size, 6, none⟩) (by show w.heap.size + 1 ≠ w.heap.size; omega) _
  have k_own3 := (((((((HO.out).under (a := ⟨w.heap.size, 0, none⟩) (by (try dsimp only); omega) (.int .i64 ep)).under (a := ⟨w.heap.size, 1, none⟩) (by (try dsimp only); omega) (.int .i64 ld)).under (a := ⟨w.heap.size, 2, none⟩) (by (try dsimp only); omega) (.slice (some ⟨gi, 0, none⟩) is.length d1)).under (a := ⟨w.heap.size, 3, none⟩) (by (try dsimp only); omega) (.slice (some ⟨gk, 0, none⟩) ks.length d3)).under (a := ⟨w.heap.size, 4, none⟩) (by (try dsimp only); omega) (.slice (some ⟨gr, 0, none⟩) rs.length d5)).under (a := ⟨w.heap.size, 5, none⟩) (by (try dsimp only); omega) (.int .i64 fw)).under (a := ⟨w.heap.size, 6, none⟩) (by (try dsimp only); omega) (.int .i64 ba)
  have hz3 : W2.heap.size + 0 ≤ (((((((W2.setCell ⟨w.heap.size, 0, none⟩ (.int .i64 ep)).setCell ⟨w.heap.size, 1, none⟩ (.int .i64 ld)).setCell ⟨w.heap.size, 2, none⟩ (.slice (some ⟨gi, 0, none⟩) is.length d1)).setCell ⟨w.heap.size, 3, none⟩ (.slice (some ⟨gk, 0, none⟩) ks.length d3)).setCell ⟨w.heap.size, 4, none⟩ (.slice (some ⟨gr, 0, none⟩) rs.length d5)).setCell ⟨w.heap.size, 5, none⟩ (.int .i64 fw)).setCell ⟨w.heap.size, 6, none⟩ (.int .i64 ba)).heap.size := by first | omega | (simp; done) | (simp; omega)
  generalize ((((((W2.setCell ⟨w.heap.size, 0, none⟩ (.int .i64 ep)).setCell ⟨w.heap.size, 1, none⟩ (.int .i64 ld)).setCell ⟨w.heap.size, 2, none⟩ (.slice (some ⟨gi, 0, none⟩) is.length d1)).setCell ⟨w.heap.size, 3, none⟩ (.slice (some ⟨gk, 0, none⟩) ks.length d3)).setCell ⟨w.heap.size, 4, none⟩ (.slice (some ⟨gr, 0, none⟩) rs.length d5)).setCell ⟨w.heap.size, 5, none⟩ (.int .i64 fw)).setCell ⟨w.heap.size, 6, none⟩ (.int .i64 ba) = W3 at *
  have HB3 := Lib.hid hb3
  have B3_bx := Lib.hid b_bx3
  have B3_bz := Lib.hid b_bz3
  have K3_own := Lib.hid k_own3
  clear hb3 b_bx3 b_bz3 k_own3
  clear B2_bx B2_bz HB2 HO
  have c_bx0 := B3_bx.out.cell 0
  have c_bx1 := B3_bx.out.cell 1
  have c_bx2 := B3_bx.out.cell 2
  have c_bx3 := B3_bx.out.cell 3
  have c_bx4 := B3_bx.out.cell 4
  have c_bx5 := B3_bx.out.cell 5
  have c_bx6 := B3_bx.out.cell 6
  have l_bx := B3_bx.out.lt
  have c_bz0 := B3_bz.out.cell 0
  have f_bz0 := B3_bz.out.frozen 0
  have c_bz1 := B3_bz.out.cell 1
  have f_bz1 := B3_bz.out.frozen 1
  have c_bz2 := B3_bz.out.cell 2
  have f_bz2 := B3_bz.out.frozen 2
  have c_bz3 := B3_bz.out.cell 3
  have f_bz3 := B3_bz.out.frozen 3
  have c_bz4 := B3_bz.out.cell 4
  have f_bz4 := B3_bz.out.frozen 4
  have c_bz5 := B3_bz.out.cell 5
  have f_bz5 := B3_bz.out.frozen 5
  have c_bz6 := B3_bz.out.cell 6
  have f_bz6 := B3_bz.out.frozen 6
  have l_bz := B3_bz.out.lt
  obtain ⟨A7, c7, ⟨r0, r1, r2, r3⟩, ⟨rf0, rf1, rf2, rf3⟩, rby⟩ := K3_own.out.repAt i hi
  obtain ⟨s0, sf0⟩ := K3_own.out.isrAt i j2
  obtain ⟨t0, tf0⟩ := K3_own.out.knownAt i j3
  (try simp only at r0 r1 r2 r3 rby s0 t0)
  rw [HU.out] at r0
  rw [HS.out] at s0
  have f_bx0 := B3_bx.out.frozen 0
  have f_bx1 := B3_bx.out.frozen 1
  have f_bx3 := B3_bx.out.frozen 3
  have hmk : ∀ W, (Instr.makeSlice 23 (.int .i64 rs.length) (.int .i64 rs.length)).run Try.prog W = .ok (.slice (some ⟨W.heap.size, 0, none⟩) rs.length rs.length) (W.alloc (.cells (madeCells #[.int .i64 0] rs.length) 3)) := fun W => run_make_row' 23 3 (.int .i64 0) 8 Try.underlying23 (by kernel_rfl) rfl .i64 .i64 rs.length (by omega) (by omega) W
  go_upto_region 15 with fail
  obtain ⟨gz, hgz⟩ : ∃ gz, gz = W3.heap.size := ⟨_, rfl⟩
  clear c_bx0 c_bx1 c_bx2 c_bx3 c_bx4 c_bx5 c_bx6 l_bx c_bz0 f_bz0 c_bz1 f_bz1 c_bz2 f_bz2 c_bz3 f_bz3 c_bz4 f_bz4 c_bz5 f_bz5 c_bz6 f_bz6 l_bz r0 r1 r2 r3 rf0 rf1 rf2 rf3 rby s0 sf0 t0 tf0 f_bx0 f_bx1 f_bx3
  have hsz4 := HB3.out.size
  have hb4 : Below w.heap.size w ((((W3.setCell ⟨w.heap.size, 0, none⟩ (.int .i64 (ep + 1))).setCell ⟨w.heap.size, 1, none⟩ (.int .i64 i)).setCell ⟨w.heap.size, 3, none⟩ (.slice (some ⟨W3.heap.size, 0, none⟩) rs.length rs.length)).alloc (.cells (madeCells #[.int .i64 0] rs.length) 3)) := ((((HB3.out).setCell (by show w.heap.size ≤ w.heap.size; omega) _).setCell (by show w.heap.size ≤ w.heap.size; omega) _).setCell (by show w.heap.size ≤ w.heap.size; omega) _).alloc (by first | omega | (simp; done) | (simp; omega)) _
  have b_bx4 : Blk ((((W3.setCell ⟨w.heap.size, 0, none⟩ (.int .i64 (ep + 1))).setCell ⟨w.heap.size, 1, none⟩ (.int .i64 i)).setCell ⟨w.heap.size, 3, none⟩ (.slice (some ⟨W3.heap.size, 0, none⟩) rs.length rs.length)).alloc (.cells (madeCells #[.int .i64 0] rs.length) 3)) (w.heap.size) 26 #[.int .i64 (ep + 1), .int .i64 i, .slice (some ⟨gi, 0, none⟩) is.length d1, .slice (some ⟨W3.heap.size, 0, none⟩) rs.length rs.length, .slice (some ⟨gr, 0, none⟩) rs.length d5, .int .i64 fw, .int .i64 ba] := ((((B3_bx.out).set_ 0 _).set_ 1 _).set_ 3 _).alloc _
  have b_bz4 : Blk ((((W3.setCell ⟨w.heap.size, 0, none⟩ (.int .i64 (ep + 1))).setCell ⟨w.heap.size, 1, none⟩ (.int .i64 i)).setCell ⟨w.heap.size, 3, none⟩ (.slice (some ⟨W3.heap.size, 0, none⟩) rs.length rs.length)).alloc (.cells (madeCells #[.int .i64 0] rs.length) 3)) (w.heap.size + 1) 26 #[.int .i64 0, .int .i64 0, .slice none 0 0, .slice none 0 0, .slice none 0 0, .int .i64 0, .int .i64 0] := ((((B3_bz.out).far (p := ⟨w.heap.size, 0, none⟩) (by show w.heap.size + 1 ≠ w.heap.size; omega) _).far (p := ⟨w.heap.size, 1, none⟩) (by show w.heap.size + 1 ≠ w.heap.size; omega) _).far (p := ⟨w.heap.size, 3, none⟩) (by show w.heap.size + 1 ≠ w.heap.size; omega) _).alloc _
  have k_own4 := (PO.heads (PO.newKnown ((((K3_own.out).under (a := ⟨w.heap.size, 0, none⟩) (by (try dsimp only); omega) (.int .i64 (ep + 1))).under (a := ⟨w.heap.size, 1, none⟩) (by (try dsimp only); omega) (.int .i64 i)).under (a := ⟨w.heap.size, 3, none⟩) (by (try dsimp only); omega) (.slice (some ⟨W3.heap.size, 0, none⟩) rs.length rs.length)) rs.length W3.heap.size (by omega) (by simp) (by (try simp only [size_setCell]); omega)) (ep + 1) i fw ba)
  have hz4 : W3.heap.size + 1 ≤ ((((W3.setCell ⟨w.heap.size, 0, none⟩ (.int .i64 (ep + 1))).setCell ⟨w.heap.size, 1, none⟩ (.int .i64 i)).setCell ⟨w.heap.size, 3, none⟩ (.slice (some ⟨W3.heap.size, 0, none⟩) rs.length rs.length)).alloc (.cells (madeCells #[.int .i64 0] rs.length) 3)).heap.size := by first | omega | (simp; done) | (simp; omega)
  generalize (((W3.setCell ⟨w.heap.size, 0, none⟩ (.int .i64 (ep + 1))).setCell ⟨w.heap.size, 1, none⟩ (.int .i64 i)).setCell ⟨w.heap.size, 3, none⟩ (.slice (some ⟨W3.heap.size, 0, none⟩) rs.length rs.length)).alloc (.cells (madeCells #[.int .i64 0] rs.length) 3) = W4 at *
  have HB4 := Lib.hid hb4
  have B4_bx := Lib.hid b_bx4
  have B4_bz := Lib.hid b_bz4
  have K4_own := Lib.hid k_own4
  clear hb4 b_bx4 b_bz4 k_own4
  clear B3_bx B3_bz HB3 K3_own
  rw [← hgz] at B4_bx K4_own
  rw [← hgz]
  have hgz1 : W3.heap.size ≤ gz := by omega
  have hgz2 : gz < W4.heap.size := by omega
  clear hmk hgz
  have HSM2 := Lib.hid (PSm.elected HSM.out (ep + 1) i fw ba (List.replicate rs.length 0) (by simp only [List.length_replicate]; omega))
  have HSM3 := Lib.hid (PSm.elected HSM.out (ep + 1) i fw (es.length : Int) ((List.replicate rs.length 0).set i (j : Int)) (by simp only [List.length_set, List.length_replicate]; omega))
  have c_bx0 := B4_bx.out.cell 0
  have c_bx1 := B4_bx.out.cell 1
  have c_bx2 := B4_bx.out.cell 2
  have c_bx3 := B4_bx.out.cell 3
  have c_bx4 := B4_bx.out.cell 4
  have c_bx5 := B4_bx.out.cell 5
  have c_bx6 := B4_bx.out.cell 6
  have l_bx := B4_bx.out.lt
  go_wp2_with fail
  clear c_bx0 c_bx1 c_bx2 c_bx3 c_bx4 c_bx5 c_bx6 l_bx
  have c_bx0 := B4_bx.out.cell 0
  have c_bx1 := B4_bx.out.cell 1
  have c_bx2 := B4_bx.out.cell 2
  have c_bx3 := B4_bx.out.cell 3
  have c_bx4 := B4_bx.out.cell 4
  have c_bx5 := B4_bx.out.cell 5
  have l_bx := B4_bx.out.lt
  refine wp_region_held_drew (S := fun w0 => w0.cell? ⟨w.heap.size, 0, none⟩ = some (.int .i64 (ep + 1)) ∧ w0.cell? ⟨w.heap.size, 1, none⟩ = some (.int .i64 i) ∧ w0.cell? ⟨w.heap.size, 2, none⟩ = some (.slice (some ⟨gi, 0, none⟩) is.length d1) ∧ w0.cell? ⟨w.heap.size, 3, none⟩ = some (.slice (some ⟨gz, 0, none⟩) rs.length rs.length) ∧ w0.cell? ⟨w.heap.size, 4, none⟩ = some (.slice (some ⟨gr, 0, none⟩) rs.length d5) ∧ w0.cell? ⟨w.heap.size, 5, none⟩ = some (.int .i64 fw)) (by kernel_rfl) ?_ (fun hHeld => ?_)
  · exact ⟨c_bx0, c_bx1, c_bx2, c_bx3, c_bx4, c_bx5⟩
  clear c_bx0 c_bx1 c_bx2 c_bx3 c_bx4 c_bx5 l_bx
  generalize hd : World.drew W4 = W5 at *
  have hb : Below W4.heap.size W4 W5 := by rw [← hd]; exact (Below.refl _ _).drew
  have hb5 : Below w.heap.size w W5 := below_then HB4.out hb
  have b_bx5 := B4_bx.out.below hb B4_bx.out.lt
  have b_bz5 := B4_bz.out.below hb B4_bz.out.lt
  have k_own5 := K4_own.out.keep hb
  have hz5 := hb.size
  have HB5 := Lib.hid hb5
  have B5_bx := Lib.hid b_bx5
  have B5_bz := Lib.hid b_bz5
  have K5_own := Lib.hid k_own5
  clear hb5 b_bx5 b_bz5 k_own5
  clear B4_bx B4_bz HB4 K4_own
  clear hd hb
  refine wpAnyH_take (i := 0) (v := ?_) rfl (by kernel_rfl) (by kernel_rfl) (by kernel_rfl) (fun _ _ _ h => h) (Or.inl ⟨by rfl, ?_⟩) (by assumption) ?_
  rotate_left
  · intro w0 hSw
    (try dsimp only at hSw)
    go_simp
    all_goals with_reducible rfl
  try simp only [Act.put, List.getElem_toArray, List.getElem_cons_zero, List.setIfInBounds_toArray, List.set_cons_zero, List.set_cons_succ]
  refine wpAnyH_take (i := 1) (v := ?_) rfl (by kernel_rfl) (by kernel_rfl) (by kernel_rfl) (fun _ _ _ h => h) (Or.inl ⟨by rfl, ?_⟩) (by assumption) ?_
  rotate_left
  · intro w0 hSw
    (try dsimp only at hSw)
    go_simp
    all_goals with_reducible rfl
  try simp only [Act.put, List.getElem_toArray, List.getElem_cons_zero, List.getElem_cons_succ, List.setIfInBounds_toArray, List.set_cons_zero, List.set_cons_succ]
  refine wpAnyH_take (i := 2) (v := ?_) rfl (by kernel_rfl) (by kernel_rfl) (by kernel_rfl) (fun _ _ _ h => h) (Or.inl ⟨by rfl, ?_⟩) (by assumption) ?_
  rotate_left
  · intro w0 hSw
    (try dsimp only at hSw)
    go_simp
    all_goals with_reducible rfl
  try simp only [Act.put, List.getElem_toArray, List.getElem_cons_zero, List.getElem_cons_succ, List.setIfInBounds_toArray, List.set_cons_zero, List.set_cons_succ]
  refine wpAnyH_take (i := 4) (v := ?_) rfl (by kernel_rfl) (by kernel_rfl) (by kernel_rfl) (fun _ _ _ h => h) (Or.inl ⟨by rfl, ?_⟩) (by assumption) ?_
  rotate_left
  · intro w0 hSw
    (try dsimp only at hSw)
    go_simp
    all_goals with_reducible rfl
  try simp only [Act.put, List.getElem_toArray, List.getElem_cons_zero, List.getElem_cons_succ, List.setIfInBounds_toArray, List.set_cons_zero, List.set_cons_succ]
  have c_bx0 := B5_bx.out.cell 0
  have c_bx1 := B5_bx.out.cell 1
  have c_bx2 := B5_bx.out.cell 2
  have c_bx3 := B5_bx.out.cell 3
  have c_bx4 := B5_bx.out.cell 4
  have c_bx5 := B5_bx.out.cell 5
  have c_bx6 := B5_bx.out.cell 6
  have l_bx := B5_bx.out.lt
  refine wpAnyH_ready (rs := [3]) (by kernel_rfl) (by simp) (AllReadyH.cons rfl (fun K hK => ?_) AllReadyH.nil)
  go_simp
  refine hK.out _ _ ?_ (fun hHeld => ?_)
  · assumption
  clear hK K
  try simp only [Act.put, List.getElem_toArray, List.getElem_cons_zero, List.getElem_cons_succ, List.setIfInBounds_toArray, List.set_cons_zero, List.set_cons_succ]
  clear c_bx0 c_bx1 c_bx2 c_bx3 c_bx4 c_bx5 c_bx6 l_bx
  refine wpAnyH_ready (rs := [5]) (by kernel_rfl) (by simp) (AllReadyH.cons rfl (fun K hK => ?_) AllReadyH.nil)
  go_simp
  go_at_call 81
  refine (ends_ok _ ⟨ep + 1, (i : Int), is, List.replicate rs.length (0 : Int), rs, fw, ba⟩ i _ (K5_own.out.pv HSM2.out) hi HLG.out).mono ?_
  rintro e W6 ⟨rfl, hb⟩
  have hb6 : Below w.heap.size w W6 := below_then HB5.out hb
  have b_bx6 := B5_bx.out.below hb B5_bx.out.lt
  have b_bz6 := B5_bz.out.below hb B5_bz.out.lt
  have k_own6 := K5_own.out.keep hb
  have hz6 := hb.size
  have HB6 := Lib.hid hb6
  have B6_bx := Lib.hid b_bx6
  have B6_bz := Lib.hid b_bz6
  have K6_own := Lib.hid k_own6
  clear hb6 b_bx6 b_bz6 k_own6
  clear B5_bx B5_bz HB5 K5_own
  refine hK.out _ _ ?_ (fun hHeld => ?_)
  · exact ⟨(B6_bx.out).cell 0, (B6_bx.out).cell 1, (B6_bx.out).cell 2, (B6_bx.out).cell 3, (B6_bx.out).cell 4, (B6_bx.out).cell 5⟩
  clear hK K
  try simp only [Act.put, List.getElem_toArray, List.getElem_cons_zero, List.getElem_cons_succ, List.setIfInBounds_toArray, List.set_cons_zero, List.set_cons_succ]
  refine wpAnyH_take (i := 6) (v := ?_) rfl (by kernel_rfl) (by kernel_rfl) (by kernel_rfl) (fun _ _ _ h => h) (Or.inl ⟨by rfl, ?_⟩) (by assumption) ?_
  rotate_left
  · intro w0 hSw
    (try dsimp only at hSw)
    go_simp
    all_goals with_reducible rfl
  try simp only [Act.put, List.getElem_toArray, List.getElem_cons_zero, List.getElem_cons_succ, List.setIfInBounds_toArray, List.set_cons_zero, List.set_cons_succ]
  refine wpAnyH_take (i := 7) (v := ?_) rfl (by kernel_rfl) (by kernel_rfl) (by kernel_rfl) (fun _ _ _ h => h) (Or.inl ⟨by rfl, ?_⟩) (by assumption) ?_
  rotate_left
  · intro w0 hSw
    (try dsimp only at hSw)
    go_simp
    all_goals with_reducible rfl
  try simp only [Act.put, List.getElem_toArray, List.getElem_cons_zero, List.getElem_cons_succ, List.setIfInBounds_toArray, List.set_cons_zero, List.set_cons_succ]
  refine wpAnyH_take (i := 8) (v := ?_) rfl (by kernel_rfl) (by kernel_rfl) (by kernel_rfl) (fun _ _ _ h => h) (Or.inl ⟨by rfl, ?_⟩) (by assumption) ?_
  rotate_left
  · intro w0 hSw
    (try dsimp only at hSw)
    go_simp
    all_goals with_reducible rfl
  try simp only [Act.put, List.getElem_toArray, List.getElem_cons_zero, List.getElem_cons_succ, List.setIfInBounds_toArray, List.set_cons_zero, List.set_cons_succ]
  refine wpAnyH_take (i := 9) (v := ?_) rfl (by kernel_rfl) (by kernel_rfl) (by kernel_rfl) (fun _ _ _ h => h) (Or.inl ⟨by rfl, ?_⟩) (by assumption) ?_
  rotate_left
  · intro w0 hSw
    (try dsimp only at hSw)
    go_simp
    all_goals with_reducible rfl
  try simp only [Act.put, List.getElem_toArray, List.getElem_cons_zero, List.getElem_cons_succ, List.setIfInBounds_toArray, List.set_cons_zero, List.set_cons_succ]
  have c_bx6 := B6_bx.out.cell 6
  have f_bx6 := B6_bx.out.frozen 6
  have l_bx := B6_bx.out.lt
  refine wpAnyH_ready (rs := [10]) (by kernel_rfl) (by simp) (AllReadyH.cons rfl (fun K hK => ?_) AllReadyH.nil)
  go_simp
  refine hK.out _ _ ?_ (fun hHeld => ?_)
  · exact ⟨((B6_bx.out).set_ 6 _).cell 0, ((B6_bx.out).set_ 6 _).cell 1, ((B6_bx.out).set_ 6 _).cell 2, ((B6_bx.out).set_ 6 _).cell 3, ((B6_bx.out).set_ 6 _).cell 4, ((B6_bx.out).set_ 6 _).cell 5⟩
  clear hK K
  clear c_bx6 f_bx6 l_bx
  obtain ⟨⟨tx, t0⟩, tf0, hks⟩ := PO.knownIn ((K6_own.out).under (a := ⟨w.heap.size, 6, none⟩) (by (try dsimp only); omega) (.int .i64 es.length)) (by simp only [List.length_replicate]) i hi
  have HKS := Lib.hid hks
  clear hks
  refine wpAnyH_take (i := 11) (v := ?_) rfl (by kernel_rfl) (by kernel_rfl) (by kernel_rfl) (fun _ _ _ h => h) (Or.inl ⟨by rfl, ?_⟩) (by assumption) ?_
  rotate_left
  · intro w0 hSw
    (try dsimp only at hSw)
    go_simp
    all_goals with_reducible rfl
  try simp only [Act.put, List.getElem_toArray, List.getElem_cons_zero, List.getElem_cons_succ, List.setIfInBounds_toArray, List.set_cons_zero, List.set_cons_succ]
  refine wpAnyH_ready (rs := [12]) (by kernel_rfl) (by simp) (AllReadyH.cons rfl (fun K hK => ?_) AllReadyH.nil)
  go_simp
  refine hK.out _ _ ?_ (fun hHeld => ?_)
  · exact ⟨(((B6_bx.out).set_ 6 _).far (p := ⟨gz, i, none⟩) (by show w.heap.size ≠ gz; omega) _).cell 0, (((B6_bx.out).set_ 6 _).far (p := ⟨gz, i, none⟩) (by show w.heap.size ≠ gz; omega) _).cell 1, (((B6_bx.out).set_ 6 _).far (p := ⟨gz, i, none⟩) (by show w.heap.size ≠ gz; omega) _).cell 2, (((B6_bx.out).set_ 6 _).far (p := ⟨gz, i, none⟩) (by show w.heap.size ≠ gz; omega) _).cell 3, (((B6_bx.out).set_ 6 _).far (p := ⟨gz, i, none⟩) (by show w.heap.size ≠ gz; omega) _).cell 4, (((B6_bx.out).set_ 6 _).far (p := ⟨gz, i, none⟩) (by show w.heap.size ≠ gz; omega) _).cell 5⟩
  clear hK K
  refine wpAnyH_done (by kernel_rfl) ?_ _
  clear t0 tf0
  go_upto_region 16 with fail
  have hsz7 := HB6.out.size
  have hb7 : Below w.heap.size w ((W6.setCell ⟨w.heap.size, 6, none⟩ (.int .i64 es.length)).setCell ⟨gz, i, none⟩ (.int .i64 j)) := ((HB6.out).setCell (by show w.heap.size ≤ w.heap.size; omega) _).setCell (by show w.heap.size ≤ gz; omega) _
  have b_bx7 : Blk ((W6.setCell ⟨w.heap.size, 6, none⟩ (.int .i64 es.length)).setCell ⟨gz, i, none⟩ (.int .i64 j)) (w.heap.size) 26 #[.int .i64 (ep + 1), .int .i64 i, .slice (some ⟨gi, 0, none⟩) is.length d1, .slice (some ⟨gz, 0, none⟩) rs.length rs.length, .slice (some ⟨gr, 0, none⟩) rs.length d5, .int .i64 fw, .int .i64 es.length] := ((B6_bx.out).set_ 6 _).far (p := ⟨gz, i, none⟩) (by show w.heap.size ≠ gz; omega) _
  have b_bz7 : Blk ((W6.setCell ⟨w.heap.size, 6, none⟩ (.int .i64 es.length)).setCell ⟨gz, i, none⟩ (.int .i64 j)) (w.heap.size + 1) 26 #[.int .i64 0, .int .i64 0, .slice none 0 0, .slice none 0 0, .slice none 0 0, .int .i64 0, .int .i64 0] := ((B6_bz.out).far (p := ⟨w.heap.size, 6, none⟩) (by show w.heap.size + 1 ≠ w.heap.size; omega) _).far (p := ⟨gz, i, none⟩) (by show w.heap.size + 1 ≠ gz; omega) _
  have k_own7 := PO.heads (HKS.out (j : Int)) (ep + 1) i fw es.length
  have hz7 : W6.heap.size + 0 ≤ ((W6.setCell ⟨w.heap.size, 6, none⟩ (.int .i64 es.length)).setCell ⟨gz, i, none⟩ (.int .i64 j)).heap.size := by first | omega | (simp; done) | (simp; omega)
  generalize (W6.setCell ⟨w.heap.size, 6, none⟩ (.int .i64 es.length)).setCell ⟨gz, i, none⟩ (.int .i64 j) = W7 at *
  have HB7 := Lib.hid hb7
  have B7_bx := Lib.hid b_bx7
  have B7_bz := Lib.hid b_bz7
  have K7_own := Lib.hid k_own7
  clear hb7 b_bx7 b_bz7 k_own7
  clear B6_bx B6_bz HB6 K6_own
  have c_bx0 := B7_bx.out.cell 0
  have c_bx1 := B7_bx.out.cell 1
  have c_bx2 := B7_bx.out.cell 2
  have c_bx3 := B7_bx.out.cell 3
  have c_bx4 := B7_bx.out.cell 4
  have c_bx5 := B7_bx.out.cell 5
  have c_bx6 := B7_bx.out.cell 6
  have l_bx := B7_bx.out.lt
  have c_bz0 := B7_bz.out.cell 0
  have f_bz0 := B7_bz.out.frozen 0
  have c_bz1 := B7_bz.out.cell 1
  have f_bz1 := B7_bz.out.frozen 1
  have c_bz2 := B7_bz.out.cell 2
  have f_bz2 := B7_bz.out.frozen 2
  have c_bz3 := B7_bz.out.cell 3
  have f_bz3 := B7_bz.out.frozen 3
  have c_bz4 := B7_bz.out.cell 4
  have f_bz4 := B7_bz.out.frozen 4
  have c_bz5 := B7_bz.out.cell 5
  have f_bz5 := B7_bz.out.frozen 5
  have c_bz6 := B7_bz.out.cell 6
  have f_bz6 := B7_bz.out.frozen 6
  have l_bz := B7_bz.out.lt
  go_wp2_with fail
  clear c_bx0 c_bx1 c_bx2 c_bx3 c_bx4 c_bx5 c_bx6 l_bx c_bz0 f_bz0 c_bz1 f_bz1 c_bz2 f_bz2 c_bz3 f_bz3 c_bz4 f_bz4 c_bz5 f_bz5 c_bz6 f_bz6 l_bz
  refine (advance_at ⟨ep + 1, (i : Int), is, (List.replicate rs.length (0 : Int)).set i (j : Int), rs, fw, (es.length : Int)⟩ _ _ _ _ _ (by first | assumption | omega) K7_own.out i rfl hi E1.out (by simp only [List.length_set, List.length_replicate]) HSM3.out HLG.out).mono ?_
  rintro e W8 ⟨rfl, hadv, hgrow⟩
  rw [partV_adv]
  unfold partV
  simp only
  have hg8 : W7.grownBy W8 (some gr) := hgrow
  have hb8 : Below w.heap.size w W8 := HB7.out.grown hg8 HB7.out.size (fun b hb => by injection hb with hb; omega)
  have b_bx8 := B7_bx.out.grown hg8 (fun e => by injection e with e; omega)
  have b_bz8 := B7_bz.out.grown hg8 (fun e => by injection e with e; omega)
  have k_own8 := hadv
  have hz8 := hg8.size
  have HB8 := Lib.hid hb8
  have B8_bx := Lib.hid b_bx8
  have B8_bz := Lib.hid b_bz8
  have K8_own := Lib.hid k_own8
  clear hb8 b_bx8 b_bz8 k_own8
  clear hadv hgrow B7_bx B7_bz HB7 K7_own
  have c_bz0 := B8_bz.out.cell 0
  have f_bz0 := B8_bz.out.frozen 0
  have c_bz1 := B8_bz.out.cell 1
  have f_bz1 := B8_bz.out.frozen 1
  have c_bz2 := B8_bz.out.cell 2
  have f_bz2 := B8_bz.out.frozen 2
  have c_bz3 := B8_bz.out.cell 3
  have f_bz3 := B8_bz.out.frozen 3
  have c_bz4 := B8_bz.out.cell 4
  have f_bz4 := B8_bz.out.frozen 4
  have c_bz5 := B8_bz.out.cell 5
  have f_bz5 := B8_bz.out.frozen 5
  have c_bz6 := B8_bz.out.cell 6
  have f_bz6 := B8_bz.out.frozen 6
  have l_bz := B8_bz.out.lt
  go_wp2_with fail
  clear c_bz0 f_bz0 c_bz1 f_bz1 c_bz2 f_bz2 c_bz3 f_bz3 c_bz4 f_bz4 c_bz5 f_bz5 c_bz6 f_bz6 l_bz
  have hszF := HB8.out.size
  have hbF : Below w.heap.size w (((((((W8.setCell ⟨w.heap.size + 1, 0, none⟩ (.int .i64 (ep + 1))).setCell ⟨w.heap.size + 1, 1, none⟩ (.int .i64 i)).setCell ⟨w.heap.size + 1, 2, none⟩ (.slice (some ⟨gi, 0, none⟩) is.length d1)).setCell ⟨w.heap.size + 1, 3, none⟩ (.slice (some ⟨gz, 0, none⟩) rs.length rs.length)).setCell ⟨w.heap.size + 1, 4, none⟩ (.slice (some ⟨gr, 0, none⟩) rs.length d5)).setCell ⟨w.heap.size + 1, 5, none⟩ (.int .i64 fw)).setCell ⟨w.heap.size + 1, 6, none⟩ (.int .i64 es.length)) := (((((((HB8.out).setCell (by show w.heap.size ≤ w.heap.size + 1; omega) _).setCell (by show w.heap.size ≤ w.heap.size + 1; omega) _).setCell (by show w.heap.size ≤ w.heap.size + 1; omega) _).setCell (by show w.heap.size ≤ w.heap.size + 1; omega) _).setCell (by show w.heap.size ≤ w.heap.size + 1; omega) _).setCell (by show w.heap.size ≤ w.heap.size + 1; omega) _).setCell (by show w.heap.size ≤ w.heap.size + 1; omega) _
  have b_bxF : Blk (((((((W8.setCell ⟨w.heap.size + 1, 0, none⟩ (.int .i64 (ep + 1))).setCell ⟨w.heap.size + 1, 1, none⟩ (.int .i64 i)).setCell ⟨w.heap.size + 1, 2, none⟩ (.slice (some ⟨gi, 0, none⟩) is.length d1)).setCell ⟨w.heap.size + 1, 3, none⟩ (.slice (some ⟨gz, 0, none⟩) rs.length rs.length)).setCell ⟨w.heap.size + 1, 4, none⟩ (.slice (some ⟨gr, 0, none⟩) rs.length d5)).setCell ⟨w.heap.size + 1, 5, none⟩ (.int .i64 fw)).setCell ⟨w.heap.size + 1, 6, none⟩ (.int .i64 es.length)) (w.heap.size) 26 #[.int .i64 (ep + 1), .int .i64 i, .slice (some ⟨gi, 0, none⟩) is.length d1, .slice (some ⟨gz, 0, none⟩) rs.length rs.length, .slice (some ⟨gr, 0, none⟩) rs.length d5, .int .i64 fw, .int .i64 es.length] := (((((((B8_bx.out).far (p := ⟨w.heap.size + 1, 0, none⟩) (by show w.heap.size ≠ w.heap.size + 1; omega) _).far (p := ⟨w.heap.size + 1, 1, none⟩) (by show w.heap.size ≠ w.heap.size + 1; omega) _).far (p := ⟨w.heap.size + 1, 2, none⟩) (by show w.heap.size ≠ w.heap.size + 1; omega) _).far (p := ⟨w.heap.size + 1, 3, none⟩) (by show w.heap.size ≠ w.heap.size + 1; omega) _).far (p := ⟨w.heap.size + 1, 4, none⟩) (by show w.heap.size ≠ w.heap.size + 1; omega) _).far (p := ⟨w.heap.size + 1, 5, none⟩) (by show w.heap.size ≠ w.heap.size + 1; omega) _).far (p := ⟨w.heap.size + 1, 6, none⟩) (by show w.heap.size ≠ w.heap.size + 1; omega) _
  have b_bzF : Blk (((((((W8.setCell ⟨w.heap.size + 1, 0, none⟩ (.int .i64 (ep + 1))).setCell ⟨w.heap.size + 1, 1, none⟩ (.int .i64 i)).setCell ⟨w.heap.size + 1, 2, none⟩ (.slice (some ⟨gi, 0, none⟩) is.length d1)).setCell ⟨w.heap.size + 1, 3, none⟩ (.slice (some ⟨gz, 0, none⟩) rs.length rs.length)).setCell ⟨w.heap.size + 1, 4, none⟩ (.slice (some ⟨gr, 0, none⟩) rs.length d5)).setCell ⟨w.heap.size + 1, 5, none⟩ (.int .i64 fw)).setCell ⟨w.heap.size + 1, 6, none⟩ (.int .i64 es.length)) (w.heap.size + 1) 26 #[.int .i64 (ep + 1), .int .i64 i, .slice (some ⟨gi, 0, none⟩) is.length d1, .slice (some ⟨gz, 0, none⟩) rs.length rs.length, .slice (some ⟨gr, 0, none⟩) rs.length d5, .int .i64 fw, .int .i64 es.length] := (((((((B8_bz.out).set_ 0 _).set_ 1 _).set_ 2 _).set_ 3 _).set_ 4 _).set_ 5 _).set_ 6 _
  have k_ownF := (((((((K8_own.out).under (a := ⟨w.heap.size + 1, 0, none⟩) (by (try dsimp only); omega) (.int .i64 (ep + 1))).under (a := ⟨w.heap.size + 1, 1, none⟩) (by (try dsimp only); omega) (.int .i64 i)).under (a := ⟨w.heap.size + 1, 2, none⟩) (by (try dsimp only); omega) (.slice (some ⟨gi, 0, none⟩) is.length d1)).under (a := ⟨w.heap.size + 1, 3, none⟩) (by (try dsimp only); omega) (.slice (some ⟨gz, 0, none⟩) rs.length rs.length)).under (a := ⟨w.heap.size + 1, 4, none⟩) (by (try dsimp only); omega) (.slice (some ⟨gr, 0, none⟩) rs.length d5)).under (a := ⟨w.heap.size + 1, 5, none⟩) (by (try dsimp only); omega) (.int .i64 fw)).under (a := ⟨w.heap.size + 1, 6, none⟩) (by (try dsimp only); omega) (.int .i64 es.length)
  rw [HA.out, HSF.out]
  have y0 := b_bzF.cell 0
  have y1 := b_bzF.cell 1
  have y2 := b_bzF.cell 2
  have y3 := b_bzF.cell 3
  have y4 := b_bzF.cell 4
  have y5 := b_bzF.cell 5
  have y6 := b_bzF.cell 6
  exact bodyPost_ret (v := .tuple #[.agg #[.int .i64 (ep + 1), .int .i64 i, .slice (some ⟨gi, 0, none⟩) is.length d1, .slice (some ⟨gz, 0, none⟩) rs.length rs.length, .slice (some ⟨gr, 0, none⟩) rs.length d5, .int .i64 fw, .int .i64 es.length], .int .i64 0]) (by simp [results, Try.results58, go_sem, y0, y1, y2, y3, y4, y5, y6]) rfl (⟨_, _, _, by rw [partV_adv]; rfl, k_ownF.more (by omega), hbF⟩)
set_option maxRecDepth 100000 in
set_option maxHeartbeats 4000000 in
theorem electedOf_bad (v : Value) (c : PartD) (r n : Int) (hf : AtFault c r n) (w : World) (h : Pv w v c) : Calls Try.prog 59 #[v, .int .i64 r] w (RefusesP n w) := by
  obtain ⟨xi, xk, xr, rfl, ix, kx, rx, hli, hlk, hlr⟩ := id h
  obtain ⟨A5, c5, rfl, hc5, -⟩ := rx.at_
  obtain ⟨A1, c1, rfl, hc1, -⟩ := ix.at_
  obtain ⟨A3, c3, rfl, hc3, -⟩ := kx.at_
  have H := Lib.hid h
  clear h ix kx rx
  unfold partV at *
  obtain ⟨ep, ld, is, ks, rs, fw, ba⟩ := c
  simp only at *
  have hn0 := hf.ne
  have n1 : (n == 0) = false := beq_eq_false_iff_ne.2 hn0
  have n2 : (n != 0) = true := by simpa using hn0
  have HF := Lib.hid hf
  clear hf hn0
  go_enter Try.func59, Try.ntmps59
  go_wp2_with fail
  have hb1 : Below w.heap.size w ((w.alloc (.cells #[.int .i64 ep, .int .i64 ld, .slice A1 is.length c1, .slice A3 ks.length c3, .slice A5 rs.length c5, .int .i64 fw, .int .i64 ba] 26)).alloc (.cells #[.int .i64 0, .int .i64 0, .slice none 0 0, .slice none 0 0, .slice none 0 0, .int .i64 0, .int .i64 0] 26)) := ((Below.refl _ _).alloc (by first | omega | (simp; done) | (simp; omega)) _).alloc (by first | omega | (simp; done) | (simp; omega)) _
  have hal1 : Below w.heap.size w ((w.alloc (.cells #[.int .i64 ep, .int .i64 ld, .slice A1 is.length c1, .slice A3 ks.length c3, .slice A5 rs.length c5, .int .i64 fw, .int .i64 ba] 26)).alloc (.cells #[.int .i64 0, .int .i64 0, .slice none 0 0, .slice none 0 0, .slice none 0 0, .int .i64 0, .int .i64 0] 26)) := ((Below.refl _ _).alloc (by first | omega | (simp; done) | (simp; omega)) _).alloc (by first | omega | (simp; done) | (simp; omega)) _
  have b_bx1 : Blk ((w.alloc (.cells #[.int .i64 ep, .int .i64 ld, .slice A1 is.length c1, .slice A3 ks.length c3, .slice A5 rs.length c5, .int .i64 fw, .int .i64 ba] 26)).alloc (.cells #[.int .i64 0, .int .i64 0, .slice none 0 0, .slice none 0 0, .slice none 0 0, .int .i64 0, .int .i64 0] 26)) (w.heap.size) 26 #[.int .i64 ep, .int .i64 ld, .slice A1 is.length c1, .slice A3 ks.length c3, .slice A5 rs.length c5, .int .i64 fw, .int .i64 ba] := (Blk.new_ _ 26 #[.int .i64 ep, .int .i64 ld, .slice A1 is.length c1, .slice A3 ks.length c3, .slice A5 rs.length c5, .int .i64 fw, .int .i64 ba] (by first | rfl | (simp; done) | (simp; omega))).alloc _
  have b_bz1 : Blk ((w.alloc (.cells #[.int .i64 ep, .int .i64 ld, .slice A1 is.length c1, .slice A3 ks.length c3, .slice A5 rs.length c5, .int .i64 fw, .int .i64 ba] 26)).alloc (.cells #[.int .i64 0, .int .i64 0, .slice none 0 0, .slice none 0 0, .slice none 0 0, .int .i64 0, .int .i64 0] 26)) (w.heap.size + 1) 26 #[.int .i64 0, .int .i64 0, .slice none 0 0, .slice none 0 0, .slice none 0 0, .int .i64 0, .int .i64 0] := Blk.new_ _ 26 #[.int .i64 0, .int .i64 0, .slice none 0 0, .slice none 0 0, .slice none 0 0, .int .i64 0, .int .i64 0] (by first | rfl | (simp; done) | (simp; omega))
  have k_v1 := H.out.below hal1
  have hz1 : w.heap.size + 2 ≤ ((w.alloc (.cells #[.int .i64 ep, .int .i64 ld, .slice A1 is.length c1, .slice A3 ks.length c3, .slice A5 rs.length c5, .int .i64 fw, .int .i64 ba] 26)).alloc (.cells #[.int .i64 0, .int .i64 0, .slice none 0 0, .slice none 0 0, .slice none 0 0, .int .i64 0, .int .i64 0] 26)).heap.size := by first | omega | (simp; done) | (simp; omega)
  generalize (w.alloc (.cells #[.int .i64 ep, .int .i64 ld, .slice A1 is.length c1, .slice A3 ks.length c3, .slice A5 rs.length c5, .int .i64 fw, .int .i64 ba] 26)).alloc (.cells #[.int .i64 0, .int .i64 0, .slice none 0 0, .slice none 0 0, .slice none 0 0, .int .i64 0, .int .i64 0] 26) = W1 at *
  have HB1 := Lib.hid hb1
  have B1_bx := Lib.hid b_bx1
  have B1_bz := Lib.hid b_bz1
  have K1_v := Lib.hid k_v1
  clear hb1 b_bx1 b_bz1 k_v1
  clear H
  refine (partFault_bad K1_v.out HF.out).mono ?_
  rintro e W2 ⟨rfl, hb⟩
  have hb2 : Below w.heap.size w W2 := below_then HB1.out hb
  have b_bx2 := B1_bx.out.below hb B1_bx.out.lt
  have b_bz2 := B1_bz.out.below hb B1_bz.out.lt
  have k_v2 := K1_v.out.below hb
  have hz2 := hb.size
  have HB2 := Lib.hid hb2
  have B2_bx := Lib.hid b_bx2
  have B2_bz := Lib.hid b_bz2
  have K2_v := Lib.hid k_v2
  clear hb2 b_bx2 b_bz2 k_v2
  clear B1_bx B1_bz HB1 K1_v
  have c_bx0 := B2_bx.out.cell 0
  have c_bx1 := B2_bx.out.cell 1
  have c_bx2 := B2_bx.out.cell 2
  have c_bx3 := B2_bx.out.cell 3
  have c_bx4 := B2_bx.out.cell 4
  have c_bx5 := B2_bx.out.cell 5
  have c_bx6 := B2_bx.out.cell 6
  have l_bx := B2_bx.out.lt
  have c_bz0 := B2_bz.out.cell 0
  have f_bz0 := B2_bz.out.frozen 0
  have c_bz1 := B2_bz.out.cell 1
  have f_bz1 := B2_bz.out.frozen 1
  have c_bz2 := B2_bz.out.cell 2
  have f_bz2 := B2_bz.out.frozen 2
  have c_bz3 := B2_bz.out.cell 3
  have f_bz3 := B2_bz.out.frozen 3
  have c_bz4 := B2_bz.out.cell 4
  have f_bz4 := B2_bz.out.frozen 4
  have c_bz5 := B2_bz.out.cell 5
  have f_bz5 := B2_bz.out.frozen 5
  have c_bz6 := B2_bz.out.cell 6
  have f_bz6 := B2_bz.out.frozen 6
  have l_bz := B2_bz.out.lt
  go_wp2_with fail
  clear c_bx0 c_bx1 c_bx2 c_bx3 c_bx4 c_bx5 c_bx6 l_bx c_bz0 f_bz0 c_bz1 f_bz1 c_bz2 f_bz2 c_bz3 f_bz3 c_bz4 f_bz4 c_bz5 f_bz5 c_bz6 f_bz6 l_bz
  have hszF := HB2.out.size
  have hbF : Below w.heap.size w (((((((W2.setCell ⟨w.heap.size + 1, 0, none⟩ (.int .i64 0)).setCell ⟨w.heap.size + 1, 1, none⟩ (.int .i64 0)).setCell ⟨w.heap.size + 1, 2, none⟩ (.slice none 0 0)).setCell ⟨w.heap.size + 1, 3, none⟩ (.slice none 0 0)).setCell ⟨w.heap.size + 1, 4, none⟩ (.slice none 0 0)).setCell ⟨w.heap.size + 1, 5, none⟩ (.int .i64 0)).setCell ⟨w.heap.size + 1, 6, none⟩ (.int .i64 0)) := (((((((HB2.out).setCell (by show w.heap.size ≤ w.heap.size + 1; omega) _).setCell (by show w.heap.size ≤ w.heap.size + 1; omega) _).setCell (by show w.heap.size ≤ w.heap.size + 1; omega) _).setCell (by show w.heap.size ≤ w.heap.size + 1; omega) _).setCell (by show w.heap.size ≤ w.heap.size + 1; omega) _).setCell (by show w.heap.size ≤ w.heap.size + 1; omega) _).setCell (by show w.heap.size ≤ w.heap.size + 1; omega) _
  have b_bxF : Blk (((((((W2.setCell ⟨w.heap.size + 1, 0, none⟩ (.int .i64 0)).setCell ⟨w.heap.size + 1, 1, none⟩ (.int .i64 0)).setCell ⟨w.heap.size + 1, 2, none⟩ (.slice none 0 0)).setCell ⟨w.heap.size + 1, 3, none⟩ (.slice none 0 0)).setCell ⟨w.heap.size + 1, 4, none⟩ (.slice none 0 0)).setCell ⟨w.heap.size + 1, 5, none⟩ (.int .i64 0)).setCell ⟨w.heap.size + 1, 6, none⟩ (.int .i64 0)) (w.heap.size) 26 #[.int .i64 ep, .int .i64 ld, .slice A1 is.length c1, .slice A3 ks.length c3, .slice A5 rs.length c5, .int .i64 fw, .int .i64 ba] := (((((((B2_bx.out).far (p := ⟨w.heap.size + 1, 0, none⟩) (by show w.heap.size ≠ w.heap.size + 1; omega) _).far (p := ⟨w.heap.size + 1, 1, none⟩) (by show w.heap.size ≠ w.heap.size + 1; omega) _).far (p := ⟨w.heap.size + 1, 2, none⟩) (by show w.heap.size ≠ w.heap.size + 1; omega) _).far (p := ⟨w.heap.size + 1, 3, none⟩) (by show w.heap.size ≠ w.heap.size + 1; omega) _).far (p := ⟨w.heap.size + 1, 4, none⟩) (by show w.heap.size ≠ w.heap.size + 1; omega) _).far (p := ⟨w.heap.size + 1, 5, none⟩) (by show w.heap.size ≠ w.heap.size + 1; omega) _).far (p := ⟨w.heap.size + 1, 6, none⟩) (by show w.heap.size ≠ w.heap.size + 1; omega) _
  have b_bzF : Blk (((((((W2.setCell ⟨w.heap.size + 1, 0, none⟩ (.int .i64 0)).setCell ⟨w.heap.size + 1, 1, none⟩ (.int .i64 0)).setCell ⟨w.heap.size + 1, 2, none⟩ (.slice none 0 0)).setCell ⟨w.heap.size + 1, 3, none⟩ (.slice none 0 0)).setCell ⟨w.heap.size + 1, 4, none⟩ (.slice none 0 0)).setCell ⟨w.heap.size + 1, 5, none⟩ (.int .i64 0)).setCell ⟨w.heap.size + 1, 6, none⟩ (.int .i64 0)) (w.heap.size + 1) 26 #[.int .i64 0, .int .i64 0, .slice none 0 0, .slice none 0 0, .slice none 0 0, .int .i64 0, .int .i64 0] := (((((((B2_bz.out).set_ 0 _).set_ 1 _).set_ 2 _).set_ 3 _).set_ 4 _).set_ 5 _).set_ 6 _
  have y0 := b_bzF.cell 0
  have y1 := b_bzF.cell 1
  have y2 := b_bzF.cell 2
  have y3 := b_bzF.cell 3
  have y4 := b_bzF.cell 4
  have y5 := b_bzF.cell 5
  have y6 := b_bzF.cell 6
  exact bodyPost_ret (v := .tuple #[.agg #[.int .i64 0, .int .i64 0, .slice none 0 0, .slice none 0 0, .slice none 0 0, .int .i64 0, .int .i64 0], .int .i64 n]) (by simp [results, Try.results59, go_sem, y0, y1, y2, y3, y4, y5, y6]) rfl (⟨rfl, hbF⟩)
set_option maxRecDepth 100000 in
set_option maxHeartbeats 4000000 in
theorem electedOf_down (v : Value) (c : PartD) (i : Nat) (hn : PartOk c) (hi : i < c.reps.length) (hu : c.reps[i].up = false) (w : World) (h : Pv w v c) : Calls Try.prog 59 #[v, .int .i64 i] w (RefusesP 7 w) := by
  have eqk := hn.known
  have eqi := hn.isr
  obtain ⟨xi, xk, xr, rfl, ix, kx, rx, hli, hlk, hlr⟩ := id h
  obtain ⟨A5, c5, rfl, hc5, hx5⟩ := rx.at_
  obtain ⟨A1, c1, rfl, hc1, hx1⟩ := ix.at_
  obtain ⟨A3, c3, rfl, hc3, hx3⟩ := kx.at_
  have H := Lib.hid h
  clear h ix kx rx
  unfold partV at *
  obtain ⟨ep, ld, is, ks, rs, fw, ba⟩ := c
  simp only at *
  have HN := Lib.hid hn
  have HSM := Lib.hid hn.small
  clear hn
  (try simp only at eqk eqi)
  have E1 := Lib.hid eqi
  have E2 := Lib.hid eqk
  have i0 : (0 : Int) ≤ (i : Int) := by omega
  have i1 : (i : Int) < (rs.length : Int) := Int.ofNat_lt.2 hi
  have i2 : (i : Int) < (is.length : Int) := by omega
  have i3 : (i : Int) < (ks.length : Int) := by omega
  have j2 : i < is.length := by omega
  have j3 : i < ks.length := by omega
  clear eqk eqi
  obtain ⟨b5, o5, rfl, hb5, hcell5⟩ := hx5 (Nat.lt_of_le_of_lt (Nat.zero_le _) hi)
  obtain ⟨pv, x0, x1, x2, x3, xb, xl⟩ := hcell5 i hi
  obtain ⟨b1, o1, rfl, hb1, hcell1⟩ := hx1 (by omega)
  have y0 := hcell1 i (by omega)
  obtain ⟨b3, o3, rfl, hb3, hcell3⟩ := hx3 (by omega)
  have u0 := hcell3 i (by omega)
  have XC := Lib.hid (And.intro x0 (And.intro x3 (And.intro y0 u0)))
  clear hcell5 hcell1 hcell3 x0 x1 x2 x3 xb xl y0 u0 hx1 hx3 hx5
  have hup : rs[i].up = false := hu
  have HU := Lib.hid hup
  clear hu hup
  go_enter Try.func59, Try.ntmps59
  go_wp2_with fail
  have hb1 : Below w.heap.size w ((w.alloc (.cells #[.int .i64 ep, .int .i64 ld, .slice (some ⟨b1, o1, none⟩) is.length c1, .slice (some ⟨b3, o3, none⟩) ks.length c3, .slice (some ⟨b5, o5, none⟩) rs.length c5, .int .i64 fw, .int .i64 ba] 26)).alloc (.cells #[.int .i64 0, .int .i64 0, .slice none 0 0, .slice none 0 0, .slice none 0 0, .int .i64 0, .int .i64 0] 26)) := ((Below.refl _ _).alloc (by first | omega | (simp; done) | (simp; omega)) _).alloc (by first | omega | (simp; done) | (simp; omega)) _
  have hal1 : Below w.heap.size w ((w.alloc (.cells #[.int .i64 ep, .int .i64 ld, .slice (some ⟨b1, o1, none⟩) is.length c1, .slice (some ⟨b3, o3, none⟩) ks.length c3, .slice (some ⟨b5, o5, none⟩) rs.length c5, .int .i64 fw, .int .i64 ba] 26)).alloc (.cells #[.int .i64 0, .int .i64 0, .slice none 0 0, .slice none 0 0, .slice none 0 0, .int .i64 0, .int .i64 0] 26)) := ((Below.refl _ _).alloc (by first | omega | (simp; done) | (simp; omega)) _).alloc (by first | omega | (simp; done) | (simp; omega)) _
  have b_bx1 : Blk ((w.alloc (.cells #[.int .i64 ep, .int .i64 ld, .slice (some ⟨b1, o1, none⟩) is.length c1, .slice (some ⟨b3, o3, none⟩) ks.length c3, .slice (some ⟨b5, o5, none⟩) rs.length c5, .int .i64 fw, .int .i64 ba] 26)).alloc (.cells #[.int .i64 0, .int .i64 0, .slice none 0 0, .slice none 0 0, .slice none 0 0, .int .i64 0, .int .i64 0] 26)) (w.heap.size) 26 #[.int .i64 ep, .int .i64 ld, .slice (some ⟨b1, o1, none⟩) is.length c1, .slice (some ⟨b3, o3, none⟩) ks.length c3, .slice (some ⟨b5, o5, none⟩) rs.length c5, .int .i64 fw, .int .i64 ba] := (Blk.new_ _ 26 #[.int .i64 ep, .int .i64 ld, .slice (some ⟨b1, o1, none⟩) is.length c1, .slice (some ⟨b3, o3, none⟩) ks.length c3, .slice (some ⟨b5, o5, none⟩) rs.length c5, .int .i64 fw, .int .i64 ba] (by first | rfl | (simp; done) | (simp; omega))).alloc _
  have b_bz1 : Blk ((w.alloc (.cells #[.int .i64 ep, .int .i64 ld, .slice (some ⟨b1, o1, none⟩) is.length c1, .slice (some ⟨b3, o3, none⟩) ks.length c3, .slice (some ⟨b5, o5, none⟩) rs.length c5, .int .i64 fw, .int .i64 ba] 26)).alloc (.cells #[.int .i64 0, .int .i64 0, .slice none 0 0, .slice none 0 0, .slice none 0 0, .int .i64 0, .int .i64 0] 26)) (w.heap.size + 1) 26 #[.int .i64 0, .int .i64 0, .slice none 0 0, .slice none 0 0, .slice none 0 0, .int .i64 0, .int .i64 0] := Blk.new_ _ 26 #[.int .i64 0, .int .i64 0, .slice none 0 0, .slice none 0 0, .slice none 0 0, .int .i64 0, .int .i64 0] (by first | rfl | (simp; done) | (simp; omega))
  have k_v1 := H.out.below hal1
  have hz1 : w.heap.size + 2 ≤ ((w.alloc (.cells #[.int .i64 ep, .int .i64 ld, .slice (some ⟨b1, o1, none⟩) is.length c1, .slice (some ⟨b3, o3, none⟩) ks.length c3, .slice (some ⟨b5, o5, none⟩) rs.length c5, .int .i64 fw, .int .i64 ba] 26)).alloc (.cells #[.int .i64 0, .int .i64 0, .slice none 0 0, .slice none 0 0, .slice none 0 0, .int .i64 0, .int .i64 0] 26)).heap.size := by first | omega | (simp; done) | (simp; omega)
  generalize (w.alloc (.cells #[.int .i64 ep, .int .i64 ld, .slice (some ⟨b1, o1, none⟩) is.length c1, .slice (some ⟨b3, o3, none⟩) ks.length c3, .slice (some ⟨b5, o5, none⟩) rs.length c5, .int .i64 fw, .int .i64 ba] 26)).alloc (.cells #[.int .i64 0, .int .i64 0, .slice none 0 0, .slice none 0 0, .slice none 0 0, .int .i64 0, .int .i64 0] 26) = W1 at *
  have HB1 := Lib.hid hb1
  have B1_bx := Lib.hid b_bx1
  have B1_bz := Lib.hid b_bz1
  have K1_v := Lib.hid k_v1
  clear hb1 b_bx1 b_bz1 k_v1
  clear H
  refine (partFault_ok _ ⟨ep, ld, is, ks, rs, fw, ba⟩ i HN.out hi _ K1_v.out).mono ?_
  rintro e W2 ⟨rfl, hb⟩
  have hb2 : Below w.heap.size w W2 := below_then HB1.out hb
  have b_bx2 := B1_bx.out.below hb B1_bx.out.lt
  have b_bz2 := B1_bz.out.below hb B1_bz.out.lt
  have k_v2 := K1_v.out.below hb
  have hz2 := hb.size
  have HB2 := Lib.hid hb2
  have B2_bx := Lib.hid b_bx2
  have B2_bz := Lib.hid b_bz2
  have K2_v := Lib.hid k_v2
  clear hb2 b_bx2 b_bz2 k_v2
  clear B1_bx B1_bz HB1 K1_v
  have c_bx0 := B2_bx.out.cell 0
  have c_bx1 := B2_bx.out.cell 1
  have c_bx2 := B2_bx.out.cell 2
  have c_bx3 := B2_bx.out.cell 3
  have c_bx4 := B2_bx.out.cell 4
  have c_bx5 := B2_bx.out.cell 5
  have c_bx6 := B2_bx.out.cell 6
  have l_bx := B2_bx.out.lt
  have v0 := (HB2.out.cell (p := ⟨b5, o5 + i * 4, none⟩) hb5).trans XC.out.1
  have v3 := (HB2.out.cell (p := ⟨b5, o5 + i * 4 + 3, none⟩) hb5).trans XC.out.2.1
  have v1 := (HB2.out.cell (p := ⟨b1, o1 + i, none⟩) hb1).trans XC.out.2.2.1
  have v2 := (HB2.out.cell (p := ⟨b3, o3 + i, none⟩) hb3).trans XC.out.2.2.2
  have vl5 := Nat.lt_of_lt_of_le hb5 HB2.out.size
  have vl1 := Nat.lt_of_lt_of_le hb1 HB2.out.size
  have vl3 := Nat.lt_of_lt_of_le hb3 HB2.out.size
  rw [HU.out] at v0
  have c_bz0 := B2_bz.out.cell 0
  have f_bz0 := B2_bz.out.frozen 0
  have c_bz1 := B2_bz.out.cell 1
  have f_bz1 := B2_bz.out.frozen 1
  have c_bz2 := B2_bz.out.cell 2
  have f_bz2 := B2_bz.out.frozen 2
  have c_bz3 := B2_bz.out.cell 3
  have f_bz3 := B2_bz.out.frozen 3
  have c_bz4 := B2_bz.out.cell 4
  have f_bz4 := B2_bz.out.frozen 4
  have c_bz5 := B2_bz.out.cell 5
  have f_bz5 := B2_bz.out.frozen 5
  have c_bz6 := B2_bz.out.cell 6
  have f_bz6 := B2_bz.out.frozen 6
  have l_bz := B2_bz.out.lt
  go_wp2_with fail
  clear c_bx0 c_bx1 c_bx2 c_bx3 c_bx4 c_bx5 c_bx6 l_bx v0 v3 v1 v2 vl5 vl1 vl3 c_bz0 f_bz0 c_bz1 f_bz1 c_bz2 f_bz2 c_bz3 f_bz3 c_bz4 f_bz4 c_bz5 f_bz5 c_bz6 f_bz6 l_bz
  have hszF := HB2.out.size
  have hbF : Below w.heap.size w (((((((W2.setCell ⟨w.heap.size + 1, 0, none⟩ (.int .i64 0)).setCell ⟨w.heap.size + 1, 1, none⟩ (.int .i64 0)).setCell ⟨w.heap.size + 1, 2, none⟩ (.slice none 0 0)).setCell ⟨w.heap.size + 1, 3, none⟩ (.slice none 0 0)).setCell ⟨w.heap.size + 1, 4, none⟩ (.slice none 0 0)).setCell ⟨w.heap.size + 1, 5, none⟩ (.int .i64 0)).setCell ⟨w.heap.size + 1, 6, none⟩ (.int .i64 0)) := (((((((HB2.out).setCell (by show w.heap.size ≤ w.heap.size + 1; omega) _).setCell (by show w.heap.size ≤ w.heap.size + 1; omega) _).setCell (by show w.heap.size ≤ w.heap.size + 1; omega) _).setCell (by show w.heap.size ≤ w.heap.size + 1; omega) _).setCell (by show w.heap.size ≤ w.heap.size + 1; omega) _).setCell (by show w.heap.size ≤ w.heap.size + 1; omega) _).setCell (by show w.heap.size ≤ w.heap.size + 1; omega) _
  have b_bxF : Blk (((((((W2.setCell ⟨w.heap.size + 1, 0, none⟩ (.int .i64 0)).setCell ⟨w.heap.size + 1, 1, none⟩ (.int .i64 0)).setCell ⟨w.heap.size + 1, 2, none⟩ (.slice none 0 0)).setCell ⟨w.heap.size + 1, 3, none⟩ (.slice none 0 0)).setCell ⟨w.heap.size + 1, 4, none⟩ (.slice none 0 0)).setCell ⟨w.heap.size + 1, 5, none⟩ (.int .i64 0)).setCell ⟨w.heap.size + 1, 6, none⟩ (.int .i64 0)) (w.heap.size) 26 #[.int .i64 ep, .int .i64 ld, .slice (some ⟨b1, o1, none⟩) is.length c1, .slice (some ⟨b3, o3, none⟩) ks.length c3, .slice (some ⟨b5, o5, none⟩) rs.length c5, .int .i64 fw, .int .i64 ba] := (((((((B2_bx.out).far (p := ⟨w.heap.size + 1, 0, none⟩) (by show w.heap.size ≠ w.heap.size + 1; omega) _).far (p := ⟨w.heap.size + 1, 1, none⟩) (by show w.heap.size ≠ w.heap.size + 1; omega) _).far (p := ⟨w.heap.size + 1, 2, none⟩) (by show w.heap.size ≠ w.heap.size + 1; omega) _).far (p := ⟨w.heap.size + 1, 3, none⟩) (by show w.heap.size ≠ w.heap.size + 1; omega) _).far (p := ⟨w.heap.size + 1, 4, none⟩) (by show w.heap.size ≠ w.heap.size + 1; omega) _).far (p := ⟨w.heap.size + 1, 5, none⟩) (by show w.heap.size ≠ w.heap.size + 1; omega) _).far (p := ⟨w.heap.size + 1, 6, none⟩) (by show w.heap.size ≠ w.heap.size + 1; omega) _
  have b_bzF : Blk (((((((W2.setCell ⟨w.heap.size + 1, 0, none⟩ (.int .i64 0)).setCell ⟨w.heap.size + 1, 1, none⟩ (.int .i64 0)).setCell ⟨w.heap.size + 1, 2, none⟩ (.slice none 0 0)).setCell ⟨w.heap.size + 1, 3, none⟩ (.slice none 0 0)).setCell ⟨w.heap.size + 1, 4, none⟩ (.slice none 0 0)).setCell ⟨w.heap.size + 1, 5, none⟩ (.int .i64 0)).setCell ⟨w.heap.size + 1, 6, none⟩ (.int .i64 0)) (w.heap.size + 1) 26 #[.int .i64 0, .int .i64 0, .slice none 0 0, .slice none 0 0, .slice none 0 0, .int .i64 0, .int .i64 0] := (((((((B2_bz.out).set_ 0 _).set_ 1 _).set_ 2 _).set_ 3 _).set_ 4 _).set_ 5 _).set_ 6 _
  have y0 := b_bzF.cell 0
  have y1 := b_bzF.cell 1
  have y2 := b_bzF.cell 2
  have y3 := b_bzF.cell 3
  have y4 := b_bzF.cell 4
  have y5 := b_bzF.cell 5
  have y6 := b_bzF.cell 6
  exact bodyPost_ret (v := .tuple #[.agg #[.int .i64 0, .int .i64 0, .slice none 0 0, .slice none 0 0, .slice none 0 0, .int .i64 0, .int .i64 0], .int .i64 7]) (by simp [results, Try.results59, go_sem, y0, y1, y2, y3, y4, y5, y6]) rfl (⟨rfl, hbF⟩)
set_option maxRecDepth 100000 in
set_option maxHeartbeats 4000000 in
theorem electedOf_behind (v : Value) (c : PartD) (i : Nat) (hn : PartOk c) (hi : i < c.reps.length) (hu : c.reps[i].up = true) (hj : i < c.isr.length) (hs : c.isr[i] = false) (w : World) (h : Pv w v c) : Calls Try.prog 59 #[v, .int .i64 i] w (RefusesP 13 w) := by
  have eqk := hn.known
  have eqi := hn.isr
  obtain ⟨xi, xk, xr, rfl, ix, kx, rx, hli, hlk, hlr⟩ := id h
  obtain ⟨A5, c5, rfl, hc5, hx5⟩ := rx.at_
  obtain ⟨A1, c1, rfl, hc1, hx1⟩ := ix.at_
  obtain ⟨A3, c3, rfl, hc3, hx3⟩ := kx.at_
  have H := Lib.hid h
  clear h ix kx rx
  unfold partV at *
  obtain ⟨ep, ld, is, ks, rs, fw, ba⟩ := c
  simp only at *
  have HN := Lib.hid hn
  have HSM := Lib.hid hn.small
  clear hn
  (try simp only at eqk eqi)
  have E1 := Lib.hid eqi
  have E2 := Lib.hid eqk
  have i0 : (0 : Int) ≤ (i : Int) := by omega
  have i1 : (i : Int) < (rs.length : Int) := Int.ofNat_lt.2 hi
  have i2 : (i : Int) < (is.length : Int) := by omega
  have i3 : (i : Int) < (ks.length : Int) := by omega
  have j2 : i < is.length := by omega
  have j3 : i < ks.length := by omega
  clear eqk eqi
  obtain ⟨b5, o5, rfl, hb5, hcell5⟩ := hx5 (Nat.lt_of_le_of_lt (Nat.zero_le _) hi)
  obtain ⟨pv, x0, x1, x2, x3, xb, xl⟩ := hcell5 i hi
  obtain ⟨b1, o1, rfl, hb1, hcell1⟩ := hx1 (by omega)
  have y0 := hcell1 i (by omega)
  obtain ⟨b3, o3, rfl, hb3, hcell3⟩ := hx3 (by omega)
  have u0 := hcell3 i (by omega)
  have XC := Lib.hid (And.intro x0 (And.intro x3 (And.intro y0 u0)))
  clear hcell5 hcell1 hcell3 x0 x1 x2 x3 xb xl y0 u0 hx1 hx3 hx5
  have hup : rs[i].up = true := hu
  have HU := Lib.hid hup
  clear hu hup
  have hib : is[i] = false := hs
  have HS := Lib.hid hib
  clear hs hib
  go_enter Try.func59, Try.ntmps59
  go_wp2_with fail
  have hb1 : Below w.heap.size w ((w.alloc (.cells #[.int .i64 ep, .int .i64 ld, .slice (some ⟨b1, o1, none⟩) is.length c1, .slice (some ⟨b3, o3, none⟩) ks.length c3, .slice (some ⟨b5, o5, none⟩) rs.length c5, .int .i64 fw, .int .i64 ba] 26)).alloc (.cells #[.int .i64 0, .int .i64 0, .slice none 0 0, .slice none 0 0, .slice none 0 0, .int .i64 0, .int .i64 0] 26)) := ((Below.refl _ _).alloc (by first | omega | (simp; done) | (simp; omega)) _).alloc (by first | omega | (simp; done) | (simp; omega)) _
  have hal1 : Below w.heap.size w ((w.alloc (.cells #[.int .i64 ep, .int .i64 ld, .slice (some ⟨b1, o1, none⟩) is.length c1, .slice (some ⟨b3, o3, none⟩) ks.length c3, .slice (some ⟨b5, o5, none⟩) rs.length c5, .int .i64 fw, .int .i64 ba] 26)).alloc (.cells #[.int .i64 0, .int .i64 0, .slice none 0 0, .slice none 0 0, .slice none 0 0, .int .i64 0, .int .i64 0] 26)) := ((Below.refl _ _).alloc (by first | omega | (simp; done) | (simp; omega)) _).alloc (by first | omega | (simp; done) | (simp; omega)) _
  have b_bx1 : Blk ((w.alloc (.cells #[.int .i64 ep, .int .i64 ld, .slice (some ⟨b1, o1, none⟩) is.length c1, .slice (some ⟨b3, o3, none⟩) ks.length c3, .slice (some ⟨b5, o5, none⟩) rs.length c5, .int .i64 fw, .int .i64 ba] 26)).alloc (.cells #[.int .i64 0, .int .i64 0, .slice none 0 0, .slice none 0 0, .slice none 0 0, .int .i64 0, .int .i64 0] 26)) (w.heap.size) 26 #[.int .i64 ep, .int .i64 ld, .slice (some ⟨b1, o1, none⟩) is.length c1, .slice (some ⟨b3, o3, none⟩) ks.length c3, .slice (some ⟨b5, o5, none⟩) rs.length c5, .int .i64 fw, .int .i64 ba] := (Blk.new_ _ 26 #[.int .i64 ep, .int .i64 ld, .slice (some ⟨b1, o1, none⟩) is.length c1, .slice (some ⟨b3, o3, none⟩) ks.length c3, .slice (some ⟨b5, o5, none⟩) rs.length c5, .int .i64 fw, .int .i64 ba] (by first | rfl | (simp; done) | (simp; omega))).alloc _
  have b_bz1 : Blk ((w.alloc (.cells #[.int .i64 ep, .int .i64 ld, .slice (some ⟨b1, o1, none⟩) is.length c1, .slice (some ⟨b3, o3, none⟩) ks.length c3, .slice (some ⟨b5, o5, none⟩) rs.length c5, .int .i64 fw, .int .i64 ba] 26)).alloc (.cells #[.int .i64 0, .int .i64 0, .slice none 0 0, .slice none 0 0, .slice none 0 0, .int .i64 0, .int .i64 0] 26)) (w.heap.size + 1) 26 #[.int .i64 0, .int .i64 0, .slice none 0 0, .slice none 0 0, .slice none 0 0, .int .i64 0, .int .i64 0] := Blk.new_ _ 26 #[.int .i64 0, .int .i64 0, .slice none 0 0, .slice none 0 0, .slice none 0 0, .int .i64 0, .int .i64 0] (by first | rfl | (simp; done) | (simp; omega))
  have k_v1 := H.out.below hal1
  have hz1 : w.heap.size + 2 ≤ ((w.alloc (.cells #[.int .i64 ep, .int .i64 ld, .slice (some ⟨b1, o1, none⟩) is.length c1, .slice (some ⟨b3, o3, none⟩) ks.length c3, .slice (some ⟨b5, o5, none⟩) rs.length c5, .int .i64 fw, .int .i64 ba] 26)).alloc (.cells #[.int .i64 0, .int .i64 0, .slice none 0 0, .slice none 0 0, .slice none 0 0, .int .i64 0, .int .i64 0] 26)).heap.size := by first | omega | (simp; done) | (simp; omega)
  generalize (w.alloc (.cells #[.int .i64 ep, .int .i64 ld, .slice (some ⟨b1, o1, none⟩) is.length c1, .slice (some ⟨b3, o3, none⟩) ks.length c3, .slice (some ⟨b5, o5, none⟩) rs.length c5, .int .i64 fw, .int .i64 ba] 26)).alloc (.cells #[.int .i64 0, .int .i64 0, .slice none 0 0, .slice none 0 0, .slice none 0 0, .int .i64 0, .int .i64 0] 26) = W1 at *
  have HB1 := Lib.hid hb1
  have B1_bx := Lib.hid b_bx1
  have B1_bz := Lib.hid b_bz1
  have K1_v := Lib.hid k_v1
  clear hb1 b_bx1 b_bz1 k_v1
  clear H
  refine (partFault_ok _ ⟨ep, ld, is, ks, rs, fw, ba⟩ i HN.out hi _ K1_v.out).mono ?_
  rintro e W2 ⟨rfl, hb⟩
  have hb2 : Below w.heap.size w W2 := below_then HB1.out hb
  have b_bx2 := B1_bx.out.below hb B1_bx.out.lt
  have b_bz2 := B1_bz.out.below hb B1_bz.out.lt
  have k_v2 := K1_v.out.below hb
  have hz2 := hb.size
  have HB2 := Lib.hid hb2
  have B2_bx := Lib.hid b_bx2
  have B2_bz := Lib.hid b_bz2
  have K2_v := Lib.hid k_v2
  clear hb2 b_bx2 b_bz2 k_v2
  clear B1_bx B1_bz HB1 K1_v
  have c_bx0 := B2_bx.out.cell 0
  have c_bx1 := B2_bx.out.cell 1
  have c_bx2 := B2_bx.out.cell 2
  have c_bx3 := B2_bx.out.cell 3
  have c_bx4 := B2_bx.out.cell 4
  have c_bx5 := B2_bx.out.cell 5
  have c_bx6 := B2_bx.out.cell 6
  have l_bx := B2_bx.out.lt
  have v0 := (HB2.out.cell (p := ⟨b5, o5 + i * 4, none⟩) hb5).trans XC.out.1
  have v3 := (HB2.out.cell (p := ⟨b5, o5 + i * 4 + 3, none⟩) hb5).trans XC.out.2.1
  have v1 := (HB2.out.cell (p := ⟨b1, o1 + i, none⟩) hb1).trans XC.out.2.2.1
  have v2 := (HB2.out.cell (p := ⟨b3, o3 + i, none⟩) hb3).trans XC.out.2.2.2
  have vl5 := Nat.lt_of_lt_of_le hb5 HB2.out.size
  have vl1 := Nat.lt_of_lt_of_le hb1 HB2.out.size
  have vl3 := Nat.lt_of_lt_of_le hb3 HB2.out.size
  rw [HU.out] at v0
  rw [HS.out] at v1
  have c_bz0 := B2_bz.out.cell 0
  have f_bz0 := B2_bz.out.frozen 0
  have c_bz1 := B2_bz.out.cell 1
  have f_bz1 := B2_bz.out.frozen 1
  have c_bz2 := B2_bz.out.cell 2
  have f_bz2 := B2_bz.out.frozen 2
  have c_bz3 := B2_bz.out.cell 3
  have f_bz3 := B2_bz.out.frozen 3
  have c_bz4 := B2_bz.out.cell 4
  have f_bz4 := B2_bz.out.frozen 4
  have c_bz5 := B2_bz.out.cell 5
  have f_bz5 := B2_bz.out.frozen 5
  have c_bz6 := B2_bz.out.cell 6
  have f_bz6 := B2_bz.out.frozen 6
  have l_bz := B2_bz.out.lt
  go_wp2_with fail
  clear c_bx0 c_bx1 c_bx2 c_bx3 c_bx4 c_bx5 c_bx6 l_bx v0 v3 v1 v2 vl5 vl1 vl3 c_bz0 f_bz0 c_bz1 f_bz1 c_bz2 f_bz2 c_bz3 f_bz3 c_bz4 f_bz4 c_bz5 f_bz5 c_bz6 f_bz6 l_bz
  have hszF := HB2.out.size
  have hbF : Below w.heap.size w (((((((W2.setCell ⟨w.heap.size + 1, 0, none⟩ (.int .i64 0)).setCell ⟨w.heap.size + 1, 1, none⟩ (.int .i64 0)).setCell ⟨w.heap.size + 1, 2, none⟩ (.slice none 0 0)).setCell ⟨w.heap.size + 1, 3, none⟩ (.slice none 0 0)).setCell ⟨w.heap.size + 1, 4, none⟩ (.slice none 0 0)).setCell ⟨w.heap.size + 1, 5, none⟩ (.int .i64 0)).setCell ⟨w.heap.size + 1, 6, none⟩ (.int .i64 0)) := (((((((HB2.out).setCell (by show w.heap.size ≤ w.heap.size + 1; omega) _).setCell (by show w.heap.size ≤ w.heap.size + 1; omega) _).setCell (by show w.heap.size ≤ w.heap.size + 1; omega) _).setCell (by show w.heap.size ≤ w.heap.size + 1; omega) _).setCell (by show w.heap.size ≤ w.heap.size + 1; omega) _).setCell (by show w.heap.size ≤ w.heap.size + 1; omega) _).setCell (by show w.heap.size ≤ w.heap.size + 1; omega) _
  have b_bxF : Blk (((((((W2.setCell ⟨w.heap.size + 1, 0, none⟩ (.int .i64 0)).setCell ⟨w.heap.size + 1, 1, none⟩ (.int .i64 0)).setCell ⟨w.heap.size + 1, 2, none⟩ (.slice none 0 0)).setCell ⟨w.heap.size + 1, 3, none⟩ (.slice none 0 0)).setCell ⟨w.heap.size + 1, 4, none⟩ (.slice none 0 0)).setCell ⟨w.heap.size + 1, 5, none⟩ (.int .i64 0)).setCell ⟨w.heap.size + 1, 6, none⟩ (.int .i64 0)) (w.heap.size) 26 #[.int .i64 ep, .int .i64 ld, .slice (some ⟨b1, o1, none⟩) is.length c1, .slice (some ⟨b3, o3, none⟩) ks.length c3, .slice (some ⟨b5, o5, none⟩) rs.length c5, .int .i64 fw, .int .i64 ba] := (((((((B2_bx.out).far (p := ⟨w.heap.size + 1, 0, none⟩) (by show w.heap.size ≠ w.heap.size + 1; omega) _).far (p := ⟨w.heap.size + 1, 1, none⟩) (by show w.heap.size ≠ w.heap.size + 1; omega) _).far (p := ⟨w.heap.size + 1, 2, none⟩) (by show w.heap.size ≠ w.heap.size + 1; omega) _).far (p := ⟨w.heap.size + 1, 3, none⟩) (by show w.heap.size ≠ w.heap.size + 1; omega) _).far (p := ⟨w.heap.size + 1, 4, none⟩) (by show w.heap.size ≠ w.heap.size + 1; omega) _).far (p := ⟨w.heap.size + 1, 5, none⟩) (by show w.heap.size ≠ w.heap.size + 1; omega) _).far (p := ⟨w.heap.size + 1, 6, none⟩) (by show w.heap.size ≠ w.heap.size + 1; omega) _
  have b_bzF : Blk (((((((W2.setCell ⟨w.heap.size + 1, 0, none⟩ (.int .i64 0)).setCell ⟨w.heap.size + 1, 1, none⟩ (.int .i64 0)).setCell ⟨w.heap.size + 1, 2, none⟩ (.slice none 0 0)).setCell ⟨w.heap.size + 1, 3, none⟩ (.slice none 0 0)).setCell ⟨w.heap.size + 1, 4, none⟩ (.slice none 0 0)).setCell ⟨w.heap.size + 1, 5, none⟩ (.int .i64 0)).setCell ⟨w.heap.size + 1, 6, none⟩ (.int .i64 0)) (w.heap.size + 1) 26 #[.int .i64 0, .int .i64 0, .slice none 0 0, .slice none 0 0, .slice none 0 0, .int .i64 0, .int .i64 0] := (((((((B2_bz.out).set_ 0 _).set_ 1 _).set_ 2 _).set_ 3 _).set_ 4 _).set_ 5 _).set_ 6 _
  have y0 := b_bzF.cell 0
  have y1 := b_bzF.cell 1
  have y2 := b_bzF.cell 2
  have y3 := b_bzF.cell 3
  have y4 := b_bzF.cell 4
  have y5 := b_bzF.cell 5
  have y6 := b_bzF.cell 6
  exact bodyPost_ret (v := .tuple #[.agg #[.int .i64 0, .int .i64 0, .slice none 0 0, .slice none 0 0, .slice none 0 0, .int .i64 0, .int .i64 0], .int .i64 13]) (by simp [results, Try.results59, go_sem, y0, y1, y2, y3, y4, y5, y6]) rfl (⟨rfl, hbF⟩)
set_option maxRecDepth 100000 in
set_option maxHeartbeats 4000000 in
theorem electedOf_twice (v : Value) (c : PartD) (i : Nat) (hn : PartOk c) (hi : i < c.reps.length) (hu : c.reps[i].up = true) (hj : i < c.isr.length) (hs : c.isr[i] = true) (hl : c.leader = i) (w : World) (h : Pv w v c) : Calls Try.prog 59 #[v, .int .i64 i] w (RefusesP 6 w) := by
  have eqk := hn.known
  have eqi := hn.isr
  obtain ⟨xi, xk, xr, rfl, ix, kx, rx, hli, hlk, hlr⟩ := id h
  obtain ⟨A5, c5, rfl, hc5, hx5⟩ := rx.at_
  obtain ⟨A1, c1, rfl, hc1, hx1⟩ := ix.at_
  obtain ⟨A3, c3, rfl, hc3, hx3⟩ := kx.at_
  have H := Lib.hid h
  clear h ix kx rx
  unfold partV at *
  obtain ⟨ep, ld, is, ks, rs, fw, ba⟩ := c
  simp only at *
  have HN := Lib.hid hn
  have HSM := Lib.hid hn.small
  clear hn
  (try simp only at eqk eqi)
  have E1 := Lib.hid eqi
  have E2 := Lib.hid eqk
  have i0 : (0 : Int) ≤ (i : Int) := by omega
  have i1 : (i : Int) < (rs.length : Int) := Int.ofNat_lt.2 hi
  have i2 : (i : Int) < (is.length : Int) := by omega
  have i3 : (i : Int) < (ks.length : Int) := by omega
  have j2 : i < is.length := by omega
  have j3 : i < ks.length := by omega
  clear eqk eqi
  obtain ⟨b5, o5, rfl, hb5, hcell5⟩ := hx5 (Nat.lt_of_le_of_lt (Nat.zero_le _) hi)
  obtain ⟨pv, x0, x1, x2, x3, xb, xl⟩ := hcell5 i hi
  obtain ⟨b1, o1, rfl, hb1, hcell1⟩ := hx1 (by omega)
  have y0 := hcell1 i (by omega)
  obtain ⟨b3, o3, rfl, hb3, hcell3⟩ := hx3 (by omega)
  have u0 := hcell3 i (by omega)
  have XC := Lib.hid (And.intro x0 (And.intro x3 (And.intro y0 u0)))
  clear hcell5 hcell1 hcell3 x0 x1 x2 x3 xb xl y0 u0 hx1 hx3 hx5
  have hup : rs[i].up = true := hu
  have HU := Lib.hid hup
  clear hu hup
  have hib : is[i] = true := hs
  have HS := Lib.hid hib
  clear hs hib
  have y9 : (ld == (i : Int)) = true := beq_iff_eq.2 hl
  clear hl
  go_enter Try.func59, Try.ntmps59
  go_wp2_with fail
  have hb1 : Below w.heap.size w ((w.alloc (.cells #[.int .i64 ep, .int .i64 ld, .slice (some ⟨b1, o1, none⟩) is.length c1, .slice (some ⟨b3, o3, none⟩) ks.length c3, .slice (some ⟨b5, o5, none⟩) rs.length c5, .int .i64 fw, .int .i64 ba] 26)).alloc (.cells #[.int .i64 0, .int .i64 0, .slice none 0 0, .slice none 0 0, .slice none 0 0, .int .i64 0, .int .i64 0] 26)) := ((Below.refl _ _).alloc (by first | omega | (simp; done) | (simp; omega)) _).alloc (by first | omega | (simp; done) | (simp; omega)) _
  have hal1 : Below w.heap.size w ((w.alloc (.cells #[.int .i64 ep, .int .i64 ld, .slice (some ⟨b1, o1, none⟩) is.length c1, .slice (some ⟨b3, o3, none⟩) ks.length c3, .slice (some ⟨b5, o5, none⟩) rs.length c5, .int .i64 fw, .int .i64 ba] 26)).alloc (.cells #[.int .i64 0, .int .i64 0, .slice none 0 0, .slice none 0 0, .slice none 0 0, .int .i64 0, .int .i64 0] 26)) := ((Below.refl _ _).alloc (by first | omega | (simp; done) | (simp; omega)) _).alloc (by first | omega | (simp; done) | (simp; omega)) _
  have b_bx1 : Blk ((w.alloc (.cells #[.int .i64 ep, .int .i64 ld, .slice (some ⟨b1, o1, none⟩) is.length c1, .slice (some ⟨b3, o3, none⟩) ks.length c3, .slice (some ⟨b5, o5, none⟩) rs.length c5, .int .i64 fw, .int .i64 ba] 26)).alloc (.cells #[.int .i64 0, .int .i64 0, .slice none 0 0, .slice none 0 0, .slice none 0 0, .int .i64 0, .int .i64 0] 26)) (w.heap.size) 26 #[.int .i64 ep, .int .i64 ld, .slice (some ⟨b1, o1, none⟩) is.length c1, .slice (some ⟨b3, o3, none⟩) ks.length c3, .slice (some ⟨b5, o5, none⟩) rs.length c5, .int .i64 fw, .int .i64 ba] := (Blk.new_ _ 26 #[.int .i64 ep, .int .i64 ld, .slice (some ⟨b1, o1, none⟩) is.length c1, .slice (some ⟨b3, o3, none⟩) ks.length c3, .slice (some ⟨b5, o5, none⟩) rs.length c5, .int .i64 fw, .int .i64 ba] (by first | rfl | (simp; done) | (simp; omega))).alloc _
  have b_bz1 : Blk ((w.alloc (.cells #[.int .i64 ep, .int .i64 ld, .slice (some ⟨b1, o1, none⟩) is.length c1, .slice (some ⟨b3, o3, none⟩) ks.length c3, .slice (some ⟨b5, o5, none⟩) rs.length c5, .int .i64 fw, .int .i64 ba] 26)).alloc (.cells #[.int .i64 0, .int .i64 0, .slice none 0 0, .slice none 0 0, .slice none 0 0, .int .i64 0, .int .i64 0] 26)) (w.heap.size + 1) 26 #[.int .i64 0, .int .i64 0, .slice none 0 0, .slice none 0 0, .slice none 0 0, .int .i64 0, .int .i64 0] := Blk.new_ _ 26 #[.int .i64 0, .int .i64 0, .slice none 0 0, .slice none 0 0, .slice none 0 0, .int .i64 0, .int .i64 0] (by first | rfl | (simp; done) | (simp; omega))
  have k_v1 := H.out.below hal1
  have hz1 : w.heap.size + 2 ≤ ((w.alloc (.cells #[.int .i64 ep, .int .i64 ld, .slice (some ⟨b1, o1, none⟩) is.length c1, .slice (some ⟨b3, o3, none⟩) ks.length c3, .slice (some ⟨b5, o5, none⟩) rs.length c5, .int .i64 fw, .int .i64 ba] 26)).alloc (.cells #[.int .i64 0, .int .i64 0, .slice none 0 0, .slice none 0 0, .slice none 0 0, .int .i64 0, .int .i64 0] 26)).heap.size := by first | omega | (simp; done) | (simp; omega)
  generalize (w.alloc (.cells #[.int .i64 ep, .int .i64 ld, .slice (some ⟨b1, o1, none⟩) is.length c1, .slice (some ⟨b3, o3, none⟩) ks.length c3, .slice (some ⟨b5, o5, none⟩) rs.length c5, .int .i64 fw, .int .i64 ba] 26)).alloc (.cells #[.int .i64 0, .int .i64 0, .slice none 0 0, .slice none 0 0, .slice none 0 0, .int .i64 0, .int .i64 0] 26) = W1 at *
  have HB1 := Lib.hid hb1
  have B1_bx := Lib.hid b_bx1
  have B1_bz := Lib.hid b_bz1
  have K1_v := Lib.hid k_v1
  clear hb1 b_bx1 b_bz1 k_v1
  clear H
  refine (partFault_ok _ ⟨ep, ld, is, ks, rs, fw, ba⟩ i HN.out hi _ K1_v.out).mono ?_
  rintro e W2 ⟨rfl, hb⟩
  have hb2 : Below w.heap.size w W2 := below_then HB1.out hb
  have b_bx2 := B1_bx.out.below hb B1_bx.out.lt
  have b_bz2 := B1_bz.out.below hb B1_bz.out.lt
  have k_v2 := K1_v.out.below hb
  have hz2 := hb.size
  have HB2 := Lib.hid hb2
  have B2_bx := Lib.hid b_bx2
  have B2_bz := Lib.hid b_bz2
  have K2_v := Lib.hid k_v2
  clear hb2 b_bx2 b_bz2 k_v2
  clear B1_bx B1_bz HB1 K1_v
  have c_bx0 := B2_bx.out.cell 0
  have c_bx1 := B2_bx.out.cell 1
  have c_bx2 := B2_bx.out.cell 2
  have c_bx3 := B2_bx.out.cell 3
  have c_bx4 := B2_bx.out.cell 4
  have c_bx5 := B2_bx.out.cell 5
  have c_bx6 := B2_bx.out.cell 6
  have l_bx := B2_bx.out.lt
  have v0 := (HB2.out.cell (p := ⟨b5, o5 + i * 4, none⟩) hb5).trans XC.out.1
  have v3 := (HB2.out.cell (p := ⟨b5, o5 + i * 4 + 3, none⟩) hb5).trans XC.out.2.1
  have v1 := (HB2.out.cell (p := ⟨b1, o1 + i, none⟩) hb1).trans XC.out.2.2.1
  have v2 := (HB2.out.cell (p := ⟨b3, o3 + i, none⟩) hb3).trans XC.out.2.2.2
  have vl5 := Nat.lt_of_lt_of_le hb5 HB2.out.size
  have vl1 := Nat.lt_of_lt_of_le hb1 HB2.out.size
  have vl3 := Nat.lt_of_lt_of_le hb3 HB2.out.size
  rw [HU.out] at v0
  rw [HS.out] at v1
  have c_bz0 := B2_bz.out.cell 0
  have f_bz0 := B2_bz.out.frozen 0
  have c_bz1 := B2_bz.out.cell 1
  have f_bz1 := B2_bz.out.frozen 1
  have c_bz2 := B2_bz.out.cell 2
  have f_bz2 := B2_bz.out.frozen 2
  have c_bz3 := B2_bz.out.cell 3
  have f_bz3 := B2_bz.out.frozen 3
  have c_bz4 := B2_bz.out.cell 4
  have f_bz4 := B2_bz.out.frozen 4
  have c_bz5 := B2_bz.out.cell 5
  have f_bz5 := B2_bz.out.frozen 5
  have c_bz6 := B2_bz.out.cell 6
  have f_bz6 := B2_bz.out.frozen 6
  have l_bz := B2_bz.out.lt
  go_wp2_with fail
  clear c_bx0 c_bx1 c_bx2 c_bx3 c_bx4 c_bx5 c_bx6 l_bx v0 v3 v1 v2 vl5 vl1 vl3 c_bz0 f_bz0 c_bz1 f_bz1 c_bz2 f_bz2 c_bz3 f_bz3 c_bz4 f_bz4 c_bz5 f_bz5 c_bz6 f_bz6 l_bz
  have hszF := HB2.out.size
  have hbF : Below w.heap.size w (((((((W2.setCell ⟨w.heap.size + 1, 0, none⟩ (.int .i64 0)).setCell ⟨w.heap.size + 1, 1, none⟩ (.int .i64 0)).setCell ⟨w.heap.size + 1, 2, none⟩ (.slice none 0 0)).setCell ⟨w.heap.size + 1, 3, none⟩ (.slice none 0 0)).setCell ⟨w.heap.size + 1, 4, none⟩ (.slice none 0 0)).setCell ⟨w.heap.size + 1, 5, none⟩ (.int .i64 0)).setCell ⟨w.heap.size + 1, 6, none⟩ (.int .i64 0)) := (((((((HB2.out).setCell (by show w.heap.size ≤ w.heap.size + 1; omega) _).setCell (by show w.heap.size ≤ w.heap.size + 1; omega) _).setCell (by show w.heap.size ≤ w.heap.size + 1; omega) _).setCell (by show w.heap.size ≤ w.heap.size + 1; omega) _).setCell (by show w.heap.size ≤ w.heap.size + 1; omega) _).setCell (by show w.heap.size ≤ w.heap.size + 1; omega) _).setCell (by show w.heap.size ≤ w.heap.size + 1; omega) _
  have b_bxF : Blk (((((((W2.setCell ⟨w.heap.size + 1, 0, none⟩ (.int .i64 0)).setCell ⟨w.heap.size + 1, 1, none⟩ (.int .i64 0)).setCell ⟨w.heap.size + 1, 2, none⟩ (.slice none 0 0)).setCell ⟨w.heap.size + 1, 3, none⟩ (.slice none 0 0)).setCell ⟨w.heap.size + 1, 4, none⟩ (.slice none 0 0)).setCell ⟨w.heap.size + 1, 5, none⟩ (.int .i64 0)).setCell ⟨w.heap.size + 1, 6, none⟩ (.int .i64 0)) (w.heap.size) 26 #[.int .i64 ep, .int .i64 ld, .slice (some ⟨b1, o1, none⟩) is.length c1, .slice (some ⟨b3, o3, none⟩) ks.length c3, .slice (some ⟨b5, o5, none⟩) rs.length c5, .int .i64 fw, .int .i64 ba] := (((((((B2_bx.out).far (p := ⟨w.heap.size + 1, 0, none⟩) (by show w.heap.size ≠ w.heap.size + 1; omega) _).far (p := ⟨w.heap.size + 1, 1, none⟩) (by show w.heap.size ≠ w.heap.size + 1; omega) _).far (p := ⟨w.heap.size + 1, 2, none⟩) (by show w.heap.size ≠ w.heap.size + 1; omega) _).far (p := ⟨w.heap.size + 1, 3, none⟩) (by show w.heap.size ≠ w.heap.size + 1; omega) _).far (p := ⟨w.heap.size + 1, 4, none⟩) (by show w.heap.size ≠ w.heap.size + 1; omega) _).far (p := ⟨w.heap.size + 1, 5, none⟩) (by show w.heap.size ≠ w.heap.size + 1; omega) _).far (p := ⟨w.heap.size + 1, 6, none⟩) (by show w.heap.size ≠ w.heap.size + 1; omega) _
  have b_bzF : Blk (((((((W2.setCell ⟨w.heap.size + 1, 0, none⟩ (.int .i64 0)).setCell ⟨w.heap.size + 1, 1, none⟩ (.int .i64 0)).setCell ⟨w.heap.size + 1, 2, none⟩ (.slice none 0 0)).setCell ⟨w.heap.size + 1, 3, none⟩ (.slice none 0 0)).setCell ⟨w.heap.size + 1, 4, none⟩ (.slice none 0 0)).setCell ⟨w.heap.size + 1, 5, none⟩ (.int .i64 0)).setCell ⟨w.heap.size + 1, 6, none⟩ (.int .i64 0)) (w.heap.size + 1) 26 #[.int .i64 0, .int .i64 0, .slice none 0 0, .slice none 0 0, .slice none 0 0, .int .i64 0, .int .i64 0] := (((((((B2_bz.out).set_ 0 _).set_ 1 _).set_ 2 _).set_ 3 _).set_ 4 _).set_ 5 _).set_ 6 _
  have y0 := b_bzF.cell 0
  have y1 := b_bzF.cell 1
  have y2 := b_bzF.cell 2
  have y3 := b_bzF.cell 3
  have y4 := b_bzF.cell 4
  have y5 := b_bzF.cell 5
  have y6 := b_bzF.cell 6
  exact bodyPost_ret (v := .tuple #[.agg #[.int .i64 0, .int .i64 0, .slice none 0 0, .slice none 0 0, .slice none 0 0, .int .i64 0, .int .i64 0], .int .i64 6]) (by simp [results, Try.results59, go_sem, y0, y1, y2, y3, y4, y5, y6]) rfl (⟨rfl, hbF⟩)
set_option maxRecDepth 100000 in
set_option maxHeartbeats 4000000 in
theorem electedOf_full (v : Value) (c : PartD) (i : Nat) (hn : PartOk c) (hi : i < c.reps.length) (hu : c.reps[i].up = true) (hj : i < c.isr.length) (hs : c.isr[i] = true) (hl : c.leader ≠ i) (he : c.epoch = 1073741824) (w : World) (h : Pv w v c) : Calls Try.prog 59 #[v, .int .i64 i] w (RefusesP 2 w) := by
  have eqk := hn.known
  have eqi := hn.isr
  obtain ⟨xi, xk, xr, rfl, ix, kx, rx, hli, hlk, hlr⟩ := id h
  obtain ⟨A5, c5, rfl, hc5, hx5⟩ := rx.at_
  obtain ⟨A1, c1, rfl, hc1, hx1⟩ := ix.at_
  obtain ⟨A3, c3, rfl, hc3, hx3⟩ := kx.at_
  have H := Lib.hid h
  clear h ix kx rx
  unfold partV at *
  obtain ⟨ep, ld, is, ks, rs, fw, ba⟩ := c
  simp only at *
  have HN := Lib.hid hn
  have HSM := Lib.hid hn.small
  clear hn
  (try simp only at eqk eqi)
  have E1 := Lib.hid eqi
  have E2 := Lib.hid eqk
  have i0 : (0 : Int) ≤ (i : Int) := by omega
  have i1 : (i : Int) < (rs.length : Int) := Int.ofNat_lt.2 hi
  have i2 : (i : Int) < (is.length : Int) := by omega
  have i3 : (i : Int) < (ks.length : Int) := by omega
  have j2 : i < is.length := by omega
  have j3 : i < ks.length := by omega
  clear eqk eqi
  obtain ⟨b5, o5, rfl, hb5, hcell5⟩ := hx5 (Nat.lt_of_le_of_lt (Nat.zero_le _) hi)
  obtain ⟨pv, x0, x1, x2, x3, xb, xl⟩ := hcell5 i hi
  obtain ⟨b1, o1, rfl, hb1, hcell1⟩ := hx1 (by omega)
  have y0 := hcell1 i (by omega)
  obtain ⟨b3, o3, rfl, hb3, hcell3⟩ := hx3 (by omega)
  have u0 := hcell3 i (by omega)
  have XC := Lib.hid (And.intro x0 (And.intro x3 (And.intro y0 u0)))
  clear hcell5 hcell1 hcell3 x0 x1 x2 x3 xb xl y0 u0 hx1 hx3 hx5
  have hup : rs[i].up = true := hu
  have HU := Lib.hid hup
  clear hu hup
  have hib : is[i] = true := hs
  have HS := Lib.hid hib
  clear hs hib
  have y9 : (ld == (i : Int)) = false := beq_eq_false_iff_ne.2 hl
  clear hl
  have y8 : (ep == 1073741824) = true := beq_iff_eq.2 he
  clear he
  go_enter Try.func59, Try.ntmps59
  go_wp2_with fail
  have hb1 : Below w.heap.size w ((w.alloc (.cells #[.int .i64 ep, .int .i64 ld, .slice (some ⟨b1, o1, none⟩) is.length c1, .slice (some ⟨b3, o3, none⟩) ks.length c3, .slice (some ⟨b5, o5, none⟩) rs.length c5, .int .i64 fw, .int .i64 ba] 26)).alloc (.cells #[.int .i64 0, .int .i64 0, .slice none 0 0, .slice none 0 0, .slice none 0 0, .int .i64 0, .int .i64 0] 26)) := ((Below.refl _ _).alloc (by first | omega | (simp; done) | (simp; omega)) _).alloc (by first | omega | (simp; done) | (simp; omega)) _
  have hal1 : Below w.heap.size w ((w.alloc (.cells #[.int .i64 ep, .int .i64 ld, .slice (some ⟨b1, o1, none⟩) is.length c1, .slice (some ⟨b3, o3, none⟩) ks.length c3, .slice (some ⟨b5, o5, none⟩) rs.length c5, .int .i64 fw, .int .i64 ba] 26)).alloc (.cells #[.int .i64 0, .int .i64 0, .slice none 0 0, .slice none 0 0, .slice none 0 0, .int .i64 0, .int .i64 0] 26)) := ((Below.refl _ _).alloc (by first | omega | (simp; done) | (simp; omega)) _).alloc (by first | omega | (simp; done) | (simp; omega)) _
  have b_bx1 : Blk ((w.alloc (.cells #[.int .i64 ep, .int .i64 ld, .slice (some ⟨b1, o1, none⟩) is.length c1, .slice (some ⟨b3, o3, none⟩) ks.length c3, .slice (some ⟨b5, o5, none⟩) rs.length c5, .int .i64 fw, .int .i64 ba] 26)).alloc (.cells #[.int .i64 0, .int .i64 0, .slice none 0 0, .slice none 0 0, .slice none 0 0, .int .i64 0, .int .i64 0] 26)) (w.heap.size) 26 #[.int .i64 ep, .int .i64 ld, .slice (some ⟨b1, o1, none⟩) is.length c1, .slice (some ⟨b3, o3, none⟩) ks.length c3, .slice (some ⟨b5, o5, none⟩) rs.length c5, .int .i64 fw, .int .i64 ba] := (Blk.new_ _ 26 #[.int .i64 ep, .int .i64 ld, .slice (some ⟨b1, o1, none⟩) is.length c1, .slice (some ⟨b3, o3, none⟩) ks.length c3, .slice (some ⟨b5, o5, none⟩) rs.length c5, .int .i64 fw, .int .i64 ba] (by first | rfl | (simp; done) | (simp; omega))).alloc _
  have b_bz1 : Blk ((w.alloc (.cells #[.int .i64 ep, .int .i64 ld, .slice (some ⟨b1, o1, none⟩) is.length c1, .slice (some ⟨b3, o3, none⟩) ks.length c3, .slice (some ⟨b5, o5, none⟩) rs.length c5, .int .i64 fw, .int .i64 ba] 26)).alloc (.cells #[.int .i64 0, .int .i64 0, .slice none 0 0, .slice none 0 0, .slice none 0 0, .int .i64 0, .int .i64 0] 26)) (w.heap.size + 1) 26 #[.int .i64 0, .int .i64 0, .slice none 0 0, .slice none 0 0, .slice none 0 0, .int .i64 0, .int .i64 0] := Blk.new_ _ 26 #[.int .i64 0, .int .i64 0, .slice none 0 0, .slice none 0 0, .slice none 0 0, .int .i64 0, .int .i64 0] (by first | rfl | (simp; done) | (simp; omega))
  have k_v1 := H.out.below hal1
  have hz1 : w.heap.size + 2 ≤ ((w.alloc (.cells #[.int .i64 ep, .int .i64 ld, .slice (some ⟨b1, o1, none⟩) is.length c1, .slice (some ⟨b3, o3, none⟩) ks.length c3, .slice (some ⟨b5, o5, none⟩) rs.length c5, .int .i64 fw, .int .i64 ba] 26)).alloc (.cells #[.int .i64 0, .int .i64 0, .slice none 0 0, .slice none 0 0, .slice none 0 0, .int .i64 0, .int .i64 0] 26)).heap.size := by first | omega | (simp; done) | (simp; omega)
  generalize (w.alloc (.cells #[.int .i64 ep, .int .i64 ld, .slice (some ⟨b1, o1, none⟩) is.length c1, .slice (some ⟨b3, o3, none⟩) ks.length c3, .slice (some ⟨b5, o5, none⟩) rs.length c5, .int .i64 fw, .int .i64 ba] 26)).alloc (.cells #[.int .i64 0, .int .i64 0, .slice none 0 0, .slice none 0 0, .slice none 0 0, .int .i64 0, .int .i64 0] 26) = W1 at *
  have HB1 := Lib.hid hb1
  have B1_bx := Lib.hid b_bx1
  have B1_bz := Lib.hid b_bz1
  have K1_v := Lib.hid k_v1
  clear hb1 b_bx1 b_bz1 k_v1
  clear H
  refine (partFault_ok _ ⟨ep, ld, is, ks, rs, fw, ba⟩ i HN.out hi _ K1_v.out).mono ?_
  rintro e W2 ⟨rfl, hb⟩
  have hb2 : Below w.heap.size w W2 := below_then HB1.out hb
  have b_bx2 := B1_bx.out.below hb B1_bx.out.lt
  have b_bz2 := B1_bz.out.below hb B1_bz.out.lt
  have k_v2 := K1_v.out.below hb
  have hz2 := hb.size
  have HB2 := Lib.hid hb2
  have B2_bx := Lib.hid b_bx2
  have B2_bz := Lib.hid b_bz2
  have K2_v := Lib.hid k_v2
  clear hb2 b_bx2 b_bz2 k_v2
  clear B1_bx B1_bz HB1 K1_v
  have c_bx0 := B2_bx.out.cell 0
  have c_bx1 := B2_bx.out.cell 1
  have c_bx2 := B2_bx.out.cell 2
  have c_bx3 := B2_bx.out.cell 3
  have c_bx4 := B2_bx.out.cell 4
  have c_bx5 := B2_bx.out.cell 5
  have c_bx6 := B2_bx.out.cell 6
  have l_bx := B2_bx.out.lt
  have v0 := (HB2.out.cell (p := ⟨b5, o5 + i * 4, none⟩) hb5).trans XC.out.1
  have v3 := (HB2.out.cell (p := ⟨b5, o5 + i * 4 + 3, none⟩) hb5).trans XC.out.2.1
  have v1 := (HB2.out.cell (p := ⟨b1, o1 + i, none⟩) hb1).trans XC.out.2.2.1
  have v2 := (HB2.out.cell (p := ⟨b3, o3 + i, none⟩) hb3).trans XC.out.2.2.2
  have vl5 := Nat.lt_of_lt_of_le hb5 HB2.out.size
  have vl1 := Nat.lt_of_lt_of_le hb1 HB2.out.size
  have vl3 := Nat.lt_of_lt_of_le hb3 HB2.out.size
  rw [HU.out] at v0
  rw [HS.out] at v1
  have c_bz0 := B2_bz.out.cell 0
  have f_bz0 := B2_bz.out.frozen 0
  have c_bz1 := B2_bz.out.cell 1
  have f_bz1 := B2_bz.out.frozen 1
  have c_bz2 := B2_bz.out.cell 2
  have f_bz2 := B2_bz.out.frozen 2
  have c_bz3 := B2_bz.out.cell 3
  have f_bz3 := B2_bz.out.frozen 3
  have c_bz4 := B2_bz.out.cell 4
  have f_bz4 := B2_bz.out.frozen 4
  have c_bz5 := B2_bz.out.cell 5
  have f_bz5 := B2_bz.out.frozen 5
  have c_bz6 := B2_bz.out.cell 6
  have f_bz6 := B2_bz.out.frozen 6
  have l_bz := B2_bz.out.lt
  go_wp2_with fail
  clear c_bx0 c_bx1 c_bx2 c_bx3 c_bx4 c_bx5 c_bx6 l_bx v0 v3 v1 v2 vl5 vl1 vl3 c_bz0 f_bz0 c_bz1 f_bz1 c_bz2 f_bz2 c_bz3 f_bz3 c_bz4 f_bz4 c_bz5 f_bz5 c_bz6 f_bz6 l_bz
  have hszF := HB2.out.size
  have hbF : Below w.heap.size w (((((((W2.setCell ⟨w.heap.size + 1, 0, none⟩ (.int .i64 0)).setCell ⟨w.heap.size + 1, 1, none⟩ (.int .i64 0)).setCell ⟨w.heap.size + 1, 2, none⟩ (.slice none 0 0)).setCell ⟨w.heap.size + 1, 3, none⟩ (.slice none 0 0)).setCell ⟨w.heap.size + 1, 4, none⟩ (.slice none 0 0)).setCell ⟨w.heap.size + 1, 5, none⟩ (.int .i64 0)).setCell ⟨w.heap.size + 1, 6, none⟩ (.int .i64 0)) := (((((((HB2.out).setCell (by show w.heap.size ≤ w.heap.size + 1; omega) _).setCell (by show w.heap.size ≤ w.heap.size + 1; omega) _).setCell (by show w.heap.size ≤ w.heap.size + 1; omega) _).setCell (by show w.heap.size ≤ w.heap.size + 1; omega) _).setCell (by show w.heap.size ≤ w.heap.size + 1; omega) _).setCell (by show w.heap.size ≤ w.heap.size + 1; omega) _).setCell (by show w.heap.size ≤ w.heap.size + 1; omega) _
  have b_bxF : Blk (((((((W2.setCell ⟨w.heap.size + 1, 0, none⟩ (.int .i64 0)).setCell ⟨w.heap.size + 1, 1, none⟩ (.int .i64 0)).setCell ⟨w.heap.size + 1, 2, none⟩ (.slice none 0 0)).setCell ⟨w.heap.size + 1, 3, none⟩ (.slice none 0 0)).setCell ⟨w.heap.size + 1, 4, none⟩ (.slice none 0 0)).setCell ⟨w.heap.size + 1, 5, none⟩ (.int .i64 0)).setCell ⟨w.heap.size + 1, 6, none⟩ (.int .i64 0)) (w.heap.size) 26 #[.int .i64 ep, .int .i64 ld, .slice (some ⟨b1, o1, none⟩) is.length c1, .slice (some ⟨b3, o3, none⟩) ks.length c3, .slice (some ⟨b5, o5, none⟩) rs.length c5, .int .i64 fw, .int .i64 ba] := (((((((B2_bx.out).far (p := ⟨w.heap.size + 1, 0, none⟩) (by show w.heap.size ≠ w.heap.size + 1; omega) _).far (p := ⟨w.heap.size + 1, 1, none⟩) (by show w.heap.size ≠ w.heap.size + 1; omega) _).far (p := ⟨w.heap.size + 1, 2, none⟩) (by show w.heap.size ≠ w.heap.size + 1; omega) _).far (p := ⟨w.heap.size + 1, 3, none⟩) (by show w.heap.size ≠ w.heap.size + 1; omega) _).far (p := ⟨w.heap.size + 1, 4, none⟩) (by show w.heap.size ≠ w.heap.size + 1; omega) _).far (p := ⟨w.heap.size + 1, 5, none⟩) (by show w.heap.size ≠ w.heap.size + 1; omega) _).far (p := ⟨w.heap.size + 1, 6, none⟩) (by show w.heap.size ≠ w.heap.size + 1; omega) _
  have b_bzF : Blk (((((((W2.setCell ⟨w.heap.size + 1, 0, none⟩ (.int .i64 0)).setCell ⟨w.heap.size + 1, 1, none⟩ (.int .i64 0)).setCell ⟨w.heap.size + 1, 2, none⟩ (.slice none 0 0)).setCell ⟨w.heap.size + 1, 3, none⟩ (.slice none 0 0)).setCell ⟨w.heap.size + 1, 4, none⟩ (.slice none 0 0)).setCell ⟨w.heap.size + 1, 5, none⟩ (.int .i64 0)).setCell ⟨w.heap.size + 1, 6, none⟩ (.int .i64 0)) (w.heap.size + 1) 26 #[.int .i64 0, .int .i64 0, .slice none 0 0, .slice none 0 0, .slice none 0 0, .int .i64 0, .int .i64 0] := (((((((B2_bz.out).set_ 0 _).set_ 1 _).set_ 2 _).set_ 3 _).set_ 4 _).set_ 5 _).set_ 6 _
  have y0 := b_bzF.cell 0
  have y1 := b_bzF.cell 1
  have y2 := b_bzF.cell 2
  have y3 := b_bzF.cell 3
  have y4 := b_bzF.cell 4
  have y5 := b_bzF.cell 5
  have y6 := b_bzF.cell 6
  exact bodyPost_ret (v := .tuple #[.agg #[.int .i64 0, .int .i64 0, .slice none 0 0, .slice none 0 0, .slice none 0 0, .int .i64 0, .int .i64 0], .int .i64 2]) (by simp [results, Try.results59, go_sem, y0, y1, y2, y3, y4, y5, y6]) rfl (⟨rfl, hbF⟩)
set_option maxRecDepth 100000 in
set_option maxHeartbeats 4000000 in
theorem electedOf_good (v : Value) (c : PartD) (i : Nat) (hn : PartOk c) (hi : i < c.reps.length) (hu : c.reps[i].up = true) (hj : i < c.isr.length) (hs : c.isr[i] = true) (hl : c.leader ≠ i) (he : c.epoch ≠ 1073741824) (w : World) (h : Pv w v c) : Calls Try.prog 59 #[v, .int .i64 i] w (OwnsP (advD ⟨c.epoch + 1, (i : Int), c.isr, (List.replicate c.reps.length (0 : Int)).set i (c.reps[i].safe : Int), c.reps, c.few, (c.reps[i].all : Int)⟩) w) := by
  have eqk := hn.known
  have eqi := hn.isr
  obtain ⟨xi, xk, xr, rfl, ix, kx, rx, hli, hlk, hlr⟩ := id h
  obtain ⟨A5, c5, rfl, hc5, hx5⟩ := rx.at_
  obtain ⟨A1, c1, rfl, hc1, hx1⟩ := ix.at_
  obtain ⟨A3, c3, rfl, hc3, hx3⟩ := kx.at_
  have H := Lib.hid h
  have HV0 := Lib.hid h
  clear h ix kx rx
  unfold partV at *
  obtain ⟨ep, ld, is, ks, rs, fw, ba⟩ := c
  simp only at *
  have HN := Lib.hid hn
  have HSM := Lib.hid hn.small
  clear hn
  (try simp only at eqk eqi)
  have E1 := Lib.hid eqi
  have E2 := Lib.hid eqk
  have i0 : (0 : Int) ≤ (i : Int) := by omega
  have i1 : (i : Int) < (rs.length : Int) := Int.ofNat_lt.2 hi
  have i2 : (i : Int) < (is.length : Int) := by omega
  have i3 : (i : Int) < (ks.length : Int) := by omega
  have j2 : i < is.length := by omega
  have j3 : i < ks.length := by omega
  clear eqk eqi
  obtain ⟨b5, o5, rfl, hb5, hcell5⟩ := hx5 (Nat.lt_of_le_of_lt (Nat.zero_le _) hi)
  obtain ⟨pv, x0, x1, x2, x3, xb, xl⟩ := hcell5 i hi
  obtain ⟨b1, o1, rfl, hb1, hcell1⟩ := hx1 (by omega)
  have y0 := hcell1 i (by omega)
  obtain ⟨b3, o3, rfl, hb3, hcell3⟩ := hx3 (by omega)
  have u0 := hcell3 i (by omega)
  have XC := Lib.hid (And.intro x0 (And.intro x3 (And.intro y0 u0)))
  clear hcell5 hcell1 hcell3 x0 x1 x2 x3 xb xl y0 u0 hx1 hx3 hx5
  have hup : rs[i].up = true := hu
  have HU := Lib.hid hup
  clear hu hup
  have hib : is[i] = true := hs
  have HS := Lib.hid hib
  clear hs hib
  have y9 : (ld == (i : Int)) = false := beq_eq_false_iff_ne.2 hl
  clear hl
  have y8 : (ep == 1073741824) = false := beq_eq_false_iff_ne.2 he
  have e0 : 0 ≤ ep := HN.out.epoch.1
  have e1 : ep < 1073741824 := by have : ep ≤ 1073741824 := HN.out.epoch.2; omega
  clear he
  obtain ⟨es, j, hlog⟩ := HN.out.log i hi
  have HLG := Lib.hid hlog
  have HA := Lib.hid (RepD.ents hlog).1
  have HSF := Lib.hid (RepD.ents hlog).2
  clear hlog
  have rl5 : rs.length ≤ 5 := HSM.out.reps
  have rl0 : 0 < rs.length := Nat.lt_of_le_of_lt (Nat.zero_le _) hi
  go_enter Try.func59, Try.ntmps59
  go_wp2_with fail
  have hb1 : Below w.heap.size w ((w.alloc (.cells #[.int .i64 ep, .int .i64 ld, .slice (some ⟨b1, o1, none⟩) is.length c1, .slice (some ⟨b3, o3, none⟩) ks.length c3, .slice (some ⟨b5, o5, none⟩) rs.length c5, .int .i64 fw, .int .i64 ba] 26)).alloc (.cells #[.int .i64 0, .int .i64 0, .slice none 0 0, .slice none 0 0, .slice none 0 0, .int .i64 0, .int .i64 0] 26)) := ((Below.refl _ _).alloc (by first | omega | (simp; done) | (simp; omega)) _).alloc (by first | omega | (simp; done) | (simp; omega)) _
  have hal1 : Below w.heap.size w ((w.alloc (.cells #[.int .i64 ep, .int .i64 ld, .slice (some ⟨b1, o1, none⟩) is.length c1, .slice (some ⟨b3, o3, none⟩) ks.length c3, .slice (some ⟨b5, o5, none⟩) rs.length c5, .int .i64 fw, .int .i64 ba] 26)).alloc (.cells #[.int .i64 0, .int .i64 0, .slice none 0 0, .slice none 0 0, .slice none 0 0, .int .i64 0, .int .i64 0] 26)) := ((Below.refl _ _).alloc (by first | omega | (simp; done) | (simp; omega)) _).alloc (by first | omega | (simp; done) | (simp; omega)) _
  have b_bx1 : Blk ((w.alloc (.cells #[.int .i64 ep, .int .i64 ld, .slice (some ⟨b1, o1, none⟩) is.length c1, .slice (some ⟨b3, o3, none⟩) ks.length c3, .slice (some ⟨b5, o5, none⟩) rs.length c5, .int .i64 fw, .int .i64 ba] 26)).alloc (.cells #[.int .i64 0, .int .i64 0, .slice none 0 0, .slice none 0 0, .slice none 0 0, .int .i64 0, .int .i64 0] 26)) (w.heap.size) 26 #[.int .i64 ep, .int .i64 ld, .slice (some ⟨b1, o1, none⟩) is.length c1, .slice (some ⟨b3, o3, none⟩) ks.length c3, .slice (some ⟨b5, o5, none⟩) rs.length c5, .int .i64 fw, .int .i64 ba] := (Blk.new_ _ 26 #[.int .i64 ep, .int .i64 ld, .slice (some ⟨b1, o1, none⟩) is.length c1, .slice (some ⟨b3, o3, none⟩) ks.length c3, .slice (some ⟨b5, o5, none⟩) rs.length c5, .int .i64 fw, .int .i64 ba] (by first | rfl | (simp; done) | (simp; omega))).alloc _
  have b_bz1 : Blk ((w.alloc (.cells #[.int .i64 ep, .int .i64 ld, .slice (some ⟨b1, o1, none⟩) is.length c1, .slice (some ⟨b3, o3, none⟩) ks.length c3, .slice (some ⟨b5, o5, none⟩) rs.length c5, .int .i64 fw, .int .i64 ba] 26)).alloc (.cells #[.int .i64 0, .int .i64 0, .slice none 0 0, .slice none 0 0, .slice none 0 0, .int .i64 0, .int .i64 0] 26)) (w.heap.size + 1) 26 #[.int .i64 0, .int .i64 0, .slice none 0 0, .slice none 0 0, .slice none 0 0, .int .i64 0, .int .i64 0] := Blk.new_ _ 26 #[.int .i64 0, .int .i64 0, .slice none 0 0, .slice none 0 0, .slice none 0 0, .int .i64 0, .int .i64 0] (by first | rfl | (simp; done) | (simp; omega))
  have k_v1 := H.out.below hal1
  have hz1 : w.heap.size + 2 ≤ ((w.alloc (.cells #[.int .i64 ep, .int .i64 ld, .slice (some ⟨b1, o1, none⟩) is.length c1, .slice (some ⟨b3, o3, none⟩) ks.length c3, .slice (some ⟨b5, o5, none⟩) rs.length c5, .int .i64 fw, .int .i64 ba] 26)).alloc (.cells #[.int .i64 0, .int .i64 0, .slice none 0 0, .slice none 0 0, .slice none 0 0, .int .i64 0, .int .i64 0] 26)).heap.size := by first | omega | (simp; done) | (simp; omega)
  generalize (w.alloc (.cells #[.int .i64 ep, .int .i64 ld, .slice (some ⟨b1, o1, none⟩) is.length c1, .slice (some ⟨b3, o3, none⟩) ks.length c3, .slice (some ⟨b5, o5, none⟩) rs.length c5, .int .i64 fw, .int .i64 ba] 26)).alloc (.cells #[.int .i64 0, .int .i64 0, .slice none 0 0, .slice none 0 0, .slice none 0 0, .int .i64 0, .int .i64 0] 26) = W1 at *
  have HB1 := Lib.hid hb1
  have B1_bx := Lib.hid b_bx1
  have B1_bz := Lib.hid b_bz1
  have K1_v := Lib.hid k_v1
  clear hb1 b_bx1 b_bz1 k_v1
  clear H
  refine (partFault_ok _ ⟨ep, ld, is, ks, rs, fw, ba⟩ i HN.out hi _ K1_v.out).mono ?_
  rintro e W2 ⟨rfl, hb⟩
  have hb2 : Below w.heap.size w W2 := below_then HB1.out hb
  have b_bx2 := B1_bx.out.below hb B1_bx.out.lt
  have b_bz2 := B1_bz.out.below hb B1_bz.out.lt
  have k_v2 := K1_v.out.below hb
  have hz2 := hb.size
  have HB2 := Lib.hid hb2
  have B2_bx := Lib.hid b_bx2
  have B2_bz := Lib.hid b_bz2
  have K2_v := Lib.hid k_v2
  clear hb2 b_bx2 b_bz2 k_v2
  clear B1_bx B1_bz HB1 K1_v
  have c_bx0 := B2_bx.out.cell 0
  have c_bx1 := B2_bx.out.cell 1
  have c_bx2 := B2_bx.out.cell 2
  have c_bx3 := B2_bx.out.cell 3
  have c_bx4 := B2_bx.out.cell 4
  have c_bx5 := B2_bx.out.cell 5
  have c_bx6 := B2_bx.out.cell 6
  have l_bx := B2_bx.out.lt
  have v0 := (HB2.out.cell (p := ⟨b5, o5 + i * 4, none⟩) hb5).trans XC.out.1
  have v3 := (HB2.out.cell (p := ⟨b5, o5 + i * 4 + 3, none⟩) hb5).trans XC.out.2.1
  have v1 := (HB2.out.cell (p := ⟨b1, o1 + i, none⟩) hb1).trans XC.out.2.2.1
  have v2 := (HB2.out.cell (p := ⟨b3, o3 + i, none⟩) hb3).trans XC.out.2.2.2
  have vl5 := Nat.lt_of_lt_of_le hb5 HB2.out.size
  have vl1 := Nat.lt_of_lt_of_le hb1 HB2.out.size
  have vl3 := Nat.lt_of_lt_of_le hb3 HB2.out.size
  rw [HU.out] at v0
  rw [HS.out] at v1
  go_wp2_with fail
  clear c_bx0 c_bx1 c_bx2 c_bx3 c_bx4 c_bx5 c_bx6 l_bx v0 v3 v1 v2 vl5 vl1 vl3
  refine (refPartCopy_ok (c := ⟨ep, ld, is, ks, rs, fw, ba⟩) (K2_v.out) HSM.out).mono ?_
  rintro e W3 ⟨iv, kv, rv, rfl, ho, hb⟩
  obtain ⟨gi, d1, gk, d3, gr, d5, rfl, rfl, rfl, hgi, hgk, hgr, hgi', hgk', hgr'⟩ := ho.rows (by have := HN.out.isr; have := HN.out.many; simp only at *; omega) (by have := HN.out.known; have := HN.out.many; simp only at *; omega) (by have := HN.out.many; simp only at *; omega)
  unfold partV
  simp only at *
  have HO := Lib.hid ho
  clear ho
  have hb3 : Below w.heap.size w W3 := below_then HB2.out hb
  have b_bx3 := B2_bx.out.below hb B2_bx.out.lt
  have b_bz3 := B2_bz.out.below hb B2_bz.out.lt
  have k_v3 := K2_v.out.below hb
  have hz3 := hb.size
  have HB3 := Lib.hid hb3
  have B3_bx := Lib.hid b_bx3
  have B3_bz := Lib.hid b_bz3
  have K3_v := Lib.hid k_v3
  clear hb3 b_bx3 b_bz3 k_v3
  clear B2_bx B2_bz HB2 K2_v
  go_upto_region 13 with fail
  have hsz4 := HB3.out.size
  have hb4 : Below w.heap.size w (W3.alloc (.cells #[.int .i64 ep, .int .i64 ld, .slice (some ⟨gi, 0, none⟩) is.length d1, .slice (some ⟨gk, 0, none⟩) ks.length d3, .slice (some ⟨gr, 0, none⟩) rs.length d5, .int .i64 fw, .int .i64 ba] 26)) := (HB3.out).alloc (by first | omega | (simp; done) | (simp; omega)) _
  have hal4 : Below W3.heap.size W3 (W3.alloc (.cells #[.int .i64 ep, .int .i64 ld, .slice (some ⟨gi, 0, none⟩) is.length d1, .slice (some ⟨gk, 0, none⟩) ks.length d3, .slice (some ⟨gr, 0, none⟩) rs.length d5, .int .i64 fw, .int .i64 ba] 26)) := (Below.refl _ _).alloc (by first | omega | (simp; done) | (simp; omega)) _
  have b_bx4 : Blk (W3.alloc (.cells #[.int .i64 ep, .int .i64 ld, .slice (some ⟨gi, 0, none⟩) is.length d1, .slice (some ⟨gk, 0, none⟩) ks.length d3, .slice (some ⟨gr, 0, none⟩) rs.length d5, .int .i64 fw, .int .i64 ba] 26)) (w.heap.size) 26 #[.int .i64 ep, .int .i64 ld, .slice (some ⟨b1, o1, none⟩) is.length c1, .slice (some ⟨b3, o3, none⟩) ks.length c3, .slice (some ⟨b5, o5, none⟩) rs.length c5, .int .i64 fw, .int .i64 ba] := (B3_bx.out).alloc _
  have b_bz4 : Blk (W3.alloc (.cells #[.int .i64 ep, .int .i64 ld, .slice (some ⟨gi, 0, none⟩) is.length d1, .slice (some ⟨gk, 0, none⟩) ks.length d3, .slice (some ⟨gr, 0, none⟩) rs.length d5, .int .i64 fw, .int .i64 ba] 26)) (w.heap.size + 1) 26 #[.int .i64 0, .int .i64 0, .slice none 0 0, .slice none 0 0, .slice none 0 0, .int .i64 0, .int .i64 0] := (B3_bz.out).alloc _
  have b_out4 : Blk (W3.alloc (.cells #[.int .i64 ep, .int .i64 ld, .slice (some ⟨gi, 0, none⟩) is.length d1, .slice (some ⟨gk, 0, none⟩) ks.length d3, .slice (some ⟨gr, 0, none⟩) rs.length d5, .int .i64 fw, .int .i64 ba] 26)) (W3.heap.size) 26 #[.int .i64 ep, .int .i64 ld, .slice (some ⟨gi, 0, none⟩) is.length d1, .slice (some ⟨gk, 0, none⟩) ks.length d3, .slice (some ⟨gr, 0, none⟩) rs.length d5, .int .i64 fw, .int .i64 ba] := Blk.new_ _ 26 #[.int .i64 ep, .int .i64 ld, .slice (some ⟨gi, 0, none⟩) is.length d1, .slice (some ⟨gk, 0, none⟩) ks.length d3, .slice (some ⟨gr, 0, none⟩) rs.length d5, .int .i64 fw, .int .i64 ba] (by first | rfl | (simp; done) | (simp; omega))
  have k_own4 := (HO.out).alloc (.cells #[.int .i64 ep, .int .i64 ld, .slice (some ⟨gi, 0, none⟩) is.length d1, .slice (some ⟨gk, 0, none⟩) ks.length d3, .slice (some ⟨gr, 0, none⟩) rs.length d5, .int .i64 fw, .int .i64 ba] 26)
  have hz4 : W3.heap.size + 1 ≤ (W3.alloc (.cells #[.int .i64 ep, .int .i64 ld, .slice (some ⟨gi, 0, none⟩) is.length d1, .slice (some ⟨gk, 0, none⟩) ks.length d3, .slice (some ⟨gr, 0, none⟩) rs.length d5, .int .i64 fw, .int .i64 ba] 26)).heap.size := by first | omega | (simp; done) | (simp; omega)
  generalize W3.alloc (.cells #[.int .i64 ep, .int .i64 ld, .slice (some ⟨gi, 0, none⟩) is.length d1, .slice (some ⟨gk, 0, none⟩) ks.length d3, .slice (some ⟨gr, 0, none⟩) rs.length d5, .int .i64 fw, .int .i64 ba] 26) = W4 at *
  have HB4 := Lib.hid hb4
  have B4_bx := Lib.hid b_bx4
  have B4_bz := Lib.hid b_bz4
  have B4_out := Lib.hid b_out4
  have K4_own := Lib.hid k_own4
  clear hb4 b_bx4 b_bz4 b_out4 k_own4
  clear B3_bx B3_bz HB3 HO
  have c_out0 := B4_out.out.cell 0
  have f_out0 := B4_out.out.frozen 0
  have c_out1 := B4_out.out.cell 1
  have f_out1 := B4_out.out.frozen 1
  have c_out2 := B4_out.out.cell 2
  have f_out2 := B4_out.out.frozen 2
  have c_out3 := B4_out.out.cell 3
  have f_out3 := B4_out.out.frozen 3
  have c_out4 := B4_out.out.cell 4
  have f_out4 := B4_out.out.frozen 4
  have c_out5 := B4_out.out.cell 5
  have f_out5 := B4_out.out.frozen 5
  have c_out6 := B4_out.out.cell 6
  have f_out6 := B4_out.out.frozen 6
  have l_out := B4_out.out.lt
  obtain ⟨A7, c7, ⟨r0, r1, r2, r3⟩, ⟨rf0, rf1, rf2, rf3⟩, rby⟩ := K4_own.out.repAt i hi
  obtain ⟨s0, sf0⟩ := K4_own.out.isrAt i j2
  obtain ⟨t0, tf0⟩ := K4_own.out.knownAt i j3
  (try simp only at r0 r1 r2 r3 rby s0 t0)
  go_upto_region 15 with fail
  clear c_out0 f_out0 c_out1 f_out1 c_out2 f_out2 c_out3 f_out3 c_out4 f_out4 c_out5 f_out5 c_out6 f_out6 l_out r0 r1 r2 r3 rf0 rf1 rf2 rf3 rby s0 sf0 t0 tf0
  have hsz5 := HB4.out.size
  have hb5 : Below w.heap.size w ((W4.setCell ⟨W3.heap.size, 0, none⟩ (.int .i64 (ep + 1))).setCell ⟨W3.heap.size, 1, none⟩ (.int .i64 i)) := ((HB4.out).setCell (by show w.heap.size ≤ W3.heap.size; omega) _).setCell (by show w.heap.size ≤ W3.heap.size; omega) _
  have b_bx5 : Blk ((W4.setCell ⟨W3.heap.size, 0, none⟩ (.int .i64 (ep + 1))).setCell ⟨W3.heap.size, 1, none⟩ (.int .i64 i)) (w.heap.size) 26 #[.int .i64 ep, .int .i64 ld, .slice (some ⟨b1, o1, none⟩) is.length c1, .slice (some ⟨b3, o3, none⟩) ks.length c3, .slice (some ⟨b5, o5, none⟩) rs.length c5, .int .i64 fw, .int .i64 ba] := ((B4_bx.out).far (p := ⟨W3.heap.size, 0, none⟩) (by show w.heap.size ≠ W3.heap.size; omega) _).far (p := ⟨W3.heap.size, 1, none⟩) (by show w.heap.size ≠ W3.heap.size; omega) _
  have b_bz5 : Blk ((W4.setCell ⟨W3.heap.size, 0, none⟩ (.int .i64 (ep + 1))).setCell ⟨W3.heap.size, 1, none⟩ (.int .i64 i)) (w.heap.size + 1) 26 #[.int .i64 0, .int .i64 0, .slice none 0 0, .slice none 0 0, .slice none 0 0, .int .i64 0, .int .i64 0] := ((B4_bz.out).far (p := ⟨W3.heap.size, 0, none⟩) (by show w.heap.size + 1 ≠ W3.heap.size; omega) _).far (p := ⟨W3.heap.size, 1, none⟩) (by show w.heap.size + 1 ≠ W3.heap.size; omega) _
  have b_out5 : Blk ((W4.setCell ⟨W3.heap.size, 0, none⟩ (.int .i64 (ep + 1))).setCell ⟨W3.heap.size, 1, none⟩ (.int .i64 i)) (W3.heap.size) 26 #[.int .i64 (ep + 1), .int .i64 i, .slice (some ⟨gi, 0, none⟩) is.length d1, .slice (some ⟨gk, 0, none⟩) ks.length d3, .slice (some ⟨gr, 0, none⟩) rs.length d5, .int .i64 fw, .int .i64 ba] := ((B4_out.out).set_ 0 _).set_ 1 _
  have k_own5 := PO.heads ((K4_own.out.blk B4_out.out 0 (.int .i64 (ep + 1))).blk (B4_out.out.set_ 0 (.int .i64 (ep + 1))) 1 (.int .i64 i)) (ep + 1) i fw ba
  have hz5 : W4.heap.size + 0 ≤ ((W4.setCell ⟨W3.heap.size, 0, none⟩ (.int .i64 (ep + 1))).setCell ⟨W3.heap.size, 1, none⟩ (.int .i64 i)).heap.size := by first | omega | (simp; done) | (simp; omega)
  generalize (W4.setCell ⟨W3.heap.size, 0, none⟩ (.int .i64 (ep + 1))).setCell ⟨W3.heap.size, 1, none⟩ (.int .i64 i) = W5 at *
  have HB5 := Lib.hid hb5
  have B5_bx := Lib.hid b_bx5
  have B5_bz := Lib.hid b_bz5
  have B5_out := Lib.hid b_out5
  have K5_own := Lib.hid k_own5
  clear hb5 b_bx5 b_bz5 b_out5 k_own5
  clear B4_bx B4_bz B4_out HB4 K4_own
  go_wp2_with fail
  obtain ⟨BA, hBA⟩ : ∃ BA, BA = W2.heap.size := ⟨_, rfl⟩
  have ko := K5_own.out
  rw [← hBA] at ko
  have KO := Lib.hid ko
  have HZZ : W5.heap.size ≤ W5.heap.size := Nat.le_refl _
  clear ko K5_own
  go_loopw [8] (fun x wr => ∃ k : Nat, k ≤ ks.length ∧ x = .int .i64 k ∧ Hid (PO BA wr ⟨ep + 1, (i : Int), is, zk k ks, rs, fw, ba⟩ (.slice (some ⟨gi, 0, none⟩) is.length d1) (.slice (some ⟨gk, 0, none⟩) ks.length d3) (.slice (some ⟨gr, 0, none⟩) rs.length d5)) ∧ Hid (Blk wr (W3.heap.size) 26 #[.int .i64 (ep + 1), .int .i64 i, .slice (some ⟨gi, 0, none⟩) is.length d1, .slice (some ⟨gk, 0, none⟩) ks.length d3, .slice (some ⟨gr, 0, none⟩) rs.length d5, .int .i64 fw, .int .i64 ba]) ∧ Hid (Blk wr (w.heap.size) 26 #[.int .i64 ep, .int .i64 ld, .slice (some ⟨b1, o1, none⟩) is.length c1, .slice (some ⟨b3, o3, none⟩) ks.length c3, .slice (some ⟨b5, o5, none⟩) rs.length c5, .int .i64 fw, .int .i64 ba]) ∧ Hid (Blk wr (w.heap.size + 1) 26 #[.int .i64 0, .int .i64 0, .slice none 0 0, .slice none 0 0, .slice none 0 0, .int .i64 0, .int .i64 0]) ∧ Hid (Below w.heap.size w wr) ∧ W5.heap.size ≤ wr.heap.size) (fun x _ => ks.length - (intOf x).toNat)
  case atStart => exact ⟨0, Nat.zero_le _, rfl, by rw [zk_zero]; exact KO, B5_out, B5_bx, B5_bz, HB5, Nat.le_refl _⟩
  case round =>
    obtain ⟨k, hk, rfl, HKO, HOUT, HBX, HBZ, HBW, hsz⟩ := hrel
    have o3 := HOUT.out.cell 3
    have ol := HOUT.out.lt
    by_cases hlt : k < ks.length
    · obtain ⟨⟨tx, t0⟩, tf0, hks⟩ := PO.knownIn HKO.out (zk_len (Nat.le_of_lt hlt)) k hlt
      have hk0 := hks 0
      simp only [zk_step hlt] at hk0
      have HK0 := Lib.hid hk0
      have k0 : (0 : Int) ≤ (k : Int) := by omega
      have k1 : (k : Int) < (ks.length : Int) := Int.ofNat_lt.2 hlt
      clear hks hk0
      go_wp2
      go_light
      exact ⟨⟨k + 1, by omega, by go_num, HK0, Lib.hid (HOUT.out.far (p := ⟨gk, k, none⟩) (by show W3.heap.size ≠ gk; omega) _), Lib.hid (HBX.out.far (p := ⟨gk, k, none⟩) (by show w.heap.size ≠ gk; omega) _), Lib.hid (HBZ.out.far (p := ⟨gk, k, none⟩) (by show w.heap.size + 1 ≠ gk; omega) _), Lib.hid (HBW.out.setCell (by show w.heap.size ≤ gk; omega) _), by simp; exact hsz⟩, by simp [intOf]; omega⟩
    · obtain rfl : k = ks.length := by omega
      have hko := HKO.out
      rw [zk_all E2.out] at hko
      have HKO2 := Lib.hid hko
      clear hko HKO hlt
      go_wp2_with fail
      clear o3 ol
      have c_out3 := HOUT.out.cell 3
      have l_out := HOUT.out.lt
      have c_bx0 := HBX.out.cell 0
      have c_bx1 := HBX.out.cell 1
      have c_bx2 := HBX.out.cell 2
      have c_bx3 := HBX.out.cell 3
      have c_bx4 := HBX.out.cell 4
      have c_bx5 := HBX.out.cell 5
      have c_bx6 := HBX.out.cell 6
      have l_bx := HBX.out.lt
      refine wp_region_held_drew (S := fun w0 => w0.cell? ⟨W3.heap.size, 3, none⟩ = some (.slice (some ⟨gk, 0, none⟩) ks.length d3) ∧ w0.cell? ⟨w.heap.size, 0, none⟩ = some (.int .i64 ep) ∧ w0.cell? ⟨w.heap.size, 1, none⟩ = some (.int .i64 ld) ∧ w0.cell? ⟨w.heap.size, 2, none⟩ = some (.slice (some ⟨b1, o1, none⟩) is.length c1) ∧ w0.cell? ⟨w.heap.size, 3, none⟩ = some (.slice (some ⟨b3, o3, none⟩) ks.length c3) ∧ w0.cell? ⟨w.heap.size, 4, none⟩ = some (.slice (some ⟨b5, o5, none⟩) rs.length c5) ∧ w0.cell? ⟨w.heap.size, 5, none⟩ = some (.int .i64 fw) ∧ w0.cell? ⟨w.heap.size, 6, none⟩ = some (.int .i64 ba)) (by kernel_rfl) ?_ (fun hHeld => ?_)
      · exact ⟨c_out3, c_bx0, c_bx1, c_bx2, c_bx3, c_bx4, c_bx5, c_bx6⟩
      clear c_out3 l_out c_bx0 c_bx1 c_bx2 c_bx3 c_bx4 c_bx5 c_bx6 l_bx
      generalize hd : World.drew wr = W6 at *
      have hb : Below wr.heap.size wr W6 := by rw [← hd]; exact (Below.refl _ _).drew
      have hb6 : Below w.heap.size w W6 := below_then HBW.out hb
      have b_bx6 := HBX.out.below hb HBX.out.lt
      have b_bz6 := HBZ.out.below hb HBZ.out.lt
      have b_out6 := HOUT.out.below hb HOUT.out.lt
      have k_own6 := HKO2.out.keep hb
      have hz6 := hb.size
      have HB6 := Lib.hid hb6
      have B6_bx := Lib.hid b_bx6
      have B6_bz := Lib.hid b_bz6
      have B6_out := Lib.hid b_out6
      have K6_own := Lib.hid k_own6
      clear hb6 b_bx6 b_bz6 b_out6 k_own6
      clear HBX HBZ HOUT HBW HKO2
      clear hd hb
      refine wpAnyH_take (i := 0) (v := ?_) rfl (by kernel_rfl) (by kernel_rfl) (by kernel_rfl) (fun _ _ _ h => h) (Or.inl ⟨by rfl, ?_⟩) (by assumption) ?_
      rotate_left
      · intro w0 hSw
        (try dsimp only at hSw)
        go_simp
        all_goals with_reducible rfl
      try simp only [Act.put, List.getElem_toArray, List.getElem_cons_zero, List.setIfInBounds_toArray, List.set_cons_zero, List.set_cons_succ]
      refine wpAnyH_take (i := 1) (v := ?_) rfl (by kernel_rfl) (by kernel_rfl) (by kernel_rfl) (fun _ _ _ h => h) (Or.inl ⟨by rfl, ?_⟩) (by assumption) ?_
      rotate_left
      · intro w0 hSw
        (try dsimp only at hSw)
        go_simp
        all_goals with_reducible rfl
      try simp only [Act.put, List.getElem_toArray, List.getElem_cons_zero, List.getElem_cons_succ, List.setIfInBounds_toArray, List.set_cons_zero, List.set_cons_succ]
      refine wpAnyH_take (i := 2) (v := ?_) rfl (by kernel_rfl) (by kernel_rfl) (by kernel_rfl) (fun _ _ _ h => h) (Or.inl ⟨by rfl, ?_⟩) (by assumption) ?_
      rotate_left
      · intro w0 hSw
        (try dsimp only at hSw)
        go_simp
        all_goals with_reducible rfl
      try simp only [Act.put, List.getElem_toArray, List.getElem_cons_zero, List.getElem_cons_succ, List.setIfInBounds_toArray, List.set_cons_zero, List.set_cons_succ]
      refine wpAnyH_take (i := 3) (v := ?_) rfl (by kernel_rfl) (by kernel_rfl) (by kernel_rfl) (fun _ _ _ h => h) (Or.inl ⟨by rfl, ?_⟩) (by assumption) ?_
      rotate_left
      · intro w0 hSw
        (try dsimp only at hSw)
        go_simp
        all_goals with_reducible rfl
      try simp only [Act.put, List.getElem_toArray, List.getElem_cons_zero, List.getElem_cons_succ, List.setIfInBounds_toArray, List.set_cons_zero, List.set_cons_succ]
      refine wpAnyH_take (i := 4) (v := ?_) rfl (by kernel_rfl) (by kernel_rfl) (by kernel_rfl) (fun _ _ _ h => h) (Or.inl ⟨by rfl, ?_⟩) (by assumption) ?_
      rotate_left
      · intro w0 hSw
        (try dsimp only at hSw)
        go_simp
        all_goals with_reducible rfl
      try simp only [Act.put, List.getElem_toArray, List.getElem_cons_zero, List.getElem_cons_succ, List.setIfInBounds_toArray, List.set_cons_zero, List.set_cons_succ]
      refine wpAnyH_ready (rs := [5]) (by kernel_rfl) (by simp) (AllReadyH.cons rfl (fun K hK => ?_) AllReadyH.nil)
      go_simp
      go_at_call 92
      refine (safeOf_any _ ⟨ep, ld, is, ks, rs, fw, ba⟩ i _ (HV0.out.below HB6.out) hi HLG.out).mono ?_
      rintro e W7 ⟨rfl, hb⟩
      have hb7 : Below w.heap.size w W7 := below_then HB6.out hb
      have b_bx7 := B6_bx.out.below hb B6_bx.out.lt
      have b_bz7 := B6_bz.out.below hb B6_bz.out.lt
      have b_out7 := B6_out.out.below hb B6_out.out.lt
      have k_own7 := K6_own.out.keep hb
      have hz7 := hb.size
      have HB7 := Lib.hid hb7
      have B7_bx := Lib.hid b_bx7
      have B7_bz := Lib.hid b_bz7
      have B7_out := Lib.hid b_out7
      have K7_own := Lib.hid k_own7
      clear hb7 b_bx7 b_bz7 b_out7 k_own7
      clear B6_bx B6_bz B6_out HB6 K6_own
      refine hK.out _ _ ?_ (fun hHeld => ?_)
      · exact ⟨(B7_out.out).cell 3, (B7_bx.out).cell 0, (B7_bx.out).cell 1, (B7_bx.out).cell 2, (B7_bx.out).cell 3, (B7_bx.out).cell 4, (B7_bx.out).cell 5, (B7_bx.out).cell 6⟩
      clear hK K
      try simp only [Act.put, List.getElem_toArray, List.getElem_cons_zero, List.getElem_cons_succ, List.setIfInBounds_toArray, List.set_cons_zero, List.set_cons_succ]
      obtain ⟨⟨tx, t0⟩, tf0, hks⟩ := PO.knownIn K7_own.out (by simp only [List.length_replicate]; exact E2.out.symm) i (by omega)
      have HKS := Lib.hid hks
      clear hks
      refine wpAnyH_take (i := 6) (v := ?_) rfl (by kernel_rfl) (by kernel_rfl) (by kernel_rfl) (fun _ _ _ h => h) (Or.inl ⟨by rfl, ?_⟩) (by assumption) ?_
      rotate_left
      · intro w0 hSw
        (try dsimp only at hSw)
        go_simp
        all_goals with_reducible rfl
      try simp only [Act.put, List.getElem_toArray, List.getElem_cons_zero, List.getElem_cons_succ, List.setIfInBounds_toArray, List.set_cons_zero, List.set_cons_succ]
      refine wpAnyH_ready (rs := [7]) (by kernel_rfl) (by simp) (AllReadyH.cons rfl (fun K hK => ?_) AllReadyH.nil)
      go_simp
      refine hK.out _ _ ?_ (fun hHeld => ?_)
      · exact ⟨((B7_out.out).far (p := ⟨gk, i, none⟩) (by show W3.heap.size ≠ gk; omega) _).cell 3, ((B7_bx.out).far (p := ⟨gk, i, none⟩) (by show w.heap.size ≠ gk; omega) _).cell 0, ((B7_bx.out).far (p := ⟨gk, i, none⟩) (by show w.heap.size ≠ gk; omega) _).cell 1, ((B7_bx.out).far (p := ⟨gk, i, none⟩) (by show w.heap.size ≠ gk; omega) _).cell 2, ((B7_bx.out).far (p := ⟨gk, i, none⟩) (by show w.heap.size ≠ gk; omega) _).cell 3, ((B7_bx.out).far (p := ⟨gk, i, none⟩) (by show w.heap.size ≠ gk; omega) _).cell 4, ((B7_bx.out).far (p := ⟨gk, i, none⟩) (by show w.heap.size ≠ gk; omega) _).cell 5, ((B7_bx.out).far (p := ⟨gk, i, none⟩) (by show w.heap.size ≠ gk; omega) _).cell 6⟩
      clear hK K
      refine wpAnyH_done (by kernel_rfl) ?_ _
      clear t0 tf0
      go_upto_region 20 with fail
      have hsz8 := HB7.out.size
      have hb8 : Below w.heap.size w (W7.setCell ⟨gk, i, none⟩ (.int .i64 j)) := (HB7.out).setCell (by show w.heap.size ≤ gk; omega) _
      have b_bx8 : Blk (W7.setCell ⟨gk, i, none⟩ (.int .i64 j)) (w.heap.size) 26 #[.int .i64 ep, .int .i64 ld, .slice (some ⟨b1, o1, none⟩) is.length c1, .slice (some ⟨b3, o3, none⟩) ks.length c3, .slice (some ⟨b5, o5, none⟩) rs.length c5, .int .i64 fw, .int .i64 ba] := (B7_bx.out).far (p := ⟨gk, i, none⟩) (by show w.heap.size ≠ gk; omega) _
      have b_bz8 : Blk (W7.setCell ⟨gk, i, none⟩ (.int .i64 j)) (w.heap.size + 1) 26 #[.int .i64 0, .int .i64 0, .slice none 0 0, .slice none 0 0, .slice none 0 0, .int .i64 0, .int .i64 0] := (B7_bz.out).far (p := ⟨gk, i, none⟩) (by show w.heap.size + 1 ≠ gk; omega) _
      have b_out8 : Blk (W7.setCell ⟨gk, i, none⟩ (.int .i64 j)) (W3.heap.size) 26 #[.int .i64 (ep + 1), .int .i64 i, .slice (some ⟨gi, 0, none⟩) is.length d1, .slice (some ⟨gk, 0, none⟩) ks.length d3, .slice (some ⟨gr, 0, none⟩) rs.length d5, .int .i64 fw, .int .i64 ba] := (B7_out.out).far (p := ⟨gk, i, none⟩) (by show W3.heap.size ≠ gk; omega) _
      have k_own8 := HKS.out (j : Int)
      have hz8 : W7.heap.size + 0 ≤ (W7.setCell ⟨gk, i, none⟩ (.int .i64 j)).heap.size := by first | omega | (simp; done) | (simp; omega)
      generalize W7.setCell ⟨gk, i, none⟩ (.int .i64 j) = W8 at *
      have HB8 := Lib.hid hb8
      have B8_bx := Lib.hid b_bx8
      have B8_bz := Lib.hid b_bz8
      have B8_out := Lib.hid b_out8
      have K8_own := Lib.hid k_own8
      clear hb8 b_bx8 b_bz8 b_out8 k_own8
      clear B7_bx B7_bz B7_out HB7 K7_own
      have c_bx0 := B8_bx.out.cell 0
      have c_bx1 := B8_bx.out.cell 1
      have c_bx2 := B8_bx.out.cell 2
      have c_bx3 := B8_bx.out.cell 3
      have c_bx4 := B8_bx.out.cell 4
      have c_bx5 := B8_bx.out.cell 5
      have c_bx6 := B8_bx.out.cell 6
      have l_bx := B8_bx.out.lt
      have c_out0 := B8_out.out.cell 0
      have f_out0 := B8_out.out.frozen 0
      have c_out1 := B8_out.out.cell 1
      have f_out1 := B8_out.out.frozen 1
      have c_out2 := B8_out.out.cell 2
      have f_out2 := B8_out.out.frozen 2
      have c_out3 := B8_out.out.cell 3
      have f_out3 := B8_out.out.frozen 3
      have c_out4 := B8_out.out.cell 4
      have f_out4 := B8_out.out.frozen 4
      have c_out5 := B8_out.out.cell 5
      have f_out5 := B8_out.out.frozen 5
      have c_out6 := B8_out.out.cell 6
      have f_out6 := B8_out.out.frozen 6
      have l_out := B8_out.out.lt
      go_wp2_with fail
      clear c_bx0 c_bx1 c_bx2 c_bx3 c_bx4 c_bx5 c_bx6 l_bx c_out0 f_out0 c_out1 f_out1 c_out2 f_out2 c_out3 f_out3 c_out4 f_out4 c_out5 f_out5 c_out6 f_out6 l_out
      refine (logOf_any _ ⟨ep, ld, is, ks, rs, fw, ba⟩ i _ (HV0.out.below HB8.out) hi HLG.out).mono ?_
      rintro e W9 ⟨v5, rfl, hp5, hb⟩
      obtain ⟨A9, c9, rfl, hc9⟩ := (Sl.of_own hp5).form
      clear hp5
      have hb9 : Below w.heap.size w W9 := below_then HB8.out hb
      have b_bx9 := B8_bx.out.below hb B8_bx.out.lt
      have b_bz9 := B8_bz.out.below hb B8_bz.out.lt
      have b_out9 := B8_out.out.below hb B8_out.out.lt
      have k_own9 := K8_own.out.keep hb
      have hz9 := hb.size
      have HB9 := Lib.hid hb9
      have B9_bx := Lib.hid b_bx9
      have B9_bz := Lib.hid b_bz9
      have B9_out := Lib.hid b_out9
      have K9_own := Lib.hid k_own9
      clear hb9 b_bx9 b_bz9 b_out9 k_own9
      clear B8_bx B8_bz B8_out HB8 K8_own
      have c_out0 := B9_out.out.cell 0
      have f_out0 := B9_out.out.frozen 0
      have c_out1 := B9_out.out.cell 1
      have f_out1 := B9_out.out.frozen 1
      have c_out2 := B9_out.out.cell 2
      have f_out2 := B9_out.out.frozen 2
      have c_out3 := B9_out.out.cell 3
      have f_out3 := B9_out.out.frozen 3
      have c_out4 := B9_out.out.cell 4
      have f_out4 := B9_out.out.frozen 4
      have c_out5 := B9_out.out.cell 5
      have f_out5 := B9_out.out.frozen 5
      have c_out6 := B9_out.out.cell 6
      have f_out6 := B9_out.out.frozen 6
      have l_out := B9_out.out.lt
      go_upto_region 21 with fail
      clear c_out0 f_out0 c_out1 f_out1 c_out2 f_out2 c_out3 f_out3 c_out4 f_out4 c_out5 f_out5 c_out6 f_out6 l_out
      have hsz10 := HB9.out.size
      have hb10 : Below w.heap.size w (W9.setCell ⟨W3.heap.size, 6, none⟩ (.int .i64 es.length)) := (HB9.out).setCell (by show w.heap.size ≤ W3.heap.size; omega) _
      have b_bx10 : Blk (W9.setCell ⟨W3.heap.size, 6, none⟩ (.int .i64 es.length)) (w.heap.size) 26 #[.int .i64 ep, .int .i64 ld, .slice (some ⟨b1, o1, none⟩) is.length c1, .slice (some ⟨b3, o3, none⟩) ks.length c3, .slice (some ⟨b5, o5, none⟩) rs.length c5, .int .i64 fw, .int .i64 ba] := (B9_bx.out).far (p := ⟨W3.heap.size, 6, none⟩) (by show w.heap.size ≠ W3.heap.size; omega) _
      have b_bz10 : Blk (W9.setCell ⟨W3.heap.size, 6, none⟩ (.int .i64 es.length)) (w.heap.size + 1) 26 #[.int .i64 0, .int .i64 0, .slice none 0 0, .slice none 0 0, .slice none 0 0, .int .i64 0, .int .i64 0] := (B9_bz.out).far (p := ⟨W3.heap.size, 6, none⟩) (by show w.heap.size + 1 ≠ W3.heap.size; omega) _
      have b_out10 : Blk (W9.setCell ⟨W3.heap.size, 6, none⟩ (.int .i64 es.length)) (W3.heap.size) 26 #[.int .i64 (ep + 1), .int .i64 i, .slice (some ⟨gi, 0, none⟩) is.length d1, .slice (some ⟨gk, 0, none⟩) ks.length d3, .slice (some ⟨gr, 0, none⟩) rs.length d5, .int .i64 fw, .int .i64 es.length] := (B9_out.out).set_ 6 _
      have k_own10 := PO.heads (K9_own.out.blk B9_out.out 6 (.int .i64 es.length)) (ep + 1) i fw es.length
      have hz10 : W9.heap.size + 0 ≤ (W9.setCell ⟨W3.heap.size, 6, none⟩ (.int .i64 es.length)).heap.size := by first | omega | (simp; done) | (simp; omega)
      generalize W9.setCell ⟨W3.heap.size, 6, none⟩ (.int .i64 es.length) = W10 at *
      have HB10 := Lib.hid hb10
      have B10_bx := Lib.hid b_bx10
      have B10_bz := Lib.hid b_bz10
      have B10_out := Lib.hid b_out10
      have K10_own := Lib.hid k_own10
      clear hb10 b_bx10 b_bz10 b_out10 k_own10
      clear B9_bx B9_bz B9_out HB9 K9_own
      have HSM3 := Lib.hid (PSm.elected HSM.out (ep + 1) i fw (es.length : Int) ((List.replicate rs.length 0).set i (j : Int)) (by simp only [List.length_set, List.length_replicate]; omega))
      have c_out0 := B10_out.out.cell 0
      have c_out1 := B10_out.out.cell 1
      have c_out2 := B10_out.out.cell 2
      have c_out3 := B10_out.out.cell 3
      have c_out4 := B10_out.out.cell 4
      have c_out5 := B10_out.out.cell 5
      have c_out6 := B10_out.out.cell 6
      have l_out := B10_out.out.lt
      have c_bz0 := B10_bz.out.cell 0
      have f_bz0 := B10_bz.out.frozen 0
      have c_bz1 := B10_bz.out.cell 1
      have f_bz1 := B10_bz.out.frozen 1
      have c_bz2 := B10_bz.out.cell 2
      have f_bz2 := B10_bz.out.frozen 2
      have c_bz3 := B10_bz.out.cell 3
      have f_bz3 := B10_bz.out.frozen 3
      have c_bz4 := B10_bz.out.cell 4
      have f_bz4 := B10_bz.out.frozen 4
      have c_bz5 := B10_bz.out.cell 5
      have f_bz5 := B10_bz.out.frozen 5
      have c_bz6 := B10_bz.out.cell 6
      have f_bz6 := B10_bz.out.frozen 6
      have l_bz := B10_bz.out.lt
      go_wp2_with fail
      clear c_out0 c_out1 c_out2 c_out3 c_out4 c_out5 c_out6 l_out c_bz0 f_bz0 c_bz1 f_bz1 c_bz2 f_bz2 c_bz3 f_bz3 c_bz4 f_bz4 c_bz5 f_bz5 c_bz6 f_bz6 l_bz
      refine (raised_at ⟨ep + 1, (i : Int), is, (List.replicate rs.length (0 : Int)).set i (j : Int), rs, fw, (es.length : Int)⟩ _ _ _ _ _ (by first | assumption | omega) K10_own.out i rfl hi E1.out (by simp only [List.length_set, List.length_replicate]) HSM3.out HLG.out).mono ?_
      rintro e W11 ⟨rfl, hadv, hgrow⟩
      rw [partV_adv]
      unfold partV
      simp only
      have hg11 : W10.grownBy W11 (some gr) := hgrow
      have hb11 : Below w.heap.size w W11 := HB10.out.grown hg11 HB10.out.size (fun b hb => by injection hb with hb; omega)
      have b_bx11 := B10_bx.out.grown hg11 (fun e => by injection e with e; omega)
      have b_bz11 := B10_bz.out.grown hg11 (fun e => by injection e with e; omega)
      have b_out11 := B10_out.out.grown hg11 (fun e => by injection e with e; omega)
      have k_own11 := hadv
      have hz11 := hg11.size
      have HB11 := Lib.hid hb11
      have B11_bx := Lib.hid b_bx11
      have B11_bz := Lib.hid b_bz11
      have B11_out := Lib.hid b_out11
      have K11_own := Lib.hid k_own11
      clear hb11 b_bx11 b_bz11 b_out11 k_own11
      clear hadv hgrow B10_bx B10_bz B10_out HB10 K10_own
      have c_bz0 := B11_bz.out.cell 0
      have f_bz0 := B11_bz.out.frozen 0
      have c_bz1 := B11_bz.out.cell 1
      have f_bz1 := B11_bz.out.frozen 1
      have c_bz2 := B11_bz.out.cell 2
      have f_bz2 := B11_bz.out.frozen 2
      have c_bz3 := B11_bz.out.cell 3
      have f_bz3 := B11_bz.out.frozen 3
      have c_bz4 := B11_bz.out.cell 4
      have f_bz4 := B11_bz.out.frozen 4
      have c_bz5 := B11_bz.out.cell 5
      have f_bz5 := B11_bz.out.frozen 5
      have c_bz6 := B11_bz.out.cell 6
      have f_bz6 := B11_bz.out.frozen 6
      have l_bz := B11_bz.out.lt
      go_wp2_with fail
      clear c_bz0 f_bz0 c_bz1 f_bz1 c_bz2 f_bz2 c_bz3 f_bz3 c_bz4 f_bz4 c_bz5 f_bz5 c_bz6 f_bz6 l_bz
      have hszF := HB11.out.size
      have hbF : Below w.heap.size w (((((((W11.setCell ⟨w.heap.size + 1, 0, none⟩ (.int .i64 (ep + 1))).setCell ⟨w.heap.size + 1, 1, none⟩ (.int .i64 i)).setCell ⟨w.heap.size + 1, 2, none⟩ (.slice (some ⟨gi, 0, none⟩) is.length d1)).setCell ⟨w.heap.size + 1, 3, none⟩ (.slice (some ⟨gk, 0, none⟩) ks.length d3)).setCell ⟨w.heap.size + 1, 4, none⟩ (.slice (some ⟨gr, 0, none⟩) rs.length d5)).setCell ⟨w.heap.size + 1, 5, none⟩ (.int .i64 fw)).setCell ⟨w.heap.size + 1, 6, none⟩ (.int .i64 es.length)) := (((((((HB11.out).setCell (by show w.heap.size ≤ w.heap.size + 1; omega) _).setCell (by show w.heap.size ≤ w.heap.size + 1; omega) _).setCell (by show w.heap.size ≤ w.heap.size + 1; omega) _).setCell (by show w.heap.size ≤ w.heap.size + 1; omega) _).setCell (by show w.heap.size ≤ w.heap.size + 1; omega) _).setCell (by show w.heap.size ≤ w.heap.size + 1; omega) _).setCell (by show w.heap.size ≤ w.heap.size + 1; omega) _
      have b_bxF : Blk (((((((W11.setCell ⟨w.heap.size + 1, 0, none⟩ (.int .i64 (ep + 1))).setCell ⟨w.heap.size + 1, 1, none⟩ (.int .i64 i)).setCell ⟨w.heap.size + 1, 2, none⟩ (.slice (some ⟨gi, 0, none⟩) is.length d1)).setCell ⟨w.heap.size + 1, 3, none⟩ (.slice (some ⟨gk, 0, none⟩) ks.length d3)).setCell ⟨w.heap.size + 1, 4, none⟩ (.slice (some ⟨gr, 0, none⟩) rs.length d5)).setCell ⟨w.heap.size + 1, 5, none⟩ (.int .i64 fw)).setCell ⟨w.heap.size + 1, 6, none⟩ (.int .i64 es.length)) (w.heap.size) 26 #[.int .i64 ep, .int .i64 ld, .slice (some ⟨b1, o1, none⟩) is.length c1, .slice (some ⟨b3, o3, none⟩) ks.length c3, .slice (some ⟨b5, o5, none⟩) rs.length c5, .int .i64 fw, .int .i64 ba] := (((((((B11_bx.out).far (p := ⟨w.heap.size + 1, 0, none⟩) (by show w.heap.size ≠ w.heap.size + 1; omega) _).far (p := ⟨w.heap.size + 1, 1, none⟩) (by show w.heap.size ≠ w.heap.size + 1; omega) _).far (p := ⟨w.heap.size + 1, 2, none⟩) (by show w.heap.size ≠ w.heap.size + 1; omega) _).far (p := ⟨w.heap.size + 1, 3, none⟩) (by show w.heap.size ≠ w.heap.size + 1; omega) _).far (p := ⟨w.heap.size + 1, 4, none⟩) (by show w.heap.size ≠ w.heap.size + 1; omega) _).far (p := ⟨w.heap.size + 1, 5, none⟩) (by show w.heap.size ≠ w.heap.size + 1; omega) _).far (p := ⟨w.heap.size + 1, 6, none⟩) (by show w.heap.size ≠ w.heap.size + 1; omega) _
      have b_bzF : Blk (((((((W11.setCell ⟨w.heap.size + 1, 0, none⟩ (.int .i64 (ep + 1))).setCell ⟨w.heap.size + 1, 1, none⟩ (.int .i64 i)).setCell ⟨w.heap.size + 1, 2, none⟩ (.slice (some ⟨gi, 0, none⟩) is.length d1)).setCell ⟨w.heap.size + 1, 3, none⟩ (.slice (some ⟨gk, 0, none⟩) ks.length d3)).setCell ⟨w.heap.size + 1, 4, none⟩ (.slice (some ⟨gr, 0, none⟩) rs.length d5)).setCell ⟨w.heap.size + 1, 5, none⟩ (.int .i64 fw)).setCell ⟨w.heap.size + 1, 6, none⟩ (.int .i64 es.length)) (w.heap.size + 1) 26 #[.int .i64 (ep + 1), .int .i64 i, .slice (some ⟨gi, 0, none⟩) is.length d1, .slice (some ⟨gk, 0, none⟩) ks.length d3, .slice (some ⟨gr, 0, none⟩) rs.length d5, .int .i64 fw, .int .i64 es.length] := (((((((B11_bz.out).set_ 0 _).set_ 1 _).set_ 2 _).set_ 3 _).set_ 4 _).set_ 5 _).set_ 6 _
      have b_outF : Blk (((((((W11.setCell ⟨w.heap.size + 1, 0, none⟩ (.int .i64 (ep + 1))).setCell ⟨w.heap.size + 1, 1, none⟩ (.int .i64 i)).setCell ⟨w.heap.size + 1, 2, none⟩ (.slice (some ⟨gi, 0, none⟩) is.length d1)).setCell ⟨w.heap.size + 1, 3, none⟩ (.slice (some ⟨gk, 0, none⟩) ks.length d3)).setCell ⟨w.heap.size + 1, 4, none⟩ (.slice (some ⟨gr, 0, none⟩) rs.length d5)).setCell ⟨w.heap.size + 1, 5, none⟩ (.int .i64 fw)).setCell ⟨w.heap.size + 1, 6, none⟩ (.int .i64 es.length)) (W3.heap.size) 26 #[.int .i64 (ep + 1), .int .i64 i, .slice (some ⟨gi, 0, none⟩) is.length d1, .slice (some ⟨gk, 0, none⟩) ks.length d3, .slice (some ⟨gr, 0, none⟩) rs.length d5, .int .i64 fw, .int .i64 es.length] := (((((((B11_out.out).far (p := ⟨w.heap.size + 1, 0, none⟩) (by show W3.heap.size ≠ w.heap.size + 1; omega) _).far (p := ⟨w.heap.size + 1, 1, none⟩) (by show W3.heap.size ≠ w.heap.size + 1; omega) _).far (p := ⟨w.heap.size + 1, 2, none⟩) (by show W3.heap.size ≠ w.heap.size + 1; omega) _).far (p := ⟨w.heap.size + 1, 3, none⟩) (by show W3.heap.size ≠ w.heap.size + 1; omega) _).far (p := ⟨w.heap.size + 1, 4, none⟩) (by show W3.heap.size ≠ w.heap.size + 1; omega) _).far (p := ⟨w.heap.size + 1, 5, none⟩) (by show W3.heap.size ≠ w.heap.size + 1; omega) _).far (p := ⟨w.heap.size + 1, 6, none⟩) (by show W3.heap.size ≠ w.heap.size + 1; omega) _
      have k_ownF := (((((((K11_own.out).under (a := ⟨w.heap.size + 1, 0, none⟩) (by (try dsimp only); omega) (.int .i64 (ep + 1))).under (a := ⟨w.heap.size + 1, 1, none⟩) (by (try dsimp only); omega) (.int .i64 i)).under (a := ⟨w.heap.size + 1, 2, none⟩) (by (try dsimp only); omega) (.slice (some ⟨gi, 0, none⟩) is.length d1)).under (a := ⟨w.heap.size + 1, 3, none⟩) (by (try dsimp only); omega) (.slice (some ⟨gk, 0, none⟩) ks.length d3)).under (a := ⟨w.heap.size + 1, 4, none⟩) (by (try dsimp only); omega) (.slice (some ⟨gr, 0, none⟩) rs.length d5)).under (a := ⟨w.heap.size + 1, 5, none⟩) (by (try dsimp only); omega) (.int .i64 fw)).under (a := ⟨w.heap.size + 1, 6, none⟩) (by (try dsimp only); omega) (.int .i64 es.length)
      rw [HA.out, HSF.out]
      have y0 := b_bzF.cell 0
      have y1 := b_bzF.cell 1
      have y2 := b_bzF.cell 2
      have y3 := b_bzF.cell 3
      have y4 := b_bzF.cell 4
      have y5 := b_bzF.cell 5
      have y6 := b_bzF.cell 6
      exact bodyPost_ret (v := .tuple #[.agg #[.int .i64 (ep + 1), .int .i64 i, .slice (some ⟨gi, 0, none⟩) is.length d1, .slice (some ⟨gk, 0, none⟩) ks.length d3, .slice (some ⟨gr, 0, none⟩) rs.length d5, .int .i64 fw, .int .i64 es.length], .int .i64 0]) (by simp [results, Try.results59, go_sem, y0, y1, y2, y3, y4, y5, y6]) rfl (⟨_, _, _, by rw [partV_adv]; rfl, k_ownF.more (by omega), hbF⟩)
end Go.Proofs.Ytpjjfnpdopdnkaa
