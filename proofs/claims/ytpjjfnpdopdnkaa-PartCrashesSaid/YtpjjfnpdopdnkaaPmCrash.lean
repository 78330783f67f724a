/- part.Crash. -/
import Derived.Test.YtpjjfnpdopdnkaaPartU
import Derived.Test.YtpjjfnpdopdnkaaPartV
import Derived.Deep.RegionHeld3
import Derived.Deep.DrawnRows
import Derived.Test.YtpjjfnpdopdnkaaSegG
namespace Go.Proofs.Ytpjjfnpdopdnkaa
open Go.RowKit
attribute [local go_sem ↓] Go.wp_at_zero Go.wp_at_succ

/-- a log of the call's own -/
structure LgO (base : Nat) (w : World) (v : Value) (l : List UInt8) : Prop where
  own : w.ownsRow base 5 1 v l.length (bvs l)
theorem LgO.keep {base : Nat} {w w' : World} {v : Value} {l : List UInt8} (h : LgO base w v l) (hb : Below w.heap.size w w') : LgO base w' v l := ⟨own_keep h.own hb (fun b hb => (h.own.lt b hb).2)⟩
theorem LgO.alloc {base : Nat} {w : World} {v : Value} {l : List UInt8} (h : LgO base w v l) (o : Obj) : LgO base (w.alloc o) v l := h.keep ((Below.refl _ _).alloc (Nat.le_refl _) o)
/-- so many bytes stay -/
def crashN (t : RepD) (keep : Nat) : Nat := t.synced.toNat + min keep (t.bytes.length - t.synced.toNat)
theorem LogIs.cut {l : List UInt8} {s : Int} {es es2 : List Ent} {j p m : Nat} (h : LogIs ⟨l, s⟩ es j) (hd : dec (l.take p) = (es2, m)) : LogIs ⟨l.take m, (m : Int)⟩ es2 es2.length := by
  have h1 := dec_ok (l.take p)
  have h2 := dec_take (l.take p)
  have h3 := dec_le (l.take p)
  rw [hd] at h1 h2 h3
  simp only at h1 h2 h3
  have hm : m ≤ p ∧ m ≤ l.length := by rw [List.length_take] at h3; omega
  rw [List.take_take, Nat.min_eq_left hm.1] at h2
  have hl : (flat es2).length = m := by rw [← h2, List.length_take]; omega
  have e1 := h.bytes
  have e2 := h.dec_
  simp only at e1 e2
  have e3 : dec l = (es2 ++ (dec (l.drop m)).1, (flat es2).length + (dec (l.drop m)).2) := by
    conv => lhs; rw [← List.take_append_drop m l, h2]
    exact dec_flat h1 _
  rw [e2] at e3
  have e4 : es = es2 ++ (dec (l.drop m)).1 := congrArg Prod.fst e3
  have e5 := h.many
  have e6 := h.long
  refine ⟨h1, h2, ?_, ?_, Nat.le_refl _, ?_⟩
  · rw [e4, List.length_append] at e5; omega
  · rw [hl]; rw [← e1] at e6; omega
  · rw [List.take_length, hl]
theorem PSm.crashed {c : PartD} (h : PSm c) (i : Nat) (l : Int) (t : RepD) (ht : t.bytes.length ≤ 40000) : PSm ⟨c.epoch, l, c.isr, c.known.set i 0, c.reps.set i t, c.few, c.base⟩ := by
  refine ⟨h.isr, by simp only [List.length_set]; exact h.known, by simp only [List.length_set]; exact h.reps, fun u hu => ?_⟩
  rcases mem_set_cases hu with rfl | hu
  · exact ht
  · exact h.bytes u hu
theorem crash_long {c : PartD} (h : PartOk c) (i : Nat) (hi : i < c.reps.length) {p m : Nat} {es2 : List Ent} (hd : dec (c.reps[i].bytes.take p) = (es2, m)) : (c.reps[i].bytes.take m).length ≤ 40000 := by
  obtain ⟨es, j, hl⟩ := h.log i hi
  have h2 := LogIs.cut (p := p) hl hd
  have h3 := h2.long
  rw [← h2.bytes] at h3
  exact h3
theorem PO.crash {base : Nat} {w : World} {c : PartD} {iv kv : Value} {gr cr : Nat} (h : PO base w c iv kv (.slice (some ⟨gr, 0, none⟩) c.reps.length cr)) (i : Nat) (hi : i < c.reps.length) {pv : Value} {l : List UInt8} (s : Int) (hp : w.ownsRow base 5 1 pv l.length (bvs l)) : PO base (((w.setCell ⟨gr, i * 4 + 1, none⟩ pv).setCell ⟨gr, i * 4 + 2, none⟩ (.int .i64 s)).setCell ⟨gr, i * 4, none⟩ (.bool false)) { c with reps := c.reps.set i ⟨false, l, s, c.reps[i].high⟩ } iv kv (.slice (some ⟨gr, 0, none⟩) c.reps.length cr) := by
  have h2 := h.setLog i hi s hp
  have hl2 : ({ c with reps := c.reps.set i { c.reps[i] with bytes := l, synced := s } } : PartD).reps.length = c.reps.length := by simp
  have e2 : Value.slice (some ⟨gr, 0, none⟩) c.reps.length cr = .slice (some ⟨gr, 0, none⟩) ({ c with reps := c.reps.set i { c.reps[i] with bytes := l, synced := s } } : PartD).reps.length cr := by simp
  rw [e2] at h2
  have h3 := h2.setRep i 0 (by rw [hl2]; exact hi) (.bool false) ⟨false, l, s, c.reps[i].high⟩ (by decide) (fun pv => by simp [rcells]) (by simp)
  simpa using h3
theorem PO.setHigh {base : Nat} {w : World} {ep ld : Int} {is : List Bool} {ks : List Int} {rs : List RepD} {fw ba : Int} {t : RepD} {iv kv : Value} {gr cr i : Nat} (h : PO base w ⟨ep, ld, is, ks, rs.set i t, fw, ba⟩ iv kv (.slice (some ⟨gr, 0, none⟩) rs.length cr)) (hi : i < rs.length) (x : Int) : PO base (w.setCell ⟨gr, i * 4 + 3, none⟩ (.int .i64 x)) ⟨ep, ld, is, ks, rs.set i { t with high := x }, fw, ba⟩ iv kv (.slice (some ⟨gr, 0, none⟩) rs.length cr) := by
  have hl : (rs.set i t).length = rs.length := by simp
  have h3 := PO.setRep (c := ⟨ep, ld, is, ks, rs.set i t, fw, ba⟩) (cr := cr) (by simpa only [hl] using h) i 3 (by simpa only [hl] using hi) (.int .i64 x) { t with high := x } (by decide) (fun pv => by simp [rcells]) (by simp)
  simpa only [hl, List.set_set] using h3
theorem PO.lead {base : Nat} {w : World} {c : PartD} {iv kv rv : Value} (h : PO base w c iv kv rv) (l : Int) : PO base w { c with leader := l } iv kv rv := ⟨h.isr, h.known, h.reps⟩
set_option maxRecDepth 100000 in
set_option maxHeartbeats 4000000 in
theorem pcrash_bad (v : Value) (c : PartD) (r n : Int) (keep : Int) (hf : AtFault c r n) (w : World) (h : Pv w v c) : Calls Try.prog 54 #[v, .int .i64 r, .int .i64 keep] w (RefusesP n w) := by
  obtain ⟨xi, xk, xr, rfl, ix, kx, rx, hli, hlk, hlr⟩ := id h
  obtain ⟨A5, c5, rfl, hc5, -⟩ := rx.at_
  obtain ⟨A1, c1, rfl, hc1, -⟩ := ix.at_
  obtain ⟨A3, c3, rfl, hc3, -⟩ := kx.at_
  have H := Lib.hid h
  clear h ix kx rx
  unfold partV at *
  obtain ⟨ep, ld, is, ks, rs, fw, ba⟩ := c
  simp only at *
  have hn0 := hf.ne
  have n1 : (n == 0) = false := beq_eq_false_iff_ne.2 hn0
  have n2 : (n != 0) = true := by simpa using hn0
  have HF := Lib.hid hf
  clear hf hn0
  go_enter Try.func54, Try.ntmps54
  go_wp2_with fail
  have hb1 : Below w.heap.size w ((w.alloc (.cells #[.int .i64 ep, .int .i64 ld, .slice A1 is.length c1, .slice A3 ks.length c3, .slice A5 rs.length c5, .int .i64 fw, .int .i64 ba] 26)).alloc (.cells #[.int .i64 0, .int .i64 0, .slice none 0 0, .slice none 0 0, .slice none 0 0, .int .i64 0, .int .i64 0] 26)) := ((Below.refl _ _).alloc (by first | omega | (simp; done) | (simp; omega)) _).alloc (by first | omega | (simp; done) | (simp; omega)) _
  have hal1 : Below w.heap.size w ((w.alloc (.cells #[.int .i64 ep, .int .i64 ld, .slice A1 is.length c1, .slice A3 ks.length c3, .slice A5 rs.length c5, .int .i64 fw, .int .i64 ba] 26)).alloc (.cells #[.int .i64 0, .int .i64 0, .slice none 0 0, .slice none 0 0, .slice none 0 0, .int .i64 0, .int .i64 0] 26)) := ((Below.refl _ _).alloc (by first | omega | (simp; done) | (simp; omega)) _).alloc (by first | omega | (simp; done) | (simp; omega)) _
  have b_bx1 : Blk ((w.alloc (.cells #[.int .i64 ep, .int .i64 ld, .slice A1 is.length c1, .slice A3 ks.length c3, .slice A5 rs.length c5, .int .i64 fw, .int .i64 ba] 26)).alloc (.cells #[.int .i64 0, .int .i64 0, .slice none 0 0, .slice none 0 0, .slice none 0 0, .int .i64 0, .int .i64 0] 26)) (w.heap.size) 26 #[.int .i64 ep, .int .i64 ld, .slice A1 is.length c1, .slice A3 ks.length c3, .slice A5 rs.length c5, .int .i64 fw, .int .i64 ba] := (Blk.new_ _ 26 #[.int .i64 ep, .int .i64 ld, .slice A1 is.length c1, .slice A3 ks.length c3, .slice A5 rs.length c5, .int .i64 fw, .int .i64 ba] (by first | rfl | (simp; done) | (simp; omega))).alloc _
  have b_bz1 : Blk ((w.alloc (.cells #[.int .i64 ep, .int .i64 ld, .slice A1 is.length c1, .slice A3 ks.length c3, .slice A5 rs.length c5, .int .i64 fw, .int .i64 ba] 26)).alloc (.cells #[.int .i64 0, .int .i64 0, .slice none 0 0, .slice none 0 0, .slice none 0 0, .int .i64 0, .int .i64 0] 26)) (w.heap.size + 1) 26 #[.int .i64 0, .int .i64 0, .slice none 0 0, .slice none 0 0, .slice none 0 0, .int .i64 0, .int .i64 0] := Blk.new_ _ 26 #[.int .i64 0, .int .i64 0, .slice none 0 0, .slice none 0 0, .slice none 0 0, .int .i64 0, .int .i64 0] (by first | rfl | (simp; done) | (simp; omega))
  have k_v1 := H.out.below hal1
  have hz1 : w.heap.size + 2 ≤ ((w.alloc (.cells #[.int .i64 ep, .int .i64 ld, .slice A1 is.length c1, .slice A3 ks.length c3, .slice A5 rs.length c5, .int .i64 fw, .int .i64 ba] 26)).alloc (.cells #[.int .i64 0, .int .i64 0, .slice none 0 0, .slice none 0 0, .slice none 0 0, .int .i64 0, .int .i64 0] 26)).heap.size := by first | omega | (simp; done) | (simp; omega)
  generalize (w.alloc (.cells #[.int .i64 ep, .int .i64 ld, .slice A1 is.length c1, .slice A3 ks.length c3, .slice A5 rs.length c5, .int .i64 fw, .int .i64 ba] 26)).alloc (.cells #[.int .i64 0, .int .i64 0, .slice none 0 0, .slice none 0 0, .slice none 0 0, .int .i64 0, .int .i64 0] 26) = W1 at *
  have HB1 := Lib.hid hb1
  have B1_bx := Lib.hid b_bx1
  have B1_bz := Lib.hid b_bz1
  have K1_v := Lib.hid k_v1
  clear hb1 b_bx1 b_bz1 k_v1
  clear H
  refine (at_refuses K1_v.out HF.out).mono ?_
  rintro e W2 ⟨rfl, hb⟩
  have hb2 : Below w.heap.size w W2 := below_then HB1.out hb
  have b_bx2 := B1_bx.out.below hb B1_bx.out.lt
  have b_bz2 := B1_bz.out.below hb B1_bz.out.lt
  have k_v2 := K1_v.out.below hb
  have hz2 := hb.size
  have HB2 := Lib.hid hb2
  have B2_bx := Lib.hid b_bx2
  have B2_bz := Lib.hid b_bz2
  have K2_v := Lib.hid k_v2
  clear hb2 b_bx2 b_bz2 k_v2
  clear B1_bx B1_bz HB1 K1_v
  have c_bx0 := B2_bx.out.cell 0
  have f_bx0 := B2_bx.out.frozen 0
  have c_bx1 := B2_bx.out.cell 1
  have f_bx1 := B2_bx.out.frozen 1
  have c_bx2 := B2_bx.out.cell 2
  have f_bx2 := B2_bx.out.frozen 2
  have c_bx3 := B2_bx.out.cell 3
  have f_bx3 := B2_bx.out.frozen 3
  have c_bx4 := B2_bx.out.cell 4
  have f_bx4 := B2_bx.out.frozen 4
  have c_bx5 := B2_bx.out.cell 5
  have f_bx5 := B2_bx.out.frozen 5
  have c_bx6 := B2_bx.out.cell 6
  have f_bx6 := B2_bx.out.frozen 6
  have l_bx := B2_bx.out.lt
  have c_bz0 := B2_bz.out.cell 0
  have f_bz0 := B2_bz.out.frozen 0
  have c_bz1 := B2_bz.out.cell 1
  have f_bz1 := B2_bz.out.frozen 1
  have c_bz2 := B2_bz.out.cell 2
  have f_bz2 := B2_bz.out.frozen 2
  have c_bz3 := B2_bz.out.cell 3
  have f_bz3 := B2_bz.out.frozen 3
  have c_bz4 := B2_bz.out.cell 4
  have f_bz4 := B2_bz.out.frozen 4
  have c_bz5 := B2_bz.out.cell 5
  have f_bz5 := B2_bz.out.frozen 5
  have c_bz6 := B2_bz.out.cell 6
  have f_bz6 := B2_bz.out.frozen 6
  have l_bz := B2_bz.out.lt
  have hszE := HB2.out.size
  have hbE : Below w.heap.size w (((((((W2.setCell ⟨w.heap.size, 0, none⟩ (.int .i64 0)).setCell ⟨w.heap.size, 1, none⟩ (.int .i64 0)).setCell ⟨w.heap.size, 2, none⟩ (.slice none 0 0)).setCell ⟨w.heap.size, 3, none⟩ (.slice none 0 0)).setCell ⟨w.heap.size, 4, none⟩ (.slice none 0 0)).setCell ⟨w.heap.size, 5, none⟩ (.int .i64 0)).setCell ⟨w.heap.size, 6, none⟩ (.int .i64 0)) := (((((((HB2.out).setCell (by show w.heap.size ≤ w.heap.size; omega) _).setCell (by show w.heap.size ≤ w.heap.size; omega) _).setCell (by show w.heap.size ≤ w.heap.size; omega) _).setCell (by show w.heap.size ≤ w.heap.size; omega) _).setCell (by show w.heap.size ≤ w.heap.size; omega) _).setCell (by show w.heap.size ≤ w.heap.size; omega) _).setCell (by show w.heap.size ≤ w.heap.size; omega) _
  have b_bxE : Blk (((((((W2.setCell ⟨w.heap.size, 0, none⟩ (.int .i64 0)).setCell ⟨w.heap.size, 1, none⟩ (.int .i64 0)).setCell ⟨w.heap.size, 2, none⟩ (.slice none 0 0)).setCell ⟨w.heap.size, 3, none⟩ (.slice none 0 0)).setCell ⟨w.heap.size, 4, none⟩ (.slice none 0 0)).setCell ⟨w.heap.size, 5, none⟩ (.int .i64 0)).setCell ⟨w.heap.size, 6, none⟩ (.int .i64 0)) (w.heap.size) 26 #[.int .i64 0, .int .i64 0, .slice none 0 0, .slice none 0 0, .slice none 0 0, .int .i64 0, .int .i64 0] := (((((((B2_bx.out).set_ 0 _).set_ 1 _).set_ 2 _).set_ 3 _).set_ 4 _).set_ 5 _).set_ 6 _
  have b_bzE : Blk (((((((W2.setCell ⟨w.heap.size, 0, none⟩ (.int .i64 0)).setCell ⟨w.heap.size, 1, none⟩ (.int .i64 0)).setCell ⟨w.heap.size, 2, none⟩ (.slice none 0 0)).setCell ⟨w.heap.size, 3, none⟩ (.slice none 0 0)).setCell ⟨w.heap.size, 4, none⟩ (.slice none 0 0)).setCell ⟨w.heap.size, 5, none⟩ (.int .i64 0)).setCell ⟨w.heap.size, 6, none⟩ (.int .i64 0)) (w.heap.size + 1) 26 #[.int .i64 0, .int .i64 0, .slice none 0 0, .slice none 0 0, .slice none 0 0, .int .i64 0, .int .i64 0] := (((((((B2_bz.out).far (p := ⟨w.heap.size, 0, none⟩) (by show w.heap.size + 1 ≠ w.heap.size; omega) _).far (p := ⟨w.heap.size, 1, none⟩) (by show w.heap.size + 1 ≠ w.heap.size; omega) _).far (p := ⟨w.heap.size, 2, none⟩) (by show w.heap.size + 1 ≠ w.heap.size; omega) _).far (p := ⟨w.heap.size, 3, none⟩) (by show w.heap.size + 1 ≠ w.heap.size; omega) _).far (p := ⟨w.heap.size, 4, none⟩) (by show w.heap.size + 1 ≠ w.heap.size; omega) _).far (p := ⟨w.heap.size, 5, none⟩) (by show w.heap.size + 1 ≠ w.heap.size; omega) _).far (p := ⟨w.heap.size, 6, none⟩) (by show w.heap.size + 1 ≠ w.heap.size; omega) _
  have z0 := b_bzE.cell 0
  have zf0 := b_bzE.frozen 0
  have z1 := b_bzE.cell 1
  have zf1 := b_bzE.frozen 1
  have z2 := b_bzE.cell 2
  have zf2 := b_bzE.frozen 2
  have z3 := b_bzE.cell 3
  have zf3 := b_bzE.frozen 3
  have z4 := b_bzE.cell 4
  have zf4 := b_bzE.frozen 4
  have z5 := b_bzE.cell 5
  have zf5 := b_bzE.frozen 5
  have z6 := b_bzE.cell 6
  have zf6 := b_bzE.frozen 6
  have zl := b_bzE.lt
  clear b_bxE b_bzE hbE
  go_wp2_with fail
  clear c_bx0 f_bx0 c_bx1 f_bx1 c_bx2 f_bx2 c_bx3 f_bx3 c_bx4 f_bx4 c_bx5 f_bx5 c_bx6 f_bx6 l_bx c_bz0 f_bz0 c_bz1 f_bz1 c_bz2 f_bz2 c_bz3 f_bz3 c_bz4 f_bz4 c_bz5 f_bz5 c_bz6 f_bz6 l_bz
  have hszF := HB2.out.size
  have hbF : Below w.heap.size w ((((((((((((((W2.setCell ⟨w.heap.size, 0, none⟩ (.int .i64 0)).setCell ⟨w.heap.size, 1, none⟩ (.int .i64 0)).setCell ⟨w.heap.size, 2, none⟩ (.slice none 0 0)).setCell ⟨w.heap.size, 3, none⟩ (.slice none 0 0)).setCell ⟨w.heap.size, 4, none⟩ (.slice none 0 0)).setCell ⟨w.heap.size, 5, none⟩ (.int .i64 0)).setCell ⟨w.heap.size, 6, none⟩ (.int .i64 0)).setCell ⟨w.heap.size + 1, 0, none⟩ (.int .i64 0)).setCell ⟨w.heap.size + 1, 1, none⟩ (.int .i64 0)).setCell ⟨w.heap.size + 1, 2, none⟩ (.slice none 0 0)).setCell ⟨w.heap.size + 1, 3, none⟩ (.slice none 0 0)).setCell ⟨w.heap.size + 1, 4, none⟩ (.slice none 0 0)).setCell ⟨w.heap.size + 1, 5, none⟩ (.int .i64 0)).setCell ⟨w.heap.size + 1, 6, none⟩ (.int .i64 0)) := ((((((((((((((HB2.out).setCell (by show w.heap.size ≤ w.heap.size; omega) _).setCell (by show w.heap.size ≤ w.heap.size; omega) _).setCell (by show w.heap.size ≤ w.heap.size; omega) _).setCell (by show w.heap.size ≤ w.heap.size; omega) _).setCell (by show w.heap.size ≤ w.heap.size; omega) _).setCell (by show w.heap.size ≤ w.heap.size; omega) _).setCell (by show w.heap.size ≤ w.heap.size; omega) _).setCell (by show w.heap.size ≤ w.heap.size + 1; omega) _).setCell (by show w.heap.size ≤ w.heap.size + 1; omega) _).setCell (by show w.heap.size ≤ w.heap.size + 1; omega) _).setCell (by show w.heap.size ≤ w.heap.size + 1; omega) _).setCell (by show w.heap.size ≤ w.heap.size + 1; omega) _).setCell (by show w.heap.size ≤ w.heap.size + 1; omega) _).setCell (by show w.heap.size ≤ w.heap.size + 1; omega) _
  have b_bxF : Blk ((((((((((((((W2.setCell ⟨w.heap.size, 0, none⟩ (.int .i64 0)).setCell ⟨w.heap.size, 1, none⟩ (.int .i64 0)).setCell ⟨w.heap.size, 2, none⟩ (.slice none 0 0)).setCell ⟨w.heap.size, 3, none⟩ (.slice none 0 0)).setCell ⟨w.heap.size, 4, none⟩ (.slice none 0 0)).setCell ⟨w.heap.size, 5, none⟩ (.int .i64 0)).setCell ⟨w.heap.size, 6, none⟩ (.int .i64 0)).setCell ⟨w.heap.size + 1, 0, none⟩ (.int .i64 0)).setCell ⟨w.heap.size + 1, 1, none⟩ (.int .i64 0)).setCell ⟨w.heap.size + 1, 2, none⟩ (.slice none 0 0)).setCell ⟨w.heap.size + 1, 3, none⟩ (.slice none 0 0)).setCell ⟨w.heap.size + 1, 4, none⟩ (.slice none 0 0)).setCell ⟨w.heap.size + 1, 5, none⟩ (.int .i64 0)).setCell ⟨w.heap.size + 1, 6, none⟩ (.int .i64 0)) (w.heap.size) 26 #[.int .i64 0, .int .i64 0, .slice none 0 0, .slice none 0 0, .slice none 0 0, .int .i64 0, .int .i64 0] := ((((((((((((((B2_bx.out).set_ 0 _).set_ 1 _).set_ 2 _).set_ 3 _).set_ 4 _).set_ 5 _).set_ 6 _).far (p := ⟨w.heap.size + 1, 0, none⟩) (by show w.heap.size ≠ w.heap.size + 1; omega) _).far (p := ⟨w.heap.size + 1, 1, none⟩) (by show w.heap.size ≠ w.heap.size + 1; omega) _).far (p := ⟨w.heap.size + 1, 2, none⟩) (by show w.heap.size ≠ w.heap.size + 1; omega) _).far (p := ⟨w.heap.size + 1, 3, none⟩) (by show w.heap.size ≠ w.heap.size + 1; omega) _).far (p := ⟨w.heap.size + 1, 4, none⟩) (by show w.heap.size ≠ w.heap.size + 1; omega) _).far (p := ⟨w.heap.size + 1, 5, none⟩) (by show w.heap.size ≠ w.heap.size + 1; omega) _).far (p := ⟨w.heap.size + 1, 6, none⟩) (by show w.heap.size ≠ w.heap.size + 1; omega) _
  have b_bzF : Blk ((((((((((((((W2.setCell ⟨w.heap.size, 0, none⟩ (.int .i64 0)).setCell ⟨w.heap.size, 1, none⟩ (.int .i64 0)).setCell ⟨w.heap.size, 2, none⟩ (.slice none 0 0)).setCell ⟨w.heap.size, 3, none⟩ (.slice none 0 0)).setCell ⟨w.heap.size, 4, none⟩ (.slice none 0 0)).setCell ⟨w.heap.size, 5, none⟩ (.int .i64 0)).setCell ⟨w.heap.size, 6, none⟩ (.int .i64 0)).setCell ⟨w.heap.size + 1, 0, none⟩ (.int .i64 0)).setCell ⟨w.heap.size + 1, 1, none⟩ (.int .i64 0)).setCell ⟨w.heap.size + 1, 2, none⟩ (.slice none 0 0)).setCell ⟨w.heap.size + 1, 3, none⟩ (.slice none 0 0)).setCell ⟨w.heap.size + 1, 4, none⟩ (.slice none 0 0)).setCell ⟨w.heap.size + 1, 5, none⟩ (.int .i64 0)).setCell ⟨w.heap.size + 1, 6, none⟩ (.int .i64 0)) (w.heap.size + 1) 26 #[.int .i64 0, .int .i64 0, .slice none 0 0, .slice none 0 0, .slice none 0 0, .int .i64 0, .int .i64 0] := ((((((((((((((B2_bz.out).far (p := ⟨w.heap.size, 0, none⟩) (by show w.heap.size + 1 ≠ w.heap.size; omega) _).far (p := ⟨w.heap.size, 1, none⟩) (by show w.heap.size + 1 ≠ w.heap.size; omega) _).far (p := ⟨w.heap.size, 2, none⟩) (by show w.heap.size + 1 ≠ w.heap.size; omega) _).far (p := ⟨w.heap.size, 3, none⟩) (by show w.heap.size + 1 ≠ w.heap.size; omega) _).far (p := ⟨w.heap.size, 4, none⟩) (by show w.heap.size + 1 ≠ w.heap.size; omega) _).far (p := ⟨w.heap.size, 5, none⟩) (by show w.heap.size + 1 ≠ w.heap.size; omega) _).far (p := ⟨w.heap.size, 6, none⟩) (by show w.heap.size + 1 ≠ w.heap.size; omega) _).set_ 0 _).set_ 1 _).set_ 2 _).set_ 3 _).set_ 4 _).set_ 5 _).set_ 6 _
  have y0 := b_bzF.cell 0
  have y1 := b_bzF.cell 1
  have y2 := b_bzF.cell 2
  have y3 := b_bzF.cell 3
  have y4 := b_bzF.cell 4
  have y5 := b_bzF.cell 5
  have y6 := b_bzF.cell 6
  exact bodyPost_ret (v := .tuple #[.agg #[.int .i64 0, .int .i64 0, .slice none 0 0, .slice none 0 0, .slice none 0 0, .int .i64 0, .int .i64 0], .int .i64 n]) (by simp [results, Try.results54, go_sem, y0, y1, y2, y3, y4, y5, y6]) rfl (⟨rfl, hbF⟩)
set_option maxRecDepth 100000 in
set_option maxHeartbeats 4000000 in
theorem pcrash_down (v : Value) (c : PartD) (i : Nat) (keep : Int) (hn : PartOk c) (hi : i < c.reps.length) (hu : c.reps[i].up = false) (w : World) (h : Pv w v c) : Calls Try.prog 54 #[v, .int .i64 i, .int .i64 keep] w (RefusesP 7 w) := by
  have eqk := hn.known
  have eqi := hn.isr
  obtain ⟨xi, xk, xr, rfl, ix, kx, rx, hli, hlk, hlr⟩ := id h
  obtain ⟨A5, c5, rfl, hc5, -⟩ := rx.at_
  obtain ⟨A1, c1, rfl, hc1, -⟩ := ix.at_
  obtain ⟨A3, c3, rfl, hc3, -⟩ := kx.at_
  have H := Lib.hid h
  clear h ix kx rx
  unfold partV at *
  obtain ⟨ep, ld, is, ks, rs, fw, ba⟩ := c
  simp only at *
  have HN := Lib.hid hn
  have HSM := Lib.hid hn.small
  clear hn
  (try simp only at eqk eqi)
  have E1 := Lib.hid eqi
  have E2 := Lib.hid eqk
  have i0 : (0 : Int) ≤ (i : Int) := by omega
  have i1 : (i : Int) < (rs.length : Int) := Int.ofNat_lt.2 hi
  have i2 : (i : Int) < (is.length : Int) := by omega
  have i3 : (i : Int) < (ks.length : Int) := by omega
  have j2 : i < is.length := by omega
  have j3 : i < ks.length := by omega
  clear eqk eqi
  have hup : rs[i].up = false := hu
  have HU := Lib.hid hup
  clear hu hup
  go_enter Try.func54, Try.ntmps54
  go_wp2_with fail
  have hb1 : Below w.heap.size w ((w.alloc (.cells #[.int .i64 ep, .int .i64 ld, .slice A1 is.length c1, .slice A3 ks.length c3, .slice A5 rs.length c5, .int .i64 fw, .int .i64 ba] 26)).alloc (.cells #[.int .i64 0, .int .i64 0, .slice none 0 0, .slice none 0 0, .slice none 0 0, .int .i64 0, .int .i64 0] 26)) := ((Below.refl _ _).alloc (by first | omega | (simp; done) | (simp; omega)) _).alloc (by first | omega | (simp; done) | (simp; omega)) _
  have hal1 : Below w.heap.size w ((w.alloc (.cells #[.int .i64 ep, .int .i64 ld, .slice A1 is.length c1, .slice A3 ks.length c3, .slice A5 rs.length c5, .int .i64 fw, .int .i64 ba] 26)).alloc (.cells #[.int .i64 0, .int .i64 0, .slice none 0 0, .slice none 0 0, .slice none 0 0, .int .i64 0, .int .i64 0] 26)) := ((Below.refl _ _).alloc (by first | omega | (simp; done) | (simp; omega)) _).alloc (by first | omega | (simp; done) | (simp; omega)) _
  have b_bx1 : Blk ((w.alloc (.cells #[.int .i64 ep, .int .i64 ld, .slice A1 is.length c1, .slice A3 ks.length c3, .slice A5 rs.length c5, .int .i64 fw, .int .i64 ba] 26)).alloc (.cells #[.int .i64 0, .int .i64 0, .slice none 0 0, .slice none 0 0, .slice none 0 0, .int .i64 0, .int .i64 0] 26)) (w.heap.size) 26 #[.int .i64 ep, .int .i64 ld, .slice A1 is.length c1, .slice A3 ks.length c3, .slice A5 rs.length c5, .int .i64 fw, .int .i64 ba] := (Blk.new_ _ 26 #[.int .i64 ep, .int .i64 ld, .slice A1 is.length c1, .slice A3 ks.length c3, .slice A5 rs.length c5, .int .i64 fw, .int .i64 ba] (by first | rfl | (simp; done) | (simp; omega))).alloc _
  have b_bz1 : Blk ((w.alloc (.cells #[.int .i64 ep, .int .i64 ld, .slice A1 is.length c1, .slice A3 ks.length c3, .slice A5 rs.length c5, .int .i64 fw, .int .i64 ba] 26)).alloc (.cells #[.int .i64 0, .int .i64 0, .slice none 0 0, .slice none 0 0, .slice none 0 0, .int .i64 0, .int .i64 0] 26)) (w.heap.size + 1) 26 #[.int .i64 0, .int .i64 0, .slice none 0 0, .slice none 0 0, .slice none 0 0, .int .i64 0, .int .i64 0] := Blk.new_ _ 26 #[.int .i64 0, .int .i64 0, .slice none 0 0, .slice none 0 0, .slice none 0 0, .int .i64 0, .int .i64 0] (by first | rfl | (simp; done) | (simp; omega))
  have k_v1 := H.out.below hal1
  have hz1 : w.heap.size + 2 ≤ ((w.alloc (.cells #[.int .i64 ep, .int .i64 ld, .slice A1 is.length c1, .slice A3 ks.length c3, .slice A5 rs.length c5, .int .i64 fw, .int .i64 ba] 26)).alloc (.cells #[.int .i64 0, .int .i64 0, .slice none 0 0, .slice none 0 0, .slice none 0 0, .int .i64 0, .int .i64 0] 26)).heap.size := by first | omega | (simp; done) | (simp; omega)
  generalize (w.alloc (.cells #[.int .i64 ep, .int .i64 ld, .slice A1 is.length c1, .slice A3 ks.length c3, .slice A5 rs.length c5, .int .i64 fw, .int .i64 ba] 26)).alloc (.cells #[.int .i64 0, .int .i64 0, .slice none 0 0, .slice none 0 0, .slice none 0 0, .int .i64 0, .int .i64 0] 26) = W1 at *
  have HB1 := Lib.hid hb1
  have B1_bx := Lib.hid b_bx1
  have B1_bz := Lib.hid b_bz1
  have K1_v := Lib.hid k_v1
  clear hb1 b_bx1 b_bz1 k_v1
  clear H
  refine (at_good _ ⟨ep, ld, is, ks, rs, fw, ba⟩ i HN.out hi _ K1_v.out).mono ?_
  rintro e W2 ⟨iv, kv, rv, rfl, ho, hb⟩
  obtain ⟨gi, d1, gk, d3, gr, d5, rfl, rfl, rfl, hgi, hgk, hgr, hgi', hgk', hgr'⟩ := ho.rows (by have := HN.out.isr; have := HN.out.many; simp only at *; omega) (by have := HN.out.known; have := HN.out.many; simp only at *; omega) (by have := HN.out.many; simp only at *; omega)
  unfold partV
  simp only at *
  have HO := Lib.hid ho
  clear ho
  have hb2 : Below w.heap.size w W2 := below_then HB1.out hb
  have b_bx2 := B1_bx.out.below hb B1_bx.out.lt
  have b_bz2 := B1_bz.out.below hb B1_bz.out.lt
  have k_v2 := K1_v.out.below hb
  have hz2 := hb.size
  have HB2 := Lib.hid hb2
  have B2_bx := Lib.hid b_bx2
  have B2_bz := Lib.hid b_bz2
  have K2_v := Lib.hid k_v2
  clear hb2 b_bx2 b_bz2 k_v2
  clear B1_bx B1_bz HB1 K1_v
  have c_bx0 := B2_bx.out.cell 0
  have f_bx0 := B2_bx.out.frozen 0
  have c_bx1 := B2_bx.out.cell 1
  have f_bx1 := B2_bx.out.frozen 1
  have c_bx2 := B2_bx.out.cell 2
  have f_bx2 := B2_bx.out.frozen 2
  have c_bx3 := B2_bx.out.cell 3
  have f_bx3 := B2_bx.out.frozen 3
  have c_bx4 := B2_bx.out.cell 4
  have f_bx4 := B2_bx.out.frozen 4
  have c_bx5 := B2_bx.out.cell 5
  have f_bx5 := B2_bx.out.frozen 5
  have c_bx6 := B2_bx.out.cell 6
  have f_bx6 := B2_bx.out.frozen 6
  have l_bx := B2_bx.out.lt
  go_upto_region 2 with fail
  clear c_bx0 f_bx0 c_bx1 f_bx1 c_bx2 f_bx2 c_bx3 f_bx3 c_bx4 f_bx4 c_bx5 f_bx5 c_bx6 f_bx6 l_bx
  have hsz3 := HB2.out.size
  have hb3 : Below w.heap.size w (((((((W2.setCell ⟨w.heap.size, 0, none⟩ (.int .i64 ep)).setCell ⟨w.heap.size, 1, none⟩ (.int .i64 ld)).setCell ⟨w.heap.size, 2, none⟩ (.slice (some ⟨gi, 0, none⟩) is.length d1)).setCell ⟨w.heap.size, 3, none⟩ (.slice (some ⟨gk, 0, none⟩) ks.length d3)).setCell ⟨w.heap.size, 4, none⟩ (.slice (some ⟨gr, 0, none⟩) rs.length d5)).setCell ⟨w.heap.size, 5, none⟩ (.int .i64 fw)).setCell ⟨w.heap.size, 6, none⟩ (.int .i64 ba)) := (((((((HB2.out).setCell (by show w.heap.size ≤ w.heap.size; omega) _).setCell (by show w.heap.size ≤ w.heap.size; omega) _).setCell (by show w.heap.size ≤ w.heap.size; omega) _).setCell (by show w.heap.size ≤ w.heap.size; omega) _).setCell (by show w.heap.size ≤ w.heap.size; omega) _).setCell (by show w.heap.size ≤ w.heap.size; omega) _).setCell (by show w.heap.size ≤ w.heap.size; omega) _
  have b_bx3 : Blk (((((((W2.setCell ⟨w.heap.size, 0, none⟩ (.int .i64 ep)).setCell ⟨w.heap.size, 1, none⟩ (.int .i64 ld)).setCell ⟨w.heap.size, 2, none⟩ (.slice (some ⟨gi, 0, none⟩) is.length d1)).setCell ⟨w.heap.size, 3, none⟩ (.slice (some ⟨gk, 0, none⟩) ks.length d3)).setCell ⟨w.heap.size, 4, none⟩ (.slice (some ⟨gr, 0, none⟩) rs.length d5)).setCell ⟨w.heap.size, 5, none⟩ (.int .i64 fw)).setCell ⟨w.heap.size, 6, none⟩ (.int .i64 ba)) (w.heap.size) 26 #[.int .i64 ep, .int .i64 ld, .slice (some ⟨gi, 0, none⟩) is.length d1, .slice (some ⟨gk, 0, none⟩) ks.length d3, .slice (some ⟨gr, 0, none⟩) rs.length d5, .int .i64 fw, .int .i64 ba] := (((((((B2_bx.out).set_ 0 _).set_ 1 _).set_ 2 _).set_ 3 _).set_ 4 _).set_ 5 _).set_ 6 _
  have b_bz3 : Blk (((((((W2.setCell ⟨w.heap.size, 0, none⟩ (.int .i64 ep)).setCell ⟨w.heap.size, 1, none⟩ (.int .i64 ld)).setCell ⟨w.heap.size, 2, none⟩ (.slice (some ⟨gi, 0, none⟩) is.length d1)).setCell ⟨w.heap.size, 3, none⟩ (.slice (some ⟨gk, 0, none⟩) ks.length d3)).setCell ⟨w.heap.size, 4, none⟩ (.slice (some ⟨gr, 0, none⟩) rs.length d5)).setCell ⟨w.heap.size, 5, none⟩ (.int .i64 fw)).setCell ⟨w.heap.size, 6, none⟩ (.int .i64 ba)) (w.heap.size + 1) 26 #[.int .i64 0, .int .i64 0, .slice none 0 0, .slice none 0 0, .slice none 0 0, .int .i64 0, .int .i64 0] := (((((((B2_bz.out).far (p := ⟨w.heap.size, 0, none⟩) (by show w.heap.size + 1 ≠ w.heap.size; omega) _).far (p := ⟨w.heap.size, 1, none⟩) (by show w.heap.size + 1 ≠ w.heap.size; omega) _).far (p := ⟨w.heap.size, 2, none⟩) (by show w.heap.size + 1 ≠ w.heap.size; omega) _).far (p := ⟨w.heap.size, 3, none⟩) (by show w.heap.size + 1 ≠ w.heap.size; omega) _).far (p := ⟨w.heap.size, 4, none⟩) (by show w.heap.size + 1 ≠ w.heap.size; omega) _).far (p := ⟨w.heap.size, 5, none⟩) (by show w.heap.size + 1 ≠ w.heap.size; omega) _).far (p := ⟨w.heap.size, 6, none⟩) (by show w.heap.size + 1 ≠ w.heap.size; omega) _
  have k_own3 := (((((((HO.out).under (a := ⟨w.heap.size, 0, none⟩) (by (try dsimp only); omega) (.int .i64 ep)).under (a := ⟨w.heap.size, 1, none⟩) (by (try dsimp only); omega) (.int .i64 ld)).under (a := ⟨w.heap.size, 2, none⟩) (by (try dsimp only); omega) (.slice (some ⟨gi, 0, none⟩) is.length d1)).under (a := ⟨w.heap.size, 3, none⟩) (by (try dsimp only); omega) (.slice (some ⟨gk, 0, none⟩) ks.length d3)).under (a := ⟨w.heap.size, 4, none⟩) (by (try dsimp only); omega) (.slice (some ⟨gr, 0, none⟩) rs.length d5)).under (a := ⟨w.heap.size, 5, none⟩) (by (try dsimp only); omega) (.int .i64 fw)).under (a := ⟨w.heap.size, 6, none⟩) (by (try dsimp only); omega) (.int .i64 ba)
  have hz3 : W2.heap.size + 0 ≤ (((((((W2.setCell ⟨w.heap.size, 0, none⟩ (.int .i64 ep)).setCell ⟨w.heap.size, 1, none⟩ (.int .i64 ld)).setCell ⟨w.heap.size, 2, none⟩ (.slice (some ⟨gi, 0, none⟩) is.length d1)).setCell ⟨w.heap.size, 3, none⟩ (.slice (some ⟨gk, 0, none⟩) ks.length d3)).setCell ⟨w.heap.size, 4, none⟩ (.slice (some ⟨gr, 0, none⟩) rs.length d5)).setCell ⟨w.heap.size, 5, none⟩ (.int .i64 fw)).setCell ⟨w.heap.size, 6, none⟩ (.int .i64 ba)).heap.size := by first | omega | (simp; done) | (simp; omega)
  generalize ((((((W2.setCell ⟨w.heap.size, 0, none⟩ (.int .i64 ep)).setCell ⟨w.heap.size, 1, none⟩ (.int .i64 ld)).setCell ⟨w.heap.size, 2, none⟩ (.slice (some ⟨gi, 0, none⟩) is.length d1)).setCell ⟨w.heap.size, 3, none⟩ (.slice (some ⟨gk, 0, none⟩) ks.length d3)).setCell ⟨w.heap.size, 4, none⟩ (.slice (some ⟨gr, 0, none⟩) rs.length d5)).setCell ⟨w.heap.size, 5, none⟩ (.int .i64 fw)).setCell ⟨w.heap.size, 6, none⟩ (.int .i64 ba) = W3 at *
  have HB3 := Lib.hid hb3
  have B3_bx := Lib.hid b_bx3
  have B3_bz := Lib.hid b_bz3
  have K3_own := Lib.hid k_own3
  clear hb3 b_bx3 b_bz3 k_own3
  clear B2_bx B2_bz HB2 HO
  have c_bx0 := B3_bx.out.cell 0
  have c_bx1 := B3_bx.out.cell 1
  have c_bx2 := B3_bx.out.cell 2
  have c_bx3 := B3_bx.out.cell 3
  have c_bx4 := B3_bx.out.cell 4
  have c_bx5 := B3_bx.out.cell 5
  have c_bx6 := B3_bx.out.cell 6
  have l_bx := B3_bx.out.lt
  have c_bz0 := B3_bz.out.cell 0
  have f_bz0 := B3_bz.out.frozen 0
  have c_bz1 := B3_bz.out.cell 1
  have f_bz1 := B3_bz.out.frozen 1
  have c_bz2 := B3_bz.out.cell 2
  have f_bz2 := B3_bz.out.frozen 2
  have c_bz3 := B3_bz.out.cell 3
  have f_bz3 := B3_bz.out.frozen 3
  have c_bz4 := B3_bz.out.cell 4
  have f_bz4 := B3_bz.out.frozen 4
  have c_bz5 := B3_bz.out.cell 5
  have f_bz5 := B3_bz.out.frozen 5
  have c_bz6 := B3_bz.out.cell 6
  have f_bz6 := B3_bz.out.frozen 6
  have l_bz := B3_bz.out.lt
  obtain ⟨A7, c7, ⟨r0, r1, r2, r3⟩, ⟨rf0, rf1, rf2, rf3⟩, rby⟩ := K3_own.out.repAt i hi
  obtain ⟨s0, sf0⟩ := K3_own.out.isrAt i j2
  obtain ⟨t0, tf0⟩ := K3_own.out.knownAt i j3
  (try simp only at r0 r1 r2 r3 rby s0 t0)
  rw [HU.out] at r0
  go_wp2_with fail
  clear c_bx0 c_bx1 c_bx2 c_bx3 c_bx4 c_bx5 c_bx6 l_bx c_bz0 f_bz0 c_bz1 f_bz1 c_bz2 f_bz2 c_bz3 f_bz3 c_bz4 f_bz4 c_bz5 f_bz5 c_bz6 f_bz6 l_bz r0 r1 r2 r3 rf0 rf1 rf2 rf3 rby s0 sf0 t0 tf0
  have hszF := HB3.out.size
  have hbF : Below w.heap.size w (((((((W3.setCell ⟨w.heap.size + 1, 0, none⟩ (.int .i64 0)).setCell ⟨w.heap.size + 1, 1, none⟩ (.int .i64 0)).setCell ⟨w.heap.size + 1, 2, none⟩ (.slice none 0 0)).setCell ⟨w.heap.size + 1, 3, none⟩ (.slice none 0 0)).setCell ⟨w.heap.size + 1, 4, none⟩ (.slice none 0 0)).setCell ⟨w.heap.size + 1, 5, none⟩ (.int .i64 0)).setCell ⟨w.heap.size + 1, 6, none⟩ (.int .i64 0)) := (((((((HB3.out).setCell (by show w.heap.size ≤ w.heap.size + 1; omega) _).setCell (by show w.heap.size ≤ w.heap.size + 1; omega) _).setCell (by show w.heap.size ≤ w.heap.size + 1; omega) _).setCell (by show w.heap.size ≤ w.heap.size + 1; omega) _).setCell (by show w.heap.size ≤ w.heap.size + 1; omega) _).setCell (by show w.heap.size ≤ w.heap.size + 1; omega) _).setCell (by show w.heap.size ≤ w.heap.size + 1; omega) _
  have b_bxF : Blk (((((((W3.setCell ⟨w.heap.size + 1, 0, none⟩ (.int .i64 0)).setCell ⟨w.heap.size + 1, 1, none⟩ (.int .i64 0)).setCell ⟨w.heap.size + 1, 2, none⟩ (.slice none 0 0)).setCell ⟨w.heap.size + 1, 3, none⟩ (.slice none 0 0)).setCell ⟨w.heap.size + 1, 4, none⟩ (.slice none 0 0)).setCell ⟨w.heap.size + 1, 5, none⟩ (.int .i64 0)).setCell ⟨w.heap.size + 1, 6, none⟩ (.int .i64 0)) (w.heap.size) 26 #[.int .i64 ep, .int .i64 ld, .slice (some ⟨gi, 0, none⟩) is.length d1, .slice (some ⟨gk, 0, none⟩) ks.length d3, .slice (some ⟨gr, 0, none⟩) rs.length d5, .int .i64 fw, .int .i64 ba] := (((((((B3_bx.out).far (p := ⟨w.heap.size + 1, 0, none⟩) (by show w.heap.size ≠ w.heap.size + 1; omega) _).far (p := ⟨w.heap.size + 1, 1, none⟩) (by show w.heap.size ≠ w.heap.size + 1; omega) _).far (p := ⟨w.heap.size + 1, 2, none⟩) (by show w.heap.size ≠ w.heap.size + 1; omega) _).far (p := ⟨w.heap.size + 1, 3, none⟩) (by show w.heap.size ≠ w.heap.size + 1; omega) _).far (p := ⟨w.heap.size + 1, 4, none⟩) (by show w.heap.size ≠ w.heap.size + 1; omega) _).far (p := ⟨w.heap.size + 1, 5, none⟩) (by show w.heap.size ≠ w.heap.size + 1; omega) _).far (p := ⟨w.heap.size + 1, 6, none⟩) (by show w.heap.size ≠ w.heap.size + 1; omega) _
  have b_bzF : Blk (((((((W3.setCell ⟨w.heap.size + 1, 0, none⟩ (.int .i64 0)).setCell ⟨w.heap.size + 1, 1, none⟩ (.int .i64 0)).setCell ⟨w.heap.size + 1, 2, none⟩ (.slice none 0 0)).setCell ⟨w.heap.size + 1, 3, none⟩ (.slice none 0 0)).setCell ⟨w.heap.size + 1, 4, none⟩ (.slice none 0 0)).setCell ⟨w.heap.size + 1, 5, none⟩ (.int .i64 0)).setCell ⟨w.heap.size + 1, 6, none⟩ (.int .i64 0)) (w.heap.size + 1) 26 #[.int .i64 0, .int .i64 0, .slice none 0 0, .slice none 0 0, .slice none 0 0, .int .i64 0, .int .i64 0] := (((((((B3_bz.out).set_ 0 _).set_ 1 _).set_ 2 _).set_ 3 _).set_ 4 _).set_ 5 _).set_ 6 _
  have y0 := b_bzF.cell 0
  have y1 := b_bzF.cell 1
  have y2 := b_bzF.cell 2
  have y3 := b_bzF.cell 3
  have y4 := b_bzF.cell 4
  have y5 := b_bzF.cell 5
  have y6 := b_bzF.cell 6
  exact bodyPost_ret (v := .tuple #[.agg #[.int .i64 0, .int .i64 0, .slice none 0 0, .slice none 0 0, .slice none 0 0, .int .i64 0, .int .i64 0], .int .i64 7]) (by simp [results, Try.results54, go_sem, y0, y1, y2, y3, y4, y5, y6]) rfl (⟨rfl, hbF⟩)
set_option maxRecDepth 100000 in
set_option maxHeartbeats 4000000 in
theorem pcrash_range (v : Value) (c : PartD) (i : Nat) (keep : Int) (hn : PartOk c) (hi : i < c.reps.length) (hu : c.reps[i].up = true) (hk : keep < 0) (w : World) (h : Pv w v c) : Calls Try.prog 54 #[v, .int .i64 i, .int .i64 keep] w (RefusesP 2 w) := by
  have eqk := hn.known
  have eqi := hn.isr
  obtain ⟨xi, xk, xr, rfl, ix, kx, rx, hli, hlk, hlr⟩ := id h
  obtain ⟨A5, c5, rfl, hc5, -⟩ := rx.at_
  obtain ⟨A1, c1, rfl, hc1, -⟩ := ix.at_
  obtain ⟨A3, c3, rfl, hc3, -⟩ := kx.at_
  have H := Lib.hid h
  clear h ix kx rx
  unfold partV at *
  obtain ⟨ep, ld, is, ks, rs, fw, ba⟩ := c
  simp only at *
  have HN := Lib.hid hn
  have HSM := Lib.hid hn.small
  clear hn
  (try simp only at eqk eqi)
  have E1 := Lib.hid eqi
  have E2 := Lib.hid eqk
  have i0 : (0 : Int) ≤ (i : Int) := by omega
  have i1 : (i : Int) < (rs.length : Int) := Int.ofNat_lt.2 hi
  have i2 : (i : Int) < (is.length : Int) := by omega
  have i3 : (i : Int) < (ks.length : Int) := by omega
  have j2 : i < is.length := by omega
  have j3 : i < ks.length := by omega
  clear eqk eqi
  have hup : rs[i].up = true := hu
  have HU := Lib.hid hup
  clear hu hup
  obtain ⟨es, j, hlog⟩ := HN.out.log i hi
  have HLG := Lib.hid hlog
  clear hlog
  go_enter Try.func54, Try.ntmps54
  go_wp2_with fail
  have hb1 : Below w.heap.size w ((w.alloc (.cells #[.int .i64 ep, .int .i64 ld, .slice A1 is.length c1, .slice A3 ks.length c3, .slice A5 rs.length c5, .int .i64 fw, .int .i64 ba] 26)).alloc (.cells #[.int .i64 0, .int .i64 0, .slice none 0 0, .slice none 0 0, .slice none 0 0, .int .i64 0, .int .i64 0] 26)) := ((Below.refl _ _).alloc (by first | omega | (simp; done) | (simp; omega)) _).alloc (by first | omega | (simp; done) | (simp; omega)) _
  have hal1 : Below w.heap.size w ((w.alloc (.cells #[.int .i64 ep, .int .i64 ld, .slice A1 is.length c1, .slice A3 ks.length c3, .slice A5 rs.length c5, .int .i64 fw, .int .i64 ba] 26)).alloc (.cells #[.int .i64 0, .int .i64 0, .slice none 0 0, .slice none 0 0, .slice none 0 0, .int .i64 0, .int .i64 0] 26)) := ((Below.refl _ _).alloc (by first | omega | (simp; done) | (simp; omega)) _).alloc (by first | omega | (simp; done) | (simp; omega)) _
  have b_bx1 : Blk ((w.alloc (.cells #[.int .i64 ep, .int .i64 ld, .slice A1 is.length c1, .slice A3 ks.length c3, .slice A5 rs.length c5, .int .i64 fw, .int .i64 ba] 26)).alloc (.cells #[.int .i64 0, .int .i64 0, .slice none 0 0, .slice none 0 0, .slice none 0 0, .int .i64 0, .int .i64 0] 26)) (w.heap.size) 26 #[.int .i64 ep, .int .i64 ld, .slice A1 is.length c1, .slice A3 ks.length c3, .slice A5 rs.length c5, .int .i64 fw, .int .i64 ba] := (Blk.new_ _ 26 #[.int .i64 ep, .int .i64 ld, .slice A1 is.length c1, .slice A3 ks.length c3, .slice A5 rs.length c5, .int .i64 fw, .int .i64 ba] (by first | rfl | (simp; done) | (simp; omega))).alloc _
  have b_bz1 : Blk ((w.alloc (.cells #[.int .i64 ep, .int .i64 ld, .slice A1 is.length c1, .slice A3 ks.length c3, .slice A5 rs.length c5, .int .i64 fw, .int .i64 ba] 26)).alloc (.cells #[.int .i64 0, .int .i64 0, .slice none 0 0, .slice none 0 0, .slice none 0 0, .int .i64 0, .int .i64 0] 26)) (w.heap.size + 1) 26 #[.int .i64 0, .int .i64 0, .slice none 0 0, .slice none 0 0, .slice none 0 0, .int .i64 0, .int .i64 0] := Blk.new_ _ 26 #[.int .i64 0, .int .i64 0, .slice none 0 0, .slice none 0 0, .slice none 0 0, .int .i64 0, .int .i64 0] (by first | rfl | (simp; done) | (simp; omega))
  have k_v1 := H.out.below hal1
  have hz1 : w.heap.size + 2 ≤ ((w.alloc (.cells #[.int .i64 ep, .int .i64 ld, .slice A1 is.length c1, .slice A3 ks.length c3, .slice A5 rs.length c5, .int .i64 fw, .int .i64 ba] 26)).alloc (.cells #[.int .i64 0, .int .i64 0, .slice none 0 0, .slice none 0 0, .slice none 0 0, .int .i64 0, .int .i64 0] 26)).heap.size := by first | omega | (simp; done) | (simp; omega)
  generalize (w.alloc (.cells #[.int .i64 ep, .int .i64 ld, .slice A1 is.length c1, .slice A3 ks.length c3, .slice A5 rs.length c5, .int .i64 fw, .int .i64 ba] 26)).alloc (.cells #[.int .i64 0, .int .i64 0, .slice none 0 0, .slice none 0 0, .slice none 0 0, .int .i64 0, .int .i64 0] 26) = W1 at *
  have HB1 := Lib.hid hb1
  have B1_bx := Lib.hid b_bx1
  have B1_bz := Lib.hid b_bz1
  have K1_v := Lib.hid k_v1
  clear hb1 b_bx1 b_bz1 k_v1
  clear H
  refine (at_good _ ⟨ep, ld, is, ks, rs, fw, ba⟩ i HN.out hi _ K1_v.out).mono ?_
  rintro e W2 ⟨iv, kv, rv, rfl, ho, hb⟩
  obtain ⟨gi, d1, gk, d3, gr, d5, rfl, rfl, rfl, hgi, hgk, hgr, hgi', hgk', hgr'⟩ := ho.rows (by have := HN.out.isr; have := HN.out.many; simp only at *; omega) (by have := HN.out.known; have := HN.out.many; simp only at *; omega) (by have := HN.out.many; simp only at *; omega)
  unfold partV
  simp only at *
  have HO := Lib.hid ho
  clear ho
  have hb2 : Below w.heap.size w W2 := below_then HB1.out hb
  have b_bx2 := B1_bx.out.below hb B1_bx.out.lt
  have b_bz2 := B1_bz.out.below hb B1_bz.out.lt
  have k_v2 := K1_v.out.below hb
  have hz2 := hb.size
  have HB2 := Lib.hid hb2
  have B2_bx := Lib.hid b_bx2
  have B2_bz := Lib.hid b_bz2
  have K2_v := Lib.hid k_v2
  clear hb2 b_bx2 b_bz2 k_v2
  clear B1_bx B1_bz HB1 K1_v
  have c_bx0 := B2_bx.out.cell 0
  have f_bx0 := B2_bx.out.frozen 0
  have c_bx1 := B2_bx.out.cell 1
  have f_bx1 := B2_bx.out.frozen 1
  have c_bx2 := B2_bx.out.cell 2
  have f_bx2 := B2_bx.out.frozen 2
  have c_bx3 := B2_bx.out.cell 3
  have f_bx3 := B2_bx.out.frozen 3
  have c_bx4 := B2_bx.out.cell 4
  have f_bx4 := B2_bx.out.frozen 4
  have c_bx5 := B2_bx.out.cell 5
  have f_bx5 := B2_bx.out.frozen 5
  have c_bx6 := B2_bx.out.cell 6
  have f_bx6 := B2_bx.out.frozen 6
  have l_bx := B2_bx.out.lt
  go_upto_region 2 with fail
  clear c_bx0 f_bx0 c_bx1 f_bx1 c_bx2 f_bx2 c_bx3 f_bx3 c_bx4 f_bx4 c_bx5 f_bx5 c_bx6 f_bx6 l_bx
  have hsz3 := HB2.out.size
  have hb3 : Below w.heap.size w (((((((W2.setCell ⟨w.heap.size, 0, none⟩ (.int .i64 ep)).setCell ⟨w.heap.size, 1, none⟩ (.int .i64 ld)).setCell ⟨w.heap.size, 2, none⟩ (.slice (some ⟨gi, 0, none⟩) is.length d1)).setCell ⟨w.heap.size, 3, none⟩ (.slice (some ⟨gk, 0, none⟩) ks.length d3)).setCell ⟨w.heap.size, 4, none⟩ (.slice (some ⟨gr, 0, none⟩) rs.length d5)).setCell ⟨w.heap.size, 5, none⟩ (.int .i64 fw)).setCell ⟨w.heap.size, 6, none⟩ (.int .i64 ba)) := (((((((HB2.out).setCell (by show w.heap.size ≤ w.heap.size; omega) _).setCell (by show w.heap.size ≤ w.heap.size; omega) _).setCell (by show w.heap.size ≤ w.heap.size; omega) _).setCell (by show w.heap.size ≤ w.heap.size; omega) _).setCell (by show w.heap.size ≤ w.heap.size; omega) _).setCell (by show w.heap.size ≤ w.heap.size; omega) _).setCell (by show w.heap.size ≤ w.heap.size; omega) _
  have b_bx3 : Blk (((((((W2.setCell ⟨w.heap.size, 0, none⟩ (.int .i64 ep)).setCell ⟨w.heap.size, 1, none⟩ (.int .i64 ld)).setCell ⟨w.heap.size, 2, none⟩ (.slice (some ⟨gi, 0, none⟩) is.length d1)).setCell ⟨w.heap.size, 3, none⟩ (.slice (some ⟨gk, 0, none⟩) ks.length d3)).setCell ⟨w.heap.size, 4, none⟩ (.slice (some ⟨gr, 0, none⟩) rs.length d5)).setCell ⟨w.heap.size, 5, none⟩ (.int .i64 fw)).setCell ⟨w.heap.size, 6, none⟩ (.int .i64 ba)) (w.heap.size) 26 #[.int .i64 ep, .int .i64 ld, .slice (some ⟨gi, 0, none⟩) is.length d1, .slice (some ⟨gk, 0, none⟩) ks.length d3, .slice (some ⟨gr, 0, none⟩) rs.length d5, .int .i64 fw, .int .i64 ba] := (((((((B2_bx.out).set_ 0 _).set_ 1 _).set_ 2 _).set_ 3 _).set_ 4 _).set_ 5 _).set_ 6 _
  have b_bz3 : Blk (((((((W2.setCell ⟨w.heap.size, 0, none⟩ (.int .i64 ep)).setCell ⟨w.heap.size, 1, none⟩ (.int .i64 ld)).setCell ⟨w.heap.size, 2, none⟩ (.slice (some ⟨gi, 0, none⟩) is.length d1)).setCell ⟨w.heap.size, 3, none⟩ (.slice (some ⟨gk, 0, none⟩) ks.length d3)).setCell ⟨w.heap.size, 4, none⟩ (.slice (some ⟨gr, 0, none⟩) rs.length d5)).setCell ⟨w.heap.size, 5, none⟩ (.int .i64 fw)).setCell ⟨w.heap.size, 6, none⟩ (.int .i64 ba)) (w.heap.size + 1) 26 #[.int .i64 0, .int .i64 0, .slice none 0 0, .slice none 0 0, .slice none 0 0, .int .i64 0, .int .i64 0] := (((((((B2_bz.out).far (p := ⟨w.heap.size, 0, none⟩) (by show w.heap.size + 1 ≠ w.heap.size; omega) _).far (p := ⟨w.heap.size, 1, none⟩) (by show w.heap.size + 1 ≠ w.heap.size; omega) _).far (p := ⟨w.heap.size, 2, none⟩) (by show w.heap.size + 1 ≠ w.heap.size; omega) _).far (p := ⟨w.heap.size, 3, none⟩) (by show w.heap.size + 1 ≠ w.heap.size; omega) _).far (p := ⟨w.heap.size, 4, none⟩) (by show w.heap.size + 1 ≠ w.heap.size; omega) _).far (p := ⟨w.heap.size, 5, none⟩) (by show w.heap.size + 1 ≠ w.heap.size; omega) _).far (p := ⟨w.heap.size, 6, none⟩) (by show w.heap.size + 1 ≠ w.heap.size; omega) _
  have k_own3 := (((((((HO.out).under (a := ⟨w.heap.size, 0, none⟩) (by (try dsimp only); omega) (.int .i64 ep)).under (a := ⟨w.heap.size, 1, none⟩) (by (try dsimp only); omega) (.int .i64 ld)).under (a := ⟨w.heap.size, 2, none⟩) (by (try dsimp only); omega) (.slice (some ⟨gi, 0, none⟩) is.length d1)).under (a := ⟨w.heap.size, 3, none⟩) (by (try dsimp only); omega) (.slice (some ⟨gk, 0, none⟩) ks.length d3)).under (a := ⟨w.heap.size, 4, none⟩) (by (try dsimp only); omega) (.slice (some ⟨gr, 0, none⟩) rs.length d5)).under (a := ⟨w.heap.size, 5, none⟩) (by (try dsimp only); omega) (.int .i64 fw)).under (a := ⟨w.heap.size, 6, none⟩) (by (try dsimp only); omega) (.int .i64 ba)
  have hz3 : W2.heap.size + 0 ≤ (((((((W2.setCell ⟨w.heap.size, 0, none⟩ (.int .i64 ep)).setCell ⟨w.heap.size, 1, none⟩ (.int .i64 ld)).setCell ⟨w.heap.size, 2, none⟩ (.slice (some ⟨gi, 0, none⟩) is.length d1)).setCell ⟨w.heap.size, 3, none⟩ (.slice (some ⟨gk, 0, none⟩) ks.length d3)).setCell ⟨w.heap.size, 4, none⟩ (.slice (some ⟨gr, 0, none⟩) rs.length d5)).setCell ⟨w.heap.size, 5, none⟩ (.int .i64 fw)).setCell ⟨w.heap.size, 6, none⟩ (.int .i64 ba)).heap.size := by first | omega | (simp; done) | (simp; omega)
  generalize ((((((W2.setCell ⟨w.heap.size, 0, none⟩ (.int .i64 ep)).setCell ⟨w.heap.size, 1, none⟩ (.int .i64 ld)).setCell ⟨w.heap.size, 2, none⟩ (.slice (some ⟨gi, 0, none⟩) is.length d1)).setCell ⟨w.heap.size, 3, none⟩ (.slice (some ⟨gk, 0, none⟩) ks.length d3)).setCell ⟨w.heap.size, 4, none⟩ (.slice (some ⟨gr, 0, none⟩) rs.length d5)).setCell ⟨w.heap.size, 5, none⟩ (.int .i64 fw)).setCell ⟨w.heap.size, 6, none⟩ (.int .i64 ba) = W3 at *
  have HB3 := Lib.hid hb3
  have B3_bx := Lib.hid b_bx3
  have B3_bz := Lib.hid b_bz3
  have K3_own := Lib.hid k_own3
  clear hb3 b_bx3 b_bz3 k_own3
  clear B2_bx B2_bz HB2 HO
  have c_bx0 := B3_bx.out.cell 0
  have c_bx1 := B3_bx.out.cell 1
  have c_bx2 := B3_bx.out.cell 2
  have c_bx3 := B3_bx.out.cell 3
  have c_bx4 := B3_bx.out.cell 4
  have c_bx5 := B3_bx.out.cell 5
  have c_bx6 := B3_bx.out.cell 6
  have l_bx := B3_bx.out.lt
  have c_bz0 := B3_bz.out.cell 0
  have f_bz0 := B3_bz.out.frozen 0
  have c_bz1 := B3_bz.out.cell 1
  have f_bz1 := B3_bz.out.frozen 1
  have c_bz2 := B3_bz.out.cell 2
  have f_bz2 := B3_bz.out.frozen 2
  have c_bz3 := B3_bz.out.cell 3
  have f_bz3 := B3_bz.out.frozen 3
  have c_bz4 := B3_bz.out.cell 4
  have f_bz4 := B3_bz.out.frozen 4
  have c_bz5 := B3_bz.out.cell 5
  have f_bz5 := B3_bz.out.frozen 5
  have c_bz6 := B3_bz.out.cell 6
  have f_bz6 := B3_bz.out.frozen 6
  have l_bz := B3_bz.out.lt
  obtain ⟨A7, c7, ⟨r0, r1, r2, r3⟩, ⟨rf0, rf1, rf2, rf3⟩, rby⟩ := K3_own.out.repAt i hi
  obtain ⟨s0, sf0⟩ := K3_own.out.isrAt i j2
  obtain ⟨t0, tf0⟩ := K3_own.out.knownAt i j3
  (try simp only at r0 r1 r2 r3 rby s0 t0)
  rw [HU.out] at r0
  go_wp2_with fail
  have RBY := Lib.hid rby
  clear c_bx0 c_bx1 c_bx2 c_bx3 c_bx4 c_bx5 c_bx6 l_bx c_bz0 f_bz0 c_bz1 f_bz1 c_bz2 f_bz2 c_bz3 f_bz3 c_bz4 f_bz4 c_bz5 f_bz5 c_bz6 f_bz6 l_bz r0 r1 r2 r3 rf0 rf1 rf2 rf3 rby s0 sf0 t0 tf0
  refine (crash_range _ _ _ _ _ RBY.out HLG.out hk).mono ?_
  rintro e W4 ⟨v5, rfl, hp5, hb⟩
  have hp6 : World.ownsRow _ _ _ 1 v5 0 [] := hp5
  obtain ⟨A9, c9, rfl, hc9⟩ := (Sl.of_own hp6).form
  clear hp5 hp6
  have hb4 : Below w.heap.size w W4 := below_then HB3.out hb
  have b_bx4 := B3_bx.out.below hb B3_bx.out.lt
  have b_bz4 := B3_bz.out.below hb B3_bz.out.lt
  have k_own4 := K3_own.out.keep hb
  have hz4 := hb.size
  have HB4 := Lib.hid hb4
  have B4_bx := Lib.hid b_bx4
  have B4_bz := Lib.hid b_bz4
  have K4_own := Lib.hid k_own4
  clear hb4 b_bx4 b_bz4 k_own4
  clear B3_bx B3_bz HB3 K3_own
  have c_bz0 := B4_bz.out.cell 0
  have f_bz0 := B4_bz.out.frozen 0
  have c_bz1 := B4_bz.out.cell 1
  have f_bz1 := B4_bz.out.frozen 1
  have c_bz2 := B4_bz.out.cell 2
  have f_bz2 := B4_bz.out.frozen 2
  have c_bz3 := B4_bz.out.cell 3
  have f_bz3 := B4_bz.out.frozen 3
  have c_bz4 := B4_bz.out.cell 4
  have f_bz4 := B4_bz.out.frozen 4
  have c_bz5 := B4_bz.out.cell 5
  have f_bz5 := B4_bz.out.frozen 5
  have c_bz6 := B4_bz.out.cell 6
  have f_bz6 := B4_bz.out.frozen 6
  have l_bz := B4_bz.out.lt
  go_upto_region 8 with fail
  clear c_bz0 f_bz0 c_bz1 f_bz1 c_bz2 f_bz2 c_bz3 f_bz3 c_bz4 f_bz4 c_bz5 f_bz5 c_bz6 f_bz6 l_bz
  have hsz5 := HB4.out.size
  have hb5 : Below w.heap.size w (W4.alloc (.cells #[.slice A9 0 c9, .int .i64 0] 42)) := (HB4.out).alloc (by first | omega | (simp; done) | (simp; omega)) _
  have hal5 : Below W4.heap.size W4 (W4.alloc (.cells #[.slice A9 0 c9, .int .i64 0] 42)) := (Below.refl _ _).alloc (by first | omega | (simp; done) | (simp; omega)) _
  have b_bx5 : Blk (W4.alloc (.cells #[.slice A9 0 c9, .int .i64 0] 42)) (w.heap.size) 26 #[.int .i64 ep, .int .i64 ld, .slice (some ⟨gi, 0, none⟩) is.length d1, .slice (some ⟨gk, 0, none⟩) ks.length d3, .slice (some ⟨gr, 0, none⟩) rs.length d5, .int .i64 fw, .int .i64 ba] := (B4_bx.out).alloc _
  have b_bz5 : Blk (W4.alloc (.cells #[.slice A9 0 c9, .int .i64 0] 42)) (w.heap.size + 1) 26 #[.int .i64 0, .int .i64 0, .slice none 0 0, .slice none 0 0, .slice none 0 0, .int .i64 0, .int .i64 0] := (B4_bz.out).alloc _
  have b_bl5 : Blk (W4.alloc (.cells #[.slice A9 0 c9, .int .i64 0] 42)) (W4.heap.size) 42 #[.slice A9 0 c9, .int .i64 0] := Blk.new_ _ 42 #[.slice A9 0 c9, .int .i64 0] (by first | rfl | (simp; done) | (simp; omega))
  have k_own5 := (K4_own.out).alloc (.cells #[.slice A9 0 c9, .int .i64 0] 42)
  have hz5 : W4.heap.size + 1 ≤ (W4.alloc (.cells #[.slice A9 0 c9, .int .i64 0] 42)).heap.size := by first | omega | (simp; done) | (simp; omega)
  generalize W4.alloc (.cells #[.slice A9 0 c9, .int .i64 0] 42) = W5 at *
  have HB5 := Lib.hid hb5
  have B5_bx := Lib.hid b_bx5
  have B5_bz := Lib.hid b_bz5
  have B5_bl := Lib.hid b_bl5
  have K5_own := Lib.hid k_own5
  clear hb5 b_bx5 b_bz5 b_bl5 k_own5
  clear B4_bx B4_bz HB4 K4_own
  have c_bz0 := B5_bz.out.cell 0
  have f_bz0 := B5_bz.out.frozen 0
  have c_bz1 := B5_bz.out.cell 1
  have f_bz1 := B5_bz.out.frozen 1
  have c_bz2 := B5_bz.out.cell 2
  have f_bz2 := B5_bz.out.frozen 2
  have c_bz3 := B5_bz.out.cell 3
  have f_bz3 := B5_bz.out.frozen 3
  have c_bz4 := B5_bz.out.cell 4
  have f_bz4 := B5_bz.out.frozen 4
  have c_bz5 := B5_bz.out.cell 5
  have f_bz5 := B5_bz.out.frozen 5
  have c_bz6 := B5_bz.out.cell 6
  have f_bz6 := B5_bz.out.frozen 6
  have l_bz := B5_bz.out.lt
  go_wp2_with fail
  clear c_bz0 f_bz0 c_bz1 f_bz1 c_bz2 f_bz2 c_bz3 f_bz3 c_bz4 f_bz4 c_bz5 f_bz5 c_bz6 f_bz6 l_bz
  have hszF := HB5.out.size
  have hbF : Below w.heap.size w (((((((W5.setCell ⟨w.heap.size + 1, 0, none⟩ (.int .i64 0)).setCell ⟨w.heap.size + 1, 1, none⟩ (.int .i64 0)).setCell ⟨w.heap.size + 1, 2, none⟩ (.slice none 0 0)).setCell ⟨w.heap.size + 1, 3, none⟩ (.slice none 0 0)).setCell ⟨w.heap.size + 1, 4, none⟩ (.slice none 0 0)).setCell ⟨w.heap.size + 1, 5, none⟩ (.int .i64 0)).setCell ⟨w.heap.size + 1, 6, none⟩ (.int .i64 0)) := (((((((HB5.out).setCell (by show w.heap.size ≤ w.heap.size + 1; omega) _).setCell (by show w.heap.size ≤ w.heap.size + 1; omega) _).setCell (by show w.heap.size ≤ w.heap.size + 1; omega) _).setCell (by show w.heap.size ≤ w.heap.size + 1; omega) _).setCell (by show w.heap.size ≤ w.heap.size + 1; omega) _).setCell (by show w.heap.size ≤ w.heap.size + 1; omega) _).setCell (by show w.heap.size ≤ w.heap.size + 1; omega) _
  have b_bxF : Blk (((((((W5.setCell ⟨w.heap.size + 1, 0, none⟩ (.int .i64 0)).setCell ⟨w.heap.size + 1, 1, none⟩ (.int .i64 0)).setCell ⟨w.heap.size + 1, 2, none⟩ (.slice none 0 0)).setCell ⟨w.heap.size + 1, 3, none⟩ (.slice none 0 0)).setCell ⟨w.heap.size + 1, 4, none⟩ (.slice none 0 0)).setCell ⟨w.heap.size + 1, 5, none⟩ (.int .i64 0)).setCell ⟨w.heap.size + 1, 6, none⟩ (.int .i64 0)) (w.heap.size) 26 #[.int .i64 ep, .int .i64 ld, .slice (some ⟨gi, 0, none⟩) is.length d1, .slice (some ⟨gk, 0, none⟩) ks.length d3, .slice (some ⟨gr, 0, none⟩) rs.length d5, .int .i64 fw, .int .i64 ba] := (((((((B5_bx.out).far (p := ⟨w.heap.size + 1, 0, none⟩) (by show w.heap.size ≠ w.heap.size + 1; omega) _).far (p := ⟨w.heap.size + 1, 1, none⟩) (by show w.heap.size ≠ w.heap.size + 1; omega) _).far (p := ⟨w.heap.size + 1, 2, none⟩) (by show w.heap.size ≠ w.heap.size + 1; omega) _).far (p := ⟨w.heap.size + 1, 3, none⟩) (by show w.heap.size ≠ w.heap.size + 1; omega) _).far (p := ⟨w.heap.size + 1, 4, none⟩) (by show w.heap.size ≠ w.heap.size + 1; omega) _).far (p := ⟨w.heap.size + 1, 5, none⟩) (by show w.heap.size ≠ w.heap.size + 1; omega) _).far (p := ⟨w.heap.size + 1, 6, none⟩) (by show w.heap.size ≠ w.heap.size + 1; omega) _
  have b_bzF : Blk (((((((W5.setCell ⟨w.heap.size + 1, 0, none⟩ (.int .i64 0)).setCell ⟨w.heap.size + 1, 1, none⟩ (.int .i64 0)).setCell ⟨w.heap.size + 1, 2, none⟩ (.slice none 0 0)).setCell ⟨w.heap.size + 1, 3, none⟩ (.slice none 0 0)).setCell ⟨w.heap.size + 1, 4, none⟩ (.slice none 0 0)).setCell ⟨w.heap.size + 1, 5, none⟩ (.int .i64 0)).setCell ⟨w.heap.size + 1, 6, none⟩ (.int .i64 0)) (w.heap.size + 1) 26 #[.int .i64 0, .int .i64 0, .slice none 0 0, .slice none 0 0, .slice none 0 0, .int .i64 0, .int .i64 0] := (((((((B5_bz.out).set_ 0 _).set_ 1 _).set_ 2 _).set_ 3 _).set_ 4 _).set_ 5 _).set_ 6 _
  have b_blF : Blk (((((((W5.setCell ⟨w.heap.size + 1, 0, none⟩ (.int .i64 0)).setCell ⟨w.heap.size + 1, 1, none⟩ (.int .i64 0)).setCell ⟨w.heap.size + 1, 2, none⟩ (.slice none 0 0)).setCell ⟨w.heap.size + 1, 3, none⟩ (.slice none 0 0)).setCell ⟨w.heap.size + 1, 4, none⟩ (.slice none 0 0)).setCell ⟨w.heap.size + 1, 5, none⟩ (.int .i64 0)).setCell ⟨w.heap.size + 1, 6, none⟩ (.int .i64 0)) (W4.heap.size) 42 #[.slice A9 0 c9, .int .i64 0] := (((((((B5_bl.out).far (p := ⟨w.heap.size + 1, 0, none⟩) (by show W4.heap.size ≠ w.heap.size + 1; omega) _).far (p := ⟨w.heap.size + 1, 1, none⟩) (by show W4.heap.size ≠ w.heap.size + 1; omega) _).far (p := ⟨w.heap.size + 1, 2, none⟩) (by show W4.heap.size ≠ w.heap.size + 1; omega) _).far (p := ⟨w.heap.size + 1, 3, none⟩) (by show W4.heap.size ≠ w.heap.size + 1; omega) _).far (p := ⟨w.heap.size + 1, 4, none⟩) (by show W4.heap.size ≠ w.heap.size + 1; omega) _).far (p := ⟨w.heap.size + 1, 5, none⟩) (by show W4.heap.size ≠ w.heap.size + 1; omega) _).far (p := ⟨w.heap.size + 1, 6, none⟩) (by show W4.heap.size ≠ w.heap.size + 1; omega) _
  have y0 := b_bzF.cell 0
  have y1 := b_bzF.cell 1
  have y2 := b_bzF.cell 2
  have y3 := b_bzF.cell 3
  have y4 := b_bzF.cell 4
  have y5 := b_bzF.cell 5
  have y6 := b_bzF.cell 6
  exact bodyPost_ret (v := .tuple #[.agg #[.int .i64 0, .int .i64 0, .slice none 0 0, .slice none 0 0, .slice none 0 0, .int .i64 0, .int .i64 0], .int .i64 2]) (by simp [results, Try.results54, go_sem, y0, y1, y2, y3, y4, y5, y6]) rfl (⟨rfl, hbF⟩)
set_option maxRecDepth 100000 in
set_option maxHeartbeats 4000000 in
theorem pcrash_other (v : Value) (c : PartD) (i : Nat) (keep : Nat) (hn : PartOk c) (hi : i < c.reps.length) (hl : c.leader ≠ i) (hu : c.reps[i].up = true) {es2 : List Ent} {m : Nat} {lb : List UInt8} (hlb : c.reps[i].bytes.take m = lb) (hd : dec (c.reps[i].bytes.take (crashN c.reps[i] keep)) = (es2, m)) (w : World) (h : Pv w v c) : Calls Try.prog 54 #[v, .int .i64 i, .int .i64 keep] w (OwnsP ⟨c.epoch, c.leader, c.isr, c.known.set i 0, c.reps.set i ⟨false, lb, (m : Int), min c.reps[i].high (es2.length : Int)⟩, c.few, c.base⟩ w) := by
  have eqk := hn.known
  have eqi := hn.isr
  obtain ⟨xi, xk, xr, rfl, ix, kx, rx, hli, hlk, hlr⟩ := id h
  obtain ⟨A5, c5, rfl, hc5, -⟩ := rx.at_
  obtain ⟨A1, c1, rfl, hc1, -⟩ := ix.at_
  obtain ⟨A3, c3, rfl, hc3, -⟩ := kx.at_
  have H := Lib.hid h
  clear h ix kx rx
  unfold partV at *
  obtain ⟨ep, ld, is, ks, rs, fw, ba⟩ := c
  simp only at *
  have HN := Lib.hid hn
  have HSM := Lib.hid hn.small
  clear hn
  (try simp only at eqk eqi)
  have E1 := Lib.hid eqi
  have E2 := Lib.hid eqk
  have i0 : (0 : Int) ≤ (i : Int) := by omega
  have i1 : (i : Int) < (rs.length : Int) := Int.ofNat_lt.2 hi
  have i2 : (i : Int) < (is.length : Int) := by omega
  have i3 : (i : Int) < (ks.length : Int) := by omega
  have j2 : i < is.length := by omega
  have j3 : i < ks.length := by omega
  clear eqk eqi
  have hup : rs[i].up = true := hu
  have HU := Lib.hid hup
  clear hu hup
  obtain ⟨es, j, hlog⟩ := HN.out.log i hi
  have hlog2 := LogIs.cut (p := crashN rs[i] keep) hlog hd
  rw [hlb] at hlog2
  have HLB := Lib.hid hlb
  have hlc : lb.length ≤ 40000 := by have := hlog2.long; rw [← hlog2.bytes] at this; exact this
  have HLG := Lib.hid hlog
  have HLG2 := Lib.hid hlog2
  have HDC := Lib.hid hd
  have HLC := Lib.hid hlc
  clear hlog hlog2 hd hlc hlb
  have y9 : (ld == (i : Int)) = false := beq_eq_false_iff_ne.2 hl
  clear hl
  go_enter Try.func54, Try.ntmps54
  go_wp2_with fail
  have hb1 : Below w.heap.size w ((w.alloc (.cells #[.int .i64 ep, .int .i64 ld, .slice A1 is.length c1, .slice A3 ks.length c3, .slice A5 rs.length c5, .int .i64 fw, .int .i64 ba] 26)).alloc (.cells #[.int .i64 0, .int .i64 0, .slice none 0 0, .slice none 0 0, .slice none 0 0, .int .i64 0, .int .i64 0] 26)) := ((Below.refl _ _).alloc (by first | omega | (simp; done) | (simp; omega)) _).alloc (by first | omega | (simp; done) | (simp; omega)) _
  have hal1 : Below w.heap.size w ((w.alloc (.cells #[.int .i64 ep, .int .i64 ld, .slice A1 is.length c1, .slice A3 ks.length c3, .slice A5 rs.length c5, .int .i64 fw, .int .i64 ba] 26)).alloc (.cells #[.int .i64 0, .int .i64 0, .slice none 0 0, .slice none 0 0, .slice none 0 0, .int .i64 0, .int .i64 0] 26)) := ((Below.refl _ _).alloc (by first | omega | (simp; done) | (simp; omega)) _).alloc (by first | omega | (simp; done) | (simp; omega)) _
  have b_bx1 : Blk ((w.alloc (.cells #[.int .i64 ep, .int .i64 ld, .slice A1 is.length c1, .slice A3 ks.length c3, .slice A5 rs.length c5, .int .i64 fw, .int .i64 ba] 26)).alloc (.cells #[.int .i64 0, .int .i64 0, .slice none 0 0, .slice none 0 0, .slice none 0 0, .int .i64 0, .int .i64 0] 26)) (w.heap.size) 26 #[.int .i64 ep, .int .i64 ld, .slice A1 is.length c1, .slice A3 ks.length c3, .slice A5 rs.length c5, .int .i64 fw, .int .i64 ba] := (Blk.new_ _ 26 #[.int .i64 ep, .int .i64 ld, .slice A1 is.length c1, .slice A3 ks.length c3, .slice A5 rs.length c5, .int .i64 fw, .int .i64 ba] (by first | rfl | (simp; done) | (simp; omega))).alloc _
  have b_bz1 : Blk ((w.alloc (.cells #[.int .i64 ep, .int .i64 ld, .slice A1 is.length c1, .slice A3 ks.length c3, .slice A5 rs.length c5, .int .i64 fw, .int .i64 ba] 26)).alloc (.cells #[.int .i64 0, .int .i64 0, .slice none 0 0, .slice none 0 0, .slice none 0 0, .int .i64 0, .int .i64 0] 26)) (w.heap.size + 1) 26 #[.int .i64 0, .int .i64 0, .slice none 0 0, .slice none 0 0, .slice none 0 0, .int .i64 0, .int .i64 0] := Blk.new_ _ 26 #[.int .i64 0, .int .i64 0, .slice none 0 0, .slice none 0 0, .slice none 0 0, .int .i64 0, .int .i64 0] (by first | rfl | (simp; done) | (simp; omega))
  have k_v1 := H.out.below hal1
  have hz1 : w.heap.size + 2 ≤ ((w.alloc (.cells #[.int .i64 ep, .int .i64 ld, .slice A1 is.length c1, .slice A3 ks.length c3, .slice A5 rs.length c5, .int .i64 fw, .int .i64 ba] 26)).alloc (.cells #[.int .i64 0, .int .i64 0, .slice none 0 0, .slice none 0 0, .slice none 0 0, .int .i64 0, .int .i64 0] 26)).heap.size := by first | omega | (simp; done) | (simp; omega)
  generalize (w.alloc (.cells #[.int .i64 ep, .int .i64 ld, .slice A1 is.length c1, .slice A3 ks.length c3, .slice A5 rs.length c5, .int .i64 fw, .int .i64 ba] 26)).alloc (.cells #[.int .i64 0, .int .i64 0, .slice none 0 0, .slice none 0 0, .slice none 0 0, .int .i64 0, .int .i64 0] 26) = W1 at *
  have HB1 := Lib.hid hb1
  have B1_bx := Lib.hid b_bx1
  have B1_bz := Lib.hid b_bz1
  have K1_v := Lib.hid k_v1
  clear hb1 b_bx1 b_bz1 k_v1
  clear H
  refine (at_good _ ⟨ep, ld, is, ks, rs, fw, ba⟩ i HN.out hi _ K1_v.out).mono ?_
  rintro e W2 ⟨iv, kv, rv, rfl, ho, hb⟩
  obtain ⟨gi, d1, gk, d3, gr, d5, rfl, rfl, rfl, hgi, hgk, hgr, hgi', hgk', hgr'⟩ := ho.rows (by have := HN.out.isr; have := HN.out.many; simp only at *; omega) (by have := HN.out.known; have := HN.out.many; simp only at *; omega) (by have := HN.out.many; simp only at *; omega)
  unfold partV
  simp only at *
  have HO := Lib.hid ho
  clear ho
  have hb2 : Below w.heap.size w W2 := below_then HB1.out hb
  have b_bx2 := B1_bx.out.below hb B1_bx.out.lt
  have b_bz2 := B1_bz.out.below hb B1_bz.out.lt
  have k_v2 := K1_v.out.below hb
  have hz2 := hb.size
  have HB2 := Lib.hid hb2
  have B2_bx := Lib.hid b_bx2
  have B2_bz := Lib.hid b_bz2
  have K2_v := Lib.hid k_v2
  clear hb2 b_bx2 b_bz2 k_v2
  clear B1_bx B1_bz HB1 K1_v
  have c_bx0 := B2_bx.out.cell 0
  have f_bx0 := B2_bx.out.frozen 0
  have c_bx1 := B2_bx.out.cell 1
  have f_bx1 := B2_bx.out.frozen 1
  have c_bx2 := B2_bx.out.cell 2
  have f_bx2 := B2_bx.out.frozen 2
  have c_bx3 := B2_bx.out.cell 3
  have f_bx3 := B2_bx.out.frozen 3
  have c_bx4 := B2_bx.out.cell 4
  have f_bx4 := B2_bx.out.frozen 4
  have c_bx5 := B2_bx.out.cell 5
  have f_bx5 := B2_bx.out.frozen 5
  have c_bx6 := B2_bx.out.cell 6
  have f_bx6 := B2_bx.out.frozen 6
  have l_bx := B2_bx.out.lt
  go_upto_region 2 with fail
  clear c_bx0 f_bx0 c_bx1 f_bx1 c_bx2 f_bx2 c_bx3 f_bx3 c_bx4 f_bx4 c_bx5 f_bx5 c_bx6 f_bx6 l_bx
  have hsz3 := HB2.out.size
  have hb3 : Below w.heap.size w (((((((W2.setCell ⟨w.heap.size, 0, none⟩ (.int .i64 ep)).setCell ⟨w.heap.size, 1, none⟩ (.int .i64 ld)).setCell ⟨w.heap.size, 2, none⟩ (.slice (some ⟨gi, 0, none⟩) is.length d1)).setCell ⟨w.heap.size, 3, none⟩ (.slice (some ⟨gk, 0, none⟩) ks.length d3)).setCell ⟨w.heap.size, 4, none⟩ (.slice (some ⟨gr, 0, none⟩) rs.length d5)).setCell ⟨w.heap.size, 5, none⟩ (.int .i64 fw)).setCell ⟨w.heap.size, 6, none⟩ (.int .i64 ba)) := (((((((HB2.out).setCell (by show w.heap.size ≤ w.heap.size; omega) _).setCell (by show w.heap.size ≤ w.heap.size; omega) _).setCell (by show w.heap.size ≤ w.heap.size; omega) _).setCell (by show w.heap.size ≤ w.heap.size; omega) _).setCell (by show w.heap.size ≤ w.heap.size; omega) _).setCell (by show w.heap.size ≤ w.heap.size; omega) _).setCell (by show w.heap.size ≤ w.heap.size; omega) _
  have b_bx3 : Blk (((((((W2.setCell ⟨w.heap.size, 0, none⟩ (.int .i64 ep)).setCell ⟨w.heap.size, 1, none⟩ (.int .i64 ld)).setCell ⟨w.heap.size, 2, none⟩ (.slice (some ⟨gi, 0, none⟩) is.length d1)).setCell ⟨w.heap.size, 3, none⟩ (.slice (some ⟨gk, 0, none⟩) ks.length d3)).setCell ⟨w.heap.size, 4, none⟩ (.slice (some ⟨gr, 0, none⟩) rs.length d5)).setCell ⟨w.heap.size, 5, none⟩ (.int .i64 fw)).setCell ⟨w.heap.size, 6, none⟩ (.int .i64 ba)) (w.heap.size) 26 #[.int .i64 ep, .int .i64 ld, .slice (some ⟨gi, 0, none⟩) is.length d1, .slice (some ⟨gk, 0, none⟩) ks.length d3, .slice (some ⟨gr, 0, none⟩) rs.length d5, .int .i64 fw, .int .i64 ba] := (((((((B2_bx.out).set_ 0 _).set_ 1 _).set_ 2 _).set_ 3 _).set_ 4 _).set_ 5 _).set_ 6 _
  have b_bz3 : Blk (((((((W2.setCell ⟨w.heap.size, 0, none⟩ (.int .i64 ep)).setCell ⟨w.heap.size, 1, none⟩ (.int .i64 ld)).setCell ⟨w.heap.size, 2, none⟩ (.slice (some ⟨gi, 0, none⟩) is.length d1)).setCell ⟨w.heap.size, 3, none⟩ (.slice (some ⟨gk, 0, none⟩) ks.length d3)).setCell ⟨w.heap.size, 4, none⟩ (.slice (some ⟨gr, 0, none⟩) rs.length d5)).setCell ⟨w.heap.size, 5, none⟩ (.int .i64 fw)).setCell ⟨w.heap.size, 6, none⟩ (.int .i64 ba)) (w.heap.size + 1) 26 #[.int .i64 0, .int .i64 0, .slice none 0 0, .slice none 0 0, .slice none 0 0, .int .i64 0, .int .i64 0] := (((((((B2_bz.out).far (p := ⟨w.heap.size, 0, none⟩) (by show w.heap.size + 1 ≠ w.heap.size; omega) _).far (p := ⟨w.heap.size, 1, none⟩) (by show w.heap.size + 1 ≠ w.heap.size; omega) _).far (p := ⟨w.heap.size, 2, none⟩) (by show w.heap.size + 1 ≠ w.heap.size; omega) _).far (p := ⟨w.heap.size, 3, none⟩) (by show w.heap.size + 1 ≠ w.heap.size; omega) _).far (p := ⟨w.heap.size, 4, none⟩) (by show w.heap.size + 1 ≠ w.heap.size; omega) _).far (p := ⟨w.heap.size, 5, none⟩) (by show w.heap.size + 1 ≠ w.heap.size; omega) _).far (p := ⟨w.heap.size, 6, none⟩) (by show w.heap.size + 1 ≠ w.heap.size; omega) _
  have k_own3 := (((((((HO.out).under (a := ⟨w.heap.size, 0, none⟩) (by (try dsimp only); omega) (.int .i64 ep)).under (a := ⟨w.heap.size, 1, none⟩) (by (try dsimp only); omega) (.int .i64 ld)).under (a := ⟨w.heap.size, 2, none⟩) (by (try dsimp only); omega) (.slice (some ⟨gi, 0, none⟩) is.length d1)).under (a := ⟨w.heap.size, 3, none⟩) (by (try dsimp only); omega) (.slice (some ⟨gk, 0, none⟩) ks.length d3)).under (a := ⟨w.heap.size, 4, none⟩) (by (try dsimp only); omega) (.slice (some ⟨gr, 0, none⟩) rs.length d5)).under (a := ⟨w.heap.size, 5, none⟩) (by (try dsimp only); omega) (.int .i64 fw)).under (a := ⟨w.heap.size, 6, none⟩) (by (try dsimp only); omega) (.int .i64 ba)
  have hz3 : W2.heap.size + 0 ≤ (((((((W2.setCell ⟨w.heap.size, 0, none⟩ (.int .i64 ep)).setCell ⟨w.heap.size, 1, none⟩ (.int .i64 ld)).setCell ⟨w.heap.size, 2, none⟩ (.slice (some ⟨gi, 0, none⟩) is.length d1)).setCell ⟨w.heap.size, 3, none⟩ (.slice (some ⟨gk, 0, none⟩) ks.length d3)).setCell ⟨w.heap.size, 4, none⟩ (.slice (some ⟨gr, 0, none⟩) rs.length d5)).setCell ⟨w.heap.size, 5, none⟩ (.int .i64 fw)).setCell ⟨w.heap.size, 6, none⟩ (.int .i64 ba)).heap.size := by first | omega | (simp; done) | (simp; omega)
  generalize ((((((W2.setCell ⟨w.heap.size, 0, none⟩ (.int .i64 ep)).setCell ⟨w.heap.size, 1, none⟩ (.int .i64 ld)).setCell ⟨w.heap.size, 2, none⟩ (.slice (some ⟨gi, 0, none⟩) is.length d1)).setCell ⟨w.heap.size, 3, none⟩ (.slice (some ⟨gk, 0, none⟩) ks.length d3)).setCell ⟨w.heap.size, 4, none⟩ (.slice (some ⟨gr, 0, none⟩) rs.length d5)).setCell ⟨w.heap.size, 5, none⟩ (.int .i64 fw)).setCell ⟨w.heap.size, 6, none⟩ (.int .i64 ba) = W3 at *
  have HB3 := Lib.hid hb3
  have B3_bx := Lib.hid b_bx3
  have B3_bz := Lib.hid b_bz3
  have K3_own := Lib.hid k_own3
  clear hb3 b_bx3 b_bz3 k_own3
  clear B2_bx B2_bz HB2 HO
  have c_bx0 := B3_bx.out.cell 0
  have c_bx1 := B3_bx.out.cell 1
  have c_bx2 := B3_bx.out.cell 2
  have c_bx3 := B3_bx.out.cell 3
  have c_bx4 := B3_bx.out.cell 4
  have c_bx5 := B3_bx.out.cell 5
  have c_bx6 := B3_bx.out.cell 6
  have l_bx := B3_bx.out.lt
  have c_bz0 := B3_bz.out.cell 0
  have f_bz0 := B3_bz.out.frozen 0
  have c_bz1 := B3_bz.out.cell 1
  have f_bz1 := B3_bz.out.frozen 1
  have c_bz2 := B3_bz.out.cell 2
  have f_bz2 := B3_bz.out.frozen 2
  have c_bz3 := B3_bz.out.cell 3
  have f_bz3 := B3_bz.out.frozen 3
  have c_bz4 := B3_bz.out.cell 4
  have f_bz4 := B3_bz.out.frozen 4
  have c_bz5 := B3_bz.out.cell 5
  have f_bz5 := B3_bz.out.frozen 5
  have c_bz6 := B3_bz.out.cell 6
  have f_bz6 := B3_bz.out.frozen 6
  have l_bz := B3_bz.out.lt
  obtain ⟨A7, c7, ⟨r0, r1, r2, r3⟩, ⟨rf0, rf1, rf2, rf3⟩, rby⟩ := K3_own.out.repAt i hi
  obtain ⟨s0, sf0⟩ := K3_own.out.isrAt i j2
  obtain ⟨t0, tf0⟩ := K3_own.out.knownAt i j3
  (try simp only at r0 r1 r2 r3 rby s0 t0)
  rw [HU.out] at r0
  go_wp2_with fail
  have RBY := Lib.hid rby
  clear c_bx0 c_bx1 c_bx2 c_bx3 c_bx4 c_bx5 c_bx6 l_bx c_bz0 f_bz0 c_bz1 f_bz1 c_bz2 f_bz2 c_bz3 f_bz3 c_bz4 f_bz4 c_bz5 f_bz5 c_bz6 f_bz6 l_bz r0 r1 r2 r3 rf0 rf1 rf2 rf3 rby s0 sf0 t0 tf0
  refine (crash_ok _ _ _ keep _ RBY.out HLG.out (p := crashN rs[i] keep) rfl HDC.out).mono ?_
  rintro e W4 ⟨v5, rfl, hp5, hb⟩
  dsimp only at hp5
  rw [HLB.out] at hp5
  obtain ⟨A9, c9, rfl, hc9⟩ := (Sl.of_own hp5).form
  have HLO := Lib.hid (LgO.mk hp5)
  clear hp5 RBY
  have hb4 : Below w.heap.size w W4 := below_then HB3.out hb
  have b_bx4 := B3_bx.out.below hb B3_bx.out.lt
  have b_bz4 := B3_bz.out.below hb B3_bz.out.lt
  have k_own4 := K3_own.out.keep hb
  have hz4 := hb.size
  have HB4 := Lib.hid hb4
  have B4_bx := Lib.hid b_bx4
  have B4_bz := Lib.hid b_bz4
  have K4_own := Lib.hid k_own4
  clear hb4 b_bx4 b_bz4 k_own4
  clear B3_bx B3_bz HB3 K3_own
  go_upto_region 8 with fail
  have hsz5 := HB4.out.size
  have hb5 : Below w.heap.size w (W4.alloc (.cells #[.slice A9 lb.length c9, .int .i64 (m : Int)] 42)) := (HB4.out).alloc (by first | omega | (simp; done) | (simp; omega)) _
  have hal5 : Below W4.heap.size W4 (W4.alloc (.cells #[.slice A9 lb.length c9, .int .i64 (m : Int)] 42)) := (Below.refl _ _).alloc (by first | omega | (simp; done) | (simp; omega)) _
  have b_bx5 : Blk (W4.alloc (.cells #[.slice A9 lb.length c9, .int .i64 (m : Int)] 42)) (w.heap.size) 26 #[.int .i64 ep, .int .i64 ld, .slice (some ⟨gi, 0, none⟩) is.length d1, .slice (some ⟨gk, 0, none⟩) ks.length d3, .slice (some ⟨gr, 0, none⟩) rs.length d5, .int .i64 fw, .int .i64 ba] := (B4_bx.out).alloc _
  have b_bz5 : Blk (W4.alloc (.cells #[.slice A9 lb.length c9, .int .i64 (m : Int)] 42)) (w.heap.size + 1) 26 #[.int .i64 0, .int .i64 0, .slice none 0 0, .slice none 0 0, .slice none 0 0, .int .i64 0, .int .i64 0] := (B4_bz.out).alloc _
  have b_bl5 : Blk (W4.alloc (.cells #[.slice A9 lb.length c9, .int .i64 (m : Int)] 42)) (W4.heap.size) 42 #[.slice A9 lb.length c9, .int .i64 (m : Int)] := Blk.new_ _ 42 #[.slice A9 lb.length c9, .int .i64 (m : Int)] (by first | rfl | (simp; done) | (simp; omega))
  have k_own5 := (K4_own.out).alloc (.cells #[.slice A9 lb.length c9, .int .i64 (m : Int)] 42)
  have k_lg5 := (HLO.out).alloc (.cells #[.slice A9 lb.length c9, .int .i64 (m : Int)] 42)
  have hz5 : W4.heap.size + 1 ≤ (W4.alloc (.cells #[.slice A9 lb.length c9, .int .i64 (m : Int)] 42)).heap.size := by first | omega | (simp; done) | (simp; omega)
  generalize W4.alloc (.cells #[.slice A9 lb.length c9, .int .i64 (m : Int)] 42) = W5 at *
  have HB5 := Lib.hid hb5
  have B5_bx := Lib.hid b_bx5
  have B5_bz := Lib.hid b_bz5
  have B5_bl := Lib.hid b_bl5
  have K5_own := Lib.hid k_own5
  have K5_lg := Lib.hid k_lg5
  clear hb5 b_bx5 b_bz5 b_bl5 k_own5 k_lg5
  clear B4_bx B4_bz HB4 K4_own HLO
  have c_bx0 := B5_bx.out.cell 0
  have c_bx1 := B5_bx.out.cell 1
  have c_bx2 := B5_bx.out.cell 2
  have c_bx3 := B5_bx.out.cell 3
  have c_bx4 := B5_bx.out.cell 4
  have c_bx5 := B5_bx.out.cell 5
  have c_bx6 := B5_bx.out.cell 6
  have l_bx := B5_bx.out.lt
  have c_bl0 := B5_bl.out.cell 0
  have c_bl1 := B5_bl.out.cell 1
  have l_bl := B5_bl.out.lt
  go_wp2_with fail
  clear c_bx0 c_bx1 c_bx2 c_bx3 c_bx4 c_bx5 c_bx6 l_bx c_bl0 c_bl1 l_bl
  have c_bx3 := B5_bx.out.cell 3
  have l_bx := B5_bx.out.lt
  have c_bl0 := B5_bl.out.cell 0
  have c_bl1 := B5_bl.out.cell 1
  have l_bl := B5_bl.out.lt
  refine wp_region_held_drew (S := fun w0 => w0.cell? ⟨w.heap.size, 3, none⟩ = some (.slice (some ⟨gk, 0, none⟩) ks.length d3) ∧ w0.cell? ⟨W4.heap.size, 0, none⟩ = some (.slice A9 lb.length c9) ∧ w0.cell? ⟨W4.heap.size, 1, none⟩ = some (.int .i64 (m : Int))) (by kernel_rfl) ?_ (fun hHeld => ?_)
  · exact ⟨c_bx3, c_bl0, c_bl1⟩
  clear c_bx3 l_bx c_bl0 c_bl1 l_bl
  generalize hd : World.drew W5 = W6 at *
  have hb : Below W5.heap.size W5 W6 := by rw [← hd]; exact (Below.refl _ _).drew
  have hb6 : Below w.heap.size w W6 := below_then HB5.out hb
  have b_bx6 := B5_bx.out.below hb B5_bx.out.lt
  have b_bz6 := B5_bz.out.below hb B5_bz.out.lt
  have b_bl6 := B5_bl.out.below hb B5_bl.out.lt
  have k_own6 := K5_own.out.keep hb
  have k_lg6 := K5_lg.out.keep hb
  have hz6 := hb.size
  have HB6 := Lib.hid hb6
  have B6_bx := Lib.hid b_bx6
  have B6_bz := Lib.hid b_bz6
  have B6_bl := Lib.hid b_bl6
  have K6_own := Lib.hid k_own6
  have K6_lg := Lib.hid k_lg6
  clear hb6 b_bx6 b_bz6 b_bl6 k_own6 k_lg6
  clear B5_bx B5_bz B5_bl HB5 K5_own K5_lg
  clear hd hb
  obtain ⟨A7, c7, ⟨r0, r1, r2, r3⟩, ⟨rf0, rf1, rf2, rf3⟩, -⟩ := K6_own.out.repAt i hi
  refine wpAnyH_take (i := 0) (v := ?_) rfl (by kernel_rfl) (by kernel_rfl) (by kernel_rfl) (fun _ _ _ h => h) (Or.inl ⟨by rfl, ?_⟩) (by assumption) ?_
  rotate_left
  · intro w0 hSw
    (try dsimp only at hSw)
    go_simp
    all_goals with_reducible rfl
  try simp only [Act.put, List.getElem_toArray, List.getElem_cons_zero, List.setIfInBounds_toArray, List.set_cons_zero, List.set_cons_succ]
  refine wpAnyH_take (i := 1) (v := ?_) rfl (by kernel_rfl) (by kernel_rfl) (by kernel_rfl) (fun _ _ _ h => h) (Or.inl ⟨by rfl, ?_⟩) (by assumption) ?_
  rotate_left
  · intro w0 hSw
    (try dsimp only at hSw)
    go_simp
    all_goals with_reducible rfl
  try simp only [Act.put, List.getElem_toArray, List.getElem_cons_zero, List.getElem_cons_succ, List.setIfInBounds_toArray, List.set_cons_zero, List.set_cons_succ]
  refine wpAnyH_take (i := 2) (v := ?_) rfl (by kernel_rfl) (by kernel_rfl) (by kernel_rfl) (fun _ _ _ h => h) (Or.inl ⟨by rfl, ?_⟩) (by assumption) ?_
  rotate_left
  · intro w0 hSw
    (try dsimp only at hSw)
    go_simp
    all_goals with_reducible rfl
  try simp only [Act.put, List.getElem_toArray, List.getElem_cons_zero, List.getElem_cons_succ, List.setIfInBounds_toArray, List.set_cons_zero, List.set_cons_succ]
  refine wpAnyH_take (i := 3) (v := ?_) rfl (by kernel_rfl) (by kernel_rfl) (by kernel_rfl) (fun _ _ _ h => h) (Or.inl ⟨by rfl, ?_⟩) (by assumption) ?_
  rotate_left
  · intro w0 hSw
    (try dsimp only at hSw)
    go_simp
    all_goals with_reducible rfl
  try simp only [Act.put, List.getElem_toArray, List.getElem_cons_zero, List.getElem_cons_succ, List.setIfInBounds_toArray, List.set_cons_zero, List.set_cons_succ]
  refine wpAnyH_take (i := 4) (v := ?_) rfl (by kernel_rfl) (by kernel_rfl) (by kernel_rfl) (fun _ _ _ h => h) (Or.inl ⟨by rfl, ?_⟩) (by assumption) ?_
  rotate_left
  · intro w0 hSw
    (try dsimp only at hSw)
    go_simp
    all_goals with_reducible rfl
  try simp only [Act.put, List.getElem_toArray, List.getElem_cons_zero, List.getElem_cons_succ, List.setIfInBounds_toArray, List.set_cons_zero, List.set_cons_succ]
  refine wpAnyH_take (i := 5) (v := ?_) rfl (by kernel_rfl) (by kernel_rfl) (by kernel_rfl) (fun _ _ _ h => h) (Or.inl ⟨by rfl, ?_⟩) (by assumption) ?_
  rotate_left
  · intro w0 hSw
    (try dsimp only at hSw)
    go_simp
    all_goals with_reducible rfl
  try simp only [Act.put, List.getElem_toArray, List.getElem_cons_zero, List.getElem_cons_succ, List.setIfInBounds_toArray, List.set_cons_zero, List.set_cons_succ]
  refine wpAnyH_take (i := 6) (v := ?_) rfl (by kernel_rfl) (by kernel_rfl) (by kernel_rfl) (fun _ _ _ h => h) (Or.inl ⟨by rfl, ?_⟩) (by assumption) ?_
  rotate_left
  · intro w0 hSw
    (try dsimp only at hSw)
    go_simp
    all_goals with_reducible rfl
  try simp only [Act.put, List.getElem_toArray, List.getElem_cons_zero, List.getElem_cons_succ, List.setIfInBounds_toArray, List.set_cons_zero, List.set_cons_succ]
  refine wpAnyH_take (i := 7) (v := ?_) rfl (by kernel_rfl) (by kernel_rfl) (by kernel_rfl) (fun _ _ _ h => h) (Or.inl ⟨by rfl, ?_⟩) (by assumption) ?_
  rotate_left
  · intro w0 hSw
    (try dsimp only at hSw)
    go_simp
    all_goals with_reducible rfl
  try simp only [Act.put, List.getElem_toArray, List.getElem_cons_zero, List.getElem_cons_succ, List.setIfInBounds_toArray, List.set_cons_zero, List.set_cons_succ]
  refine wpAnyH_ready (rs := [8]) (by kernel_rfl) (by simp) (AllReadyH.cons rfl (fun K hK => ?_) AllReadyH.nil)
  go_simp
  refine hK.out _ _ ?_ (fun hHeld => ?_)
  · exact ⟨(((B6_bx.out).far (p := ⟨gr, i * 4 + 1, none⟩) (by show w.heap.size ≠ gr; omega) _).far (p := ⟨gr, i * 4 + 2, none⟩) (by show w.heap.size ≠ gr; omega) _).cell 3, (((B6_bl.out).far (p := ⟨gr, i * 4 + 1, none⟩) (by show W4.heap.size ≠ gr; omega) _).far (p := ⟨gr, i * 4 + 2, none⟩) (by show W4.heap.size ≠ gr; omega) _).cell 0, (((B6_bl.out).far (p := ⟨gr, i * 4 + 1, none⟩) (by show W4.heap.size ≠ gr; omega) _).far (p := ⟨gr, i * 4 + 2, none⟩) (by show W4.heap.size ≠ gr; omega) _).cell 1⟩
  clear hK K
  clear r0 r1 r2 r3 rf0 rf1 rf2 rf3
  have kw := K6_own.out.setLog i hi (m : Int) (own_base K6_lg.out.own (by omega))
  have kr := PO.repAt (c := ⟨ep, ld, is, ks, rs.set i ⟨rs[i].up, lb, (m : Int), rs[i].high⟩, fw, ba⟩) (gr := gr) (cr := d5) (by simpa only [List.length_set] using kw) i (by simpa using hi)
  obtain ⟨A8, c8, ⟨r0, -, -, -⟩, ⟨rf0, -, -, -⟩, -⟩ := kr
  clear kw
  refine wpAnyH_take (i := 9) (v := ?_) rfl (by kernel_rfl) (by kernel_rfl) (by kernel_rfl) (fun _ _ _ h => h) (Or.inl ⟨by rfl, ?_⟩) (by assumption) ?_
  rotate_left
  · intro w0 hSw
    (try dsimp only at hSw)
    go_simp
    all_goals with_reducible rfl
  try simp only [Act.put, List.getElem_toArray, List.getElem_cons_zero, List.getElem_cons_succ, List.setIfInBounds_toArray, List.set_cons_zero, List.set_cons_succ]
  refine wpAnyH_take (i := 10) (v := ?_) rfl (by kernel_rfl) (by kernel_rfl) (by kernel_rfl) (fun _ _ _ h => h) (Or.inl ⟨by rfl, ?_⟩) (by assumption) ?_
  rotate_left
  · intro w0 hSw
    (try dsimp only at hSw)
    go_simp
    all_goals with_reducible rfl
  try simp only [Act.put, List.getElem_toArray, List.getElem_cons_zero, List.getElem_cons_succ, List.setIfInBounds_toArray, List.set_cons_zero, List.set_cons_succ]
  refine wpAnyH_ready (rs := [11]) (by kernel_rfl) (by simp) (AllReadyH.cons rfl (fun K hK => ?_) AllReadyH.nil)
  go_simp
  refine hK.out _ _ ?_ (fun hHeld => ?_)
  · exact ⟨((((B6_bx.out).far (p := ⟨gr, i * 4 + 1, none⟩) (by show w.heap.size ≠ gr; omega) _).far (p := ⟨gr, i * 4 + 2, none⟩) (by show w.heap.size ≠ gr; omega) _).far (p := ⟨gr, i * 4, none⟩) (by show w.heap.size ≠ gr; omega) _).cell 3, ((((B6_bl.out).far (p := ⟨gr, i * 4 + 1, none⟩) (by show W4.heap.size ≠ gr; omega) _).far (p := ⟨gr, i * 4 + 2, none⟩) (by show W4.heap.size ≠ gr; omega) _).far (p := ⟨gr, i * 4, none⟩) (by show W4.heap.size ≠ gr; omega) _).cell 0, ((((B6_bl.out).far (p := ⟨gr, i * 4 + 1, none⟩) (by show W4.heap.size ≠ gr; omega) _).far (p := ⟨gr, i * 4 + 2, none⟩) (by show W4.heap.size ≠ gr; omega) _).far (p := ⟨gr, i * 4, none⟩) (by show W4.heap.size ≠ gr; omega) _).cell 1⟩
  clear hK K
  clear r0 rf0
  have kw := K6_own.out.crash i hi (m : Int) (own_base K6_lg.out.own (by omega))
  obtain ⟨t1, tf1⟩ := kw.knownAt i j3
  clear kw
  (try simp only at t1)
  refine wpAnyH_take (i := 12) (v := ?_) rfl (by kernel_rfl) (by kernel_rfl) (by kernel_rfl) (fun _ _ _ h => h) (Or.inl ⟨by rfl, ?_⟩) (by assumption) ?_
  rotate_left
  · intro w0 hSw
    (try dsimp only at hSw)
    go_simp
    all_goals with_reducible rfl
  try simp only [Act.put, List.getElem_toArray, List.getElem_cons_zero, List.getElem_cons_succ, List.setIfInBounds_toArray, List.set_cons_zero, List.set_cons_succ]
  refine wpAnyH_ready (rs := [13]) (by kernel_rfl) (by simp) (AllReadyH.cons rfl (fun K hK => ?_) AllReadyH.nil)
  go_simp
  refine hK.out _ _ ?_ (fun hHeld => ?_)
  · exact ⟨(((((B6_bx.out).far (p := ⟨gr, i * 4 + 1, none⟩) (by show w.heap.size ≠ gr; omega) _).far (p := ⟨gr, i * 4 + 2, none⟩) (by show w.heap.size ≠ gr; omega) _).far (p := ⟨gr, i * 4, none⟩) (by show w.heap.size ≠ gr; omega) _).far (p := ⟨gk, i, none⟩) (by show w.heap.size ≠ gk; omega) _).cell 3, (((((B6_bl.out).far (p := ⟨gr, i * 4 + 1, none⟩) (by show W4.heap.size ≠ gr; omega) _).far (p := ⟨gr, i * 4 + 2, none⟩) (by show W4.heap.size ≠ gr; omega) _).far (p := ⟨gr, i * 4, none⟩) (by show W4.heap.size ≠ gr; omega) _).far (p := ⟨gk, i, none⟩) (by show W4.heap.size ≠ gk; omega) _).cell 0, (((((B6_bl.out).far (p := ⟨gr, i * 4 + 1, none⟩) (by show W4.heap.size ≠ gr; omega) _).far (p := ⟨gr, i * 4 + 2, none⟩) (by show W4.heap.size ≠ gr; omega) _).far (p := ⟨gr, i * 4, none⟩) (by show W4.heap.size ≠ gr; omega) _).far (p := ⟨gk, i, none⟩) (by show W4.heap.size ≠ gk; omega) _).cell 1⟩
  clear hK K
  refine wpAnyH_done (by kernel_rfl) ?_ _
  clear t1 tf1
  go_upto_region 11 with fail
  have hsz7 := HB6.out.size
  have hb7 : Below w.heap.size w ((((W6.setCell ⟨gr, i * 4 + 1, none⟩ (.slice A9 lb.length c9)).setCell ⟨gr, i * 4 + 2, none⟩ (.int .i64 (m : Int))).setCell ⟨gr, i * 4, none⟩ (.bool false)).setCell ⟨gk, i, none⟩ (.int .i64 0)) := ((((HB6.out).setCell (by show w.heap.size ≤ gr; omega) _).setCell (by show w.heap.size ≤ gr; omega) _).setCell (by show w.heap.size ≤ gr; omega) _).setCell (by show w.heap.size ≤ gk; omega) _
  have b_bx7 : Blk ((((W6.setCell ⟨gr, i * 4 + 1, none⟩ (.slice A9 lb.length c9)).setCell ⟨gr, i * 4 + 2, none⟩ (.int .i64 (m : Int))).setCell ⟨gr, i * 4, none⟩ (.bool false)).setCell ⟨gk, i, none⟩ (.int .i64 0)) (w.heap.size) 26 #[.int .i64 ep, .int .i64 ld, .slice (some ⟨gi, 0, none⟩) is.length d1, .slice (some ⟨gk, 0, none⟩) ks.length d3, .slice (some ⟨gr, 0, none⟩) rs.length d5, .int .i64 fw, .int .i64 ba] := ((((B6_bx.out).far (p := ⟨gr, i * 4 + 1, none⟩) (by show w.heap.size ≠ gr; omega) _).far (p := ⟨gr, i * 4 + 2, none⟩) (by show w.heap.size ≠ gr; omega) _).far (p := ⟨gr, i * 4, none⟩) (by show w.heap.size ≠ gr; omega) _).far (p := ⟨gk, i, none⟩) (by show w.heap.size ≠ gk; omega) _
  have b_bz7 : Blk ((((W6.setCell ⟨gr, i * 4 + 1, none⟩ (.slice A9 lb.length c9)).setCell ⟨gr, i * 4 + 2, none⟩ (.int .i64 (m : Int))).setCell ⟨gr, i * 4, none⟩ (.bool false)).setCell ⟨gk, i, none⟩ (.int .i64 0)) (w.heap.size + 1) 26 #[.int .i64 0, .int .i64 0, .slice none 0 0, .slice none 0 0, .slice none 0 0, .int .i64 0, .int .i64 0] := ((((B6_bz.out).far (p := ⟨gr, i * 4 + 1, none⟩) (by show w.heap.size + 1 ≠ gr; omega) _).far (p := ⟨gr, i * 4 + 2, none⟩) (by show w.heap.size + 1 ≠ gr; omega) _).far (p := ⟨gr, i * 4, none⟩) (by show w.heap.size + 1 ≠ gr; omega) _).far (p := ⟨gk, i, none⟩) (by show w.heap.size + 1 ≠ gk; omega) _
  have b_bl7 : Blk ((((W6.setCell ⟨gr, i * 4 + 1, none⟩ (.slice A9 lb.length c9)).setCell ⟨gr, i * 4 + 2, none⟩ (.int .i64 (m : Int))).setCell ⟨gr, i * 4, none⟩ (.bool false)).setCell ⟨gk, i, none⟩ (.int .i64 0)) (W4.heap.size) 42 #[.slice A9 lb.length c9, .int .i64 (m : Int)] := ((((B6_bl.out).far (p := ⟨gr, i * 4 + 1, none⟩) (by show W4.heap.size ≠ gr; omega) _).far (p := ⟨gr, i * 4 + 2, none⟩) (by show W4.heap.size ≠ gr; omega) _).far (p := ⟨gr, i * 4, none⟩) (by show W4.heap.size ≠ gr; omega) _).far (p := ⟨gk, i, none⟩) (by show W4.heap.size ≠ gk; omega) _
  have k_own7 := ((K6_own.out.crash i hi (m : Int) (own_base K6_lg.out.own (by omega))).setKnown i 0 (Nat.lt_of_le_of_lt (Nat.zero_le _) j3))
  have hz7 : W6.heap.size + 0 ≤ ((((W6.setCell ⟨gr, i * 4 + 1, none⟩ (.slice A9 lb.length c9)).setCell ⟨gr, i * 4 + 2, none⟩ (.int .i64 (m : Int))).setCell ⟨gr, i * 4, none⟩ (.bool false)).setCell ⟨gk, i, none⟩ (.int .i64 0)).heap.size := by first | omega | (simp; done) | (simp; omega)
  generalize (((W6.setCell ⟨gr, i * 4 + 1, none⟩ (.slice A9 lb.length c9)).setCell ⟨gr, i * 4 + 2, none⟩ (.int .i64 (m : Int))).setCell ⟨gr, i * 4, none⟩ (.bool false)).setCell ⟨gk, i, none⟩ (.int .i64 0) = W7 at *
  have HB7 := Lib.hid hb7
  have B7_bx := Lib.hid b_bx7
  have B7_bz := Lib.hid b_bz7
  have B7_bl := Lib.hid b_bl7
  have K7_own := Lib.hid k_own7
  clear hb7 b_bx7 b_bz7 b_bl7 k_own7
  clear B6_bx B6_bz B6_bl HB6 K6_own
  have c_bx0 := B7_bx.out.cell 0
  have c_bx1 := B7_bx.out.cell 1
  have c_bx2 := B7_bx.out.cell 2
  have c_bx3 := B7_bx.out.cell 3
  have c_bx4 := B7_bx.out.cell 4
  have c_bx5 := B7_bx.out.cell 5
  have c_bx6 := B7_bx.out.cell 6
  have l_bx := B7_bx.out.lt
  go_wp2_with fail
  clear c_bx0 c_bx1 c_bx2 c_bx3 c_bx4 c_bx5 c_bx6 l_bx
  have hi9 : i < (rs.set i ⟨false, lb, (m : Int), rs[i].high⟩).length := by simpa using hi
  have HSZ := Lib.hid (show LogIs (rs.set i ⟨false, lb, (m : Int), rs[i].high⟩)[i].log es2 es2.length by rw [List.getElem_set_self]; exact HLG2.out)
  refine (ends_ok _ ⟨ep, ld, is, ks.set i 0, rs.set i ⟨false, lb, (m : Int), rs[i].high⟩, fw, ba⟩ i _ (K7_own.out.pv (PSm.crashed HSM.out i ld ⟨false, lb, (m : Int), rs[i].high⟩ HLC.out)) hi9 HSZ.out).mono ?_
  rintro e W8 ⟨rfl, hb⟩
  have hb8 : Below w.heap.size w W8 := below_then HB7.out hb
  have b_bx8 := B7_bx.out.below hb B7_bx.out.lt
  have b_bz8 := B7_bz.out.below hb B7_bz.out.lt
  have b_bl8 := B7_bl.out.below hb B7_bl.out.lt
  have k_own8 := K7_own.out.keep hb
  have hz8 := hb.size
  have HB8 := Lib.hid hb8
  have B8_bx := Lib.hid b_bx8
  have B8_bz := Lib.hid b_bz8
  have B8_bl := Lib.hid b_bl8
  have K8_own := Lib.hid k_own8
  clear hb8 b_bx8 b_bz8 b_bl8 k_own8
  clear B7_bx B7_bz B7_bl HB7 K7_own
  obtain ⟨A7, c7, ⟨r0, r1, r2, r3⟩, ⟨rf0, rf1, rf2, rf3⟩, -⟩ := PO.repAt (c := ⟨ep, ld, is, ks.set i 0, rs.set i ⟨false, lb, (m : Int), rs[i].high⟩, fw, ba⟩) (gr := gr) (cr := d5) (by simpa only [List.length_set] using K8_own.out) i hi9
  (try simp only [List.getElem_set_self] at r3)
  go_upto_region 13 with fail
  clear r0 r1 r2 r3 rf0 rf1 rf2 rf3
  have hsz9 := HB8.out.size
  have hb9 : Below w.heap.size w (W8.setCell ⟨gr, i * 4 + 3, none⟩ (.int .i64 (min rs[i].high (es2.length : Int)))) := (HB8.out).setCell (by show w.heap.size ≤ gr; omega) _
  have b_bx9 : Blk (W8.setCell ⟨gr, i * 4 + 3, none⟩ (.int .i64 (min rs[i].high (es2.length : Int)))) (w.heap.size) 26 #[.int .i64 ep, .int .i64 ld, .slice (some ⟨gi, 0, none⟩) is.length d1, .slice (some ⟨gk, 0, none⟩) ks.length d3, .slice (some ⟨gr, 0, none⟩) rs.length d5, .int .i64 fw, .int .i64 ba] := (B8_bx.out).far (p := ⟨gr, i * 4 + 3, none⟩) (by show w.heap.size ≠ gr; omega) _
  have b_bz9 : Blk (W8.setCell ⟨gr, i * 4 + 3, none⟩ (.int .i64 (min rs[i].high (es2.length : Int)))) (w.heap.size + 1) 26 #[.int .i64 0, .int .i64 0, .slice none 0 0, .slice none 0 0, .slice none 0 0, .int .i64 0, .int .i64 0] := (B8_bz.out).far (p := ⟨gr, i * 4 + 3, none⟩) (by show w.heap.size + 1 ≠ gr; omega) _
  have b_bl9 : Blk (W8.setCell ⟨gr, i * 4 + 3, none⟩ (.int .i64 (min rs[i].high (es2.length : Int)))) (W4.heap.size) 42 #[.slice A9 lb.length c9, .int .i64 (m : Int)] := (B8_bl.out).far (p := ⟨gr, i * 4 + 3, none⟩) (by show W4.heap.size ≠ gr; omega) _
  have k_own9 := (PO.setHigh K8_own.out hi (min rs[i].high (es2.length : Int)))
  have hz9 : W8.heap.size + 0 ≤ (W8.setCell ⟨gr, i * 4 + 3, none⟩ (.int .i64 (min rs[i].high (es2.length : Int)))).heap.size := by first | omega | (simp; done) | (simp; omega)
  generalize W8.setCell ⟨gr, i * 4 + 3, none⟩ (.int .i64 (min rs[i].high (es2.length : Int))) = W9 at *
  have HB9 := Lib.hid hb9
  have B9_bx := Lib.hid b_bx9
  have B9_bz := Lib.hid b_bz9
  have B9_bl := Lib.hid b_bl9
  have K9_own := Lib.hid k_own9
  clear hb9 b_bx9 b_bz9 b_bl9 k_own9
  clear B8_bx B8_bz B8_bl HB8 K8_own
  have c_bx0 := B9_bx.out.cell 0
  have f_bx0 := B9_bx.out.frozen 0
  have c_bx1 := B9_bx.out.cell 1
  have f_bx1 := B9_bx.out.frozen 1
  have c_bx2 := B9_bx.out.cell 2
  have f_bx2 := B9_bx.out.frozen 2
  have c_bx3 := B9_bx.out.cell 3
  have f_bx3 := B9_bx.out.frozen 3
  have c_bx4 := B9_bx.out.cell 4
  have f_bx4 := B9_bx.out.frozen 4
  have c_bx5 := B9_bx.out.cell 5
  have f_bx5 := B9_bx.out.frozen 5
  have c_bx6 := B9_bx.out.cell 6
  have f_bx6 := B9_bx.out.frozen 6
  have l_bx := B9_bx.out.lt
  have c_bz0 := B9_bz.out.cell 0
  have f_bz0 := B9_bz.out.frozen 0
  have c_bz1 := B9_bz.out.cell 1
  have f_bz1 := B9_bz.out.frozen 1
  have c_bz2 := B9_bz.out.cell 2
  have f_bz2 := B9_bz.out.frozen 2
  have c_bz3 := B9_bz.out.cell 3
  have f_bz3 := B9_bz.out.frozen 3
  have c_bz4 := B9_bz.out.cell 4
  have f_bz4 := B9_bz.out.frozen 4
  have c_bz5 := B9_bz.out.cell 5
  have f_bz5 := B9_bz.out.frozen 5
  have c_bz6 := B9_bz.out.cell 6
  have f_bz6 := B9_bz.out.frozen 6
  have l_bz := B9_bz.out.lt
  go_wp2_with fail
  clear c_bx0 f_bx0 c_bx1 f_bx1 c_bx2 f_bx2 c_bx3 f_bx3 c_bx4 f_bx4 c_bx5 f_bx5 c_bx6 f_bx6 l_bx c_bz0 f_bz0 c_bz1 f_bz1 c_bz2 f_bz2 c_bz3 f_bz3 c_bz4 f_bz4 c_bz5 f_bz5 c_bz6 f_bz6 l_bz
  have hszF := HB9.out.size
  have hbF : Below w.heap.size w (((((((W9.setCell ⟨w.heap.size + 1, 0, none⟩ (.int .i64 ep)).setCell ⟨w.heap.size + 1, 1, none⟩ (.int .i64 ld)).setCell ⟨w.heap.size + 1, 2, none⟩ (.slice (some ⟨gi, 0, none⟩) is.length d1)).setCell ⟨w.heap.size + 1, 3, none⟩ (.slice (some ⟨gk, 0, none⟩) ks.length d3)).setCell ⟨w.heap.size + 1, 4, none⟩ (.slice (some ⟨gr, 0, none⟩) rs.length d5)).setCell ⟨w.heap.size + 1, 5, none⟩ (.int .i64 fw)).setCell ⟨w.heap.size + 1, 6, none⟩ (.int .i64 ba)) := (((((((HB9.out).setCell (by show w.heap.size ≤ w.heap.size + 1; omega) _).setCell (by show w.heap.size ≤ w.heap.size + 1; omega) _).setCell (by show w.heap.size ≤ w.heap.size + 1; omega) _).setCell (by show w.heap.size ≤ w.heap.size + 1; omega) _).setCell (by show w.heap.size ≤ w.heap.size + 1; omega) _).setCell (by show w.heap.size ≤ w.heap.size + 1; omega) _).setCell (by show w.heap.size ≤ w.heap.size + 1; omega) _
  have b_bxF : Blk (((((((W9.setCell ⟨w.heap.size + 1, 0, none⟩ (.int .i64 ep)).setCell ⟨w.heap.size + 1, 1, none⟩ (.int .i64 ld)).setCell ⟨w.heap.size + 1, 2, none⟩ (.slice (some ⟨gi, 0, none⟩) is.length d1)).setCell ⟨w.heap.size + 1, 3, none⟩ (.slice (some ⟨gk, 0, none⟩) ks.length d3)).setCell ⟨w.heap.size + 1, 4, none⟩ (.slice (some ⟨gr, 0, none⟩) rs.length d5)).setCell ⟨w.heap.size + 1, 5, none⟩ (.int .i64 fw)).setCell ⟨w.heap.size + 1, 6, none⟩ (.int .i64 ba)) (w.heap.size) 26 #[.int .i64 ep, .int .i64 ld, .slice (some ⟨gi, 0, none⟩) is.length d1, .slice (some ⟨gk, 0, none⟩) ks.length d3, .slice (some ⟨gr, 0, none⟩) rs.length d5, .int .i64 fw, .int .i64 ba] := (((((((B9_bx.out).far (p := ⟨w.heap.size + 1, 0, none⟩) (by show w.heap.size ≠ w.heap.size + 1; omega) _).far (p := ⟨w.heap.size + 1, 1, none⟩) (by show w.heap.size ≠ w.heap.size + 1; omega) _).far (p := ⟨w.heap.size + 1, 2, none⟩) (by show w.heap.size ≠ w.heap.size + 1; omega) _).far (p := ⟨w.heap.size + 1, 3, none⟩) (by show w.heap.size ≠ w.heap.size + 1; omega) _).far (p := ⟨w.heap.size + 1, 4, none⟩) (by show w.heap.size ≠ w.heap.size + 1; omega) _).far (p := ⟨w.heap.size + 1, 5, none⟩) (by show w.heap.size ≠ w.heap.size + 1; omega) _).far (p := ⟨w.heap.size + 1, 6, none⟩) (by show w.heap.size ≠ w.heap.size + 1; omega) _
  have b_bzF : Blk (((((((W9.setCell ⟨w.heap.size + 1, 0, none⟩ (.int .i64 ep)).setCell ⟨w.heap.size + 1, 1, none⟩ (.int .i64 ld)).setCell ⟨w.heap.size + 1, 2, none⟩ (.slice (some ⟨gi, 0, none⟩) is.length d1)).setCell ⟨w.heap.size + 1, 3, none⟩ (.slice (some ⟨gk, 0, none⟩) ks.length d3)).setCell ⟨w.heap.size + 1, 4, none⟩ (.slice (some ⟨gr, 0, none⟩) rs.length d5)).setCell ⟨w.heap.size + 1, 5, none⟩ (.int .i64 fw)).setCell ⟨w.heap.size + 1, 6, none⟩ (.int .i64 ba)) (w.heap.size + 1) 26 #[.int .i64 ep, .int .i64 ld, .slice (some ⟨gi, 0, none⟩) is.length d1, .slice (some ⟨gk, 0, none⟩) ks.length d3, .slice (some ⟨gr, 0, none⟩) rs.length d5, .int .i64 fw, .int .i64 ba] := (((((((B9_bz.out).set_ 0 _).set_ 1 _).set_ 2 _).set_ 3 _).set_ 4 _).set_ 5 _).set_ 6 _
  have b_blF : Blk (((((((W9.setCell ⟨w.heap.size + 1, 0, none⟩ (.int .i64 ep)).setCell ⟨w.heap.size + 1, 1, none⟩ (.int .i64 ld)).setCell ⟨w.heap.size + 1, 2, none⟩ (.slice (some ⟨gi, 0, none⟩) is.length d1)).setCell ⟨w.heap.size + 1, 3, none⟩ (.slice (some ⟨gk, 0, none⟩) ks.length d3)).setCell ⟨w.heap.size + 1, 4, none⟩ (.slice (some ⟨gr, 0, none⟩) rs.length d5)).setCell ⟨w.heap.size + 1, 5, none⟩ (.int .i64 fw)).setCell ⟨w.heap.size + 1, 6, none⟩ (.int .i64 ba)) (W4.heap.size) 42 #[.slice A9 lb.length c9, .int .i64 (m : Int)] := (((((((B9_bl.out).far (p := ⟨w.heap.size + 1, 0, none⟩) (by show W4.heap.size ≠ w.heap.size + 1; omega) _).far (p := ⟨w.heap.size + 1, 1, none⟩) (by show W4.heap.size ≠ w.heap.size + 1; omega) _).far (p := ⟨w.heap.size + 1, 2, none⟩) (by show W4.heap.size ≠ w.heap.size + 1; omega) _).far (p := ⟨w.heap.size + 1, 3, none⟩) (by show W4.heap.size ≠ w.heap.size + 1; omega) _).far (p := ⟨w.heap.size + 1, 4, none⟩) (by show W4.heap.size ≠ w.heap.size + 1; omega) _).far (p := ⟨w.heap.size + 1, 5, none⟩) (by show W4.heap.size ≠ w.heap.size + 1; omega) _).far (p := ⟨w.heap.size + 1, 6, none⟩) (by show W4.heap.size ≠ w.heap.size + 1; omega) _
  have k_ownF := (((((((K9_own.out).under (a := ⟨w.heap.size + 1, 0, none⟩) (by (try dsimp only); omega) (.int .i64 ep)).under (a := ⟨w.heap.size + 1, 1, none⟩) (by (try dsimp only); omega) (.int .i64 ld)).under (a := ⟨w.heap.size + 1, 2, none⟩) (by (try dsimp only); omega) (.slice (some ⟨gi, 0, none⟩) is.length d1)).under (a := ⟨w.heap.size + 1, 3, none⟩) (by (try dsimp only); omega) (.slice (some ⟨gk, 0, none⟩) ks.length d3)).under (a := ⟨w.heap.size + 1, 4, none⟩) (by (try dsimp only); omega) (.slice (some ⟨gr, 0, none⟩) rs.length d5)).under (a := ⟨w.heap.size + 1, 5, none⟩) (by (try dsimp only); omega) (.int .i64 fw)).under (a := ⟨w.heap.size + 1, 6, none⟩) (by (try dsimp only); omega) (.int .i64 ba)
  have y0 := b_bzF.cell 0
  have y1 := b_bzF.cell 1
  have y2 := b_bzF.cell 2
  have y3 := b_bzF.cell 3
  have y4 := b_bzF.cell 4
  have y5 := b_bzF.cell 5
  have y6 := b_bzF.cell 6
  exact bodyPost_ret (v := .tuple #[.agg #[.int .i64 ep, .int .i64 ld, .slice (some ⟨gi, 0, none⟩) is.length d1, .slice (some ⟨gk, 0, none⟩) ks.length d3, .slice (some ⟨gr, 0, none⟩) rs.length d5, .int .i64 fw, .int .i64 ba], .int .i64 0]) (by simp [results, Try.results54, go_sem, y0, y1, y2, y3, y4, y5, y6]) rfl (⟨_, _, _, rfl, k_ownF.more (by omega), hbF⟩)
set_option maxRecDepth 100000 in
set_option maxHeartbeats 4000000 in
theorem pcrash_lead (v : Value) (c : PartD) (i : Nat) (keep : Nat) (hn : PartOk c) (hi : i < c.reps.length) (hl : c.leader = i) (hu : c.reps[i].up = true) {es2 : List Ent} {m : Nat} {lb : List UInt8} (hlb : c.reps[i].bytes.take m = lb) (hd : dec (c.reps[i].bytes.take (crashN c.reps[i] keep)) = (es2, m)) (w : World) (h : Pv w v c) : Calls Try.prog 54 #[v, .int .i64 i, .int .i64 keep] w (OwnsP ⟨c.epoch, -1, c.isr, c.known.set i 0, c.reps.set i ⟨false, lb, (m : Int), min c.reps[i].high (es2.length : Int)⟩, c.few, c.base⟩ w) := by
  have eqk := hn.known
  have eqi := hn.isr
  obtain ⟨xi, xk, xr, rfl, ix, kx, rx, hli, hlk, hlr⟩ := id h
  obtain ⟨A5, c5, rfl, hc5, -⟩ := rx.at_
  obtain ⟨A1, c1, rfl, hc1, -⟩ := ix.at_
  obtain ⟨A3, c3, rfl, hc3, -⟩ := kx.at_
  have H := Lib.hid h
  clear h ix kx rx
  unfold partV at *
  obtain ⟨ep, ld, is, ks, rs, fw, ba⟩ := c
  simp only at *
  have HN := Lib.hid hn
  have HSM := Lib.hid hn.small
  clear hn
  (try simp only at eqk eqi)
  have E1 := Lib.hid eqi
  have E2 := Lib.hid eqk
  have i0 : (0 : Int) ≤ (i : Int) := by omega
  have i1 : (i : Int) < (rs.length : Int) := Int.ofNat_lt.2 hi
  have i2 : (i : Int) < (is.length : Int) := by omega
  have i3 : (i : Int) < (ks.length : Int) := by omega
  have j2 : i < is.length := by omega
  have j3 : i < ks.length := by omega
  clear eqk eqi
  have hup : rs[i].up = true := hu
  have HU := Lib.hid hup
  clear hu hup
  obtain ⟨es, j, hlog⟩ := HN.out.log i hi
  have hlog2 := LogIs.cut (p := crashN rs[i] keep) hlog hd
  rw [hlb] at hlog2
  have HLB := Lib.hid hlb
  have hlc : lb.length ≤ 40000 := by have := hlog2.long; rw [← hlog2.bytes] at this; exact this
  have HLG := Lib.hid hlog
  have HLG2 := Lib.hid hlog2
  have HDC := Lib.hid hd
  have HLC := Lib.hid hlc
  clear hlog hlog2 hd hlc hlb
  have y9 : (ld == (i : Int)) = true := beq_iff_eq.2 hl
  clear hl
  go_enter Try.func54, Try.ntmps54
  go_wp2_with fail
  have hb1 : Below w.heap.size w ((w.alloc (.cells #[.int .i64 ep, .int .i64 ld, .slice A1 is.length c1, .slice A3 ks.length c3, .slice A5 rs.length c5, .int .i64 fw, .int .i64 ba] 26)).alloc (.cells #[.int .i64 0, .int .i64 0, .slice none 0 0, .slice none 0 0, .slice none 0 0, .int .i64 0, .int .i64 0] 26)) := ((Below.refl _ _).alloc (by first | omega | (simp; done) | (simp; omega)) _).alloc (by first | omega | (simp; done) | (simp; omega)) _
  have hal1 : Below w.heap.size w ((w.alloc (.cells #[.int .i64 ep, .int .i64 ld, .slice A1 is.length c1, .slice A3 ks.length c3, .slice A5 rs.length c5, .int .i64 fw, .int .i64 ba] 26)).alloc (.cells #[.int .i64 0, .int .i64 0, .slice none 0 0, .slice none 0 0, .slice none 0 0, .int .i64 0, .int .i64 0] 26)) := ((Below.refl _ _).alloc (by first | omega | (simp; done) | (simp; omega)) _).alloc (by first | omega | (simp; done) | (simp; omega)) _
  have b_bx1 : Blk ((w.alloc (.cells #[.int .i64 ep, .int .i64 ld, .slice A1 is.length c1, .slice A3 ks.length c3, .slice A5 rs.length c5, .int .i64 fw, .int .i64 ba] 26)).alloc (.cells #[.int .i64 0, .int .i64 0, .slice none 0 0, .slice none 0 0, .slice none 0 0, .int .i64 0, .int .i64 0] 26)) (w.heap.size) 26 #[.int .i64 ep, .int .i64 ld, .slice A1 is.length c1, .slice A3 ks.length c3, .slice A5 rs.length c5, .int .i64 fw, .int .i64 ba] := (Blk.new_ _ 26 #[.int .i64 ep, .int .i64 ld, .slice A1 is.length c1, .slice A3 ks.length c3, .slice A5 rs.length c5, .int .i64 fw, .int .i64 ba] (by first | rfl | (simp; done) | (simp; omega))).alloc _
  have b_bz1 : Blk ((w.alloc (.cells #[.int .i64 ep, .int .i64 ld, .slice A1 is.length c1, .slice A3 ks.length c3, .slice A5 rs.length c5, .int .i64 fw, .int .i64 ba] 26)).alloc (.cells #[.int .i64 0, .int .i64 0, .slice none 0 0, .slice none 0 0, .slice none 0 0, .int .i64 0, .int .i64 0] 26)) (w.heap.size + 1) 26 #[.int .i64 0, .int .i64 0, .slice none 0 0, .slice none 0 0, .slice none 0 0, .int .i64 0, .int .i64 0] := Blk.new_ _ 26 #[.int .i64 0, .int .i64 0, .slice none 0 0, .slice none 0 0, .slice none 0 0, .int .i64 0, .int .i64 0] (by first | rfl | (simp; done) | (simp; omega))
  have k_v1 := H.out.below hal1
  have hz1 : w.heap.size + 2 ≤ ((w.alloc (.cells #[.int .i64 ep, .int .i64 ld, .slice A1 is.length c1, .slice A3 ks.length c3, .slice A5 rs.length c5, .int .i64 fw, .int .i64 ba] 26)).alloc (.cells #[.int .i64 0, .int .i64 0, .slice none 0 0, .slice none 0 0, .slice none 0 0, .int .i64 0, .int .i64 0] 26)).heap.size := by first | omega | (simp; done) | (simp; omega)
  generalize (w.alloc (.cells #[.int .i64 ep, .int .i64 ld, .slice A1 is.length c1, .slice A3 ks.length c3, .slice A5 rs.length c5, .int .i64 fw, .int .i64 ba] 26)).alloc (.cells #[.int .i64 0, .int .i64 0, .slice none 0 0, .slice none 0 0, .slice none 0 0, .int .i64 0, .int .i64 0] 26) = W1 at *
  have HB1 := Lib.hid hb1
  have B1_bx := Lib.hid b_bx1
  have B1_bz := Lib.hid b_bz1
  have K1_v := Lib.hid k_v1
  clear hb1 b_bx1 b_bz1 k_v1
  clear H
  refine (at_good _ ⟨ep, ld, is, ks, rs, fw, ba⟩ i HN.out hi _ K1_v.out).mono ?_
  rintro e W2 ⟨iv, kv, rv, rfl, ho, hb⟩
  obtain ⟨gi, d1, gk, d3, gr, d5, rfl, rfl, rfl, hgi, hgk, hgr, hgi', hgk', hgr'⟩ := ho.rows (by have := HN.out.isr; have := HN.out.many; simp only at *; omega) (by have := HN.out.known; have := HN.out.many; simp only at *; omega) (by have := HN.out.many; simp only at *; omega)
  unfold partV
  simp only at *
  have HO := Lib.hid ho
  clear ho
  have hb2 : Below w.heap.size w W2 := below_then HB1.out hb
  have b_bx2 := B1_bx.out.below hb B1_bx.out.lt
  have b_bz2 := B1_bz.out.below hb B1_bz.out.lt
  have k_v2 := K1_v.out.below hb
  have hz2 := hb.size
  have HB2 := Lib.hid hb2
  have B2_bx := Lib.hid b_bx2
  have B2_bz := Lib.hid b_bz2
  have K2_v := Lib.hid k_v2
  clear hb2 b_bx2 b_bz2 k_v2
  clear B1_bx B1_bz HB1 K1_v
  have c_bx0 := B2_bx.out.cell 0
  have f_bx0 := B2_bx.out.frozen 0
  have c_bx1 := B2_bx.out.cell 1
  have f_bx1 := B2_bx.out.frozen 1
  have c_bx2 := B2_bx.out.cell 2
  have f_bx2 := B2_bx.out.frozen 2
  have c_bx3 := B2_bx.out.cell 3
  have f_bx3 := B2_bx.out.frozen 3
  have c_bx4 := B2_bx.out.cell 4
  have f_bx4 := B2_bx.out.frozen 4
  have c_bx5 := B2_bx.out.cell 5
  have f_bx5 := B2_bx.out.frozen 5
  have c_bx6 := B2_bx.out.cell 6
  have f_bx6 := B2_bx.out.frozen 6
  have l_bx := B2_bx.out.lt
  go_upto_region 2 with fail
  clear c_bx0 f_bx0 c_bx1 f_bx1 c_bx2 f_bx2 c_bx3 f_bx3 c_bx4 f_bx4 c_bx5 f_bx5 c_bx6 f_bx6 l_bx
  have hsz3 := HB2.out.size
  have hb3 : Below w.heap.size w (((((((W2.setCell ⟨w.heap.size, 0, none⟩ (.int .i64 ep)).setCell ⟨w.heap.size, 1, none⟩ (.int .i64 ld)).setCell ⟨w.heap.size, 2, none⟩ (.slice (some ⟨gi, 0, none⟩) is.length d1)).setCell ⟨w.heap.size, 3, none⟩ (.slice (some ⟨gk, 0, none⟩) ks.length d3)).setCell ⟨w.heap.size, 4, none⟩ (.slice (some ⟨gr, 0, none⟩) rs.length d5)).setCell ⟨w.heap.size, 5, none⟩ (.int .i64 fw)).setCell ⟨w.heap.size, 6, none⟩ (.int .i64 ba)) := (((((((HB2.out).setCell (by show w.heap.size ≤ w.heap.size; omega) _).setCell (by show w.heap.size ≤ w.heap.size; omega) _).setCell (by show w.heap.size ≤ w.heap.size; omega) _).setCell (by show w.heap.size ≤ w.heap.size; omega) _).setCell (by show w.heap.size ≤ w.heap.size; omega) _).setCell (by show w.heap.size ≤ w.heap.size; omega) _).setCell (by show w.heap.size ≤ w.heap.size; omega) _
  have b_bx3 : Blk (((((((W2.setCell ⟨w.heap.size, 0, none⟩ (.int .i64 ep)).setCell ⟨w.heap.size, 1, none⟩ (.int .i64 ld)).setCell ⟨w.heap.size, 2, none⟩ (.slice (some ⟨gi, 0, none⟩) is.length d1)).setCell ⟨w.heap.size, 3, none⟩ (.slice (some ⟨gk, 0, none⟩) ks.length d3)).setCell ⟨w.heap.size, 4, none⟩ (.slice (some ⟨gr, 0, none⟩) rs.length d5)).setCell ⟨w.heap.size, 5, none⟩ (.int .i64 fw)).setCell ⟨w.heap.size, 6, none⟩ (.int .i64 ba)) (w.heap.size) 26 #[.int .i64 ep, .int .i64 ld, .slice (some ⟨gi, 0, none⟩) is.length d1, .slice (some ⟨gk, 0, none⟩) ks.length d3, .slice (some ⟨gr, 0, none⟩) rs.length d5, .int .i64 fw, .int .i64 ba] := (((((((B2_bx.out).set_ 0 _).set_ 1 _).set_ 2 _).set_ 3 _).set_ 4 _).set_ 5 _).set_ 6 _
  have b_bz3 : Blk (((((((W2.setCell ⟨w.heap.size, 0, none⟩ (.int .i64 ep)).setCell ⟨w.heap.size, 1, none⟩ (.int .i64 ld)).setCell ⟨w.heap.size, 2, none⟩ (.slice (some ⟨gi, 0, none⟩) is.length d1)).setCell ⟨w.heap.size, 3, none⟩ (.slice (some ⟨gk, 0, none⟩) ks.length d3)).setCell ⟨w.heap.size, 4, none⟩ (.slice (some ⟨gr, 0, none⟩) rs.length d5)).setCell ⟨w.heap.size, 5, none⟩ (.int .i64 fw)).setCell ⟨w.heap.size, 6, none⟩ (.int .i64 ba)) (w.heap.size + 1) 26 #[.int .i64 0, .int .i64 0, .slice none 0 0, .slice none 0 0, .slice none 0 0, .int .i64 0, .int .i64 0] := (((((((B2_bz.out).far (p := ⟨w.heap.size, 0, none⟩) (by show w.heap.size + 1 ≠ w.heap.size; omega) _).far (p := ⟨w.heap.size, 1, none⟩) (by show w.heap.size + 1 ≠ w.heap.size; omega) _).far (p := ⟨w.heap.size, 2, none⟩) (by show w.heap.size + 1 ≠ w.heap.size; omega) _).far (p := ⟨w.heap.size, 3, none⟩) (by show w.heap.size + 1 ≠ w.heap.size; omega) _).far (p := ⟨w.heap.size, 4, none⟩) (by show w.heap.size + 1 ≠ w.heap.size; omega) _).far (p := ⟨w.heap.size, 5, none⟩) (by show w.heap.size + 1 ≠ w.heap.size; omega) _).far (p := ⟨w.heap.size, 6, none⟩) (by show w.heap.size + 1 ≠ w.heap.size; omega) _
  have k_own3 := (((((((HO.out).under (a := ⟨w.heap.size, 0, none⟩) (by (try dsimp only); omega) (.int .i64 ep)).under (a := ⟨w.heap.size, 1, none⟩) (by (try dsimp only); omega) (.int .i64 ld)).under (a := ⟨w.heap.size, 2, none⟩) (by (try dsimp only); omega) (.slice (some ⟨gi, 0, none⟩) is.length d1)).under (a := ⟨w.heap.size, 3, none⟩) (by (try dsimp only); omega) (.slice (some ⟨gk, 0, none⟩) ks.length d3)).under (a := ⟨w.heap.size, 4, none⟩) (by (try dsimp only); omega) (.slice (some ⟨gr, 0, none⟩) rs.length d5)).under (a := ⟨w.heap.size, 5, none⟩) (by (try dsimp only); omega) (.int .i64 fw)).under (a := ⟨w.heap.size, 6, none⟩) (by (try dsimp only); omega) (.int .i64 ba)
  have hz3 : W2.heap.size + 0 ≤ (((((((W2.setCell ⟨w.heap.size, 0, none⟩ (.int .i64 ep)).setCell ⟨w.heap.size, 1, none⟩ (.int .i64 ld)).setCell ⟨w.heap.size, 2, none⟩ (.slice (some ⟨gi, 0, none⟩) is.length d1)).setCell ⟨w.heap.size, 3, none⟩ (.slice (some ⟨gk, 0, none⟩) ks.length d3)).setCell ⟨w.heap.size, 4, none⟩ (.slice (some ⟨gr, 0, none⟩) rs.length d5)).setCell ⟨w.heap.size, 5, none⟩ (.int .i64 fw)).setCell ⟨w.heap.size, 6, none⟩ (.int .i64 ba)).heap.size := by first | omega | (simp; done) | (simp; omega)
  generalize ((((((W2.setCell ⟨w.heap.size, 0, none⟩ (.int .i64 ep)).setCell ⟨w.heap.size, 1, none⟩ (.int .i64 ld)).setCell ⟨w.heap.size, 2, none⟩ (.slice (some ⟨gi, 0, none⟩) is.length d1)).setCell ⟨w.heap.size, 3, none⟩ (.slice (some ⟨gk, 0, none⟩) ks.length d3)).setCell ⟨w.heap.size, 4, none⟩ (.slice (some ⟨gr, 0, none⟩) rs.length d5)).setCell ⟨w.heap.size, 5, none⟩ (.int .i64 fw)).setCell ⟨w.heap.size, 6, none⟩ (.int .i64 ba) = W3 at *
  have HB3 := Lib.hid hb3
  have B3_bx := Lib.hid b_bx3
  have B3_bz := Lib.hid b_bz3
  have K3_own := Lib.hid k_own3
  clear hb3 b_bx3 b_bz3 k_own3
  clear B2_bx B2_bz HB2 HO
  have c_bx0 := B3_bx.out.cell 0
  have c_bx1 := B3_bx.out.cell 1
  have c_bx2 := B3_bx.out.cell 2
  have c_bx3 := B3_bx.out.cell 3
  have c_bx4 := B3_bx.out.cell 4
  have c_bx5 := B3_bx.out.cell 5
  have c_bx6 := B3_bx.out.cell 6
  have l_bx := B3_bx.out.lt
  have c_bz0 := B3_bz.out.cell 0
  have f_bz0 := B3_bz.out.frozen 0
  have c_bz1 := B3_bz.out.cell 1
  have f_bz1 := B3_bz.out.frozen 1
  have c_bz2 := B3_bz.out.cell 2
  have f_bz2 := B3_bz.out.frozen 2
  have c_bz3 := B3_bz.out.cell 3
  have f_bz3 := B3_bz.out.frozen 3
  have c_bz4 := B3_bz.out.cell 4
  have f_bz4 := B3_bz.out.frozen 4
  have c_bz5 := B3_bz.out.cell 5
  have f_bz5 := B3_bz.out.frozen 5
  have c_bz6 := B3_bz.out.cell 6
  have f_bz6 := B3_bz.out.frozen 6
  have l_bz := B3_bz.out.lt
  obtain ⟨A7, c7, ⟨r0, r1, r2, r3⟩, ⟨rf0, rf1, rf2, rf3⟩, rby⟩ := K3_own.out.repAt i hi
  obtain ⟨s0, sf0⟩ := K3_own.out.isrAt i j2
  obtain ⟨t0, tf0⟩ := K3_own.out.knownAt i j3
  (try simp only at r0 r1 r2 r3 rby s0 t0)
  rw [HU.out] at r0
  go_wp2_with fail
  have RBY := Lib.hid rby
  clear c_bx0 c_bx1 c_bx2 c_bx3 c_bx4 c_bx5 c_bx6 l_bx c_bz0 f_bz0 c_bz1 f_bz1 c_bz2 f_bz2 c_bz3 f_bz3 c_bz4 f_bz4 c_bz5 f_bz5 c_bz6 f_bz6 l_bz r0 r1 r2 r3 rf0 rf1 rf2 rf3 rby s0 sf0 t0 tf0
  refine (crash_ok _ _ _ keep _ RBY.out HLG.out (p := crashN rs[i] keep) rfl HDC.out).mono ?_
  rintro e W4 ⟨v5, rfl, hp5, hb⟩
  dsimp only at hp5
  rw [HLB.out] at hp5
  obtain ⟨A9, c9, rfl, hc9⟩ := (Sl.of_own hp5).form
  have HLO := Lib.hid (LgO.mk hp5)
  clear hp5 RBY
  have hb4 : Below w.heap.size w W4 := below_then HB3.out hb
  have b_bx4 := B3_bx.out.below hb B3_bx.out.lt
  have b_bz4 := B3_bz.out.below hb B3_bz.out.lt
  have k_own4 := K3_own.out.keep hb
  have hz4 := hb.size
  have HB4 := Lib.hid hb4
  have B4_bx := Lib.hid b_bx4
  have B4_bz := Lib.hid b_bz4
  have K4_own := Lib.hid k_own4
  clear hb4 b_bx4 b_bz4 k_own4
  clear B3_bx B3_bz HB3 K3_own
  go_upto_region 8 with fail
  have hsz5 := HB4.out.size
  have hb5 : Below w.heap.size w (W4.alloc (.cells #[.slice A9 lb.length c9, .int .i64 (m : Int)] 42)) := (HB4.out).alloc (by first | omega | (simp; done) | (simp; omega)) _
  have hal5 : Below W4.heap.size W4 (W4.alloc (.cells #[.slice A9 lb.length c9, .int .i64 (m : Int)] 42)) := (Below.refl _ _).alloc (by first | omega | (simp; done) | (simp; omega)) _
  have b_bx5 : Blk (W4.alloc (.cells #[.slice A9 lb.length c9, .int .i64 (m : Int)] 42)) (w.heap.size) 26 #[.int .i64 ep, .int .i64 ld, .slice (some ⟨gi, 0, none⟩) is.length d1, .slice (some ⟨gk, 0, none⟩) ks.length d3, .slice (some ⟨gr, 0, none⟩) rs.length d5, .int .i64 fw, .int .i64 ba] := (B4_bx.out).alloc _
  have b_bz5 : Blk (W4.alloc (.cells #[.slice A9 lb.length c9, .int .i64 (m : Int)] 42)) (w.heap.size + 1) 26 #[.int .i64 0, .int .i64 0, .slice none 0 0, .slice none 0 0, .slice none 0 0, .int .i64 0, .int .i64 0] := (B4_bz.out).alloc _
  have b_bl5 : Blk (W4.alloc (.cells #[.slice A9 lb.length c9, .int .i64 (m : Int)] 42)) (W4.heap.size) 42 #[.slice A9 lb.length c9, .int .i64 (m : Int)] := Blk.new_ _ 42 #[.slice A9 lb.length c9, .int .i64 (m : Int)] (by first | rfl | (simp; done) | (simp; omega))
  have k_own5 := (K4_own.out).alloc (.cells #[.slice A9 lb.length c9, .int .i64 (m : Int)] 42)
  have k_lg5 := (HLO.out).alloc (.cells #[.slice A9 lb.length c9, .int .i64 (m : Int)] 42)
  have hz5 : W4.heap.size + 1 ≤ (W4.alloc (.cells #[.slice A9 lb.length c9, .int .i64 (m : Int)] 42)).heap.size := by first | omega | (simp; done) | (simp; omega)
  generalize W4.alloc (.cells #[.slice A9 lb.length c9, .int .i64 (m : Int)] 42) = W5 at *
  have HB5 := Lib.hid hb5
  have B5_bx := Lib.hid b_bx5
  have B5_bz := Lib.hid b_bz5
  have B5_bl := Lib.hid b_bl5
  have K5_own := Lib.hid k_own5
  have K5_lg := Lib.hid k_lg5
  clear hb5 b_bx5 b_bz5 b_bl5 k_own5 k_lg5
  clear B4_bx B4_bz HB4 K4_own HLO
  have c_bx0 := B5_bx.out.cell 0
  have c_bx1 := B5_bx.out.cell 1
  have c_bx2 := B5_bx.out.cell 2
  have c_bx3 := B5_bx.out.cell 3
  have c_bx4 := B5_bx.out.cell 4
  have c_bx5 := B5_bx.out.cell 5
  have c_bx6 := B5_bx.out.cell 6
  have l_bx := B5_bx.out.lt
  have c_bl0 := B5_bl.out.cell 0
  have c_bl1 := B5_bl.out.cell 1
  have l_bl := B5_bl.out.lt
  go_wp2_with fail
  clear c_bx0 c_bx1 c_bx2 c_bx3 c_bx4 c_bx5 c_bx6 l_bx c_bl0 c_bl1 l_bl
  have c_bx3 := B5_bx.out.cell 3
  have l_bx := B5_bx.out.lt
  have c_bl0 := B5_bl.out.cell 0
  have c_bl1 := B5_bl.out.cell 1
  have l_bl := B5_bl.out.lt
  refine wp_region_held_drew (S := fun w0 => w0.cell? ⟨w.heap.size, 3, none⟩ = some (.slice (some ⟨gk, 0, none⟩) ks.length d3) ∧ w0.cell? ⟨W4.heap.size, 0, none⟩ = some (.slice A9 lb.length c9) ∧ w0.cell? ⟨W4.heap.size, 1, none⟩ = some (.int .i64 (m : Int))) (by kernel_rfl) ?_ (fun hHeld => ?_)
  · exact ⟨c_bx3, c_bl0, c_bl1⟩
  clear c_bx3 l_bx c_bl0 c_bl1 l_bl
  generalize hd : World.drew W5 = W6 at *
  have hb : Below W5.heap.size W5 W6 := by rw [← hd]; exact (Below.refl _ _).drew
  have hb6 : Below w.heap.size w W6 := below_then HB5.out hb
  have b_bx6 := B5_bx.out.below hb B5_bx.out.lt
  have b_bz6 := B5_bz.out.below hb B5_bz.out.lt
  have b_bl6 := B5_bl.out.below hb B5_bl.out.lt
  have k_own6 := K5_own.out.keep hb
  have k_lg6 := K5_lg.out.keep hb
  have hz6 := hb.size
  have HB6 := Lib.hid hb6
  have B6_bx := Lib.hid b_bx6
  have B6_bz := Lib.hid b_bz6
  have B6_bl := Lib.hid b_bl6
  have K6_own := Lib.hid k_own6
  have K6_lg := Lib.hid k_lg6
  clear hb6 b_bx6 b_bz6 b_bl6 k_own6 k_lg6
  clear B5_bx B5_bz B5_bl HB5 K5_own K5_lg
  clear hd hb
  obtain ⟨A7, c7, ⟨r0, r1, r2, r3⟩, ⟨rf0, rf1, rf2, rf3⟩, -⟩ := K6_own.out.repAt i hi
  refine wpAnyH_take (i := 0) (v := ?_) rfl (by kernel_rfl) (by kernel_rfl) (by kernel_rfl) (fun _ _ _ h => h) (Or.inl ⟨by rfl, ?_⟩) (by assumption) ?_
  rotate_left
  · intro w0 hSw
    (try dsimp only at hSw)
    go_simp
    all_goals with_reducible rfl
  try simp only [Act.put, List.getElem_toArray, List.getElem_cons_zero, List.setIfInBounds_toArray, List.set_cons_zero, List.set_cons_succ]
  refine wpAnyH_take (i := 1) (v := ?_) rfl (by kernel_rfl) (by kernel_rfl) (by kernel_rfl) (fun _ _ _ h => h) (Or.inl ⟨by rfl, ?_⟩) (by assumption) ?_
  rotate_left
  · intro w0 hSw
    (try dsimp only at hSw)
    go_simp
    all_goals with_reducible rfl
  try simp only [Act.put, List.getElem_toArray, List.getElem_cons_zero, List.getElem_cons_succ, List.setIfInBounds_toArray, List.set_cons_zero, List.set_cons_succ]
  refine wpAnyH_take (i := 2) (v := ?_) rfl (by kernel_rfl) (by kernel_rfl) (by kernel_rfl) (fun _ _ _ h => h) (Or.inl ⟨by rfl, ?_⟩) (by assumption) ?_
  rotate_left
  · intro w0 hSw
    (try dsimp only at hSw)
    go_simp
    all_goals with_reducible rfl
  try simp only [Act.put, List.getElem_toArray, List.getElem_cons_zero, List.getElem_cons_succ, List.setIfInBounds_toArray, List.set_cons_zero, List.set_cons_succ]
  refine wpAnyH_take (i := 3) (v := ?_) rfl (by kernel_rfl) (by kernel_rfl) (by kernel_rfl) (fun _ _ _ h => h) (Or.inl ⟨by rfl, ?_⟩) (by assumption) ?_
  rotate_left
  · intro w0 hSw
    (try dsimp only at hSw)
    go_simp
    all_goals with_reducible rfl
  try simp only [Act.put, List.getElem_toArray, List.getElem_cons_zero, List.getElem_cons_succ, List.setIfInBounds_toArray, List.set_cons_zero, List.set_cons_succ]
  refine wpAnyH_take (i := 4) (v := ?_) rfl (by kernel_rfl) (by kernel_rfl) (by kernel_rfl) (fun _ _ _ h => h) (Or.inl ⟨by rfl, ?_⟩) (by assumption) ?_
  rotate_left
  · intro w0 hSw
    (try dsimp only at hSw)
    go_simp
    all_goals with_reducible rfl
  try simp only [Act.put, List.getElem_toArray, List.getElem_cons_zero, List.getElem_cons_succ, List.setIfInBounds_toArray, List.set_cons_zero, List.set_cons_succ]
  refine wpAnyH_take (i := 5) (v := ?_) rfl (by kernel_rfl) (by kernel_rfl) (by kernel_rfl) (fun _ _ _ h => h) (Or.inl ⟨by rfl, ?_⟩) (by assumption) ?_
  rotate_left
  · intro w0 hSw
    (try dsimp only at hSw)
    go_simp
    all_goals with_reducible rfl
  try simp only [Act.put, List.getElem_toArray, List.getElem_cons_zero, List.getElem_cons_succ, List.setIfInBounds_toArray, List.set_cons_zero, List.set_cons_succ]
  refine wpAnyH_take (i := 6) (v := ?_) rfl (by kernel_rfl) (by kernel_rfl) (by kernel_rfl) (fun _ _ _ h => h) (Or.inl ⟨by rfl, ?_⟩) (by assumption) ?_
  rotate_left
  · intro w0 hSw
    (try dsimp only at hSw)
    go_simp
    all_goals with_reducible rfl
  try simp only [Act.put, List.getElem_toArray, List.getElem_cons_zero, List.getElem_cons_succ, List.setIfInBounds_toArray, List.set_cons_zero, List.set_cons_succ]
  refine wpAnyH_take (i := 7) (v := ?_) rfl (by kernel_rfl) (by kernel_rfl) (by kernel_rfl) (fun _ _ _ h => h) (Or.inl ⟨by rfl, ?_⟩) (by assumption) ?_
  rotate_left
  · intro w0 hSw
    (try dsimp only at hSw)
    go_simp
    all_goals with_reducible rfl
  try simp only [Act.put, List.getElem_toArray, List.getElem_cons_zero, List.getElem_cons_succ, List.setIfInBounds_toArray, List.set_cons_zero, List.set_cons_succ]
  refine wpAnyH_ready (rs := [8]) (by kernel_rfl) (by simp) (AllReadyH.cons rfl (fun K hK => ?_) AllReadyH.nil)
  go_simp
  refine hK.out _ _ ?_ (fun hHeld => ?_)
  · exact ⟨(((B6_bx.out).far (p := ⟨gr, i * 4 + 1, none⟩) (by show w.heap.size ≠ gr; omega) _).far (p := ⟨gr, i * 4 + 2, none⟩) (by show w.heap.size ≠ gr; omega) _).cell 3, (((B6_bl.out).far (p := ⟨gr, i * 4 + 1, none⟩) (by show W4.heap.size ≠ gr; omega) _).far (p := ⟨gr, i * 4 + 2, none⟩) (by show W4.heap.size ≠ gr; omega) _).cell 0, (((B6_bl.out).far (p := ⟨gr, i * 4 + 1, none⟩) (by show W4.heap.size ≠ gr; omega) _).far (p := ⟨gr, i * 4 + 2, none⟩) (by show W4.heap.size ≠ gr; omega) _).cell 1⟩
  clear hK K
  clear r0 r1 r2 r3 rf0 rf1 rf2 rf3
  have kw := K6_own.out.setLog i hi (m : Int) (own_base K6_lg.out.own (by omega))
  have kr := PO.repAt (c := ⟨ep, ld, is, ks, rs.set i ⟨rs[i].up, lb, (m : Int), rs[i].high⟩, fw, ba⟩) (gr := gr) (cr := d5) (by simpa only [List.length_set] using kw) i (by simpa using hi)
  obtain ⟨A8, c8, ⟨r0, -, -, -⟩, ⟨rf0, -, -, -⟩, -⟩ := kr
  clear kw
  refine wpAnyH_take (i := 9) (v := ?_) rfl (by kernel_rfl) (by kernel_rfl) (by kernel_rfl) (fun _ _ _ h => h) (Or.inl ⟨by rfl, ?_⟩) (by assumption) ?_
  rotate_left
  · intro w0 hSw
    (try dsimp only at hSw)
    go_simp
    all_goals with_reducible rfl
  try simp only [Act.put, List.getElem_toArray, List.getElem_cons_zero, List.getElem_cons_succ, List.setIfInBounds_toArray, List.set_cons_zero, List.set_cons_succ]
  refine wpAnyH_take (i := 10) (v := ?_) rfl (by kernel_rfl) (by kernel_rfl) (by kernel_rfl) (fun _ _ _ h => h) (Or.inl ⟨by rfl, ?_⟩) (by assumption) ?_
  rotate_left
  · intro w0 hSw
    (try dsimp only at hSw)
    go_simp
    all_goals with_reducible rfl
  try simp only [Act.put, List.getElem_toArray, List.getElem_cons_zero, List.getElem_cons_succ, List.setIfInBounds_toArray, List.set_cons_zero, List.set_cons_succ]
  refine wpAnyH_ready (rs := [11]) (by kernel_rfl) (by simp) (AllReadyH.cons rfl (fun K hK => ?_) AllReadyH.nil)
  go_simp
  refine hK.out _ _ ?_ (fun hHeld => ?_)
  · exact ⟨((((B6_bx.out).far (p := ⟨gr, i * 4 + 1, none⟩) (by show w.heap.size ≠ gr; omega) _).far (p := ⟨gr, i * 4 + 2, none⟩) (by show w.heap.size ≠ gr; omega) _).far (p := ⟨gr, i * 4, none⟩) (by show w.heap.size ≠ gr; omega) _).cell 3, ((((B6_bl.out).far (p := ⟨gr, i * 4 + 1, none⟩) (by show W4.heap.size ≠ gr; omega) _).far (p := ⟨gr, i * 4 + 2, none⟩) (by show W4.heap.size ≠ gr; omega) _).far (p := ⟨gr, i * 4, none⟩) (by show W4.heap.size ≠ gr; omega) _).cell 0, ((((B6_bl.out).far (p := ⟨gr, i * 4 + 1, none⟩) (by show W4.heap.size ≠ gr; omega) _).far (p := ⟨gr, i * 4 + 2, none⟩) (by show W4.heap.size ≠ gr; omega) _).far (p := ⟨gr, i * 4, none⟩) (by show W4.heap.size ≠ gr; omega) _).cell 1⟩
  clear hK K
  clear r0 rf0
  have kw := K6_own.out.crash i hi (m : Int) (own_base K6_lg.out.own (by omega))
  obtain ⟨t1, tf1⟩ := kw.knownAt i j3
  clear kw
  (try simp only at t1)
  refine wpAnyH_take (i := 12) (v := ?_) rfl (by kernel_rfl) (by kernel_rfl) (by kernel_rfl) (fun _ _ _ h => h) (Or.inl ⟨by rfl, ?_⟩) (by assumption) ?_
  rotate_left
  · intro w0 hSw
    (try dsimp only at hSw)
    go_simp
    all_goals with_reducible rfl
  try simp only [Act.put, List.getElem_toArray, List.getElem_cons_zero, List.getElem_cons_succ, List.setIfInBounds_toArray, List.set_cons_zero, List.set_cons_succ]
  refine wpAnyH_ready (rs := [13]) (by kernel_rfl) (by simp) (AllReadyH.cons rfl (fun K hK => ?_) AllReadyH.nil)
  go_simp
  refine hK.out _ _ ?_ (fun hHeld => ?_)
  · exact ⟨(((((B6_bx.out).far (p := ⟨gr, i * 4 + 1, none⟩) (by show w.heap.size ≠ gr; omega) _).far (p := ⟨gr, i * 4 + 2, none⟩) (by show w.heap.size ≠ gr; omega) _).far (p := ⟨gr, i * 4, none⟩) (by show w.heap.size ≠ gr; omega) _).far (p := ⟨gk, i, none⟩) (by show w.heap.size ≠ gk; omega) _).cell 3, (((((B6_bl.out).far (p := ⟨gr, i * 4 + 1, none⟩) (by show W4.heap.size ≠ gr; omega) _).far (p := ⟨gr, i * 4 + 2, none⟩) (by show W4.heap.size ≠ gr; omega) _).far (p := ⟨gr, i * 4, none⟩) (by show W4.heap.size ≠ gr; omega) _).far (p := ⟨gk, i, none⟩) (by show W4.heap.size ≠ gk; omega) _).cell 0, (((((B6_bl.out).far (p := ⟨gr, i * 4 + 1, none⟩) (by show W4.heap.size ≠ gr; omega) _).far (p := ⟨gr, i * 4 + 2, none⟩) (by show W4.heap.size ≠ gr; omega) _).far (p := ⟨gr, i * 4, none⟩) (by show W4.heap.size ≠ gr; omega) _).far (p := ⟨gk, i, none⟩) (by show W4.heap.size ≠ gk; omega) _).cell 1⟩
  clear hK K
  refine wpAnyH_done (by kernel_rfl) ?_ _
  clear t1 tf1
  go_upto_region 11 with fail
  have hsz7 := HB6.out.size
  have hb7 : Below w.heap.size w ((((W6.setCell ⟨gr, i * 4 + 1, none⟩ (.slice A9 lb.length c9)).setCell ⟨gr, i * 4 + 2, none⟩ (.int .i64 (m : Int))).setCell ⟨gr, i * 4, none⟩ (.bool false)).setCell ⟨gk, i, none⟩ (.int .i64 0)) := ((((HB6.out).setCell (by show w.heap.size ≤ gr; omega) _).setCell (by show w.heap.size ≤ gr; omega) _).setCell (by show w.heap.size ≤ gr; omega) _).setCell (by show w.heap.size ≤ gk; omega) _
  have b_bx7 : Blk ((((W6.setCell ⟨gr, i * 4 + 1, none⟩ (.slice A9 lb.length c9)).setCell ⟨gr, i * 4 + 2, none⟩ (.int .i64 (m : Int))).setCell ⟨gr, i * 4, none⟩ (.bool false)).setCell ⟨gk, i, none⟩ (.int .i64 0)) (w.heap.size) 26 #[.int .i64 ep, .int .i64 ld, .slice (some ⟨gi, 0, none⟩) is.length d1, .slice (some ⟨gk, 0, none⟩) ks.length d3, .slice (some ⟨gr, 0, none⟩) rs.length d5, .int .i64 fw, .int .i64 ba] := ((((B6_bx.out).far (p := ⟨gr, i * 4 + 1, none⟩) (by show w.heap.size ≠ gr; omega) _).far (p := ⟨gr, i * 4 + 2, none⟩) (by show w.heap.size ≠ gr; omega) _).far (p := ⟨gr, i * 4, none⟩) (by show w.heap.size ≠ gr; omega) _).far (p := ⟨gk, i, none⟩) (by show w.heap.size ≠ gk; omega) _
  have b_bz7 : Blk ((((W6.setCell ⟨gr, i * 4 + 1, none⟩ (.slice A9 lb.length c9)).setCell ⟨gr, i * 4 + 2, none⟩ (.int .i64 (m : Int))).setCell ⟨gr, i * 4, none⟩ (.bool false)).setCell ⟨gk, i, none⟩ (.int .i64 0)) (w.heap.size + 1) 26 #[.int .i64 0, .int .i64 0, .slice none 0 0, .slice none 0 0, .slice none 0 0, .int .i64 0, .int .i64 0] := ((((B6_bz.out).far (p := ⟨gr, i * 4 + 1, none⟩) (by show w.heap.size + 1 ≠ gr; omega) _).far (p := ⟨gr, i * 4 + 2, none⟩) (by show w.heap.size + 1 ≠ gr; omega) _).far (p := ⟨gr, i * 4, none⟩) (by show w.heap.size + 1 ≠ gr; omega) _).far (p := ⟨gk, i, none⟩) (by show w.heap.size + 1 ≠ gk; omega) _
  have b_bl7 : Blk ((((W6.setCell ⟨gr, i * 4 + 1, none⟩ (.slice A9 lb.length c9)).setCell ⟨gr, i * 4 + 2, none⟩ (.int .i64 (m : Int))).setCell ⟨gr, i * 4, none⟩ (.bool false)).setCell ⟨gk, i, none⟩ (.int .i64 0)) (W4.heap.size) 42 #[.slice A9 lb.length c9, .int .i64 (m : Int)] := ((((B6_bl.out).far (p := ⟨gr, i * 4 + 1, none⟩) (by show W4.heap.size ≠ gr; omega) _).far (p := ⟨gr, i * 4 + 2, none⟩) (by show W4.heap.size ≠ gr; omega) _).far (p := ⟨gr, i * 4, none⟩) (by show W4.heap.size ≠ gr; omega) _).far (p := ⟨gk, i, none⟩) (by show W4.heap.size ≠ gk; omega) _
  have k_own7 := ((K6_own.out.crash i hi (m : Int) (own_base K6_lg.out.own (by omega))).setKnown i 0 (Nat.lt_of_le_of_lt (Nat.zero_le _) j3))
  have hz7 : W6.heap.size + 0 ≤ ((((W6.setCell ⟨gr, i * 4 + 1, none⟩ (.slice A9 lb.length c9)).setCell ⟨gr, i * 4 + 2, none⟩ (.int .i64 (m : Int))).setCell ⟨gr, i * 4, none⟩ (.bool false)).setCell ⟨gk, i, none⟩ (.int .i64 0)).heap.size := by first | omega | (simp; done) | (simp; omega)
  generalize (((W6.setCell ⟨gr, i * 4 + 1, none⟩ (.slice A9 lb.length c9)).setCell ⟨gr, i * 4 + 2, none⟩ (.int .i64 (m : Int))).setCell ⟨gr, i * 4, none⟩ (.bool false)).setCell ⟨gk, i, none⟩ (.int .i64 0) = W7 at *
  have HB7 := Lib.hid hb7
  have B7_bx := Lib.hid b_bx7
  have B7_bz := Lib.hid b_bz7
  have B7_bl := Lib.hid b_bl7
  have K7_own := Lib.hid k_own7
  clear hb7 b_bx7 b_bz7 b_bl7 k_own7
  clear B6_bx B6_bz B6_bl HB6 K6_own
  have c_bx0 := B7_bx.out.cell 0
  have c_bx1 := B7_bx.out.cell 1
  have c_bx2 := B7_bx.out.cell 2
  have c_bx3 := B7_bx.out.cell 3
  have c_bx4 := B7_bx.out.cell 4
  have c_bx5 := B7_bx.out.cell 5
  have c_bx6 := B7_bx.out.cell 6
  have l_bx := B7_bx.out.lt
  go_wp2_with fail
  clear c_bx0 c_bx1 c_bx2 c_bx3 c_bx4 c_bx5 c_bx6 l_bx
  have hi9 : i < (rs.set i ⟨false, lb, (m : Int), rs[i].high⟩).length := by simpa using hi
  have HSZ := Lib.hid (show LogIs (rs.set i ⟨false, lb, (m : Int), rs[i].high⟩)[i].log es2 es2.length by rw [List.getElem_set_self]; exact HLG2.out)
  refine (ends_ok _ ⟨ep, ld, is, ks.set i 0, rs.set i ⟨false, lb, (m : Int), rs[i].high⟩, fw, ba⟩ i _ (K7_own.out.pv (PSm.crashed HSM.out i ld ⟨false, lb, (m : Int), rs[i].high⟩ HLC.out)) hi9 HSZ.out).mono ?_
  rintro e W8 ⟨rfl, hb⟩
  have hb8 : Below w.heap.size w W8 := below_then HB7.out hb
  have b_bx8 := B7_bx.out.below hb B7_bx.out.lt
  have b_bz8 := B7_bz.out.below hb B7_bz.out.lt
  have b_bl8 := B7_bl.out.below hb B7_bl.out.lt
  have k_own8 := K7_own.out.keep hb
  have hz8 := hb.size
  have HB8 := Lib.hid hb8
  have B8_bx := Lib.hid b_bx8
  have B8_bz := Lib.hid b_bz8
  have B8_bl := Lib.hid b_bl8
  have K8_own := Lib.hid k_own8
  clear hb8 b_bx8 b_bz8 b_bl8 k_own8
  clear B7_bx B7_bz B7_bl HB7 K7_own
  obtain ⟨A7, c7, ⟨r0, r1, r2, r3⟩, ⟨rf0, rf1, rf2, rf3⟩, -⟩ := PO.repAt (c := ⟨ep, ld, is, ks.set i 0, rs.set i ⟨false, lb, (m : Int), rs[i].high⟩, fw, ba⟩) (gr := gr) (cr := d5) (by simpa only [List.length_set] using K8_own.out) i hi9
  (try simp only [List.getElem_set_self] at r3)
  go_upto_region 13 with fail
  clear r0 r1 r2 r3 rf0 rf1 rf2 rf3
  have hsz9 := HB8.out.size
  have hb9 : Below w.heap.size w (W8.setCell ⟨gr, i * 4 + 3, none⟩ (.int .i64 (min rs[i].high (es2.length : Int)))) := (HB8.out).setCell (by show w.heap.size ≤ gr; omega) _
  have b_bx9 : Blk (W8.setCell ⟨gr, i * 4 + 3, none⟩ (.int .i64 (min rs[i].high (es2.length : Int)))) (w.heap.size) 26 #[.int .i64 ep, .int .i64 ld, .slice (some ⟨gi, 0, none⟩) is.length d1, .slice (some ⟨gk, 0, none⟩) ks.length d3, .slice (some ⟨gr, 0, none⟩) rs.length d5, .int .i64 fw, .int .i64 ba] := (B8_bx.out).far (p := ⟨gr, i * 4 + 3, none⟩) (by show w.heap.size ≠ gr; omega) _
  have b_bz9 : Blk (W8.setCell ⟨gr, i * 4 + 3, none⟩ (.int .i64 (min rs[i].high (es2.length : Int)))) (w.heap.size + 1) 26 #[.int .i64 0, .int .i64 0, .slice none 0 0, .slice none 0 0, .slice none 0 0, .int .i64 0, .int .i64 0] := (B8_bz.out).far (p := ⟨gr, i * 4 + 3, none⟩) (by show w.heap.size + 1 ≠ gr; omega) _
  have b_bl9 : Blk (W8.setCell ⟨gr, i * 4 + 3, none⟩ (.int .i64 (min rs[i].high (es2.length : Int)))) (W4.heap.size) 42 #[.slice A9 lb.length c9, .int .i64 (m : Int)] := (B8_bl.out).far (p := ⟨gr, i * 4 + 3, none⟩) (by show W4.heap.size ≠ gr; omega) _
  have k_own9 := (PO.setHigh K8_own.out hi (min rs[i].high (es2.length : Int)))
  have hz9 : W8.heap.size + 0 ≤ (W8.setCell ⟨gr, i * 4 + 3, none⟩ (.int .i64 (min rs[i].high (es2.length : Int)))).heap.size := by first | omega | (simp; done) | (simp; omega)
  generalize W8.setCell ⟨gr, i * 4 + 3, none⟩ (.int .i64 (min rs[i].high (es2.length : Int))) = W9 at *
  have HB9 := Lib.hid hb9
  have B9_bx := Lib.hid b_bx9
  have B9_bz := Lib.hid b_bz9
  have B9_bl := Lib.hid b_bl9
  have K9_own := Lib.hid k_own9
  clear hb9 b_bx9 b_bz9 b_bl9 k_own9
  clear B8_bx B8_bz B8_bl HB8 K8_own
  have c_bx0 := B9_bx.out.cell 0
  have f_bx0 := B9_bx.out.frozen 0
  have c_bx1 := B9_bx.out.cell 1
  have f_bx1 := B9_bx.out.frozen 1
  have c_bx2 := B9_bx.out.cell 2
  have f_bx2 := B9_bx.out.frozen 2
  have c_bx3 := B9_bx.out.cell 3
  have f_bx3 := B9_bx.out.frozen 3
  have c_bx4 := B9_bx.out.cell 4
  have f_bx4 := B9_bx.out.frozen 4
  have c_bx5 := B9_bx.out.cell 5
  have f_bx5 := B9_bx.out.frozen 5
  have c_bx6 := B9_bx.out.cell 6
  have f_bx6 := B9_bx.out.frozen 6
  have l_bx := B9_bx.out.lt
  have c_bz0 := B9_bz.out.cell 0
  have f_bz0 := B9_bz.out.frozen 0
  have c_bz1 := B9_bz.out.cell 1
  have f_bz1 := B9_bz.out.frozen 1
  have c_bz2 := B9_bz.out.cell 2
  have f_bz2 := B9_bz.out.frozen 2
  have c_bz3 := B9_bz.out.cell 3
  have f_bz3 := B9_bz.out.frozen 3
  have c_bz4 := B9_bz.out.cell 4
  have f_bz4 := B9_bz.out.frozen 4
  have c_bz5 := B9_bz.out.cell 5
  have f_bz5 := B9_bz.out.frozen 5
  have c_bz6 := B9_bz.out.cell 6
  have f_bz6 := B9_bz.out.frozen 6
  have l_bz := B9_bz.out.lt
  go_wp2_with fail
  clear c_bx0 f_bx0 c_bx1 f_bx1 c_bx2 f_bx2 c_bx3 f_bx3 c_bx4 f_bx4 c_bx5 f_bx5 c_bx6 f_bx6 l_bx c_bz0 f_bz0 c_bz1 f_bz1 c_bz2 f_bz2 c_bz3 f_bz3 c_bz4 f_bz4 c_bz5 f_bz5 c_bz6 f_bz6 l_bz
  have hszF := HB9.out.size
  have hbF : Below w.heap.size w ((((((((W9.setCell ⟨w.heap.size, 1, none⟩ (.int .i64 (-1))).setCell ⟨w.heap.size + 1, 0, none⟩ (.int .i64 ep)).setCell ⟨w.heap.size + 1, 1, none⟩ (.int .i64 (-1))).setCell ⟨w.heap.size + 1, 2, none⟩ (.slice (some ⟨gi, 0, none⟩) is.length d1)).setCell ⟨w.heap.size + 1, 3, none⟩ (.slice (some ⟨gk, 0, none⟩) ks.length d3)).setCell ⟨w.heap.size + 1, 4, none⟩ (.slice (some ⟨gr, 0, none⟩) rs.length d5)).setCell ⟨w.heap.size + 1, 5, none⟩ (.int .i64 fw)).setCell ⟨w.heap.size + 1, 6, none⟩ (.int .i64 ba)) := ((((((((HB9.out).setCell (by show w.heap.size ≤ w.heap.size; omega) _).setCell (by show w.heap.size ≤ w.heap.size + 1; omega) _).setCell (by show w.heap.size ≤ w.heap.size + 1; omega) _).setCell (by show w.heap.size ≤ w.heap.size + 1; omega) _).setCell (by show w.heap.size ≤ w.heap.size + 1; omega) _).setCell (by show w.heap.size ≤ w.heap.size + 1; omega) _).setCell (by show w.heap.size ≤ w.heap.size + 1; omega) _).setCell (by show w.heap.size ≤ w.heap.size + 1; omega) _
  have b_bxF : Blk ((((((((W9.setCell ⟨w.heap.size, 1, none⟩ (.int .i64 (-1))).setCell ⟨w.heap.size + 1, 0, none⟩ (.int .i64 ep)).setCell ⟨w.heap.size + 1, 1, none⟩ (.int .i64 (-1))).setCell ⟨w.heap.size + 1, 2, none⟩ (.slice (some ⟨gi, 0, none⟩) is.length d1)).setCell ⟨w.heap.size + 1, 3, none⟩ (.slice (some ⟨gk, 0, none⟩) ks.length d3)).setCell ⟨w.heap.size + 1, 4, none⟩ (.slice (some ⟨gr, 0, none⟩) rs.length d5)).setCell ⟨w.heap.size + 1, 5, none⟩ (.int .i64 fw)).setCell ⟨w.heap.size + 1, 6, none⟩ (.int .i64 ba)) (w.heap.size) 26 #[.int .i64 ep, .int .i64 (-1), .slice (some ⟨gi, 0, none⟩) is.length d1, .slice (some ⟨gk, 0, none⟩) ks.length d3, .slice (some ⟨gr, 0, none⟩) rs.length d5, .int .i64 fw, .int .i64 ba] := ((((((((B9_bx.out).set_ 1 _).far (p := ⟨w.heap.size + 1, 0, none⟩) (by show w.heap.size ≠ w.heap.size + 1; omega) _).far (p := ⟨w.heap.size + 1, 1, none⟩) (by show w.heap.size ≠ w.heap.size + 1; omega) _).far (p := ⟨w.heap.size + 1, 2, none⟩) (by show w.heap.size ≠ w.heap.size + 1; omega) _).far (p := ⟨w.heap.size + 1, 3, none⟩) (by show w.heap.size ≠ w.heap.size + 1; omega) _).far (p := ⟨w.heap.size + 1, 4, none⟩) (by show w.heap.size ≠ w.heap.size + 1; omega) _).far (p := ⟨w.heap.size + 1, 5, none⟩) (by show w.heap.size ≠ w.heap.size + 1; omega) _).far (p := ⟨w.heap.size + 1, 6, none⟩) (by show w.heap.size ≠ w.heap.size + 1; omega) _
  have b_bzF : Blk ((((((((W9.setCell ⟨w.heap.size, 1, none⟩ (.int .i64 (-1))).setCell ⟨w.heap.size + 1, 0, none⟩ (.int .i64 ep)).setCell ⟨w.heap.size + 1, 1, none⟩ (.int .i64 (-1))).setCell ⟨w.heap.size + 1, 2, none⟩ (.slice (some ⟨gi, 0, none⟩) is.length d1)).setCell ⟨w.heap.size + 1, 3, none⟩ (.slice (some ⟨gk, 0, none⟩) ks.length d3)).setCell ⟨w.heap.size + 1, 4, none⟩ (.slice (some ⟨gr, 0, none⟩) rs.length d5)).setCell ⟨w.heap.size + 1, 5, none⟩ (.int .i64 fw)).setCell ⟨w.heap.size + 1, 6, none⟩ (.int .i64 ba)) (w.heap.size + 1) 26 #[.int .i64 ep, .int .i64 (-1), .slice (some ⟨gi, 0, none⟩) is.length d1, .slice (some ⟨gk, 0, none⟩) ks.length d3, .slice (some ⟨gr, 0, none⟩) rs.length d5, .int .i64 fw, .int .i64 ba] := ((((((((B9_bz.out).far (p := ⟨w.heap.size, 1, none⟩) (by show w.heap.size + 1 ≠ w.heap.size; omega) _).set_ 0 _).set_ 1 _).set_ 2 _).set_ 3 _).set_ 4 _).set_ 5 _).set_ 6 _
  have b_blF : Blk ((((((((W9.setCell ⟨w.heap.size, 1, none⟩ (.int .i64 (-1))).setCell ⟨w.heap.size + 1, 0, none⟩ (.int .i64 ep)).setCell ⟨w.heap.size + 1, 1, none⟩ (.int .i64 (-1))).setCell ⟨w.heap.size + 1, 2, none⟩ (.slice (some ⟨gi, 0, none⟩) is.length d1)).setCell ⟨w.heap.size + 1, 3, none⟩ (.slice (some ⟨gk, 0, none⟩) ks.length d3)).setCell ⟨w.heap.size + 1, 4, none⟩ (.slice (some ⟨gr, 0, none⟩) rs.length d5)).setCell ⟨w.heap.size + 1, 5, none⟩ (.int .i64 fw)).setCell ⟨w.heap.size + 1, 6, none⟩ (.int .i64 ba)) (W4.heap.size) 42 #[.slice A9 lb.length c9, .int .i64 (m : Int)] := ((((((((B9_bl.out).far (p := ⟨w.heap.size, 1, none⟩) (by show W4.heap.size ≠ w.heap.size; omega) _).far (p := ⟨w.heap.size + 1, 0, none⟩) (by show W4.heap.size ≠ w.heap.size + 1; omega) _).far (p := ⟨w.heap.size + 1, 1, none⟩) (by show W4.heap.size ≠ w.heap.size + 1; omega) _).far (p := ⟨w.heap.size + 1, 2, none⟩) (by show W4.heap.size ≠ w.heap.size + 1; omega) _).far (p := ⟨w.heap.size + 1, 3, none⟩) (by show W4.heap.size ≠ w.heap.size + 1; omega) _).far (p := ⟨w.heap.size + 1, 4, none⟩) (by show W4.heap.size ≠ w.heap.size + 1; omega) _).far (p := ⟨w.heap.size + 1, 5, none⟩) (by show W4.heap.size ≠ w.heap.size + 1; omega) _).far (p := ⟨w.heap.size + 1, 6, none⟩) (by show W4.heap.size ≠ w.heap.size + 1; omega) _
  have k_ownF := ((((((((K9_own.out).under (a := ⟨w.heap.size, 1, none⟩) (by (try dsimp only); omega) (.int .i64 (-1))).under (a := ⟨w.heap.size + 1, 0, none⟩) (by (try dsimp only); omega) (.int .i64 ep)).under (a := ⟨w.heap.size + 1, 1, none⟩) (by (try dsimp only); omega) (.int .i64 (-1))).under (a := ⟨w.heap.size + 1, 2, none⟩) (by (try dsimp only); omega) (.slice (some ⟨gi, 0, none⟩) is.length d1)).under (a := ⟨w.heap.size + 1, 3, none⟩) (by (try dsimp only); omega) (.slice (some ⟨gk, 0, none⟩) ks.length d3)).under (a := ⟨w.heap.size + 1, 4, none⟩) (by (try dsimp only); omega) (.slice (some ⟨gr, 0, none⟩) rs.length d5)).under (a := ⟨w.heap.size + 1, 5, none⟩) (by (try dsimp only); omega) (.int .i64 fw)).under (a := ⟨w.heap.size + 1, 6, none⟩) (by (try dsimp only); omega) (.int .i64 ba)
  have y0 := b_bzF.cell 0
  have y1 := b_bzF.cell 1
  have y2 := b_bzF.cell 2
  have y3 := b_bzF.cell 3
  have y4 := b_bzF.cell 4
  have y5 := b_bzF.cell 5
  have y6 := b_bzF.cell 6
  exact bodyPost_ret (v := .tuple #[.agg #[.int .i64 ep, .int .i64 (-1), .slice (some ⟨gi, 0, none⟩) is.length d1, .slice (some ⟨gk, 0, none⟩) ks.length d3, .slice (some ⟨gr, 0, none⟩) rs.length d5, .int .i64 fw, .int .i64 ba], .int .i64 0]) (by simp [results, Try.results54, go_sem, y0, y1, y2, y3, y4, y5, y6]) rfl (⟨_, _, _, rfl, (PO.lead k_ownF (-1)).more (by omega), hbF⟩)
end Go.Proofs.Ytpjjfnpdopdnkaa
