/- Parts of a proof, merged: PmPutA. No condition. -/
import Derived.Test.YtpjjfnpdopdnkaaPq11
namespace Go.Proofs.Ytpjjfnpdopdnkaa
open Go.RowKit
attribute [local go_sem ↓] Go.wp_at_zero Go.wp_at_succ

set_option maxRecDepth 100000 in
set_option maxHeartbeats 4000000 in
theorem put_full (v : Value) (c : PartD) (x : Ent) (hn : PartOk c) (l : Nat) (hl : c.leader = l) (hll : l < c.reps.length) {es : List Ent} {j : Nat} (hlog : LogIs c.reps[l].log es j) {n cd : Int} (hvc : ∀ (v : Value) (w : World), Es w v es → Calls Try.prog 96 #[v, .agg #[.int .i64 c.epoch, .int .i64 x.pid, .int .i64 x.ver, .int .i64 x.seq, .int .i64 x.kind, .bool x.txn, .string x.text]] w fun e w' => e = .returned (.tuple #[.int .i64 n, .int .i64 cd]) ∧ Below w.heap.size w w') (hfc : entryFault c.epoch x.pid x.ver x.seq x.kind x.txn x.text.size = 0) (hcd : cd = 0) (hn0 : ¬ 0 ≤ n) (hfw : ¬ (upCnt c.isr c.reps c.reps.length : Int) < c.few) (hfl : es.length = 400 ∨ 40000 < c.reps[l].bytes.length + (⟨c.epoch, x.pid, x.ver, x.seq, x.kind, x.txn, x.text⟩ : Ent).enc.length) (w : World) (h : Pv w v c) : Calls Try.prog 67 #[v, .agg #[.int .i64 x.ep, .int .i64 x.pid, .int .i64 x.ver, .int .i64 x.seq, .int .i64 x.kind, .bool x.txn, .string x.text]] w (PRes3 zeroP 0 16 w) := by
  obtain ⟨xi, xk, xr, rfl, ix, kx, rx, hli, hlk, hlr⟩ := id h
  obtain ⟨A5, c5, rfl, hc5, hx5⟩ := rx.at_
  obtain ⟨A1, c1, rfl, hc1, hx1⟩ := ix.at_
  obtain ⟨A3, c3, rfl, hc3, -⟩ := kx.at_
  have H := Lib.hid h
  clear h ix kx rx
  unfold partV at *
  obtain ⟨ep, ld, is, ks, rs, fw, ba⟩ := c
  simp only at *
  obtain ⟨xe, pid, ver, seq, kind, txn, text⟩ := x
  simp only at *
  obtain rfl : ld = (l : Int) := hl
  have eqi := hn.isr
  have E1 := Lib.hid eqi
  have rl5 : rs.length ≤ 5 := hn.many.2
  have rl0 : 0 < rs.length := Nat.lt_of_le_of_lt (Nat.zero_le _) hll
  have HN := Lib.hid hn
  have HSM := Lib.hid hn.small
  have HLG := Lib.hid hlog
  have hel : es.length ≤ 400 := hlog.many
  have y0 : decide ((l : Int) < 0) = false := decide_eq_false (by omega)
  have l0 : (0 : Int) ≤ (l : Int) := by omega
  have l1 : (l : Int) < (rs.length : Int) := Int.ofNat_lt.2 hll
  clear hn hlog eqi
  have HFC := Lib.hid hfc
  have HVC := Lib.hid hvc
  clear hfc hvc
  have y2 : (cd != 0) = false := by simpa using hcd
  have y3 : decide (0 ≤ n) = false := decide_eq_false hn0
  clear hcd hn0
  have y4 : decide ((upCnt is rs rs.length : Int) < fw) = false := decide_eq_false hfw
  have HOKX := Lib.hid (show Ent.ok ⟨ep, pid, ver, seq, kind, txn, text⟩ from HFC.out)
  clear hfw
  have HFL := Lib.hid hfl
  clear hfl
  go_enter Try.func67, Try.ntmps67
  go_wp2_with fail
  have hb1 : Below w.heap.size w (((w.alloc (.cells #[.int .i64 ep, .int .i64 l, .slice A1 is.length c1, .slice A3 ks.length c3, .slice A5 rs.length c5, .int .i64 fw, .int .i64 ba] 26)).alloc (.cells #[.int .i64 xe, .int .i64 pid, .int .i64 ver, .int .i64 seq, .int .i64 kind, .bool txn, .string text] 55)).alloc (.cells #[.int .i64 0, .int .i64 0, .slice none 0 0, .slice none 0 0, .slice none 0 0, .int .i64 0, .int .i64 0] 26)) := (((Below.refl _ _).alloc (by first | omega | (simp; done) | (simp; omega)) _).alloc (by first | omega | (simp; done) | (simp; omega)) _).alloc (by first | omega | (simp; done) | (simp; omega)) _
  have hal1 : Below w.heap.size w (((w.alloc (.cells #[.int .i64 ep, .int .i64 l, .slice A1 is.length c1, .slice A3 ks.length c3, .slice A5 rs.length c5, .int .i64 fw, .int .i64 ba] 26)).alloc (.cells #[.int .i64 xe, .int .i64 pid, .int .i64 ver, .int .i64 seq, .int .i64 kind, .bool txn, .string text] 55)).alloc (.cells #[.int .i64 0, .int .i64 0, .slice none 0 0, .slice none 0 0, .slice none 0 0, .int .i64 0, .int .i64 0] 26)) := (((Below.refl _ _).alloc (by first | omega | (simp; done) | (simp; omega)) _).alloc (by first | omega | (simp; done) | (simp; omega)) _).alloc (by first | omega | (simp; done) | (simp; omega)) _
  have b_bx1 : Blk (((w.alloc (.cells #[.int .i64 ep, .int .i64 l, .slice A1 is.length c1, .slice A3 ks.length c3, .slice A5 rs.length c5, .int .i64 fw, .int .i64 ba] 26)).alloc (.cells #[.int .i64 xe, .int .i64 pid, .int .i64 ver, .int .i64 seq, .int .i64 kind, .bool txn, .string text] 55)).alloc (.cells #[.int .i64 0, .int .i64 0, .slice none 0 0, .slice none 0 0, .slice none 0 0, .int .i64 0, .int .i64 0] 26)) (w.heap.size) 26 #[.int .i64 ep, .int .i64 l, .slice A1 is.length c1, .slice A3 ks.length c3, .slice A5 rs.length c5, .int .i64 fw, .int .i64 ba] := ((Blk.new_ _ 26 #[.int .i64 ep, .int .i64 l, .slice A1 is.length c1, .slice A3 ks.length c3, .slice A5 rs.length c5, .int .i64 fw, .int .i64 ba] (by first | rfl | (simp; done) | (simp; omega))).alloc _).alloc _
  have b_be1 : Blk (((w.alloc (.cells #[.int .i64 ep, .int .i64 l, .slice A1 is.length c1, .slice A3 ks.length c3, .slice A5 rs.length c5, .int .i64 fw, .int .i64 ba] 26)).alloc (.cells #[.int .i64 xe, .int .i64 pid, .int .i64 ver, .int .i64 seq, .int .i64 kind, .bool txn, .string text] 55)).alloc (.cells #[.int .i64 0, .int .i64 0, .slice none 0 0, .slice none 0 0, .slice none 0 0, .int .i64 0, .int .i64 0] 26)) (w.heap.size + 1) 55 #[.int .i64 xe, .int .i64 pid, .int .i64 ver, .int .i64 seq, .int .i64 kind, .bool txn, .string text] := (Blk.new_ _ 55 #[.int .i64 xe, .int .i64 pid, .int .i64 ver, .int .i64 seq, .int .i64 kind, .bool txn, .string text] (by first | rfl | (simp; done) | (simp; omega))).alloc _
  have b_bz1 : Blk (((w.alloc (.cells #[.int .i64 ep, .int .i64 l, .slice A1 is.length c1, .slice A3 ks.length c3, .slice A5 rs.length c5, .int .i64 fw, .int .i64 ba] 26)).alloc (.cells #[.int .i64 xe, .int .i64 pid, .int .i64 ver, .int .i64 seq, .int .i64 kind, .bool txn, .string text] 55)).alloc (.cells #[.int .i64 0, .int .i64 0, .slice none 0 0, .slice none 0 0, .slice none 0 0, .int .i64 0, .int .i64 0] 26)) (w.heap.size + 1 + 1) 26 #[.int .i64 0, .int .i64 0, .slice none 0 0, .slice none 0 0, .slice none 0 0, .int .i64 0, .int .i64 0] := Blk.new_ _ 26 #[.int .i64 0, .int .i64 0, .slice none 0 0, .slice none 0 0, .slice none 0 0, .int .i64 0, .int .i64 0] (by first | rfl | (simp; done) | (simp; omega))
  have k_v1 := H.out.below hal1
  have hz1 : w.heap.size + 3 ≤ (((w.alloc (.cells #[.int .i64 ep, .int .i64 l, .slice A1 is.length c1, .slice A3 ks.length c3, .slice A5 rs.length c5, .int .i64 fw, .int .i64 ba] 26)).alloc (.cells #[.int .i64 xe, .int .i64 pid, .int .i64 ver, .int .i64 seq, .int .i64 kind, .bool txn, .string text] 55)).alloc (.cells #[.int .i64 0, .int .i64 0, .slice none 0 0, .slice none 0 0, .slice none 0 0, .int .i64 0, .int .i64 0] 26)).heap.size := by first | omega | (simp; done) | (simp; omega)
  generalize ((w.alloc (.cells #[.int .i64 ep, .int .i64 l, .slice A1 is.length c1, .slice A3 ks.length c3, .slice A5 rs.length c5, .int .i64 fw, .int .i64 ba] 26)).alloc (.cells #[.int .i64 xe, .int .i64 pid, .int .i64 ver, .int .i64 seq, .int .i64 kind, .bool txn, .string text] 55)).alloc (.cells #[.int .i64 0, .int .i64 0, .slice none 0 0, .slice none 0 0, .slice none 0 0, .int .i64 0, .int .i64 0] 26) = W1 at *
  have HB1 := Lib.hid hb1
  have B1_bx := Lib.hid b_bx1
  have B1_be := Lib.hid b_be1
  have B1_bz := Lib.hid b_bz1
  have K1_v := Lib.hid k_v1
  clear hb1 b_bx1 b_be1 b_bz1 k_v1
  clear H
  refine (partCheck_any _ ⟨ep, (l : Int), is, ks, rs, fw, ba⟩ _ K1_v.out).mono ?_
  rintro e W2 hA
  obtain ⟨rfl, hb⟩ := hA.yes HN.out
  have hb2 : Below w.heap.size w W2 := below_then HB1.out hb
  have b_bx2 := B1_bx.out.below hb B1_bx.out.lt
  have b_be2 := B1_be.out.below hb B1_be.out.lt
  have b_bz2 := B1_bz.out.below hb B1_bz.out.lt
  have k_v2 := K1_v.out.below hb
  have hz2 := hb.size
  have HB2 := Lib.hid hb2
  have B2_bx := Lib.hid b_bx2
  have B2_be := Lib.hid b_be2
  have B2_bz := Lib.hid b_bz2
  have K2_v := Lib.hid k_v2
  clear hb2 b_bx2 b_be2 b_bz2 k_v2
  clear B1_bx B1_be B1_bz HB1 K1_v
  have c_bx0 := B2_bx.out.cell 0
  have c_bx1 := B2_bx.out.cell 1
  have c_bx2 := B2_bx.out.cell 2
  have c_bx3 := B2_bx.out.cell 3
  have c_bx4 := B2_bx.out.cell 4
  have c_bx5 := B2_bx.out.cell 5
  have c_bx6 := B2_bx.out.cell 6
  have l_bx := B2_bx.out.lt
  go_wp2_with fail
  clear c_bx0 c_bx1 c_bx2 c_bx3 c_bx4 c_bx5 c_bx6 l_bx
  refine (partCopy_ok (c := ⟨ep, (l : Int), is, ks, rs, fw, ba⟩) K2_v.out HSM.out).mono ?_
  rintro e W3 ⟨iv, kv, rv, rfl, ho, hb⟩
  obtain ⟨gi, d1, gk, d3, gr, d5, rfl, rfl, rfl, hgi, hgk, hgr, hgi', hgk', hgr'⟩ := ho.rows (by have := HN.out.isr; have := HN.out.many; simp only at *; omega) (by have := HN.out.known; have := HN.out.many; simp only at *; omega) (by have := HN.out.many; simp only at *; omega)
  unfold partV
  simp only at *
  have HO := Lib.hid ho
  clear ho
  have hb3 : Below w.heap.size w W3 := below_then HB2.out hb
  have b_bx3 := B2_bx.out.below hb B2_bx.out.lt
  have b_be3 := B2_be.out.below hb B2_be.out.lt
  have b_bz3 := B2_bz.out.below hb B2_bz.out.lt
  have k_v3 := K2_v.out.below hb
  have hz3 := hb.size
  have HB3 := Lib.hid hb3
  have B3_bx := Lib.hid b_bx3
  have B3_be := Lib.hid b_be3
  have B3_bz := Lib.hid b_bz3
  have K3_v := Lib.hid k_v3
  clear hb3 b_bx3 b_be3 b_bz3 k_v3
  clear B2_bx B2_be B2_bz HB2 K2_v
  have c_bx0 := B3_bx.out.cell 0
  have f_bx0 := B3_bx.out.frozen 0
  have c_bx1 := B3_bx.out.cell 1
  have f_bx1 := B3_bx.out.frozen 1
  have c_bx2 := B3_bx.out.cell 2
  have f_bx2 := B3_bx.out.frozen 2
  have c_bx3 := B3_bx.out.cell 3
  have f_bx3 := B3_bx.out.frozen 3
  have c_bx4 := B3_bx.out.cell 4
  have f_bx4 := B3_bx.out.frozen 4
  have c_bx5 := B3_bx.out.cell 5
  have f_bx5 := B3_bx.out.frozen 5
  have c_bx6 := B3_bx.out.cell 6
  have f_bx6 := B3_bx.out.frozen 6
  have l_bx := B3_bx.out.lt
  go_upto_region 7 with fail
  clear c_bx0 f_bx0 c_bx1 f_bx1 c_bx2 f_bx2 c_bx3 f_bx3 c_bx4 f_bx4 c_bx5 f_bx5 c_bx6 f_bx6 l_bx
  have hsz4 := HB3.out.size
  have hb4 : Below w.heap.size w (((((((W3.setCell ⟨w.heap.size, 0, none⟩ (.int .i64 ep)).setCell ⟨w.heap.size, 1, none⟩ (.int .i64 l)).setCell ⟨w.heap.size, 2, none⟩ (.slice (some ⟨gi, 0, none⟩) is.length d1)).setCell ⟨w.heap.size, 3, none⟩ (.slice (some ⟨gk, 0, none⟩) ks.length d3)).setCell ⟨w.heap.size, 4, none⟩ (.slice (some ⟨gr, 0, none⟩) rs.length d5)).setCell ⟨w.heap.size, 5, none⟩ (.int .i64 fw)).setCell ⟨w.heap.size, 6, none⟩ (.int .i64 ba)) := (((((((HB3.out).setCell (by show w.heap.size ≤ w.heap.size; omega) _).setCell (by show w.heap.size ≤ w.heap.size; omega) _).setCell (by show w.heap.size ≤ w.heap.size; omega) _).setCell (by show w.heap.size ≤ w.heap.size; omega) _).setCell (by show w.heap.size ≤ w.heap.size; omega) _).setCell (by show w.heap.size ≤ w.heap.size; omega) _).setCell (by show w.heap.size ≤ w.heap.size; omega) _
  have b_bx4 : Blk (((((((W3.setCell ⟨w.heap.size, 0, none⟩ (.int .i64 ep)).setCell ⟨w.heap.size, 1, none⟩ (.int .i64 l)).setCell ⟨w.heap.size, 2, none⟩ (.slice (some ⟨gi, 0, none⟩) is.length d1)).setCell ⟨w.heap.size, 3, none⟩ (.slice (some ⟨gk, 0, none⟩) ks.length d3)).setCell ⟨w.heap.size, 4, none⟩ (.slice (some ⟨gr, 0, none⟩) rs.length d5)).setCell ⟨w.heap.size, 5, none⟩ (.int .i64 fw)).setCell ⟨w.heap.size, 6, none⟩ (.int .i64 ba)) (w.heap.size) 26 #[.int .i64 ep, .int .i64 l, .slice (some ⟨gi, 0, none⟩) is.length d1, .slice (some ⟨gk, 0, none⟩) ks.length d3, .slice (some ⟨gr, 0, none⟩) rs.length d5, .int .i64 fw, .int .i64 ba] := (((((((B3_bx.out).set_ 0 _).set_ 1 _).set_ 2 _).set_ 3 _).set_ 4 _).set_ 5 _).set_ 6 _
  have b_be4 : Blk (((((((W3.setCell ⟨w.heap.size, 0, none⟩ (.int .i64 ep)).setCell ⟨w.heap.size, 1, none⟩ (.int .i64 l)).setCell ⟨w.heap.size, 2, none⟩ (.slice (some ⟨gi, 0, none⟩) is.length d1)).setCell ⟨w.heap.size, 3, none⟩ (.slice (some ⟨gk, 0, none⟩) ks.length d3)).setCell ⟨w.heap.size, 4, none⟩ (.slice (some ⟨gr, 0, none⟩) rs.length d5)).setCell ⟨w.heap.size, 5, none⟩ (.int .i64 fw)).setCell ⟨w.heap.size, 6, none⟩ (.int .i64 ba)) (w.heap.size + 1) 55 #[.int .i64 xe, .int .i64 pid, .int .i64 ver, .int .i64 seq, .int .i64 kind, .bool txn, .string text] := (((((((B3_be.out).far (p := ⟨w.heap.size, 0, none⟩) (by show w.heap.size + 1 ≠ w.heap.size; omega) _).far (p := ⟨w.heap.size, 1, none⟩) (by show w.heap.size + 1 ≠ w.heap.size; omega) _).far (p := ⟨w.heap.size, 2, none⟩) (by show w.heap.size + 1 ≠ w.heap.size; omega) _).far (p := ⟨w.heap.size, 3, none⟩) (by show w.heap.size + 1 ≠ w.heap.size; omega) _).far (p := ⟨w.heap.size, 4, none⟩) (by show w.heap.size + 1 ≠ w.heap.size; omega) _).far (p := ⟨w.heap.size, 5, none⟩) (by show w.heap.size + 1 ≠ w.heap.size; omega) _).far (p := ⟨w.heap.size, 6, none⟩) (by show w.heap.size + 1 ≠ w.heap.size; omega) _
  have b_bz4 : Blk (((((((W3.setCell ⟨w.heap.size, 0, none⟩ (.int .i64 ep)).setCell ⟨w.heap.size, 1, none⟩ (.int .i64 l)).setCell ⟨w.heap.size, 2, none⟩ (.slice (some ⟨gi, 0, none⟩) is.length d1)).setCell ⟨w.heap.size, 3, none⟩ (.slice (some ⟨gk, 0, none⟩) ks.length d3)).setCell ⟨w.heap.size, 4, none⟩ (.slice (some ⟨gr, 0, none⟩) rs.length d5)).setCell ⟨w.heap.size, 5, none⟩ (.int .i64 fw)).setCell ⟨w.heap.size, 6, none⟩ (.int .i64 ba)) (w.heap.size + 1 + 1) 26 #[.int .i64 0, .int .i64 0, .slice none 0 0, .slice none 0 0, .slice none 0 0, .int .i64 0, .int .i64 0] := (((((((B3_bz.out).far (p := ⟨w.heap.size, 0, none⟩) (by show w.heap.size + 1 + 1 ≠ w.heap.size; omega) _).far (p := ⟨w.heap.size, 1, none⟩) (by show w.heap.size + 1 + 1 ≠ w.heap.size; omega) _).far (p := ⟨w.heap.size, 2, none⟩) (by show w.heap.size + 1 + 1 ≠ w.heap.size; omega) _).far (p := ⟨w.heap.size, 3, none⟩) (by show w.heap.size + 1 + 1 ≠ w.heap.size; omega) _).far (p := ⟨w.heap.size, 4, none⟩) (by show w.heap.size + 1 + 1 ≠ w.heap.size; omega) _).far (p := ⟨w.heap.size, 5, none⟩) (by show w.heap.size + 1 + 1 ≠ w.heap.size; omega) _).far (p := ⟨w.heap.size, 6, none⟩) (by show w.heap.size + 1 + 1 ≠ w.heap.size; omega) _
  have k_own4 := (((((((HO.out).under (a := ⟨w.heap.size, 0, none⟩) (by (try dsimp only); omega) (.int .i64 ep)).under (a := ⟨w.heap.size, 1, none⟩) (by (try dsimp only); omega) (.int .i64 l)).under (a := ⟨w.heap.size, 2, none⟩) (by (try dsimp only); omega) (.slice (some ⟨gi, 0, none⟩) is.length d1)).under (a := ⟨w.heap.size, 3, none⟩) (by (try dsimp only); omega) (.slice (some ⟨gk, 0, none⟩) ks.length d3)).under (a := ⟨w.heap.size, 4, none⟩) (by (try dsimp only); omega) (.slice (some ⟨gr, 0, none⟩) rs.length d5)).under (a := ⟨w.heap.size, 5, none⟩) (by (try dsimp only); omega) (.int .i64 fw)).under (a := ⟨w.heap.size, 6, none⟩) (by (try dsimp only); omega) (.int .i64 ba)
  have hz4 : W3.heap.size + 0 ≤ (((((((W3.setCell ⟨w.heap.size, 0, none⟩ (.int .i64 ep)).setCell ⟨w.heap.size, 1, none⟩ (.int .i64 l)).setCell ⟨w.heap.size, 2, none⟩ (.slice (some ⟨gi, 0, none⟩) is.length d1)).setCell ⟨w.heap.size, 3, none⟩ (.slice (some ⟨gk, 0, none⟩) ks.length d3)).setCell ⟨w.heap.size, 4, none⟩ (.slice (some ⟨gr, 0, none⟩) rs.length d5)).setCell ⟨w.heap.size, 5, none⟩ (.int .i64 fw)).setCell ⟨w.heap.size, 6, none⟩ (.int .i64 ba)).heap.size := by first | omega | (simp; done) | (simp; omega)
  generalize ((((((W3.setCell ⟨w.heap.size, 0, none⟩ (.int .i64 ep)).setCell ⟨w.heap.size, 1, none⟩ (.int .i64 l)).setCell ⟨w.heap.size, 2, none⟩ (.slice (some ⟨gi, 0, none⟩) is.length d1)).setCell ⟨w.heap.size, 3, none⟩ (.slice (some ⟨gk, 0, none⟩) ks.length d3)).setCell ⟨w.heap.size, 4, none⟩ (.slice (some ⟨gr, 0, none⟩) rs.length d5)).setCell ⟨w.heap.size, 5, none⟩ (.int .i64 fw)).setCell ⟨w.heap.size, 6, none⟩ (.int .i64 ba) = W4 at *
  have HB4 := Lib.hid hb4
  have B4_bx := Lib.hid b_bx4
  have B4_be := Lib.hid b_be4
  have B4_bz := Lib.hid b_bz4
  have K4_own := Lib.hid k_own4
  clear hb4 b_bx4 b_be4 b_bz4 k_own4
  clear B3_bx B3_be B3_bz HB3 HO
  have c_bx0 := B4_bx.out.cell 0
  have c_bx1 := B4_bx.out.cell 1
  have c_bx2 := B4_bx.out.cell 2
  have c_bx3 := B4_bx.out.cell 3
  have c_bx4 := B4_bx.out.cell 4
  have c_bx5 := B4_bx.out.cell 5
  have c_bx6 := B4_bx.out.cell 6
  have l_bx := B4_bx.out.lt
  obtain ⟨A7, c7, ⟨r0, r1, r2, r3⟩, -, rby⟩ := K4_own.out.repAt l hll
  (try simp only at r0 r1 r2 r3 rby)
  have RBY := Lib.hid rby
  clear rby
  go_wp2_with fail
  clear c_bx0 c_bx1 c_bx2 c_bx3 c_bx4 c_bx5 c_bx6 l_bx r0 r1 r2 r3
  refine (segEntries_ok _ rs[l].bytes rs[l].synced _ RBY.out HLG.out).mono ?_
  rintro e W5 ⟨v5, rfl, hp5, hb⟩
  obtain ⟨A9, c9, rfl, hc9⟩ := (Sl.of_own hp5).form
  have HEN := Lib.hid (EnO.mk hp5)
  clear hp5 RBY
  have hb5 : Below w.heap.size w W5 := below_then HB4.out hb
  have b_bx5 := B4_bx.out.below hb B4_bx.out.lt
  have b_be5 := B4_be.out.below hb B4_be.out.lt
  have b_bz5 := B4_bz.out.below hb B4_bz.out.lt
  have k_own5 := K4_own.out.keep hb
  have hz5 := hb.size
  have HB5 := Lib.hid hb5
  have B5_bx := Lib.hid b_bx5
  have B5_be := Lib.hid b_be5
  have B5_bz := Lib.hid b_bz5
  have K5_own := Lib.hid k_own5
  clear hb5 b_bx5 b_be5 b_bz5 k_own5
  clear B4_bx B4_be B4_bz HB4 K4_own
  have c_bx0 := B5_bx.out.cell 0
  have c_bx1 := B5_bx.out.cell 1
  have c_bx2 := B5_bx.out.cell 2
  have c_bx3 := B5_bx.out.cell 3
  have c_bx4 := B5_bx.out.cell 4
  have c_bx5 := B5_bx.out.cell 5
  have c_bx6 := B5_bx.out.cell 6
  have l_bx := B5_bx.out.lt
  have c_be0 := B5_be.out.cell 0
  have f_be0 := B5_be.out.frozen 0
  have l_be := B5_be.out.lt
  go_upto_region 10 with fail
  clear c_bx0 c_bx1 c_bx2 c_bx3 c_bx4 c_bx5 c_bx6 l_bx c_be0 f_be0 l_be
  have hsz6 := HB5.out.size
  have hb6 : Below w.heap.size w (W5.setCell ⟨w.heap.size + 1, 0, none⟩ (.int .i64 ep)) := (HB5.out).setCell (by show w.heap.size ≤ w.heap.size + 1; omega) _
  have b_bx6 : Blk (W5.setCell ⟨w.heap.size + 1, 0, none⟩ (.int .i64 ep)) (w.heap.size) 26 #[.int .i64 ep, .int .i64 l, .slice (some ⟨gi, 0, none⟩) is.length d1, .slice (some ⟨gk, 0, none⟩) ks.length d3, .slice (some ⟨gr, 0, none⟩) rs.length d5, .int .i64 fw, .int .i64 ba] := (B5_bx.out).far (p := ⟨w.heap.size + 1, 0, none⟩) (by show w.heap.size ≠ w.heap.size + 1; omega) _
  have b_be6 : Blk (W5.setCell ⟨w.heap.size + 1, 0, none⟩ (.int .i64 ep)) (w.heap.size + 1) 55 #[.int .i64 ep, .int .i64 pid, .int .i64 ver, .int .i64 seq, .int .i64 kind, .bool txn, .string text] := (B5_be.out).set_ 0 _
  have b_bz6 : Blk (W5.setCell ⟨w.heap.size + 1, 0, none⟩ (.int .i64 ep)) (w.heap.size + 1 + 1) 26 #[.int .i64 0, .int .i64 0, .slice none 0 0, .slice none 0 0, .slice none 0 0, .int .i64 0, .int .i64 0] := (B5_bz.out).far (p := ⟨w.heap.size + 1, 0, none⟩) (by show w.heap.size + 1 + 1 ≠ w.heap.size + 1; omega) _
  have k_own6 := (K5_own.out).under (a := ⟨w.heap.size + 1, 0, none⟩) (by (try dsimp only); omega) (.int .i64 ep)
  have k_en6 := (HEN.out).under (a := ⟨w.heap.size + 1, 0, none⟩) (by (try dsimp only); omega) (.int .i64 ep)
  have hz6 : W5.heap.size + 0 ≤ (W5.setCell ⟨w.heap.size + 1, 0, none⟩ (.int .i64 ep)).heap.size := by first | omega | (simp; done) | (simp; omega)
  generalize W5.setCell ⟨w.heap.size + 1, 0, none⟩ (.int .i64 ep) = W6 at *
  have HB6 := Lib.hid hb6
  have B6_bx := Lib.hid b_bx6
  have B6_be := Lib.hid b_be6
  have B6_bz := Lib.hid b_bz6
  have K6_own := Lib.hid k_own6
  have K6_en := Lib.hid k_en6
  clear hb6 b_bx6 b_be6 b_bz6 k_own6 k_en6
  clear B5_bx B5_be B5_bz HB5 K5_own HEN
  have c_be0 := B6_be.out.cell 0
  have c_be1 := B6_be.out.cell 1
  have c_be2 := B6_be.out.cell 2
  have c_be3 := B6_be.out.cell 3
  have c_be4 := B6_be.out.cell 4
  have c_be5 := B6_be.out.cell 5
  have c_be6 := B6_be.out.cell 6
  have l_be := B6_be.out.lt
  go_wp2_with fail
  clear c_be0 c_be1 c_be2 c_be3 c_be4 c_be5 c_be6 l_be
  refine (wireCheck_any ep pid ver seq kind txn text _).mono ?_
  rintro e W7 ⟨rfl, hb⟩
  rw [HFC.out]
  have hb7 : Below w.heap.size w W7 := below_then HB6.out hb
  have b_bx7 := B6_bx.out.below hb B6_bx.out.lt
  have b_be7 := B6_be.out.below hb B6_be.out.lt
  have b_bz7 := B6_bz.out.below hb B6_bz.out.lt
  have k_own7 := K6_own.out.keep hb
  have k_en7 := K6_en.out.keep hb
  have hz7 := hb.size
  have HB7 := Lib.hid hb7
  have B7_bx := Lib.hid b_bx7
  have B7_be := Lib.hid b_be7
  have B7_bz := Lib.hid b_bz7
  have K7_own := Lib.hid k_own7
  have K7_en := Lib.hid k_en7
  clear hb7 b_bx7 b_be7 b_bz7 k_own7 k_en7
  clear B6_bx B6_be B6_bz HB6 K6_own K6_en
  have c_be0 := B7_be.out.cell 0
  have c_be1 := B7_be.out.cell 1
  have c_be2 := B7_be.out.cell 2
  have c_be3 := B7_be.out.cell 3
  have c_be4 := B7_be.out.cell 4
  have c_be5 := B7_be.out.cell 5
  have c_be6 := B7_be.out.cell 6
  have l_be := B7_be.out.lt
  go_wp2_with fail
  clear c_be0 c_be1 c_be2 c_be3 c_be4 c_be5 c_be6 l_be
  refine (HVC.out _ _ K7_en.out.es).mono ?_
  rintro e W8 ⟨rfl, hb⟩
  have hb8 : Below w.heap.size w W8 := below_then HB7.out hb
  have b_bx8 := B7_bx.out.below hb B7_bx.out.lt
  have b_be8 := B7_be.out.below hb B7_be.out.lt
  have b_bz8 := B7_bz.out.below hb B7_bz.out.lt
  have k_own8 := K7_own.out.keep hb
  have k_en8 := K7_en.out.keep hb
  have hz8 := hb.size
  have HB8 := Lib.hid hb8
  have B8_bx := Lib.hid b_bx8
  have B8_be := Lib.hid b_be8
  have B8_bz := Lib.hid b_bz8
  have K8_own := Lib.hid k_own8
  have K8_en := Lib.hid k_en8
  clear hb8 b_bx8 b_be8 b_bz8 k_own8 k_en8
  clear B7_bx B7_be B7_bz HB7 K7_own K7_en
  have c_bx0 := B8_bx.out.cell 0
  have c_bx1 := B8_bx.out.cell 1
  have c_bx2 := B8_bx.out.cell 2
  have c_bx3 := B8_bx.out.cell 3
  have c_bx4 := B8_bx.out.cell 4
  have c_bx5 := B8_bx.out.cell 5
  have c_bx6 := B8_bx.out.cell 6
  have l_bx := B8_bx.out.lt
  go_wp2_with fail
  clear c_bx0 c_bx1 c_bx2 c_bx3 c_bx4 c_bx5 c_bx6 l_bx
  obtain ⟨BA, hBA⟩ : ∃ BA, BA = W2.heap.size := ⟨_, rfl⟩
  have ko := K8_own.out
  rw [← hBA] at ko
  have KO := Lib.hid ko
  obtain ⟨BE, VE, hVE, hBE, hBE2⟩ : ∃ (BE : Nat) (VE : Value), VE = .slice A9 es.length c9 ∧ EnO BE W8 VE es ∧ BA ≤ BE := ⟨_, _, rfl, K8_en.out, by omega⟩
  have KEN := Lib.hid hBE
  have HVE := Lib.hid hVE
  clear ko K8_own K8_en hBE hVE
  go_loopw [15, 71] (fun s y wr => ∃ k : Nat, k ≤ rs.length ∧ s = .int .i64 (upCnt is rs k : Nat) ∧ y = .int .i64 k ∧ Hid (PO BA wr ⟨ep, (l : Int), is, ks, rs, fw, ba⟩ (.slice (some ⟨gi, 0, none⟩) is.length d1) (.slice (some ⟨gk, 0, none⟩) ks.length d3) (.slice (some ⟨gr, 0, none⟩) rs.length d5)) ∧ Hid (EnO BE wr VE es) ∧ Hid (Blk wr (w.heap.size) 26 #[.int .i64 ep, .int .i64 l, .slice (some ⟨gi, 0, none⟩) is.length d1, .slice (some ⟨gk, 0, none⟩) ks.length d3, .slice (some ⟨gr, 0, none⟩) rs.length d5, .int .i64 fw, .int .i64 ba]) ∧ Hid (Blk wr (w.heap.size + 1) 55 #[.int .i64 ep, .int .i64 pid, .int .i64 ver, .int .i64 seq, .int .i64 kind, .bool txn, .string text]) ∧ Hid (Blk wr (w.heap.size + 1 + 1) 26 #[.int .i64 0, .int .i64 0, .slice none 0 0, .slice none 0 0, .slice none 0 0, .int .i64 0, .int .i64 0]) ∧ Hid (Below w.heap.size w wr) ∧ W8.heap.size ≤ wr.heap.size) (fun _ y _ => rs.length - (intOf y).toNat)
  case atStart => exact ⟨0, Nat.zero_le _, rfl, rfl, KO, KEN, B8_bx, B8_be, B8_bz, HB8, Nat.le_refl _⟩
  case round =>
    clear KO KEN B8_bx B8_be B8_bz HB8
    obtain ⟨k, hk, rfl, rfl, HKO, HKE, HBX, HBE, HBZ, HBW, hsz⟩ := hrel
    have b2 := HBX.out.cell 2
    have bl_ := HBX.out.lt
    by_cases hlt : k < rs.length
    · have hli : k < is.length := by have h9 := E1.out; (try simp only at h9); omega
      obtain ⟨A8, c8, ⟨r0, r1, r2, r3⟩, -, -⟩ := HKO.out.repAt k hlt
      obtain ⟨s0, -⟩ := HKO.out.isrAt k hli
      have hst := upCnt_step hli hlt
      have hcl := upCnt_le is rs k
      (try simp only at r0 r1 r2 r3 s0)
      have HST := Lib.hid hst
      clear hst
      have k0 : (0 : Int) ≤ (k : Int) := by omega
      have k1 : (k : Int) < (rs.length : Int) := Int.ofNat_lt.2 hlt
      have k2 : (k : Int) < (is.length : Int) := Int.ofNat_lt.2 hli
      have gil : gi < wr.heap.size := by omega
      have grl : gr < wr.heap.size := by omega
      generalize upCnt is rs k = u at *
      generalize is[k] = bi at *
      generalize rs[k] = t at *
      obtain ⟨tu, tb, ts, th⟩ := t
      simp only at *
      have hal := (Below.refl wr.heap.size wr).alloc (Nat.le_refl _) (.cells #[.bool tu, .slice A8 tb.length c8, .int .i64 ts, .int .i64 th] 71)
      have HKO2 := Lib.hid (HKO.out.keep hal)
      have HKE2 := Lib.hid (HKE.out.keep hal)
      have HBX2 := Lib.hid (HBX.out.below hal HBX.out.lt)
      have HBE2 := Lib.hid (HBE.out.below hal HBE.out.lt)
      have HBZ2 := Lib.hid (HBZ.out.below hal HBZ.out.lt)
      have HBW2 := Lib.hid (below_then HBW.out hal)
      have hsz2 := Nat.le_trans hsz hal.size
      clear hal
      rcases bi with _ | _ <;> rcases tu with _ | _
      all_goals
        have hs9 := HST.out
        simp only [Bool.false_and, Bool.true_and, Bool.false_eq_true, if_false, if_true, Nat.add_zero] at hs9
        have HS9 := Lib.hid hs9
        clear hs9 HST
        go_wp2
        go_light
        exact ⟨⟨k + 1, by omega, by first | (rw [HS9.out]; done) | (rw [HS9.out]; go_num), by go_num, HKO2, HKE2, HBX2, HBE2, HBZ2, HBW2, hsz2⟩, by simp [intOf]; omega⟩
    · obtain rfl : k = rs.length := by omega
      clear hlt b2 bl_
      have c_bx0 := HBX.out.cell 0
      have c_bx1 := HBX.out.cell 1
      have c_bx2 := HBX.out.cell 2
      have c_bx3 := HBX.out.cell 3
      have c_bx4 := HBX.out.cell 4
      have c_bx5 := HBX.out.cell 5
      have c_bx6 := HBX.out.cell 6
      have l_bx := HBX.out.lt
      go_wp2_with fail
      clear c_bx0 c_bx1 c_bx2 c_bx3 c_bx4 c_bx5 c_bx6 l_bx
      obtain ⟨A8, c8, ⟨-, r1, r2, -⟩, -, -⟩ := HKO.out.repAt l hll
      (try simp only at r1 r2)
      have c_be0 := HBE.out.cell 0
      have c_be1 := HBE.out.cell 1
      have c_be2 := HBE.out.cell 2
      have c_be3 := HBE.out.cell 3
      have c_be4 := HBE.out.cell 4
      have c_be5 := HBE.out.cell 5
      have c_be6 := HBE.out.cell 6
      have l_be := HBE.out.lt
      refine wp_region_held_drew (S := fun w0 => w0.cell? ⟨w.heap.size + 1, 0, none⟩ = some (.int .i64 ep) ∧ w0.cell? ⟨w.heap.size + 1, 1, none⟩ = some (.int .i64 pid) ∧ w0.cell? ⟨w.heap.size + 1, 2, none⟩ = some (.int .i64 ver) ∧ w0.cell? ⟨w.heap.size + 1, 3, none⟩ = some (.int .i64 seq) ∧ w0.cell? ⟨w.heap.size + 1, 4, none⟩ = some (.int .i64 kind) ∧ w0.cell? ⟨w.heap.size + 1, 5, none⟩ = some (.bool txn) ∧ w0.cell? ⟨w.heap.size + 1, 6, none⟩ = some (.string text) ∧ w0.cell? ⟨gr, l * 4 + 1, none⟩ = some (.slice A8 rs[l].bytes.length c8) ∧ w0.cell? ⟨gr, l * 4 + 2, none⟩ = some (.int .i64 rs[l].synced)) (by kernel_rfl) ?_ (fun hHeld => ?_)
      · exact ⟨c_be0, c_be1, c_be2, c_be3, c_be4, c_be5, c_be6, r1, r2⟩
      clear c_be0 c_be1 c_be2 c_be3 c_be4 c_be5 c_be6 l_be
      generalize hd : World.drew wr = W9 at *
      have hb : Below wr.heap.size wr W9 := by rw [← hd]; exact (Below.refl _ _).drew
      have hb9 : Below w.heap.size w W9 := below_then HBW.out hb
      have b_bx9 := HBX.out.below hb HBX.out.lt
      have b_be9 := HBE.out.below hb HBE.out.lt
      have b_bz9 := HBZ.out.below hb HBZ.out.lt
      have k_own9 := HKO.out.keep hb
      have k_en9 := HKE.out.keep hb
      have hz9 := hb.size
      have HB9 := Lib.hid hb9
      have B9_bx := Lib.hid b_bx9
      have B9_be := Lib.hid b_be9
      have B9_bz := Lib.hid b_bz9
      have K9_own := Lib.hid k_own9
      have K9_en := Lib.hid k_en9
      clear hb9 b_bx9 b_be9 b_bz9 k_own9 k_en9
      clear HBX HBE HBZ HBW HKO HKE
      have r1n := (hb.cell (p := ⟨gr, l * 4 + 1, none⟩) (show gr < _ by omega)).trans r1
      clear r1
      have r1 := r1n
      clear r1n
      have r2n := (hb.cell (p := ⟨gr, l * 4 + 2, none⟩) (show gr < _ by omega)).trans r2
      clear r2
      have r2 := r2n
      clear r2n
      clear hd hb
      refine wpAnyH_take (i := 0) (v := ?_) rfl (by kernel_rfl) (by kernel_rfl) (by kernel_rfl) (fun _ _ _ h => h) (Or.inl ⟨by rfl, ?_⟩) (by assumption) ?_
      rotate_left
      · intro w0 hSw
        (try dsimp only at hSw)
        go_simp
        all_goals with_reducible rfl
      try simp only [Act.put, List.getElem_toArray, List.getElem_cons_zero, List.setIfInBounds_toArray, List.set_cons_zero, List.set_cons_succ]
      refine wpAnyH_take (i := 1) (v := ?_) rfl (by kernel_rfl) (by kernel_rfl) (by kernel_rfl) (fun _ _ _ h => h) (Or.inl ⟨by rfl, ?_⟩) (by assumption) ?_
      rotate_left
      · intro w0 hSw
        (try dsimp only at hSw)
        go_simp
        all_goals with_reducible rfl
      try simp only [Act.put, List.getElem_toArray, List.getElem_cons_zero, List.getElem_cons_succ, List.setIfInBounds_toArray, List.set_cons_zero, List.set_cons_succ]
      refine wpAnyH_take (i := 2) (v := ?_) rfl (by kernel_rfl) (by kernel_rfl) (by kernel_rfl) (fun _ _ _ h => h) (Or.inl ⟨by rfl, ?_⟩) (by assumption) ?_
      rotate_left
      · intro w0 hSw
        (try dsimp only at hSw)
        go_simp
        all_goals with_reducible rfl
      try simp only [Act.put, List.getElem_toArray, List.getElem_cons_zero, List.getElem_cons_succ, List.setIfInBounds_toArray, List.set_cons_zero, List.set_cons_succ]
      refine wpAnyH_take (i := 3) (v := ?_) rfl (by kernel_rfl) (by kernel_rfl) (by kernel_rfl) (fun _ _ _ h => h) (Or.inl ⟨by rfl, ?_⟩) (by assumption) ?_
      rotate_left
      · intro w0 hSw
        (try dsimp only at hSw)
        go_simp
        all_goals with_reducible rfl
      try simp only [Act.put, List.getElem_toArray, List.getElem_cons_zero, List.getElem_cons_succ, List.setIfInBounds_toArray, List.set_cons_zero, List.set_cons_succ]
      refine wpAnyH_take (i := 4) (v := ?_) rfl (by kernel_rfl) (by kernel_rfl) (by kernel_rfl) (fun _ _ _ h => h) (Or.inl ⟨by rfl, ?_⟩) (by assumption) ?_
      rotate_left
      · intro w0 hSw
        (try dsimp only at hSw)
        go_simp
        all_goals with_reducible rfl
      try simp only [Act.put, List.getElem_toArray, List.getElem_cons_zero, List.getElem_cons_succ, List.setIfInBounds_toArray, List.set_cons_zero, List.set_cons_succ]
      refine wpAnyH_ready (rs := [5, 9]) (by kernel_rfl) (by simp) (AllReadyH.cons rfl (fun K hK => ?_) (AllReadyH.cons rfl (fun K hK => ?_) AllReadyH.nil))
      · go_simp
        go_at_call 45
        obtain ⟨A8b, c8b, ⟨-, r1b, -, -⟩, -, rby⟩ := K9_own.out.repAt l hll
        (try simp only at r1b rby)
        obtain ⟨rfl, rfl⟩ : A8b = A8 ∧ c8b = c8 := by
          rw [r1] at r1b
          simp only [Option.some.injEq, Value.slice.injEq, true_and] at r1b
          exact ⟨r1b.1.symm, r1b.2.symm⟩
        have RBY2 := Lib.hid rby
        clear r1b rby
        refine (append_full _ rs[l].bytes rs[l].synced ⟨ep, pid, ver, seq, kind, txn, text⟩ _ RBY2.out HLG.out HOKX.out HFL.out).mono ?_
        rintro e W10 ⟨v6, rfl, hp6, hb⟩
        have hp7 : World.ownsRow _ _ _ 1 v6 0 [] := hp6
        obtain ⟨A6, c6, rfl, hc6⟩ := (Sl.of_own hp7).form
        clear hp6 hp7 RBY2
        have hb10 : Below w.heap.size w W10 := below_then HB9.out hb
        have b_bx10 := B9_bx.out.below hb B9_bx.out.lt
        have b_be10 := B9_be.out.below hb B9_be.out.lt
        have b_bz10 := B9_bz.out.below hb B9_bz.out.lt
        have k_own10 := K9_own.out.keep hb
        have k_en10 := K9_en.out.keep hb
        have hz10 := hb.size
        have HB10 := Lib.hid hb10
        have B10_bx := Lib.hid b_bx10
        have B10_be := Lib.hid b_be10
        have B10_bz := Lib.hid b_bz10
        have K10_own := Lib.hid k_own10
        have K10_en := Lib.hid k_en10
        clear hb10 b_bx10 b_be10 b_bz10 k_own10 k_en10
        clear B9_bx B9_be B9_bz HB9 K9_own K9_en
        have r1n := (hb.cell (p := ⟨gr, l * 4 + 1, none⟩) (show gr < _ by omega)).trans r1
        have r2n := (hb.cell (p := ⟨gr, l * 4 + 2, none⟩) (show gr < _ by omega)).trans r2
        clear r1 r2
        have r1 := r1n
        have r2 := r2n
        clear r1n r2n
        refine hK.out _ _ ?_ (fun hHeld => ?_)
        · exact ⟨(B10_be.out).cell 0, (B10_be.out).cell 1, (B10_be.out).cell 2, (B10_be.out).cell 3, (B10_be.out).cell 4, (B10_be.out).cell 5, (B10_be.out).cell 6, r1, r2⟩
        clear hK K
        refine wpAnyH_take (i := 6) (v := ?_) rfl (by kernel_rfl) (by kernel_rfl) (by kernel_rfl) (fun _ _ _ h => h) (Or.inl ⟨by rfl, ?_⟩) (by assumption) ?_
        rotate_left
        · intro w0 hSw
          (try dsimp only at hSw)
          go_simp
          all_goals with_reducible rfl
        try simp only [Act.put, List.getElem_toArray, List.getElem_cons_zero, List.getElem_cons_succ, List.setIfInBounds_toArray, List.set_cons_zero, List.set_cons_succ]
        refine wpAnyH_take (i := 7) (v := ?_) rfl (by kernel_rfl) (by kernel_rfl) (by kernel_rfl) (fun _ _ _ h => h) (Or.inl ⟨by rfl, ?_⟩) (by assumption) ?_
        rotate_left
        · intro w0 hSw
          (try dsimp only at hSw)
          go_simp
          all_goals with_reducible rfl
        try simp only [Act.put, List.getElem_toArray, List.getElem_cons_zero, List.getElem_cons_succ, List.setIfInBounds_toArray, List.set_cons_zero, List.set_cons_succ]
        refine wpAnyH_take (i := 8) (v := ?_) rfl (by kernel_rfl) (by kernel_rfl) (by kernel_rfl) (fun _ _ _ h => h) (Or.inl ⟨by rfl, ?_⟩) (by assumption) ?_
        rotate_left
        · intro w0 hSw
          (try dsimp only at hSw)
          go_simp
          all_goals with_reducible rfl
        try simp only [Act.put, List.getElem_toArray, List.getElem_cons_zero, List.getElem_cons_succ, List.setIfInBounds_toArray, List.set_cons_zero, List.set_cons_succ]
        refine wpAnyH_ready (rs := [9]) (by kernel_rfl) (by simp) (AllReadyH.cons rfl (fun K hK => ?_) AllReadyH.nil)
        go_simp
        have hb : Below W10.heap.size W10 (W10.alloc (.cells #[.slice none 0 0, .int .i64 0] 42)) := (Below.refl _ _).alloc (Nat.le_refl _) _
        have r1n := (hb.cell (p := ⟨gr, l * 4 + 1, none⟩) (show gr < _ by omega)).trans r1
        have r2n := (hb.cell (p := ⟨gr, l * 4 + 2, none⟩) (show gr < _ by omega)).trans r2
        clear r1 r2
        have r1 := r1n
        have r2 := r2n
        clear r1n r2n
        clear hb
        refine hK.out _ _ ?_ (fun hHeld => ?_)
        · exact ⟨((B10_be.out).alloc _).cell 0, ((B10_be.out).alloc _).cell 1, ((B10_be.out).alloc _).cell 2, ((B10_be.out).alloc _).cell 3, ((B10_be.out).alloc _).cell 4, ((B10_be.out).alloc _).cell 5, ((B10_be.out).alloc _).cell 6, r1, r2⟩
        clear hK K
        try simp only [Act.put, List.getElem_toArray, List.getElem_cons_zero, List.getElem_cons_succ, List.setIfInBounds_toArray, List.set_cons_zero, List.set_cons_succ]
        have hsz11 := HB10.out.size
        have hb11 : Below w.heap.size w (W10.alloc (.cells #[.slice none 0 0, .int .i64 0] 42)) := (HB10.out).alloc (by first | omega | (simp; done) | (simp; omega)) _
        have hal11 : Below W10.heap.size W10 (W10.alloc (.cells #[.slice none 0 0, .int .i64 0] 42)) := (Below.refl _ _).alloc (by first | omega | (simp; done) | (simp; omega)) _
        have b_bx11 : Blk (W10.alloc (.cells #[.slice none 0 0, .int .i64 0] 42)) (w.heap.size) 26 #[.int .i64 ep, .int .i64 l, .slice (some ⟨gi, 0, none⟩) is.length d1, .slice (some ⟨gk, 0, none⟩) ks.length d3, .slice (some ⟨gr, 0, none⟩) rs.length d5, .int .i64 fw, .int .i64 ba] := (B10_bx.out).alloc _
        have b_be11 : Blk (W10.alloc (.cells #[.slice none 0 0, .int .i64 0] 42)) (w.heap.size + 1) 55 #[.int .i64 ep, .int .i64 pid, .int .i64 ver, .int .i64 seq, .int .i64 kind, .bool txn, .string text] := (B10_be.out).alloc _
        have b_bz11 : Blk (W10.alloc (.cells #[.slice none 0 0, .int .i64 0] 42)) (w.heap.size + 1 + 1) 26 #[.int .i64 0, .int .i64 0, .slice none 0 0, .slice none 0 0, .slice none 0 0, .int .i64 0, .int .i64 0] := (B10_bz.out).alloc _
        have b_bl11 : Blk (W10.alloc (.cells #[.slice none 0 0, .int .i64 0] 42)) (W10.heap.size) 42 #[.slice none 0 0, .int .i64 0] := Blk.new_ _ 42 #[.slice none 0 0, .int .i64 0] (by first | rfl | (simp; done) | (simp; omega))
        have k_own11 := (K10_own.out).alloc (.cells #[.slice none 0 0, .int .i64 0] 42)
        have k_en11 := (K10_en.out).alloc (.cells #[.slice none 0 0, .int .i64 0] 42)
        have hz11 : W10.heap.size + 1 ≤ (W10.alloc (.cells #[.slice none 0 0, .int .i64 0] 42)).heap.size := by first | omega | (simp; done) | (simp; omega)
        generalize W10.alloc (.cells #[.slice none 0 0, .int .i64 0] 42) = W11 at *
        have HB11 := Lib.hid hb11
        have B11_bx := Lib.hid b_bx11
        have B11_be := Lib.hid b_be11
        have B11_bz := Lib.hid b_bz11
        have B11_bl := Lib.hid b_bl11
        have K11_own := Lib.hid k_own11
        have K11_en := Lib.hid k_en11
        clear hb11 b_bx11 b_be11 b_bz11 b_bl11 k_own11 k_en11
        clear B10_bx B10_be B10_bz HB10 K10_own K10_en
        have c_bl0 := B11_bl.out.cell 0
        have f_bl0 := B11_bl.out.frozen 0
        have c_bl1 := B11_bl.out.cell 1
        have f_bl1 := B11_bl.out.frozen 1
        have l_bl := B11_bl.out.lt
        have r1m := r1
        have r2m := r2
        refine wpAnyH_ready (rs := [10]) (by kernel_rfl) (by simp) (AllReadyH.cons rfl (fun K hK => ?_) AllReadyH.nil)
        go_simp
        have hne : gr ≠ W10.heap.size := by omega
        have e1 := cell_setCell_far_ W11 gr (W10.heap.size) (l * 4 + 1) 0 1 (.slice A6 0 c6) (.int .i64 0) hne
        have e2 := cell_setCell_far_ W11 gr (W10.heap.size) (l * 4 + 2) 0 1 (.slice A6 0 c6) (.int .i64 0) hne
        have r1 := e1.trans r1m
        have r2 := e2.trans r2m
        refine hK.out _ _ ?_ (fun hHeld => ?_)
        · exact ⟨(((B11_be.out).far (p := ⟨W10.heap.size, 0, none⟩) (by show w.heap.size + 1 ≠ W10.heap.size; omega) _).far (p := ⟨W10.heap.size, 1, none⟩) (by show w.heap.size + 1 ≠ W10.heap.size; omega) _).cell 0, (((B11_be.out).far (p := ⟨W10.heap.size, 0, none⟩) (by show w.heap.size + 1 ≠ W10.heap.size; omega) _).far (p := ⟨W10.heap.size, 1, none⟩) (by show w.heap.size + 1 ≠ W10.heap.size; omega) _).cell 1, (((B11_be.out).far (p := ⟨W10.heap.size, 0, none⟩) (by show w.heap.size + 1 ≠ W10.heap.size; omega) _).far (p := ⟨W10.heap.size, 1, none⟩) (by show w.heap.size + 1 ≠ W10.heap.size; omega) _).cell 2, (((B11_be.out).far (p := ⟨W10.heap.size, 0, none⟩) (by show w.heap.size + 1 ≠ W10.heap.size; omega) _).far (p := ⟨W10.heap.size, 1, none⟩) (by show w.heap.size + 1 ≠ W10.heap.size; omega) _).cell 3, (((B11_be.out).far (p := ⟨W10.heap.size, 0, none⟩) (by show w.heap.size + 1 ≠ W10.heap.size; omega) _).far (p := ⟨W10.heap.size, 1, none⟩) (by show w.heap.size + 1 ≠ W10.heap.size; omega) _).cell 4, (((B11_be.out).far (p := ⟨W10.heap.size, 0, none⟩) (by show w.heap.size + 1 ≠ W10.heap.size; omega) _).far (p := ⟨W10.heap.size, 1, none⟩) (by show w.heap.size + 1 ≠ W10.heap.size; omega) _).cell 5, (((B11_be.out).far (p := ⟨W10.heap.size, 0, none⟩) (by show w.heap.size + 1 ≠ W10.heap.size; omega) _).far (p := ⟨W10.heap.size, 1, none⟩) (by show w.heap.size + 1 ≠ W10.heap.size; omega) _).cell 6, r1, r2⟩
        clear hK K r1 r2 e1 e2 hne r1m r2m
        clear c_bl0 f_bl0 c_bl1 f_bl1 l_bl
        refine wpAnyH_take (i := 11) (v := ?_) rfl (by kernel_rfl) (by kernel_rfl) (by kernel_rfl) (fun _ _ _ h => h) (Or.inl ⟨by rfl, ?_⟩) (by assumption) ?_
        rotate_left
        · intro w0 hSw
          (try dsimp only at hSw)
          go_simp
          all_goals with_reducible rfl
        try simp only [Act.put, List.getElem_toArray, List.getElem_cons_zero, List.getElem_cons_succ, List.setIfInBounds_toArray, List.set_cons_zero, List.set_cons_succ]
        refine wpAnyH_done (by kernel_rfl) ?_ _
        go_upto_region 28 with fail
        have hsz12 := HB11.out.size
        have hb12 : Below w.heap.size w ((W11.setCell ⟨W10.heap.size, 0, none⟩ (.slice A6 0 c6)).setCell ⟨W10.heap.size, 1, none⟩ (.int .i64 0)) := ((HB11.out).setCell (by show w.heap.size ≤ W10.heap.size; omega) _).setCell (by show w.heap.size ≤ W10.heap.size; omega) _
        have b_bx12 : Blk ((W11.setCell ⟨W10.heap.size, 0, none⟩ (.slice A6 0 c6)).setCell ⟨W10.heap.size, 1, none⟩ (.int .i64 0)) (w.heap.size) 26 #[.int .i64 ep, .int .i64 l, .slice (some ⟨gi, 0, none⟩) is.length d1, .slice (some ⟨gk, 0, none⟩) ks.length d3, .slice (some ⟨gr, 0, none⟩) rs.length d5, .int .i64 fw, .int .i64 ba] := ((B11_bx.out).far (p := ⟨W10.heap.size, 0, none⟩) (by show w.heap.size ≠ W10.heap.size; omega) _).far (p := ⟨W10.heap.size, 1, none⟩) (by show w.heap.size ≠ W10.heap.size; omega) _
        have b_be12 : Blk ((W11.setCell ⟨W10.heap.size, 0, none⟩ (.slice A6 0 c6)).setCell ⟨W10.heap.size, 1, none⟩ (.int .i64 0)) (w.heap.size + 1) 55 #[.int .i64 ep, .int .i64 pid, .int .i64 ver, .int .i64 seq, .int .i64 kind, .bool txn, .string text] := ((B11_be.out).far (p := ⟨W10.heap.size, 0, none⟩) (by show w.heap.size + 1 ≠ W10.heap.size; omega) _).far (p := ⟨W10.heap.size, 1, none⟩) (by show w.heap.size + 1 ≠ W10.heap.size; omega) _
        have b_bz12 : Blk ((W11.setCell ⟨W10.heap.size, 0, none⟩ (.slice A6 0 c6)).setCell ⟨W10.heap.size, 1, none⟩ (.int .i64 0)) (w.heap.size + 1 + 1) 26 #[.int .i64 0, .int .i64 0, .slice none 0 0, .slice none 0 0, .slice none 0 0, .int .i64 0, .int .i64 0] := ((B11_bz.out).far (p := ⟨W10.heap.size, 0, none⟩) (by show w.heap.size + 1 + 1 ≠ W10.heap.size; omega) _).far (p := ⟨W10.heap.size, 1, none⟩) (by show w.heap.size + 1 + 1 ≠ W10.heap.size; omega) _
        have b_bl12 : Blk ((W11.setCell ⟨W10.heap.size, 0, none⟩ (.slice A6 0 c6)).setCell ⟨W10.heap.size, 1, none⟩ (.int .i64 0)) (W10.heap.size) 42 #[.slice A6 0 c6, .int .i64 0] := ((B11_bl.out).set_ 0 _).set_ 1 _
        have k_own12 := ((K11_own.out.blkL B11_bl.out 0 (.slice A6 0 c6)).blkL (B11_bl.out.set_ 0 (.slice A6 0 c6)) 1 (.int .i64 0))
        have k_en12 := ((K11_en.out.blkL B11_bl.out 0 (.slice A6 0 c6)).blkL (B11_bl.out.set_ 0 (.slice A6 0 c6)) 1 (.int .i64 0))
        have hz12 : W11.heap.size + 0 ≤ ((W11.setCell ⟨W10.heap.size, 0, none⟩ (.slice A6 0 c6)).setCell ⟨W10.heap.size, 1, none⟩ (.int .i64 0)).heap.size := by first | omega | (simp; done) | (simp; omega)
        generalize (W11.setCell ⟨W10.heap.size, 0, none⟩ (.slice A6 0 c6)).setCell ⟨W10.heap.size, 1, none⟩ (.int .i64 0) = W12 at *
        have HB12 := Lib.hid hb12
        have B12_bx := Lib.hid b_bx12
        have B12_be := Lib.hid b_be12
        have B12_bz := Lib.hid b_bz12
        have B12_bl := Lib.hid b_bl12
        have K12_own := Lib.hid k_own12
        have K12_en := Lib.hid k_en12
        clear hb12 b_bx12 b_be12 b_bz12 b_bl12 k_own12 k_en12
        clear B11_bx B11_be B11_bz B11_bl HB11 K11_own K11_en
        have c_bz0 := B12_bz.out.cell 0
        have f_bz0 := B12_bz.out.frozen 0
        have c_bz1 := B12_bz.out.cell 1
        have f_bz1 := B12_bz.out.frozen 1
        have c_bz2 := B12_bz.out.cell 2
        have f_bz2 := B12_bz.out.frozen 2
        have c_bz3 := B12_bz.out.cell 3
        have f_bz3 := B12_bz.out.frozen 3
        have c_bz4 := B12_bz.out.cell 4
        have f_bz4 := B12_bz.out.frozen 4
        have c_bz5 := B12_bz.out.cell 5
        have f_bz5 := B12_bz.out.frozen 5
        have c_bz6 := B12_bz.out.cell 6
        have f_bz6 := B12_bz.out.frozen 6
        have l_bz := B12_bz.out.lt
        go_wp2_with fail
        clear c_bz0 f_bz0 c_bz1 f_bz1 c_bz2 f_bz2 c_bz3 f_bz3 c_bz4 f_bz4 c_bz5 f_bz5 c_bz6 f_bz6 l_bz
        have hszF := HB12.out.size
        have hbF : Below w.heap.size w (((((((W12.setCell ⟨w.heap.size + 1 + 1, 0, none⟩ (.int .i64 0)).setCell ⟨w.heap.size + 1 + 1, 1, none⟩ (.int .i64 0)).setCell ⟨w.heap.size + 1 + 1, 2, none⟩ (.slice none 0 0)).setCell ⟨w.heap.size + 1 + 1, 3, none⟩ (.slice none 0 0)).setCell ⟨w.heap.size + 1 + 1, 4, none⟩ (.slice none 0 0)).setCell ⟨w.heap.size + 1 + 1, 5, none⟩ (.int .i64 0)).setCell ⟨w.heap.size + 1 + 1, 6, none⟩ (.int .i64 0)) := (((((((HB12.out).setCell (by show w.heap.size ≤ w.heap.size + 1 + 1; omega) _).setCell (by show w.heap.size ≤ w.heap.size + 1 + 1; omega) _).setCell (by show w.heap.size ≤ w.heap.size + 1 + 1; omega) _).setCell (by show w.heap.size ≤ w.heap.size + 1 + 1; omega) _).setCell (by show w.heap.size ≤ w.heap.size + 1 + 1; omega) _).setCell (by show w.heap.size ≤ w.heap.size + 1 + 1; omega) _).setCell (by show w.heap.size ≤ w.heap.size + 1 + 1; omega) _
        have b_bxF : Blk (((((((W12.setCell ⟨w.heap.size + 1 + 1, 0, none⟩ (.int .i64 0)).setCell ⟨w.heap.size + 1 + 1, 1, none⟩ (.int .i64 0)).setCell ⟨w.heap.size + 1 + 1, 2, none⟩ (.slice none 0 0)).setCell ⟨w.heap.size + 1 + 1, 3, none⟩ (.slice none 0 0)).setCell ⟨w.heap.size + 1 + 1, 4, none⟩ (.slice none 0 0)).setCell ⟨w.heap.size + 1 + 1, 5, none⟩ (.int .i64 0)).setCell ⟨w.heap.size + 1 + 1, 6, none⟩ (.int .i64 0)) (w.heap.size) 26 #[.int .i64 ep, .int .i64 l, .slice (some ⟨gi, 0, none⟩) is.length d1, .slice (some ⟨gk, 0, none⟩) ks.length d3, .slice (some ⟨gr, 0, none⟩) rs.length d5, .int .i64 fw, .int .i64 ba] := (((((((B12_bx.out).far (p := ⟨w.heap.size + 1 + 1, 0, none⟩) (by show w.heap.size ≠ w.heap.size + 1 + 1; omega) _).far (p := ⟨w.heap.size + 1 + 1, 1, none⟩) (by show w.heap.size ≠ w.heap.size + 1 + 1; omega) _).far (p := ⟨w.heap.size + 1 + 1, 2, none⟩) (by show w.heap.size ≠ w.heap.size + 1 + 1; omega) _).far (p := ⟨w.heap.size + 1 + 1, 3, none⟩) (by show w.heap.size ≠ w.heap.size + 1 + 1; omega) _).far (p := ⟨w.heap.size + 1 + 1, 4, none⟩) (by show w.heap.size ≠ w.heap.size + 1 + 1; omega) _).far (p := ⟨w.heap.size + 1 + 1, 5, none⟩) (by show w.heap.size ≠ w.heap.size + 1 + 1; omega) _).far (p := ⟨w.heap.size + 1 + 1, 6, none⟩) (by show w.heap.size ≠ w.heap.size + 1 + 1; omega) _
        have b_beF : Blk (((((((W12.setCell ⟨w.heap.size + 1 + 1, 0, none⟩ (.int .i64 0)).setCell ⟨w.heap.size + 1 + 1, 1, none⟩ (.int .i64 0)).setCell ⟨w.heap.size + 1 + 1, 2, none⟩ (.slice none 0 0)).setCell ⟨w.heap.size + 1 + 1, 3, none⟩ (.slice none 0 0)).setCell ⟨w.heap.size + 1 + 1, 4, none⟩ (.slice none 0 0)).setCell ⟨w.heap.size + 1 + 1, 5, none⟩ (.int .i64 0)).setCell ⟨w.heap.size + 1 + 1, 6, none⟩ (.int .i64 0)) (w.heap.size + 1) 55 #[.int .i64 ep, .int .i64 pid, .int .i64 ver, .int .i64 seq, .int .i64 kind, .bool txn, .string text] := (((((((B12_be.out).far (p := ⟨w.heap.size + 1 + 1, 0, none⟩) (by show w.heap.size + 1 ≠ w.heap.size + 1 + 1; omega) _).far (p := ⟨w.heap.size + 1 + 1, 1, none⟩) (by show w.heap.size + 1 ≠ w.heap.size + 1 + 1; omega) _).far (p := ⟨w.heap.size + 1 + 1, 2, none⟩) (by show w.heap.size + 1 ≠ w.heap.size + 1 + 1; omega) _).far (p := ⟨w.heap.size + 1 + 1, 3, none⟩) (by show w.heap.size + 1 ≠ w.heap.size + 1 + 1; omega) _).far (p := ⟨w.heap.size + 1 + 1, 4, none⟩) (by show w.heap.size + 1 ≠ w.heap.size + 1 + 1; omega) _).far (p := ⟨w.heap.size + 1 + 1, 5, none⟩) (by show w.heap.size + 1 ≠ w.heap.size + 1 + 1; omega) _).far (p := ⟨w.heap.size + 1 + 1, 6, none⟩) (by show w.heap.size + 1 ≠ w.heap.size + 1 + 1; omega) _
        have b_bzF : Blk (((((((W12.setCell ⟨w.heap.size + 1 + 1, 0, none⟩ (.int .i64 0)).setCell ⟨w.heap.size + 1 + 1, 1, none⟩ (.int .i64 0)).setCell ⟨w.heap.size + 1 + 1, 2, none⟩ (.slice none 0 0)).setCell ⟨w.heap.size + 1 + 1, 3, none⟩ (.slice none 0 0)).setCell ⟨w.heap.size + 1 + 1, 4, none⟩ (.slice none 0 0)).setCell ⟨w.heap.size + 1 + 1, 5, none⟩ (.int .i64 0)).setCell ⟨w.heap.size + 1 + 1, 6, none⟩ (.int .i64 0)) (w.heap.size + 1 + 1) 26 #[.int .i64 0, .int .i64 0, .slice none 0 0, .slice none 0 0, .slice none 0 0, .int .i64 0, .int .i64 0] := (((((((B12_bz.out).set_ 0 _).set_ 1 _).set_ 2 _).set_ 3 _).set_ 4 _).set_ 5 _).set_ 6 _
        have b_blF : Blk (((((((W12.setCell ⟨w.heap.size + 1 + 1, 0, none⟩ (.int .i64 0)).setCell ⟨w.heap.size + 1 + 1, 1, none⟩ (.int .i64 0)).setCell ⟨w.heap.size + 1 + 1, 2, none⟩ (.slice none 0 0)).setCell ⟨w.heap.size + 1 + 1, 3, none⟩ (.slice none 0 0)).setCell ⟨w.heap.size + 1 + 1, 4, none⟩ (.slice none 0 0)).setCell ⟨w.heap.size + 1 + 1, 5, none⟩ (.int .i64 0)).setCell ⟨w.heap.size + 1 + 1, 6, none⟩ (.int .i64 0)) (W10.heap.size) 42 #[.slice A6 0 c6, .int .i64 0] := (((((((B12_bl.out).far (p := ⟨w.heap.size + 1 + 1, 0, none⟩) (by show W10.heap.size ≠ w.heap.size + 1 + 1; omega) _).far (p := ⟨w.heap.size + 1 + 1, 1, none⟩) (by show W10.heap.size ≠ w.heap.size + 1 + 1; omega) _).far (p := ⟨w.heap.size + 1 + 1, 2, none⟩) (by show W10.heap.size ≠ w.heap.size + 1 + 1; omega) _).far (p := ⟨w.heap.size + 1 + 1, 3, none⟩) (by show W10.heap.size ≠ w.heap.size + 1 + 1; omega) _).far (p := ⟨w.heap.size + 1 + 1, 4, none⟩) (by show W10.heap.size ≠ w.heap.size + 1 + 1; omega) _).far (p := ⟨w.heap.size + 1 + 1, 5, none⟩) (by show W10.heap.size ≠ w.heap.size + 1 + 1; omega) _).far (p := ⟨w.heap.size + 1 + 1, 6, none⟩) (by show W10.heap.size ≠ w.heap.size + 1 + 1; omega) _
        have y0 := b_bzF.cell 0
        have y1 := b_bzF.cell 1
        have y2 := b_bzF.cell 2
        have y3 := b_bzF.cell 3
        have y4 := b_bzF.cell 4
        have y5 := b_bzF.cell 5
        have y6 := b_bzF.cell 6
        exact bodyPost_ret (v := .tuple #[.agg #[.int .i64 0, .int .i64 0, .slice none 0 0, .slice none 0 0, .slice none 0 0, .int .i64 0, .int .i64 0], .int .i64 0, .int .i64 16]) (by simp [results, Try.results67, go_sem, y0, y1, y2, y3, y4, y5, y6]) rfl (⟨_, rfl, pv_zero _, hbF⟩)
      · go_simp
        have hb : Below W9.heap.size W9 (W9.alloc (.cells #[.slice none 0 0, .int .i64 0] 42)) := (Below.refl _ _).alloc (Nat.le_refl _) _
        have r1n := (hb.cell (p := ⟨gr, l * 4 + 1, none⟩) (show gr < _ by omega)).trans r1
        have r2n := (hb.cell (p := ⟨gr, l * 4 + 2, none⟩) (show gr < _ by omega)).trans r2
        clear r1 r2
        have r1 := r1n
        have r2 := r2n
        clear r1n r2n
        clear hb
        refine hK.out _ _ ?_ (fun hHeld => ?_)
        · exact ⟨((B9_be.out).alloc _).cell 0, ((B9_be.out).alloc _).cell 1, ((B9_be.out).alloc _).cell 2, ((B9_be.out).alloc _).cell 3, ((B9_be.out).alloc _).cell 4, ((B9_be.out).alloc _).cell 5, ((B9_be.out).alloc _).cell 6, r1, r2⟩
        clear hK K
        try simp only [Act.put, List.getElem_toArray, List.getElem_cons_zero, List.getElem_cons_succ, List.setIfInBounds_toArray, List.set_cons_zero, List.set_cons_succ]
        have hsz10 := HB9.out.size
        have hb10 : Below w.heap.size w (W9.alloc (.cells #[.slice none 0 0, .int .i64 0] 42)) := (HB9.out).alloc (by first | omega | (simp; done) | (simp; omega)) _
        have hal10 : Below W9.heap.size W9 (W9.alloc (.cells #[.slice none 0 0, .int .i64 0] 42)) := (Below.refl _ _).alloc (by first | omega | (simp; done) | (simp; omega)) _
        have b_bx10 : Blk (W9.alloc (.cells #[.slice none 0 0, .int .i64 0] 42)) (w.heap.size) 26 #[.int .i64 ep, .int .i64 l, .slice (some ⟨gi, 0, none⟩) is.length d1, .slice (some ⟨gk, 0, none⟩) ks.length d3, .slice (some ⟨gr, 0, none⟩) rs.length d5, .int .i64 fw, .int .i64 ba] := (B9_bx.out).alloc _
        have b_be10 : Blk (W9.alloc (.cells #[.slice none 0 0, .int .i64 0] 42)) (w.heap.size + 1) 55 #[.int .i64 ep, .int .i64 pid, .int .i64 ver, .int .i64 seq, .int .i64 kind, .bool txn, .string text] := (B9_be.out).alloc _
        have b_bz10 : Blk (W9.alloc (.cells #[.slice none 0 0, .int .i64 0] 42)) (w.heap.size + 1 + 1) 26 #[.int .i64 0, .int .i64 0, .slice none 0 0, .slice none 0 0, .slice none 0 0, .int .i64 0, .int .i64 0] := (B9_bz.out).alloc _
        have b_bl10 : Blk (W9.alloc (.cells #[.slice none 0 0, .int .i64 0] 42)) (W9.heap.size) 42 #[.slice none 0 0, .int .i64 0] := Blk.new_ _ 42 #[.slice none 0 0, .int .i64 0] (by first | rfl | (simp; done) | (simp; omega))
        have k_own10 := (K9_own.out).alloc (.cells #[.slice none 0 0, .int .i64 0] 42)
        have k_en10 := (K9_en.out).alloc (.cells #[.slice none 0 0, .int .i64 0] 42)
        have hz10 : W9.heap.size + 1 ≤ (W9.alloc (.cells #[.slice none 0 0, .int .i64 0] 42)).heap.size := by first | omega | (simp; done) | (simp; omega)
        generalize W9.alloc (.cells #[.slice none 0 0, .int .i64 0] 42) = W10 at *
        have HB10 := Lib.hid hb10
        have B10_bx := Lib.hid b_bx10
        have B10_be := Lib.hid b_be10
        have B10_bz := Lib.hid b_bz10
        have B10_bl := Lib.hid b_bl10
        have K10_own := Lib.hid k_own10
        have K10_en := Lib.hid k_en10
        clear hb10 b_bx10 b_be10 b_bz10 b_bl10 k_own10 k_en10
        clear B9_bx B9_be B9_bz HB9 K9_own K9_en
        refine wpAnyH_ready (rs := [5]) (by kernel_rfl) (by simp) (AllReadyH.cons rfl (fun K hK => ?_) AllReadyH.nil)
        go_simp
        go_at_call 45
        obtain ⟨A8b, c8b, ⟨-, r1b, -, -⟩, -, rby⟩ := K10_own.out.repAt l hll
        (try simp only at r1b rby)
        obtain ⟨rfl, rfl⟩ : A8b = A8 ∧ c8b = c8 := by
          rw [r1] at r1b
          simp only [Option.some.injEq, Value.slice.injEq, true_and] at r1b
          exact ⟨r1b.1.symm, r1b.2.symm⟩
        have RBY2 := Lib.hid rby
        clear r1b rby
        refine (append_full _ rs[l].bytes rs[l].synced ⟨ep, pid, ver, seq, kind, txn, text⟩ _ RBY2.out HLG.out HOKX.out HFL.out).mono ?_
        rintro e W11 ⟨v6, rfl, hp6, hb⟩
        have hp7 : World.ownsRow _ _ _ 1 v6 0 [] := hp6
        obtain ⟨A6, c6, rfl, hc6⟩ := (Sl.of_own hp7).form
        clear hp6 hp7 RBY2
        have hb11 : Below w.heap.size w W11 := below_then HB10.out hb
        have b_bx11 := B10_bx.out.below hb B10_bx.out.lt
        have b_be11 := B10_be.out.below hb B10_be.out.lt
        have b_bz11 := B10_bz.out.below hb B10_bz.out.lt
        have b_bl11 := B10_bl.out.below hb B10_bl.out.lt
        have k_own11 := K10_own.out.keep hb
        have k_en11 := K10_en.out.keep hb
        have hz11 := hb.size
        have HB11 := Lib.hid hb11
        have B11_bx := Lib.hid b_bx11
        have B11_be := Lib.hid b_be11
        have B11_bz := Lib.hid b_bz11
        have B11_bl := Lib.hid b_bl11
        have K11_own := Lib.hid k_own11
        have K11_en := Lib.hid k_en11
        clear hb11 b_bx11 b_be11 b_bz11 b_bl11 k_own11 k_en11
        clear B10_bx B10_be B10_bz B10_bl HB10 K10_own K10_en
        have r1n := (hb.cell (p := ⟨gr, l * 4 + 1, none⟩) (show gr < _ by omega)).trans r1
        have r2n := (hb.cell (p := ⟨gr, l * 4 + 2, none⟩) (show gr < _ by omega)).trans r2
        clear r1 r2
        have r1 := r1n
        have r2 := r2n
        clear r1n r2n
        refine hK.out _ _ ?_ (fun hHeld => ?_)
        · exact ⟨(B11_be.out).cell 0, (B11_be.out).cell 1, (B11_be.out).cell 2, (B11_be.out).cell 3, (B11_be.out).cell 4, (B11_be.out).cell 5, (B11_be.out).cell 6, r1, r2⟩
        clear hK K
        refine wpAnyH_take (i := 6) (v := ?_) rfl (by kernel_rfl) (by kernel_rfl) (by kernel_rfl) (fun _ _ _ h => h) (Or.inl ⟨by rfl, ?_⟩) (by assumption) ?_
        rotate_left
        · intro w0 hSw
          (try dsimp only at hSw)
          go_simp
          all_goals with_reducible rfl
        try simp only [Act.put, List.getElem_toArray, List.getElem_cons_zero, List.getElem_cons_succ, List.setIfInBounds_toArray, List.set_cons_zero, List.set_cons_succ]
        refine wpAnyH_take (i := 7) (v := ?_) rfl (by kernel_rfl) (by kernel_rfl) (by kernel_rfl) (fun _ _ _ h => h) (Or.inl ⟨by rfl, ?_⟩) (by assumption) ?_
        rotate_left
        · intro w0 hSw
          (try dsimp only at hSw)
          go_simp
          all_goals with_reducible rfl
        try simp only [Act.put, List.getElem_toArray, List.getElem_cons_zero, List.getElem_cons_succ, List.setIfInBounds_toArray, List.set_cons_zero, List.set_cons_succ]
        refine wpAnyH_take (i := 8) (v := ?_) rfl (by kernel_rfl) (by kernel_rfl) (by kernel_rfl) (fun _ _ _ h => h) (Or.inl ⟨by rfl, ?_⟩) (by assumption) ?_
        rotate_left
        · intro w0 hSw
          (try dsimp only at hSw)
          go_simp
          all_goals with_reducible rfl
        try simp only [Act.put, List.getElem_toArray, List.getElem_cons_zero, List.getElem_cons_succ, List.setIfInBounds_toArray, List.set_cons_zero, List.set_cons_succ]
        have c_bl0 := B11_bl.out.cell 0
        have f_bl0 := B11_bl.out.frozen 0
        have c_bl1 := B11_bl.out.cell 1
        have f_bl1 := B11_bl.out.frozen 1
        have l_bl := B11_bl.out.lt
        have r1m := r1
        have r2m := r2
        refine wpAnyH_ready (rs := [10]) (by kernel_rfl) (by simp) (AllReadyH.cons rfl (fun K hK => ?_) AllReadyH.nil)
        go_simp
        have hne : gr ≠ W9.heap.size := by omega
        have e1 := cell_setCell_far_ W11 gr (W9.heap.size) (l * 4 + 1) 0 1 (.slice A6 0 c6) (.int .i64 0) hne
        have e2 := cell_setCell_far_ W11 gr (W9.heap.size) (l * 4 + 2) 0 1 (.slice A6 0 c6) (.int .i64 0) hne
        have r1 := e1.trans r1m
        have r2 := e2.trans r2m
        refine hK.out _ _ ?_ (fun hHeld => ?_)
        · exact ⟨(((B11_be.out).far (p := ⟨W9.heap.size, 0, none⟩) (by show w.heap.size + 1 ≠ W9.heap.size; omega) _).far (p := ⟨W9.heap.size, 1, none⟩) (by show w.heap.size + 1 ≠ W9.heap.size; omega) _).cell 0, (((B11_be.out).far (p := ⟨W9.heap.size, 0, none⟩) (by show w.heap.size + 1 ≠ W9.heap.size; omega) _).far (p := ⟨W9.heap.size, 1, none⟩) (by show w.heap.size + 1 ≠ W9.heap.size; omega) _).cell 1, (((B11_be.out).far (p := ⟨W9.heap.size, 0, none⟩) (by show w.heap.size + 1 ≠ W9.heap.size; omega) _).far (p := ⟨W9.heap.size, 1, none⟩) (by show w.heap.size + 1 ≠ W9.heap.size; omega) _).cell 2, (((B11_be.out).far (p := ⟨W9.heap.size, 0, none⟩) (by show w.heap.size + 1 ≠ W9.heap.size; omega) _).far (p := ⟨W9.heap.size, 1, none⟩) (by show w.heap.size + 1 ≠ W9.heap.size; omega) _).cell 3, (((B11_be.out).far (p := ⟨W9.heap.size, 0, none⟩) (by show w.heap.size + 1 ≠ W9.heap.size; omega) _).far (p := ⟨W9.heap.size, 1, none⟩) (by show w.heap.size + 1 ≠ W9.heap.size; omega) _).cell 4, (((B11_be.out).far (p := ⟨W9.heap.size, 0, none⟩) (by show w.heap.size + 1 ≠ W9.heap.size; omega) _).far (p := ⟨W9.heap.size, 1, none⟩) (by show w.heap.size + 1 ≠ W9.heap.size; omega) _).cell 5, (((B11_be.out).far (p := ⟨W9.heap.size, 0, none⟩) (by show w.heap.size + 1 ≠ W9.heap.size; omega) _).far (p := ⟨W9.heap.size, 1, none⟩) (by show w.heap.size + 1 ≠ W9.heap.size; omega) _).cell 6, r1, r2⟩
        clear hK K r1 r2 e1 e2 hne r1m r2m
        clear c_bl0 f_bl0 c_bl1 f_bl1 l_bl
        refine wpAnyH_take (i := 11) (v := ?_) rfl (by kernel_rfl) (by kernel_rfl) (by kernel_rfl) (fun _ _ _ h => h) (Or.inl ⟨by rfl, ?_⟩) (by assumption) ?_
        rotate_left
        · intro w0 hSw
          (try dsimp only at hSw)
          go_simp
          all_goals with_reducible rfl
        try simp only [Act.put, List.getElem_toArray, List.getElem_cons_zero, List.getElem_cons_succ, List.setIfInBounds_toArray, List.set_cons_zero, List.set_cons_succ]
        refine wpAnyH_done (by kernel_rfl) ?_ _
        go_upto_region 28 with fail
        have hsz12 := HB11.out.size
        have hb12 : Below w.heap.size w ((W11.setCell ⟨W9.heap.size, 0, none⟩ (.slice A6 0 c6)).setCell ⟨W9.heap.size, 1, none⟩ (.int .i64 0)) := ((HB11.out).setCell (by show w.heap.size ≤ W9.heap.size; omega) _).setCell (by show w.heap.size ≤ W9.heap.size; omega) _
        have b_bx12 : Blk ((W11.setCell ⟨W9.heap.size, 0, none⟩ (.slice A6 0 c6)).setCell ⟨W9.heap.size, 1, none⟩ (.int .i64 0)) (w.heap.size) 26 #[.int .i64 ep, .int .i64 l, .slice (some ⟨gi, 0, none⟩) is.length d1, .slice (some ⟨gk, 0, none⟩) ks.length d3, .slice (some ⟨gr, 0, none⟩) rs.length d5, .int .i64 fw, .int .i64 ba] := ((B11_bx.out).far (p := ⟨W9.heap.size, 0, none⟩) (by show w.heap.size ≠ W9.heap.size; omega) _).far (p := ⟨W9.heap.size, 1, none⟩) (by show w.heap.size ≠ W9.heap.size; omega) _
        have b_be12 : Blk ((W11.setCell ⟨W9.heap.size, 0, none⟩ (.slice A6 0 c6)).setCell ⟨W9.heap.size, 1, none⟩ (.int .i64 0)) (w.heap.size + 1) 55 #[.int .i64 ep, .int .i64 pid, .int .i64 ver, .int .i64 seq, .int .i64 kind, .bool txn, .string text] := ((B11_be.out).far (p := ⟨W9.heap.size, 0, none⟩) (by show w.heap.size + 1 ≠ W9.heap.size; omega) _).far (p := ⟨W9.heap.size, 1, none⟩) (by show w.heap.size + 1 ≠ W9.heap.size; omega) _
        have b_bz12 : Blk ((W11.setCell ⟨W9.heap.size, 0, none⟩ (.slice A6 0 c6)).setCell ⟨W9.heap.size, 1, none⟩ (.int .i64 0)) (w.heap.size + 1 + 1) 26 #[.int .i64 0, .int .i64 0, .slice none 0 0, .slice none 0 0, .slice none 0 0, .int .i64 0, .int .i64 0] := ((B11_bz.out).far (p := ⟨W9.heap.size, 0, none⟩) (by show w.heap.size + 1 + 1 ≠ W9.heap.size; omega) _).far (p := ⟨W9.heap.size, 1, none⟩) (by show w.heap.size + 1 + 1 ≠ W9.heap.size; omega) _
        have b_bl12 : Blk ((W11.setCell ⟨W9.heap.size, 0, none⟩ (.slice A6 0 c6)).setCell ⟨W9.heap.size, 1, none⟩ (.int .i64 0)) (W9.heap.size) 42 #[.slice A6 0 c6, .int .i64 0] := ((B11_bl.out).set_ 0 _).set_ 1 _
        have k_own12 := ((K11_own.out.blkL B11_bl.out 0 (.slice A6 0 c6)).blkL (B11_bl.out.set_ 0 (.slice A6 0 c6)) 1 (.int .i64 0))
        have k_en12 := ((K11_en.out.blkL B11_bl.out 0 (.slice A6 0 c6)).blkL (B11_bl.out.set_ 0 (.slice A6 0 c6)) 1 (.int .i64 0))
        have hz12 : W11.heap.size + 0 ≤ ((W11.setCell ⟨W9.heap.size, 0, none⟩ (.slice A6 0 c6)).setCell ⟨W9.heap.size, 1, none⟩ (.int .i64 0)).heap.size := by first | omega | (simp; done) | (simp; omega)
        generalize (W11.setCell ⟨W9.heap.size, 0, none⟩ (.slice A6 0 c6)).setCell ⟨W9.heap.size, 1, none⟩ (.int .i64 0) = W12 at *
        have HB12 := Lib.hid hb12
        have B12_bx := Lib.hid b_bx12
        have B12_be := Lib.hid b_be12
        have B12_bz := Lib.hid b_bz12
        have B12_bl := Lib.hid b_bl12
        have K12_own := Lib.hid k_own12
        have K12_en := Lib.hid k_en12
        clear hb12 b_bx12 b_be12 b_bz12 b_bl12 k_own12 k_en12
        clear B11_bx B11_be B11_bz B11_bl HB11 K11_own K11_en
        have c_bz0 := B12_bz.out.cell 0
        have f_bz0 := B12_bz.out.frozen 0
        have c_bz1 := B12_bz.out.cell 1
        have f_bz1 := B12_bz.out.frozen 1
        have c_bz2 := B12_bz.out.cell 2
        have f_bz2 := B12_bz.out.frozen 2
        have c_bz3 := B12_bz.out.cell 3
        have f_bz3 := B12_bz.out.frozen 3
        have c_bz4 := B12_bz.out.cell 4
        have f_bz4 := B12_bz.out.frozen 4
        have c_bz5 := B12_bz.out.cell 5
        have f_bz5 := B12_bz.out.frozen 5
        have c_bz6 := B12_bz.out.cell 6
        have f_bz6 := B12_bz.out.frozen 6
        have l_bz := B12_bz.out.lt
        go_wp2_with fail
        clear c_bz0 f_bz0 c_bz1 f_bz1 c_bz2 f_bz2 c_bz3 f_bz3 c_bz4 f_bz4 c_bz5 f_bz5 c_bz6 f_bz6 l_bz
        have hszF := HB12.out.size
        have hbF : Below w.heap.size w (((((((W12.setCell ⟨w.heap.size + 1 + 1, 0, none⟩ (.int .i64 0)).setCell ⟨w.heap.size + 1 + 1, 1, none⟩ (.int .i64 0)).setCell ⟨w.heap.size + 1 + 1, 2, none⟩ (.slice none 0 0)).setCell ⟨w.heap.size + 1 + 1, 3, none⟩ (.slice none 0 0)).setCell ⟨w.heap.size + 1 + 1, 4, none⟩ (.slice none 0 0)).setCell ⟨w.heap.size + 1 + 1, 5, none⟩ (.int .i64 0)).setCell ⟨w.heap.size + 1 + 1, 6, none⟩ (.int .i64 0)) := (((((((HB12.out).setCell (by show w.heap.size ≤ w.heap.size + 1 + 1; omega) _).setCell (by show w.heap.size ≤ w.heap.size + 1 + 1; omega) _).setCell (by show w.heap.size ≤ w.heap.size + 1 + 1; omega) _).setCell (by show w.heap.size ≤ w.heap.size + 1 + 1; omega) _).setCell (by show w.heap.size ≤ w.heap.size + 1 + 1; omega) _).setCell (by show w.heap.size ≤ w.heap.size + 1 + 1; omega) _).setCell (by show w.heap.size ≤ w.heap.size + 1 + 1; omega) _
        have b_bxF : Blk (((((((W12.setCell ⟨w.heap.size + 1 + 1, 0, none⟩ (.int .i64 0)).setCell ⟨w.heap.size + 1 + 1, 1, none⟩ (.int .i64 0)).setCell ⟨w.heap.size + 1 + 1, 2, none⟩ (.slice none 0 0)).setCell ⟨w.heap.size + 1 + 1, 3, none⟩ (.slice none 0 0)).setCell ⟨w.heap.size + 1 + 1, 4, none⟩ (.slice none 0 0)).setCell ⟨w.heap.size + 1 + 1, 5, none⟩ (.int .i64 0)).setCell ⟨w.heap.size + 1 + 1, 6, none⟩ (.int .i64 0)) (w.heap.size) 26 #[.int .i64 ep, .int .i64 l, .slice (some ⟨gi, 0, none⟩) is.length d1, .slice (some ⟨gk, 0, none⟩) ks.length d3, .slice (some ⟨gr, 0, none⟩) rs.length d5, .int .i64 fw, .int .i64 ba] := (((((((B12_bx.out).far (p := ⟨w.heap.size + 1 + 1, 0, none⟩) (by show w.heap.size ≠ w.heap.size + 1 + 1; omega) _).far (p := ⟨w.heap.size + 1 + 1, 1, none⟩) (by show w.heap.size ≠ w.heap.size + 1 + 1; omega) _).far (p := ⟨w.heap.size + 1 + 1, 2, none⟩) (by show w.heap.size ≠ w.heap.size + 1 + 1; omega) _).far (p := ⟨w.heap.size + 1 + 1, 3, none⟩) (by show w.heap.size ≠ w.heap.size + 1 + 1; omega) _).far (p := ⟨w.heap.size + 1 + 1, 4, none⟩) (by show w.heap.size ≠ w.heap.size + 1 + 1; omega) _).far (p := ⟨w.heap.size + 1 + 1, 5, none⟩) (by show w.heap.size ≠ w.heap.size + 1 + 1; omega) _).far (p := ⟨w.heap.size + 1 + 1, 6, none⟩) (by show w.heap.size ≠ w.heap.size + 1 + 1; omega) _
        have b_beF : Blk (((((((W12.setCell ⟨w.heap.size + 1 + 1, 0, none⟩ (.int .i64 0)).setCell ⟨w.heap.size + 1 + 1, 1, none⟩ (.int .i64 0)).setCell ⟨w.heap.size + 1 + 1, 2, none⟩ (.slice none 0 0)).setCell ⟨w.heap.size + 1 + 1, 3, none⟩ (.slice none 0 0)).setCell ⟨w.heap.size + 1 + 1, 4, none⟩ (.slice none 0 0)).setCell ⟨w.heap.size + 1 + 1, 5, none⟩ (.int .i64 0)).setCell ⟨w.heap.size + 1 + 1, 6, none⟩ (.int .i64 0)) (w.heap.size + 1) 55 #[.int .i64 ep, .int .i64 pid, .int .i64 ver, .int .i64 seq, .int .i64 kind, .bool txn, .string text] := (((((((B12_be.out).far (p := ⟨w.heap.size + 1 + 1, 0, none⟩) (by show w.heap.size + 1 ≠ w.heap.size + 1 + 1; omega) _).far (p := ⟨w.heap.size + 1 + 1, 1, none⟩) (by show w.heap.size + 1 ≠ w.heap.size + 1 + 1; omega) _).far (p := ⟨w.heap.size + 1 + 1, 2, none⟩) (by show w.heap.size + 1 ≠ w.heap.size + 1 + 1; omega) _).far (p := ⟨w.heap.size + 1 + 1, 3, none⟩) (by show w.heap.size + 1 ≠ w.heap.size + 1 + 1; omega) _).far (p := ⟨w.heap.size + 1 + 1, 4, none⟩) (by show w.heap.size + 1 ≠ w.heap.size + 1 + 1; omega) _).far (p := ⟨w.heap.size + 1 + 1, 5, none⟩) (by show w.heap.size + 1 ≠ w.heap.size + 1 + 1; omega) _).far (p := ⟨w.heap.size + 1 + 1, 6, none⟩) (by show w.heap.size + 1 ≠ w.heap.size + 1 + 1; omega) _
        have b_bzF : Blk (((((((W12.setCell ⟨w.heap.size + 1 + 1, 0, none⟩ (.int .i64 0)).setCell ⟨w.heap.size + 1 + 1, 1, none⟩ (.int .i64 0)).setCell ⟨w.heap.size + 1 + 1, 2, none⟩ (.slice none 0 0)).setCell ⟨w.heap.size + 1 + 1, 3, none⟩ (.slice none 0 0)).setCell ⟨w.heap.size + 1 + 1, 4, none⟩ (.slice none 0 0)).setCell ⟨w.heap.size + 1 + 1, 5, none⟩ (.int .i64 0)).setCell ⟨w.heap.size + 1 + 1, 6, none⟩ (.int .i64 0)) (w.heap.size + 1 + 1) 26 #[.int .i64 0, .int .i64 0, .slice none 0 0, .slice none 0 0, .slice none 0 0, .int .i64 0, .int .i64 0] := (((((((B12_bz.out).set_ 0 _).set_ 1 _).set_ 2 _).set_ 3 _).set_ 4 _).set_ 5 _).set_ 6 _
        have b_blF : Blk (((((((W12.setCell ⟨w.heap.size + 1 + 1, 0, none⟩ (.int .i64 0)).setCell ⟨w.heap.size + 1 + 1, 1, none⟩ (.int .i64 0)).setCell ⟨w.heap.size + 1 + 1, 2, none⟩ (.slice none 0 0)).setCell ⟨w.heap.size + 1 + 1, 3, none⟩ (.slice none 0 0)).setCell ⟨w.heap.size + 1 + 1, 4, none⟩ (.slice none 0 0)).setCell ⟨w.heap.size + 1 + 1, 5, none⟩ (.int .i64 0)).setCell ⟨w.heap.size + 1 + 1, 6, none⟩ (.int .i64 0)) (W9.heap.size) 42 #[.slice A6 0 c6, .int .i64 0] := (((((((B12_bl.out).far (p := ⟨w.heap.size + 1 + 1, 0, none⟩) (by show W9.heap.size ≠ w.heap.size + 1 + 1; omega) _).far (p := ⟨w.heap.size + 1 + 1, 1, none⟩) (by show W9.heap.size ≠ w.heap.size + 1 + 1; omega) _).far (p := ⟨w.heap.size + 1 + 1, 2, none⟩) (by show W9.heap.size ≠ w.heap.size + 1 + 1; omega) _).far (p := ⟨w.heap.size + 1 + 1, 3, none⟩) (by show W9.heap.size ≠ w.heap.size + 1 + 1; omega) _).far (p := ⟨w.heap.size + 1 + 1, 4, none⟩) (by show W9.heap.size ≠ w.heap.size + 1 + 1; omega) _).far (p := ⟨w.heap.size + 1 + 1, 5, none⟩) (by show W9.heap.size ≠ w.heap.size + 1 + 1; omega) _).far (p := ⟨w.heap.size + 1 + 1, 6, none⟩) (by show W9.heap.size ≠ w.heap.size + 1 + 1; omega) _
        have y0 := b_bzF.cell 0
        have y1 := b_bzF.cell 1
        have y2 := b_bzF.cell 2
        have y3 := b_bzF.cell 3
        have y4 := b_bzF.cell 4
        have y5 := b_bzF.cell 5
        have y6 := b_bzF.cell 6
        exact bodyPost_ret (v := .tuple #[.agg #[.int .i64 0, .int .i64 0, .slice none 0 0, .slice none 0 0, .slice none 0 0, .int .i64 0, .int .i64 0], .int .i64 0, .int .i64 16]) (by simp [results, Try.results67, go_sem, y0, y1, y2, y3, y4, y5, y6]) rfl (⟨_, rfl, pv_zero _, hbF⟩)
set_option maxRecDepth 100000 in
set_option maxHeartbeats 4000000 in
theorem put_ok (v : Value) (c : PartD) (x : Ent) (hn : PartOk c) (l : Nat) (hl : c.leader = l) (hll : l < c.reps.length) {es : List Ent} {j : Nat} (hlog : LogIs c.reps[l].log es j) {n cd : Int} (hvc : ∀ (v : Value) (w : World), Es w v es → Calls Try.prog 96 #[v, .agg #[.int .i64 c.epoch, .int .i64 x.pid, .int .i64 x.ver, .int .i64 x.seq, .int .i64 x.kind, .bool x.txn, .string x.text]] w fun e w' => e = .returned (.tuple #[.int .i64 n, .int .i64 cd]) ∧ Below w.heap.size w w') (hfc : entryFault c.epoch x.pid x.ver x.seq x.kind x.txn x.text.size = 0) (hcd : cd = 0) (hn0 : ¬ 0 ≤ n) (hfw : ¬ (upCnt c.isr c.reps c.reps.length : Int) < c.few) {lb : List UInt8} (hlb : c.reps[l].bytes ++ (⟨c.epoch, x.pid, x.ver, x.seq, x.kind, x.txn, x.text⟩ : Ent).enc = lb) (hfl : ¬ (es.length = 400 ∨ 40000 < c.reps[l].bytes.length + (⟨c.epoch, x.pid, x.ver, x.seq, x.kind, x.txn, x.text⟩ : Ent).enc.length)) (w : World) (h : Pv w v c) : Calls Try.prog 67 #[v, .agg #[.int .i64 x.ep, .int .i64 x.pid, .int .i64 x.ver, .int .i64 x.seq, .int .i64 x.kind, .bool x.txn, .string x.text]] w (PRes3 ⟨c.epoch, c.leader, c.isr, c.known, c.reps.set l { c.reps[l] with bytes := lb }, c.few, c.base⟩ es.length 0 w) := by
  obtain ⟨xi, xk, xr, rfl, ix, kx, rx, hli, hlk, hlr⟩ := id h
  obtain ⟨A5, c5, rfl, hc5, hx5⟩ := rx.at_
  obtain ⟨A1, c1, rfl, hc1, hx1⟩ := ix.at_
  obtain ⟨A3, c3, rfl, hc3, -⟩ := kx.at_
  have H := Lib.hid h
  clear h ix kx rx
  unfold partV at *
  obtain ⟨ep, ld, is, ks, rs, fw, ba⟩ := c
  simp only at *
  obtain ⟨xe, pid, ver, seq, kind, txn, text⟩ := x
  simp only at *
  obtain rfl : ld = (l : Int) := hl
  have eqi := hn.isr
  have E1 := Lib.hid eqi
  have rl5 : rs.length ≤ 5 := hn.many.2
  have rl0 : 0 < rs.length := Nat.lt_of_le_of_lt (Nat.zero_le _) hll
  have HN := Lib.hid hn
  have HSM := Lib.hid hn.small
  have HLG := Lib.hid hlog
  have hel : es.length ≤ 400 := hlog.many
  have y0 : decide ((l : Int) < 0) = false := decide_eq_false (by omega)
  have l0 : (0 : Int) ≤ (l : Int) := by omega
  have l1 : (l : Int) < (rs.length : Int) := Int.ofNat_lt.2 hll
  clear hn hlog eqi
  have HFC := Lib.hid hfc
  have HVC := Lib.hid hvc
  clear hfc hvc
  have y2 : (cd != 0) = false := by simpa using hcd
  have y3 : decide (0 ≤ n) = false := decide_eq_false hn0
  clear hcd hn0
  have y4 : decide ((upCnt is rs rs.length : Int) < fw) = false := decide_eq_false hfw
  have HOKX := Lib.hid (show Ent.ok ⟨ep, pid, ver, seq, kind, txn, text⟩ from HFC.out)
  clear hfw
  have HFL := Lib.hid hfl
  have HLB := Lib.hid hlb
  have HLBL := Lib.hid (show lb.length ≤ 40000 by rw [← hlb, List.length_append]; omega)
  clear hfl hlb
  go_enter Try.func67, Try.ntmps67
  go_wp2_with fail
  have hb1 : Below w.heap.size w (((w.alloc (.cells #[.int .i64 ep, .int .i64 l, .slice A1 is.length c1, .slice A3 ks.length c3, .slice A5 rs.length c5, .int .i64 fw, .int .i64 ba] 26)).alloc (.cells #[.int .i64 xe, .int .i64 pid, .int .i64 ver, .int .i64 seq, .int .i64 kind, .bool txn, .string text] 55)).alloc (.cells #[.int .i64 0, .int .i64 0, .slice none 0 0, .slice none 0 0, .slice none 0 0, .int .i64 0, .int .i64 0] 26)) := (((Below.refl _ _).alloc (by first | omega | (simp; done) | (simp; omega)) _).alloc (by first | omega | (simp; done) | (simp; omega)) _).alloc (by first | omega | (simp; done) | (simp; omega)) _
  have hal1 : Below w.heap.size w (((w.alloc (.cells #[.int .i64 ep, .int .i64 l, .slice A1 is.length c1, .slice A3 ks.length c3, .slice A5 rs.length c5, .int .i64 fw, .int .i64 ba] 26)).alloc (.cells #[.int .i64 xe, .int .i64 pid, .int .i64 ver, .int .i64 seq, .int .i64 kind, .bool txn, .string text] 55)).alloc (.cells #[.int .i64 0, .int .i64 0, .slice none 0 0, .slice none 0 0, .slice none 0 0, .int .i64 0, .int .i64 0] 26)) := (((Below.refl _ _).alloc (by first | omega | (simp; done) | (simp; omega)) _).alloc (by first | omega | (simp; done) | (simp; omega)) _).alloc (by first | omega | (simp; done) | (simp; omega)) _
  have b_bx1 : Blk (((w.alloc (.cells #[.int .i64 ep, .int .i64 l, .slice A1 is.length c1, .slice A3 ks.length c3, .slice A5 rs.length c5, .int .i64 fw, .int .i64 ba] 26)).alloc (.cells #[.int .i64 xe, .int .i64 pid, .int .i64 ver, .int .i64 seq, .int .i64 kind, .bool txn, .string text] 55)).alloc (.cells #[.int .i64 0, .int .i64 0, .slice none 0 0, .slice none 0 0, .slice none 0 0, .int .i64 0, .int .i64 0] 26)) (w.heap.size) 26 #[.int .i64 ep, .int .i64 l, .slice A1 is.length c1, .slice A3 ks.length c3, .slice A5 rs.length c5, .int .i64 fw, .int .i64 ba] := ((Blk.new_ _ 26 #[.int .i64 ep, .int .i64 l, .slice A1 is.length c1, .slice A3 ks.length c3, .slice A5 rs.length c5, .int .i64 fw, .int .i64 ba] (by first | rfl | (simp; done) | (simp; omega))).alloc _).alloc _
  have b_be1 : Blk (((w.alloc (.cells #[.int .i64 ep, .int .i64 l, .slice A1 is.length c1, .slice A3 ks.length c3, .slice A5 rs.length c5, .int .i64 fw, .int .i64 ba] 26)).alloc (.cells #[.int .i64 xe, .int .i64 pid, .int .i64 ver, .int .i64 seq, .int .i64 kind, .bool txn, .string text] 55)).alloc (.cells #[.int .i64 0, .int .i64 0, .slice none 0 0, .slice none 0 0, .slice none 0 0, .int .i64 0, .int .i64 0] 26)) (w.heap.size + 1) 55 #[.int .i64 xe, .int .i64 pid, .int .i64 ver, .int .i64 seq, .int .i64 kind, .bool txn, .string text] := (Blk.new_ _ 55 #[.int .i64 xe, .int .i64 pid, .int .i64 ver, .int .i64 seq, .int .i64 kind, .bool txn, .string text] (by first | rfl | (simp; done) | (simp; omega))).alloc _
  have b_bz1 : Blk (((w.alloc (.cells #[.int .i64 ep, .int .i64 l, .slice A1 is.length c1, .slice A3 ks.length c3, .slice A5 rs.length c5, .int .i64 fw, .int .i64 ba] 26)).alloc (.cells #[.int .i64 xe, .int .i64 pid, .int .i64 ver, .int .i64 seq, .int .i64 kind, .bool txn, .string text] 55)).alloc (.cells #[.int .i64 0, .int .i64 0, .slice none 0 0, .slice none 0 0, .slice none 0 0, .int .i64 0, .int .i64 0] 26)) (w.heap.size + 1 + 1) 26 #[.int .i64 0, .int .i64 0, .slice none 0 0, .slice none 0 0, .slice none 0 0, .int .i64 0, .int .i64 0] := Blk.new_ _ 26 #[.int .i64 0, .int .i64 0, .slice none 0 0, .slice none 0 0, .slice none 0 0, .int .i64 0, .int .i64 0] (by first | rfl | (simp; done) | (simp; omega))
  have k_v1 := H.out.below hal1
  have hz1 : w.heap.size + 3 ≤ (((w.alloc (.cells #[.int .i64 ep, .int .i64 l, .slice A1 is.length c1, .slice A3 ks.length c3, .slice A5 rs.length c5, .int .i64 fw, .int .i64 ba] 26)).alloc (.cells #[.int .i64 xe, .int .i64 pid, .int .i64 ver, .int .i64 seq, .int .i64 kind, .bool txn, .string text] 55)).alloc (.cells #[.int .i64 0, .int .i64 0, .slice none 0 0, .slice none 0 0, .slice none 0 0, .int .i64 0, .int .i64 0] 26)).heap.size := by first | omega | (simp; done) | (simp; omega)
  generalize ((w.alloc (.cells #[.int .i64 ep, .int .i64 l, .slice A1 is.length c1, .slice A3 ks.length c3, .slice A5 rs.length c5, .int .i64 fw, .int .i64 ba] 26)).alloc (.cells #[.int .i64 xe, .int .i64 pid, .int .i64 ver, .int .i64 seq, .int .i64 kind, .bool txn, .string text] 55)).alloc (.cells #[.int .i64 0, .int .i64 0, .slice none 0 0, .slice none 0 0, .slice none 0 0, .int .i64 0, .int .i64 0] 26) = W1 at *
  have HB1 := Lib.hid hb1
  have B1_bx := Lib.hid b_bx1
  have B1_be := Lib.hid b_be1
  have B1_bz := Lib.hid b_bz1
  have K1_v := Lib.hid k_v1
  clear hb1 b_bx1 b_be1 b_bz1 k_v1
  clear H
  refine (partCheck_any _ ⟨ep, (l : Int), is, ks, rs, fw, ba⟩ _ K1_v.out).mono ?_
  rintro e W2 hA
  obtain ⟨rfl, hb⟩ := hA.yes HN.out
  have hb2 : Below w.heap.size w W2 := below_then HB1.out hb
  have b_bx2 := B1_bx.out.below hb B1_bx.out.lt
  have b_be2 := B1_be.out.below hb B1_be.out.lt
  have b_bz2 := B1_bz.out.below hb B1_bz.out.lt
  have k_v2 := K1_v.out.below hb
  have hz2 := hb.size
  have HB2 := Lib.hid hb2
  have B2_bx := Lib.hid b_bx2
  have B2_be := Lib.hid b_be2
  have B2_bz := Lib.hid b_bz2
  have K2_v := Lib.hid k_v2
  clear hb2 b_bx2 b_be2 b_bz2 k_v2
  clear B1_bx B1_be B1_bz HB1 K1_v
  have c_bx0 := B2_bx.out.cell 0
  have c_bx1 := B2_bx.out.cell 1
  have c_bx2 := B2_bx.out.cell 2
  have c_bx3 := B2_bx.out.cell 3
  have c_bx4 := B2_bx.out.cell 4
  have c_bx5 := B2_bx.out.cell 5
  have c_bx6 := B2_bx.out.cell 6
  have l_bx := B2_bx.out.lt
  go_wp2_with fail
  clear c_bx0 c_bx1 c_bx2 c_bx3 c_bx4 c_bx5 c_bx6 l_bx
  refine (partCopy_ok (c := ⟨ep, (l : Int), is, ks, rs, fw, ba⟩) K2_v.out HSM.out).mono ?_
  rintro e W3 ⟨iv, kv, rv, rfl, ho, hb⟩
  obtain ⟨gi, d1, gk, d3, gr, d5, rfl, rfl, rfl, hgi, hgk, hgr, hgi', hgk', hgr'⟩ := ho.rows (by have := HN.out.isr; have := HN.out.many; simp only at *; omega) (by have := HN.out.known; have := HN.out.many; simp only at *; omega) (by have := HN.out.many; simp only at *; omega)
  unfold partV
  simp only at *
  have HO := Lib.hid ho
  clear ho
  have hb3 : Below w.heap.size w W3 := below_then HB2.out hb
  have b_bx3 := B2_bx.out.below hb B2_bx.out.lt
  have b_be3 := B2_be.out.below hb B2_be.out.lt
  have b_bz3 := B2_bz.out.below hb B2_bz.out.lt
  have k_v3 := K2_v.out.below hb
  have hz3 := hb.size
  have HB3 := Lib.hid hb3
  have B3_bx := Lib.hid b_bx3
  have B3_be := Lib.hid b_be3
  have B3_bz := Lib.hid b_bz3
  have K3_v := Lib.hid k_v3
  clear hb3 b_bx3 b_be3 b_bz3 k_v3
  clear B2_bx B2_be B2_bz HB2 K2_v
  have c_bx0 := B3_bx.out.cell 0
  have f_bx0 := B3_bx.out.frozen 0
  have c_bx1 := B3_bx.out.cell 1
  have f_bx1 := B3_bx.out.frozen 1
  have c_bx2 := B3_bx.out.cell 2
  have f_bx2 := B3_bx.out.frozen 2
  have c_bx3 := B3_bx.out.cell 3
  have f_bx3 := B3_bx.out.frozen 3
  have c_bx4 := B3_bx.out.cell 4
  have f_bx4 := B3_bx.out.frozen 4
  have c_bx5 := B3_bx.out.cell 5
  have f_bx5 := B3_bx.out.frozen 5
  have c_bx6 := B3_bx.out.cell 6
  have f_bx6 := B3_bx.out.frozen 6
  have l_bx := B3_bx.out.lt
  go_upto_region 7 with fail
  clear c_bx0 f_bx0 c_bx1 f_bx1 c_bx2 f_bx2 c_bx3 f_bx3 c_bx4 f_bx4 c_bx5 f_bx5 c_bx6 f_bx6 l_bx
  have hsz4 := HB3.out.size
  have hb4 : Below w.heap.size w (((((((W3.setCell ⟨w.heap.size, 0, none⟩ (.int .i64 ep)).setCell ⟨w.heap.size, 1, none⟩ (.int .i64 l)).setCell ⟨w.heap.size, 2, none⟩ (.slice (some ⟨gi, 0, none⟩) is.length d1)).setCell ⟨w.heap.size, 3, none⟩ (.slice (some ⟨gk, 0, none⟩) ks.length d3)).setCell ⟨w.heap.size, 4, none⟩ (.slice (some ⟨gr, 0, none⟩) rs.length d5)).setCell ⟨w.heap.size, 5, none⟩ (.int .i64 fw)).setCell ⟨w.heap.size, 6, none⟩ (.int .i64 ba)) := (((((((HB3.out).setCell (by show w.heap.size ≤ w.heap.size; omega) _).setCell (by show w.heap.size ≤ w.heap.size; omega) _).setCell (by show w.heap.size ≤ w.heap.size; omega) _).setCell (by show w.heap.size ≤ w.heap.size; omega) _).setCell (by show w.heap.size ≤ w.heap.size; omega) _).setCell (by show w.heap.size ≤ w.heap.size; omega) _).setCell (by show w.heap.size ≤ w.heap.size; omega) _
  have b_bx4 : Blk (((((((W3.setCell ⟨w.heap.size, 0, none⟩ (.int .i64 ep)).setCell ⟨w.heap.size, 1, none⟩ (.int .i64 l)).setCell ⟨w.heap.size, 2, none⟩ (.slice (some ⟨gi, 0, none⟩) is.length d1)).setCell ⟨w.heap.size, 3, none⟩ (.slice (some ⟨gk, 0, none⟩) ks.length d3)).setCell ⟨w.heap.size, 4, none⟩ (.slice (some ⟨gr, 0, none⟩) rs.length d5)).setCell ⟨w.heap.size, 5, none⟩ (.int .i64 fw)).setCell ⟨w.heap.size, 6, none⟩ (.int .i64 ba)) (w.heap.size) 26 #[.int .i64 ep, .int .i64 l, .slice (some ⟨gi, 0, none⟩) is.length d1, .slice (some ⟨gk, 0, none⟩) ks.length d3, .slice (some ⟨gr, 0, none⟩) rs.length d5, .int .i64 fw, .int .i64 ba] := (((((((B3_bx.out).set_ 0 _).set_ 1 _).set_ 2 _).set_ 3 _).set_ 4 _).set_ 5 _).set_ 6 _
  have b_be4 : Blk (((((((W3.setCell ⟨w.heap.size, 0, none⟩ (.int .i64 ep)).setCell ⟨w.heap.size, 1, none⟩ (.int .i64 l)).setCell ⟨w.heap.size, 2, none⟩ (.slice (some ⟨gi, 0, none⟩) is.length d1)).setCell ⟨w.heap.size, 3, none⟩ (.slice (some ⟨gk, 0, none⟩) ks.length d3)).setCell ⟨w.heap.size, 4, none⟩ (.slice (some ⟨gr, 0, none⟩) rs.length d5)).setCell ⟨w.heap.size, 5, none⟩ (.int .i64 fw)).setCell ⟨w.heap.size, 6, none⟩ (.int .i64 ba)) (w.heap.size + 1) 55 #[.int .i64 xe, .int .i64 pid, .int .i64 ver, .int .i64 seq, .int .i64 kind, .bool txn, .string text] := (((((((B3_be.out).far (p := ⟨w.heap.size, 0, none⟩) (by show w.heap.size + 1 ≠ w.heap.size; omega) _).far (p := ⟨w.heap.size, 1, none⟩) (by show w.heap.size + 1 ≠ w.heap.size; omega) _).far (p := ⟨w.heap.size, 2, none⟩) (by show w.heap.size + 1 ≠ w.heap.size; omega) _).far (p := ⟨w.heap.size, 3, none⟩) (by show w.heap.size + 1 ≠ w.heap.size; omega) _).far (p := ⟨w.heap.size, 4, none⟩) (by show w.heap.size + 1 ≠ w.heap.size; omega) _).far (p := ⟨w.heap.size, 5, none⟩) (by show w.heap.size + 1 ≠ w.heap.size; omega) _).far (p := ⟨w.heap.size, 6, none⟩) (by show w.heap.size + 1 ≠ w.heap.size; omega) _
  have b_bz4 : Blk (((((((W3.setCell ⟨w.heap.size, 0, none⟩ (.int .i64 ep)).setCell ⟨w.heap.size, 1, none⟩ (.int .i64 l)).setCell ⟨w.heap.size, 2, none⟩ (.slice (some ⟨gi, 0, none⟩) is.length d1)).setCell ⟨w.heap.size, 3, none⟩ (.slice (some ⟨gk, 0, none⟩) ks.length d3)).setCell ⟨w.heap.size, 4, none⟩ (.slice (some ⟨gr, 0, none⟩) rs.length d5)).setCell ⟨w.heap.size, 5, none⟩ (.int .i64 fw)).setCell ⟨w.heap.size, 6, none⟩ (.int .i64 ba)) (w.heap.size + 1 + 1) 26 #[.int .i64 0, .int .i64 0, .slice none 0 0, .slice none 0 0, .slice none 0 0, .int .i64 0, .int .i64 0] := (((((((B3_bz.out).far (p := ⟨w.heap.size, 0, none⟩) (by show w.heap.size + 1 + 1 ≠ w.heap.size; omega) _).far (p := ⟨w.heap.size, 1, none⟩) (by show w.heap.size + 1 + 1 ≠ w.heap.size; omega) _).far (p := ⟨w.heap.size, 2, none⟩) (by show w.heap.size + 1 + 1 ≠ w.heap.size; omega) _).far (p := ⟨w.heap.size, 3, none⟩) (by show w.heap.size + 1 + 1 ≠ w.heap.size; omega) _).far (p := ⟨w.heap.size, 4, none⟩) (by show w.heap.size + 1 + 1 ≠ w.heap.size; omega) _).far (p := ⟨w.heap.size, 5, none⟩) (by show w.heap.size + 1 + 1 ≠ w.heap.size; omega) _).far (p := ⟨w.heap.size, 6, none⟩) (by show w.heap.size + 1 + 1 ≠ w.heap.size; omega) _
  have k_own4 := (((((((HO.out).under (a := ⟨w.heap.size, 0, none⟩) (by (try dsimp only); omega) (.int .i64 ep)).under (a := ⟨w.heap.size, 1, none⟩) (by (try dsimp only); omega) (.int .i64 l)).under (a := ⟨w.heap.size, 2, none⟩) (by (try dsimp only); omega) (.slice (some ⟨gi, 0, none⟩) is.length d1)).under (a := ⟨w.heap.size, 3, none⟩) (by (try dsimp only); omega) (.slice (some ⟨gk, 0, none⟩) ks.length d3)).under (a := ⟨w.heap.size, 4, none⟩) (by (try dsimp only); omega) (.slice (some ⟨gr, 0, none⟩) rs.length d5)).under (a := ⟨w.heap.size, 5, none⟩) (by (try dsimp only); omega) (.int .i64 fw)).under (a := ⟨w.heap.size, 6, none⟩) (by (try dsimp only); omega) (.int .i64 ba)
  have hz4 : W3.heap.size + 0 ≤ (((((((W3.setCell ⟨w.heap.size, 0, none⟩ (.int .i64 ep)).setCell ⟨w.heap.size, 1, none⟩ (.int .i64 l)).setCell ⟨w.heap.size, 2, none⟩ (.slice (some ⟨gi, 0, none⟩) is.length d1)).setCell ⟨w.heap.size, 3, none⟩ (.slice (some ⟨gk, 0, none⟩) ks.length d3)).setCell ⟨w.heap.size, 4, none⟩ (.slice (some ⟨gr, 0, none⟩) rs.length d5)).setCell ⟨w.heap.size, 5, none⟩ (.int .i64 fw)).setCell ⟨w.heap.size, 6, none⟩ (.int .i64 ba)).heap.size := by first | omega | (simp; done) | (simp; omega)
  generalize ((((((W3.setCell ⟨w.heap.size, 0, none⟩ (.int .i64 ep)).setCell ⟨w.heap.size, 1, none⟩ (.int .i64 l)).setCell ⟨w.heap.size, 2, none⟩ (.slice (some ⟨gi, 0, none⟩) is.length d1)).setCell ⟨w.heap.size, 3, none⟩ (.slice (some ⟨gk, 0, none⟩) ks.length d3)).setCell ⟨w.heap.size, 4, none⟩ (.slice (some ⟨gr, 0, none⟩) rs.length d5)).setCell ⟨w.heap.size, 5, none⟩ (.int .i64 fw)).setCell ⟨w.heap.size, 6, none⟩ (.int .i64 ba) = W4 at *
  have HB4 := Lib.hid hb4
  have B4_bx := Lib.hid b_bx4
  have B4_be := Lib.hid b_be4
  have B4_bz := Lib.hid b_bz4
  have K4_own := Lib.hid k_own4
  clear hb4 b_bx4 b_be4 b_bz4 k_own4
  clear B3_bx B3_be B3_bz HB3 HO
  have c_bx0 := B4_bx.out.cell 0
  have c_bx1 := B4_bx.out.cell 1
  have c_bx2 := B4_bx.out.cell 2
  have c_bx3 := B4_bx.out.cell 3
  have c_bx4 := B4_bx.out.cell 4
  have c_bx5 := B4_bx.out.cell 5
  have c_bx6 := B4_bx.out.cell 6
  have l_bx := B4_bx.out.lt
  obtain ⟨A7, c7, ⟨r0, r1, r2, r3⟩, -, rby⟩ := K4_own.out.repAt l hll
  (try simp only at r0 r1 r2 r3 rby)
  have RBY := Lib.hid rby
  clear rby
  go_wp2_with fail
  clear c_bx0 c_bx1 c_bx2 c_bx3 c_bx4 c_bx5 c_bx6 l_bx r0 r1 r2 r3
  refine (segEntries_ok _ rs[l].bytes rs[l].synced _ RBY.out HLG.out).mono ?_
  rintro e W5 ⟨v5, rfl, hp5, hb⟩
  obtain ⟨A9, c9, rfl, hc9⟩ := (Sl.of_own hp5).form
  have HEN := Lib.hid (EnO.mk hp5)
  clear hp5 RBY
  have hb5 : Below w.heap.size w W5 := below_then HB4.out hb
  have b_bx5 := B4_bx.out.below hb B4_bx.out.lt
  have b_be5 := B4_be.out.below hb B4_be.out.lt
  have b_bz5 := B4_bz.out.below hb B4_bz.out.lt
  have k_own5 := K4_own.out.keep hb
  have hz5 := hb.size
  have HB5 := Lib.hid hb5
  have B5_bx := Lib.hid b_bx5
  have B5_be := Lib.hid b_be5
  have B5_bz := Lib.hid b_bz5
  have K5_own := Lib.hid k_own5
  clear hb5 b_bx5 b_be5 b_bz5 k_own5
  clear B4_bx B4_be B4_bz HB4 K4_own
  have c_bx0 := B5_bx.out.cell 0
  have c_bx1 := B5_bx.out.cell 1
  have c_bx2 := B5_bx.out.cell 2
  have c_bx3 := B5_bx.out.cell 3
  have c_bx4 := B5_bx.out.cell 4
  have c_bx5 := B5_bx.out.cell 5
  have c_bx6 := B5_bx.out.cell 6
  have l_bx := B5_bx.out.lt
  have c_be0 := B5_be.out.cell 0
  have f_be0 := B5_be.out.frozen 0
  have l_be := B5_be.out.lt
  go_upto_region 10 with fail
  clear c_bx0 c_bx1 c_bx2 c_bx3 c_bx4 c_bx5 c_bx6 l_bx c_be0 f_be0 l_be
  have hsz6 := HB5.out.size
  have hb6 : Below w.heap.size w (W5.setCell ⟨w.heap.size + 1, 0, none⟩ (.int .i64 ep)) := (HB5.out).setCell (by show w.heap.size ≤ w.heap.size + 1; omega) _
  have b_bx6 : Blk (W5.setCell ⟨w.heap.size + 1, 0, none⟩ (.int .i64 ep)) (w.heap.size) 26 #[.int .i64 ep, .int .i64 l, .slice (some ⟨gi, 0, none⟩) is.length d1, .slice (some ⟨gk, 0, none⟩) ks.length d3, .slice (some ⟨gr, 0, none⟩) rs.length d5, .int .i64 fw, .int .i64 ba] := (B5_bx.out).far (p := ⟨w.heap.size + 1, 0, none⟩) (by show w.heap.size ≠ w.heap.size + 1; omega) _
  have b_be6 : Blk (W5.setCell ⟨w.heap.size + 1, 0, none⟩ (.int .i64 ep)) (w.heap.size + 1) 55 #[.int .i64 ep, .int .i64 pid, .int .i64 ver, .int .i64 seq, .int .i64 kind, .bool txn, .string text] := (B5_be.out).set_ 0 _
  have b_bz6 : Blk (W5.setCell ⟨w.heap.size + 1, 0, none⟩ (.int .i64 ep)) (w.heap.size + 1 + 1) 26 #[.int .i64 0, .int .i64 0, .slice none 0 0, .slice none 0 0, .slice none 0 0, .int .i64 0, .int .i64 0] := (B5_bz.out).far (p := ⟨w.heap.size + 1, 0, none⟩) (by show w.heap.size + 1 + 1 ≠ w.heap.size + 1; omega) _
  have k_own6 := (K5_own.out).under (a := ⟨w.heap.size + 1, 0, none⟩) (by (try dsimp only); omega) (.int .i64 ep)
  have k_en6 := (HEN.out).under (a := ⟨w.heap.size + 1, 0, none⟩) (by (try dsimp only); omega) (.int .i64 ep)
  have hz6 : W5.heap.size + 0 ≤ (W5.setCell ⟨w.heap.size + 1, 0, none⟩ (.int .i64 ep)).heap.size := by first | omega | (simp; done) | (simp; omega)
  generalize W5.setCell ⟨w.heap.size + 1, 0, none⟩ (.int .i64 ep) = W6 at *
  have HB6 := Lib.hid hb6
  have B6_bx := Lib.hid b_bx6
  have B6_be := Lib.hid b_be6
  have B6_bz := Lib.hid b_bz6
  have K6_own := Lib.hid k_own6
  have K6_en := Lib.hid k_en6
  clear hb6 b_bx6 b_be6 b_bz6 k_own6 k_en6
  clear B5_bx B5_be B5_bz HB5 K5_own HEN
  have c_be0 := B6_be.out.cell 0
  have c_be1 := B6_be.out.cell 1
  have c_be2 := B6_be.out.cell 2
  have c_be3 := B6_be.out.cell 3
  have c_be4 := B6_be.out.cell 4
  have c_be5 := B6_be.out.cell 5
  have c_be6 := B6_be.out.cell 6
  have l_be := B6_be.out.lt
  go_wp2_with fail
  clear c_be0 c_be1 c_be2 c_be3 c_be4 c_be5 c_be6 l_be
  refine (wireCheck_any ep pid ver seq kind txn text _).mono ?_
  rintro e W7 ⟨rfl, hb⟩
  rw [HFC.out]
  have hb7 : Below w.heap.size w W7 := below_then HB6.out hb
  have b_bx7 := B6_bx.out.below hb B6_bx.out.lt
  have b_be7 := B6_be.out.below hb B6_be.out.lt
  have b_bz7 := B6_bz.out.below hb B6_bz.out.lt
  have k_own7 := K6_own.out.keep hb
  have k_en7 := K6_en.out.keep hb
  have hz7 := hb.size
  have HB7 := Lib.hid hb7
  have B7_bx := Lib.hid b_bx7
  have B7_be := Lib.hid b_be7
  have B7_bz := Lib.hid b_bz7
  have K7_own := Lib.hid k_own7
  have K7_en := Lib.hid k_en7
  clear hb7 b_bx7 b_be7 b_bz7 k_own7 k_en7
  clear B6_bx B6_be B6_bz HB6 K6_own K6_en
  have c_be0 := B7_be.out.cell 0
  have c_be1 := B7_be.out.cell 1
  have c_be2 := B7_be.out.cell 2
  have c_be3 := B7_be.out.cell 3
  have c_be4 := B7_be.out.cell 4
  have c_be5 := B7_be.out.cell 5
  have c_be6 := B7_be.out.cell 6
  have l_be := B7_be.out.lt
  go_wp2_with fail
  clear c_be0 c_be1 c_be2 c_be3 c_be4 c_be5 c_be6 l_be
  refine (HVC.out _ _ K7_en.out.es).mono ?_
  rintro e W8 ⟨rfl, hb⟩
  have hb8 : Below w.heap.size w W8 := below_then HB7.out hb
  have b_bx8 := B7_bx.out.below hb B7_bx.out.lt
  have b_be8 := B7_be.out.below hb B7_be.out.lt
  have b_bz8 := B7_bz.out.below hb B7_bz.out.lt
  have k_own8 := K7_own.out.keep hb
  have k_en8 := K7_en.out.keep hb
  have hz8 := hb.size
  have HB8 := Lib.hid hb8
  have B8_bx := Lib.hid b_bx8
  have B8_be := Lib.hid b_be8
  have B8_bz := Lib.hid b_bz8
  have K8_own := Lib.hid k_own8
  have K8_en := Lib.hid k_en8
  clear hb8 b_bx8 b_be8 b_bz8 k_own8 k_en8
  clear B7_bx B7_be B7_bz HB7 K7_own K7_en
  have c_bx0 := B8_bx.out.cell 0
  have c_bx1 := B8_bx.out.cell 1
  have c_bx2 := B8_bx.out.cell 2
  have c_bx3 := B8_bx.out.cell 3
  have c_bx4 := B8_bx.out.cell 4
  have c_bx5 := B8_bx.out.cell 5
  have c_bx6 := B8_bx.out.cell 6
  have l_bx := B8_bx.out.lt
  go_wp2_with fail
  clear c_bx0 c_bx1 c_bx2 c_bx3 c_bx4 c_bx5 c_bx6 l_bx
  obtain ⟨BA, hBA⟩ : ∃ BA, BA = W2.heap.size := ⟨_, rfl⟩
  have ko := K8_own.out
  rw [← hBA] at ko
  have KO := Lib.hid ko
  obtain ⟨BE, VE, hVE, hBE, hBE2⟩ : ∃ (BE : Nat) (VE : Value), VE = .slice A9 es.length c9 ∧ EnO BE W8 VE es ∧ BA ≤ BE := ⟨_, _, rfl, K8_en.out, by omega⟩
  have KEN := Lib.hid hBE
  have HVE := Lib.hid hVE
  clear ko K8_own K8_en hBE hVE
  go_loopw [15, 71] (fun s y wr => ∃ k : Nat, k ≤ rs.length ∧ s = .int .i64 (upCnt is rs k : Nat) ∧ y = .int .i64 k ∧ Hid (PO BA wr ⟨ep, (l : Int), is, ks, rs, fw, ba⟩ (.slice (some ⟨gi, 0, none⟩) is.length d1) (.slice (some ⟨gk, 0, none⟩) ks.length d3) (.slice (some ⟨gr, 0, none⟩) rs.length d5)) ∧ Hid (EnO BE wr VE es) ∧ Hid (Blk wr (w.heap.size) 26 #[.int .i64 ep, .int .i64 l, .slice (some ⟨gi, 0, none⟩) is.length d1, .slice (some ⟨gk, 0, none⟩) ks.length d3, .slice (some ⟨gr, 0, none⟩) rs.length d5, .int .i64 fw, .int .i64 ba]) ∧ Hid (Blk wr (w.heap.size + 1) 55 #[.int .i64 ep, .int .i64 pid, .int .i64 ver, .int .i64 seq, .int .i64 kind, .bool txn, .string text]) ∧ Hid (Blk wr (w.heap.size + 1 + 1) 26 #[.int .i64 0, .int .i64 0, .slice none 0 0, .slice none 0 0, .slice none 0 0, .int .i64 0, .int .i64 0]) ∧ Hid (Below w.heap.size w wr) ∧ W8.heap.size ≤ wr.heap.size) (fun _ y _ => rs.length - (intOf y).toNat)
  case atStart => exact ⟨0, Nat.zero_le _, rfl, rfl, KO, KEN, B8_bx, B8_be, B8_bz, HB8, Nat.le_refl _⟩
  case round =>
    clear KO KEN B8_bx B8_be B8_bz HB8
    obtain ⟨k, hk, rfl, rfl, HKO, HKE, HBX, HBE, HBZ, HBW, hsz⟩ := hrel
    have b2 := HBX.out.cell 2
    have bl_ := HBX.out.lt
    by_cases hlt : k < rs.length
    · have hli : k < is.length := by have h9 := E1.out; (try simp only at h9); omega
      obtain ⟨A8, c8, ⟨r0, r1, r2, r3⟩, -, -⟩ := HKO.out.repAt k hlt
      obtain ⟨s0, -⟩ := HKO.out.isrAt k hli
      have hst := upCnt_step hli hlt
      have hcl := upCnt_le is rs k
      (try simp only at r0 r1 r2 r3 s0)
      have HST := Lib.hid hst
      clear hst
      have k0 : (0 : Int) ≤ (k : Int) := by omega
      have k1 : (k : Int) < (rs.length : Int) := Int.ofNat_lt.2 hlt
      have k2 : (k : Int) < (is.length : Int) := Int.ofNat_lt.2 hli
      have gil : gi < wr.heap.size := by omega
      have grl : gr < wr.heap.size := by omega
      generalize upCnt is rs k = u at *
      generalize is[k] = bi at *
      generalize rs[k] = t at *
      obtain ⟨tu, tb, ts, th⟩ := t
      simp only at *
      have hal := (Below.refl wr.heap.size wr).alloc (Nat.le_refl _) (.cells #[.bool tu, .slice A8 tb.length c8, .int .i64 ts, .int .i64 th] 71)
      have HKO2 := Lib.hid (HKO.out.keep hal)
      have HKE2 := Lib.hid (HKE.out.keep hal)
      have HBX2 := Lib.hid (HBX.out.below hal HBX.out.lt)
      have HBE2 := Lib.hid (HBE.out.below hal HBE.out.lt)
      have HBZ2 := Lib.hid (HBZ.out.below hal HBZ.out.lt)
      have HBW2 := Lib.hid (below_then HBW.out hal)
      have hsz2 := Nat.le_trans hsz hal.size
      clear hal
      rcases bi with _ | _ <;> rcases tu with _ | _
      all_goals
        have hs9 := HST.out
        simp only [Bool.false_and, Bool.true_and, Bool.false_eq_true, if_false, if_true, Nat.add_zero] at hs9
        have HS9 := Lib.hid hs9
        clear hs9 HST
        go_wp2
        go_light
        exact ⟨⟨k + 1, by omega, by first | (rw [HS9.out]; done) | (rw [HS9.out]; go_num), by go_num, HKO2, HKE2, HBX2, HBE2, HBZ2, HBW2, hsz2⟩, by simp [intOf]; omega⟩
    · obtain rfl : k = rs.length := by omega
      clear hlt b2 bl_
      have c_bx0 := HBX.out.cell 0
      have c_bx1 := HBX.out.cell 1
      have c_bx2 := HBX.out.cell 2
      have c_bx3 := HBX.out.cell 3
      have c_bx4 := HBX.out.cell 4
      have c_bx5 := HBX.out.cell 5
      have c_bx6 := HBX.out.cell 6
      have l_bx := HBX.out.lt
      go_wp2_with fail
      clear c_bx0 c_bx1 c_bx2 c_bx3 c_bx4 c_bx5 c_bx6 l_bx
      obtain ⟨A8, c8, ⟨-, r1, r2, -⟩, -, -⟩ := HKO.out.repAt l hll
      (try simp only at r1 r2)
      have c_be0 := HBE.out.cell 0
      have c_be1 := HBE.out.cell 1
      have c_be2 := HBE.out.cell 2
      have c_be3 := HBE.out.cell 3
      have c_be4 := HBE.out.cell 4
      have c_be5 := HBE.out.cell 5
      have c_be6 := HBE.out.cell 6
      have l_be := HBE.out.lt
      refine wp_region_held_drew (S := fun w0 => w0.cell? ⟨w.heap.size + 1, 0, none⟩ = some (.int .i64 ep) ∧ w0.cell? ⟨w.heap.size + 1, 1, none⟩ = some (.int .i64 pid) ∧ w0.cell? ⟨w.heap.size + 1, 2, none⟩ = some (.int .i64 ver) ∧ w0.cell? ⟨w.heap.size + 1, 3, none⟩ = some (.int .i64 seq) ∧ w0.cell? ⟨w.heap.size + 1, 4, none⟩ = some (.int .i64 kind) ∧ w0.cell? ⟨w.heap.size + 1, 5, none⟩ = some (.bool txn) ∧ w0.cell? ⟨w.heap.size + 1, 6, none⟩ = some (.string text) ∧ w0.cell? ⟨gr, l * 4 + 1, none⟩ = some (.slice A8 rs[l].bytes.length c8) ∧ w0.cell? ⟨gr, l * 4 + 2, none⟩ = some (.int .i64 rs[l].synced)) (by kernel_rfl) ?_ (fun hHeld => ?_)
      · exact ⟨c_be0, c_be1, c_be2, c_be3, c_be4, c_be5, c_be6, r1, r2⟩
      clear c_be0 c_be1 c_be2 c_be3 c_be4 c_be5 c_be6 l_be
      generalize hd : World.drew wr = W9 at *
      have hb : Below wr.heap.size wr W9 := by rw [← hd]; exact (Below.refl _ _).drew
      have hb9 : Below w.heap.size w W9 := below_then HBW.out hb
      have b_bx9 := HBX.out.below hb HBX.out.lt
      have b_be9 := HBE.out.below hb HBE.out.lt
      have b_bz9 := HBZ.out.below hb HBZ.out.lt
      have k_own9 := HKO.out.keep hb
      have k_en9 := HKE.out.keep hb
      have hz9 := hb.size
      have HB9 := Lib.hid hb9
      have B9_bx := Lib.hid b_bx9
      have B9_be := Lib.hid b_be9
      have B9_bz := Lib.hid b_bz9
      have K9_own := Lib.hid k_own9
      have K9_en := Lib.hid k_en9
      clear hb9 b_bx9 b_be9 b_bz9 k_own9 k_en9
      clear HBX HBE HBZ HBW HKO HKE
      have r1n := (hb.cell (p := ⟨gr, l * 4 + 1, none⟩) (show gr < _ by omega)).trans r1
      clear r1
      have r1 := r1n
      clear r1n
      have r2n := (hb.cell (p := ⟨gr, l * 4 + 2, none⟩) (show gr < _ by omega)).trans r2
      clear r2
      have r2 := r2n
      clear r2n
      clear hd hb
      refine wpAnyH_take (i := 0) (v := ?_) rfl (by kernel_rfl) (by kernel_rfl) (by kernel_rfl) (fun _ _ _ h => h) (Or.inl ⟨by rfl, ?_⟩) (by assumption) ?_
      rotate_left
      · intro w0 hSw
        (try dsimp only at hSw)
        go_simp
        all_goals with_reducible rfl
      try simp only [Act.put, List.getElem_toArray, List.getElem_cons_zero, List.setIfInBounds_toArray, List.set_cons_zero, List.set_cons_succ]
      refine wpAnyH_take (i := 1) (v := ?_) rfl (by kernel_rfl) (by kernel_rfl) (by kernel_rfl) (fun _ _ _ h => h) (Or.inl ⟨by rfl, ?_⟩) (by assumption) ?_
      rotate_left
      · intro w0 hSw
        (try dsimp only at hSw)
        go_simp
        all_goals with_reducible rfl
      try simp only [Act.put, List.getElem_toArray, List.getElem_cons_zero, List.getElem_cons_succ, List.setIfInBounds_toArray, List.set_cons_zero, List.set_cons_succ]
      refine wpAnyH_take (i := 2) (v := ?_) rfl (by kernel_rfl) (by kernel_rfl) (by kernel_rfl) (fun _ _ _ h => h) (Or.inl ⟨by rfl, ?_⟩) (by assumption) ?_
      rotate_left
      · intro w0 hSw
        (try dsimp only at hSw)
        go_simp
        all_goals with_reducible rfl
      try simp only [Act.put, List.getElem_toArray, List.getElem_cons_zero, List.getElem_cons_succ, List.setIfInBounds_toArray, List.set_cons_zero, List.set_cons_succ]
      refine wpAnyH_take (i := 3) (v := ?_) rfl (by kernel_rfl) (by kernel_rfl) (by kernel_rfl) (fun _ _ _ h => h) (Or.inl ⟨by rfl, ?_⟩) (by assumption) ?_
      rotate_left
      · intro w0 hSw
        (try dsimp only at hSw)
        go_simp
        all_goals with_reducible rfl
      try simp only [Act.put, List.getElem_toArray, List.getElem_cons_zero, List.getElem_cons_succ, List.setIfInBounds_toArray, List.set_cons_zero, List.set_cons_succ]
      refine wpAnyH_take (i := 4) (v := ?_) rfl (by kernel_rfl) (by kernel_rfl) (by kernel_rfl) (fun _ _ _ h => h) (Or.inl ⟨by rfl, ?_⟩) (by assumption) ?_
      rotate_left
      · intro w0 hSw
        (try dsimp only at hSw)
        go_simp
        all_goals with_reducible rfl
      try simp only [Act.put, List.getElem_toArray, List.getElem_cons_zero, List.getElem_cons_succ, List.setIfInBounds_toArray, List.set_cons_zero, List.set_cons_succ]
      refine wpAnyH_ready (rs := [5, 9]) (by kernel_rfl) (by simp) (AllReadyH.cons rfl (fun K hK => ?_) (AllReadyH.cons rfl (fun K hK => ?_) AllReadyH.nil))
      · go_simp
        go_at_call 45
        obtain ⟨A8b, c8b, ⟨-, r1b, -, -⟩, -, rby⟩ := K9_own.out.repAt l hll
        (try simp only at r1b rby)
        obtain ⟨rfl, rfl⟩ : A8b = A8 ∧ c8b = c8 := by
          rw [r1] at r1b
          simp only [Option.some.injEq, Value.slice.injEq, true_and] at r1b
          exact ⟨r1b.1.symm, r1b.2.symm⟩
        have RBY2 := Lib.hid rby
        clear r1b rby
        refine (append_ok _ rs[l].bytes rs[l].synced ⟨ep, pid, ver, seq, kind, txn, text⟩ _ RBY2.out HLG.out HOKX.out HFL.out).mono ?_
        rintro e W10 ⟨v6, rfl, hp6, hb⟩
        dsimp only at hp6
        rw [HLB.out] at hp6
        obtain ⟨A6, c6, rfl, hc6⟩ := (Sl.of_own hp6).form
        have HLO := Lib.hid (LgO.mk hp6)
        clear hp6 RBY2
        have hb10 : Below w.heap.size w W10 := below_then HB9.out hb
        have b_bx10 := B9_bx.out.below hb B9_bx.out.lt
        have b_be10 := B9_be.out.below hb B9_be.out.lt
        have b_bz10 := B9_bz.out.below hb B9_bz.out.lt
        have k_own10 := K9_own.out.keep hb
        have k_en10 := K9_en.out.keep hb
        have hz10 := hb.size
        have HB10 := Lib.hid hb10
        have B10_bx := Lib.hid b_bx10
        have B10_be := Lib.hid b_be10
        have B10_bz := Lib.hid b_bz10
        have K10_own := Lib.hid k_own10
        have K10_en := Lib.hid k_en10
        clear hb10 b_bx10 b_be10 b_bz10 k_own10 k_en10
        clear B9_bx B9_be B9_bz HB9 K9_own K9_en
        have r1n := (hb.cell (p := ⟨gr, l * 4 + 1, none⟩) (show gr < _ by omega)).trans r1
        have r2n := (hb.cell (p := ⟨gr, l * 4 + 2, none⟩) (show gr < _ by omega)).trans r2
        clear r1 r2
        have r1 := r1n
        have r2 := r2n
        clear r1n r2n
        refine hK.out _ _ ?_ (fun hHeld => ?_)
        · exact ⟨(B10_be.out).cell 0, (B10_be.out).cell 1, (B10_be.out).cell 2, (B10_be.out).cell 3, (B10_be.out).cell 4, (B10_be.out).cell 5, (B10_be.out).cell 6, r1, r2⟩
        clear hK K
        refine wpAnyH_take (i := 6) (v := ?_) rfl (by kernel_rfl) (by kernel_rfl) (by kernel_rfl) (fun _ _ _ h => h) (Or.inl ⟨by rfl, ?_⟩) (by assumption) ?_
        rotate_left
        · intro w0 hSw
          (try dsimp only at hSw)
          go_simp
          all_goals with_reducible rfl
        try simp only [Act.put, List.getElem_toArray, List.getElem_cons_zero, List.getElem_cons_succ, List.setIfInBounds_toArray, List.set_cons_zero, List.set_cons_succ]
        refine wpAnyH_take (i := 7) (v := ?_) rfl (by kernel_rfl) (by kernel_rfl) (by kernel_rfl) (fun _ _ _ h => h) (Or.inl ⟨by rfl, ?_⟩) (by assumption) ?_
        rotate_left
        · intro w0 hSw
          (try dsimp only at hSw)
          go_simp
          all_goals with_reducible rfl
        try simp only [Act.put, List.getElem_toArray, List.getElem_cons_zero, List.getElem_cons_succ, List.setIfInBounds_toArray, List.set_cons_zero, List.set_cons_succ]
        refine wpAnyH_take (i := 8) (v := ?_) rfl (by kernel_rfl) (by kernel_rfl) (by kernel_rfl) (fun _ _ _ h => h) (Or.inl ⟨by rfl, ?_⟩) (by assumption) ?_
        rotate_left
        · intro w0 hSw
          (try dsimp only at hSw)
          go_simp
          all_goals with_reducible rfl
        try simp only [Act.put, List.getElem_toArray, List.getElem_cons_zero, List.getElem_cons_succ, List.setIfInBounds_toArray, List.set_cons_zero, List.set_cons_succ]
        refine wpAnyH_ready (rs := [9]) (by kernel_rfl) (by simp) (AllReadyH.cons rfl (fun K hK => ?_) AllReadyH.nil)
        go_simp
        have hb : Below W10.heap.size W10 (W10.alloc (.cells #[.slice none 0 0, .int .i64 0] 42)) := (Below.refl _ _).alloc (Nat.le_refl _) _
        have r1n := (hb.cell (p := ⟨gr, l * 4 + 1, none⟩) (show gr < _ by omega)).trans r1
        have r2n := (hb.cell (p := ⟨gr, l * 4 + 2, none⟩) (show gr < _ by omega)).trans r2
        clear r1 r2
        have r1 := r1n
        have r2 := r2n
        clear r1n r2n
        clear hb
        refine hK.out _ _ ?_ (fun hHeld => ?_)
        · exact ⟨((B10_be.out).alloc _).cell 0, ((B10_be.out).alloc _).cell 1, ((B10_be.out).alloc _).cell 2, ((B10_be.out).alloc _).cell 3, ((B10_be.out).alloc _).cell 4, ((B10_be.out).alloc _).cell 5, ((B10_be.out).alloc _).cell 6, r1, r2⟩
        clear hK K
        try simp only [Act.put, List.getElem_toArray, List.getElem_cons_zero, List.getElem_cons_succ, List.setIfInBounds_toArray, List.set_cons_zero, List.set_cons_succ]
        have hsz11 := HB10.out.size
        have hb11 : Below w.heap.size w (W10.alloc (.cells #[.slice none 0 0, .int .i64 0] 42)) := (HB10.out).alloc (by first | omega | (simp; done) | (simp; omega)) _
        have hal11 : Below W10.heap.size W10 (W10.alloc (.cells #[.slice none 0 0, .int .i64 0] 42)) := (Below.refl _ _).alloc (by first | omega | (simp; done) | (simp; omega)) _
        have b_bx11 : Blk (W10.alloc (.cells #[.slice none 0 0, .int .i64 0] 42)) (w.heap.size) 26 #[.int .i64 ep, .int .i64 l, .slice (some ⟨gi, 0, none⟩) is.length d1, .slice (some ⟨gk, 0, none⟩) ks.length d3, .slice (some ⟨gr, 0, none⟩) rs.length d5, .int .i64 fw, .int .i64 ba] := (B10_bx.out).alloc _
        have b_be11 : Blk (W10.alloc (.cells #[.slice none 0 0, .int .i64 0] 42)) (w.heap.size + 1) 55 #[.int .i64 ep, .int .i64 pid, .int .i64 ver, .int .i64 seq, .int .i64 kind, .bool txn, .string text] := (B10_be.out).alloc _
        have b_bz11 : Blk (W10.alloc (.cells #[.slice none 0 0, .int .i64 0] 42)) (w.heap.size + 1 + 1) 26 #[.int .i64 0, .int .i64 0, .slice none 0 0, .slice none 0 0, .slice none 0 0, .int .i64 0, .int .i64 0] := (B10_bz.out).alloc _
        have b_bl11 : Blk (W10.alloc (.cells #[.slice none 0 0, .int .i64 0] 42)) (W10.heap.size) 42 #[.slice none 0 0, .int .i64 0] := Blk.new_ _ 42 #[.slice none 0 0, .int .i64 0] (by first | rfl | (simp; done) | (simp; omega))
        have k_own11 := (K10_own.out).alloc (.cells #[.slice none 0 0, .int .i64 0] 42)
        have k_en11 := (K10_en.out).alloc (.cells #[.slice none 0 0, .int .i64 0] 42)
        have k_lg11 := (HLO.out).alloc (.cells #[.slice none 0 0, .int .i64 0] 42)
        have hz11 : W10.heap.size + 1 ≤ (W10.alloc (.cells #[.slice none 0 0, .int .i64 0] 42)).heap.size := by first | omega | (simp; done) | (simp; omega)
        generalize W10.alloc (.cells #[.slice none 0 0, .int .i64 0] 42) = W11 at *
        have HB11 := Lib.hid hb11
        have B11_bx := Lib.hid b_bx11
        have B11_be := Lib.hid b_be11
        have B11_bz := Lib.hid b_bz11
        have B11_bl := Lib.hid b_bl11
        have K11_own := Lib.hid k_own11
        have K11_en := Lib.hid k_en11
        have K11_lg := Lib.hid k_lg11
        clear hb11 b_bx11 b_be11 b_bz11 b_bl11 k_own11 k_en11 k_lg11
        clear B10_bx B10_be B10_bz HB10 K10_own K10_en HLO
        have c_bl0 := B11_bl.out.cell 0
        have f_bl0 := B11_bl.out.frozen 0
        have c_bl1 := B11_bl.out.cell 1
        have f_bl1 := B11_bl.out.frozen 1
        have l_bl := B11_bl.out.lt
        have r1m := r1
        have r2m := r2
        refine wpAnyH_ready (rs := [10]) (by kernel_rfl) (by simp) (AllReadyH.cons rfl (fun K hK => ?_) AllReadyH.nil)
        go_simp
        have hne : gr ≠ W10.heap.size := by omega
        have e1 := cell_setCell_far_ W11 gr (W10.heap.size) (l * 4 + 1) 0 1 (.slice A6 lb.length c6) (.int .i64 rs[l].synced) hne
        have e2 := cell_setCell_far_ W11 gr (W10.heap.size) (l * 4 + 2) 0 1 (.slice A6 lb.length c6) (.int .i64 rs[l].synced) hne
        have r1 := e1.trans r1m
        have r2 := e2.trans r2m
        refine hK.out _ _ ?_ (fun hHeld => ?_)
        · exact ⟨(((B11_be.out).far (p := ⟨W10.heap.size, 0, none⟩) (by show w.heap.size + 1 ≠ W10.heap.size; omega) _).far (p := ⟨W10.heap.size, 1, none⟩) (by show w.heap.size + 1 ≠ W10.heap.size; omega) _).cell 0, (((B11_be.out).far (p := ⟨W10.heap.size, 0, none⟩) (by show w.heap.size + 1 ≠ W10.heap.size; omega) _).far (p := ⟨W10.heap.size, 1, none⟩) (by show w.heap.size + 1 ≠ W10.heap.size; omega) _).cell 1, (((B11_be.out).far (p := ⟨W10.heap.size, 0, none⟩) (by show w.heap.size + 1 ≠ W10.heap.size; omega) _).far (p := ⟨W10.heap.size, 1, none⟩) (by show w.heap.size + 1 ≠ W10.heap.size; omega) _).cell 2, (((B11_be.out).far (p := ⟨W10.heap.size, 0, none⟩) (by show w.heap.size + 1 ≠ W10.heap.size; omega) _).far (p := ⟨W10.heap.size, 1, none⟩) (by show w.heap.size + 1 ≠ W10.heap.size; omega) _).cell 3, (((B11_be.out).far (p := ⟨W10.heap.size, 0, none⟩) (by show w.heap.size + 1 ≠ W10.heap.size; omega) _).far (p := ⟨W10.heap.size, 1, none⟩) (by show w.heap.size + 1 ≠ W10.heap.size; omega) _).cell 4, (((B11_be.out).far (p := ⟨W10.heap.size, 0, none⟩) (by show w.heap.size + 1 ≠ W10.heap.size; omega) _).far (p := ⟨W10.heap.size, 1, none⟩) (by show w.heap.size + 1 ≠ W10.heap.size; omega) _).cell 5, (((B11_be.out).far (p := ⟨W10.heap.size, 0, none⟩) (by show w.heap.size + 1 ≠ W10.heap.size; omega) _).far (p := ⟨W10.heap.size, 1, none⟩) (by show w.heap.size + 1 ≠ W10.heap.size; omega) _).cell 6, r1, r2⟩
        clear hK K r1 r2 e1 e2 hne r1m r2m
        clear c_bl0 f_bl0 c_bl1 f_bl1 l_bl
        refine wpAnyH_take (i := 11) (v := ?_) rfl (by kernel_rfl) (by kernel_rfl) (by kernel_rfl) (fun _ _ _ h => h) (Or.inl ⟨by rfl, ?_⟩) (by assumption) ?_
        rotate_left
        · intro w0 hSw
          (try dsimp only at hSw)
          go_simp
          all_goals with_reducible rfl
        try simp only [Act.put, List.getElem_toArray, List.getElem_cons_zero, List.getElem_cons_succ, List.setIfInBounds_toArray, List.set_cons_zero, List.set_cons_succ]
        refine wpAnyH_done (by kernel_rfl) ?_ _
        go_upto_region 28 with fail
        have hsz12 := HB11.out.size
        have hb12 : Below w.heap.size w ((W11.setCell ⟨W10.heap.size, 0, none⟩ (.slice A6 lb.length c6)).setCell ⟨W10.heap.size, 1, none⟩ (.int .i64 rs[l].synced)) := ((HB11.out).setCell (by show w.heap.size ≤ W10.heap.size; omega) _).setCell (by show w.heap.size ≤ W10.heap.size; omega) _
        have b_bx12 : Blk ((W11.setCell ⟨W10.heap.size, 0, none⟩ (.slice A6 lb.length c6)).setCell ⟨W10.heap.size, 1, none⟩ (.int .i64 rs[l].synced)) (w.heap.size) 26 #[.int .i64 ep, .int .i64 l, .slice (some ⟨gi, 0, none⟩) is.length d1, .slice (some ⟨gk, 0, none⟩) ks.length d3, .slice (some ⟨gr, 0, none⟩) rs.length d5, .int .i64 fw, .int .i64 ba] := ((B11_bx.out).far (p := ⟨W10.heap.size, 0, none⟩) (by show w.heap.size ≠ W10.heap.size; omega) _).far (p := ⟨W10.heap.size, 1, none⟩) (by show w.heap.size ≠ W10.heap.size; omega) _
        have b_be12 : Blk ((W11.setCell ⟨W10.heap.size, 0, none⟩ (.slice A6 lb.length c6)).setCell ⟨W10.heap.size, 1, none⟩ (.int .i64 rs[l].synced)) (w.heap.size + 1) 55 #[.int .i64 ep, .int .i64 pid, .int .i64 ver, .int .i64 seq, .int .i64 kind, .bool txn, .string text] := ((B11_be.out).far (p := ⟨W10.heap.size, 0, none⟩) (by show w.heap.size + 1 ≠ W10.heap.size; omega) _).far (p := ⟨W10.heap.size, 1, none⟩) (by show w.heap.size + 1 ≠ W10.heap.size; omega) _
        have b_bz12 : Blk ((W11.setCell ⟨W10.heap.size, 0, none⟩ (.slice A6 lb.length c6)).setCell ⟨W10.heap.size, 1, none⟩ (.int .i64 rs[l].synced)) (w.heap.size + 1 + 1) 26 #[.int .i64 0, .int .i64 0, .slice none 0 0, .slice none 0 0, .slice none 0 0, .int .i64 0, .int .i64 0] := ((B11_bz.out).far (p := ⟨W10.heap.size, 0, none⟩) (by show w.heap.size + 1 + 1 ≠ W10.heap.size; omega) _).far (p := ⟨W10.heap.size, 1, none⟩) (by show w.heap.size + 1 + 1 ≠ W10.heap.size; omega) _
        have b_bl12 : Blk ((W11.setCell ⟨W10.heap.size, 0, none⟩ (.slice A6 lb.length c6)).setCell ⟨W10.heap.size, 1, none⟩ (.int .i64 rs[l].synced)) (W10.heap.size) 42 #[.slice A6 lb.length c6, .int .i64 rs[l].synced] := ((B11_bl.out).set_ 0 _).set_ 1 _
        have k_own12 := ((K11_own.out.blkL B11_bl.out 0 (.slice A6 lb.length c6)).blkL (B11_bl.out.set_ 0 (.slice A6 lb.length c6)) 1 (.int .i64 rs[l].synced))
        have k_en12 := ((K11_en.out.blkL B11_bl.out 0 (.slice A6 lb.length c6)).blkL (B11_bl.out.set_ 0 (.slice A6 lb.length c6)) 1 (.int .i64 rs[l].synced))
        have k_lg12 := ((K11_lg.out.blkL B11_bl.out 0 (.slice A6 lb.length c6)).blkL (B11_bl.out.set_ 0 (.slice A6 lb.length c6)) 1 (.int .i64 rs[l].synced))
        have hz12 : W11.heap.size + 0 ≤ ((W11.setCell ⟨W10.heap.size, 0, none⟩ (.slice A6 lb.length c6)).setCell ⟨W10.heap.size, 1, none⟩ (.int .i64 rs[l].synced)).heap.size := by first | omega | (simp; done) | (simp; omega)
        generalize (W11.setCell ⟨W10.heap.size, 0, none⟩ (.slice A6 lb.length c6)).setCell ⟨W10.heap.size, 1, none⟩ (.int .i64 rs[l].synced) = W12 at *
        have HB12 := Lib.hid hb12
        have B12_bx := Lib.hid b_bx12
        have B12_be := Lib.hid b_be12
        have B12_bz := Lib.hid b_bz12
        have B12_bl := Lib.hid b_bl12
        have K12_own := Lib.hid k_own12
        have K12_en := Lib.hid k_en12
        have K12_lg := Lib.hid k_lg12
        clear hb12 b_bx12 b_be12 b_bz12 b_bl12 k_own12 k_en12 k_lg12
        clear B11_bx B11_be B11_bz B11_bl HB11 K11_own K11_en K11_lg
        have c_bx0 := B12_bx.out.cell 0
        have c_bx1 := B12_bx.out.cell 1
        have c_bx2 := B12_bx.out.cell 2
        have c_bx3 := B12_bx.out.cell 3
        have c_bx4 := B12_bx.out.cell 4
        have c_bx5 := B12_bx.out.cell 5
        have c_bx6 := B12_bx.out.cell 6
        have l_bx := B12_bx.out.lt
        have c_bl0 := B12_bl.out.cell 0
        have c_bl1 := B12_bl.out.cell 1
        have l_bl := B12_bl.out.lt
        obtain ⟨A8, c8, ⟨s0, s1, s2, s3⟩, ⟨-, sf1, sf2, -⟩, -⟩ := K12_own.out.repAt l hll
        go_upto_region 31 with fail
        clear c_bx0 c_bx1 c_bx2 c_bx3 c_bx4 c_bx5 c_bx6 l_bx c_bl0 c_bl1 l_bl s0 s1 s2 s3 sf1 sf2
        have hsz13 := HB12.out.size
        have hb13 : Below w.heap.size w ((W12.setCell ⟨gr, l * 4 + 1, none⟩ (.slice A6 lb.length c6)).setCell ⟨gr, l * 4 + 2, none⟩ (.int .i64 rs[l].synced)) := ((HB12.out).setCell (by show w.heap.size ≤ gr; omega) _).setCell (by show w.heap.size ≤ gr; omega) _
        have b_bx13 : Blk ((W12.setCell ⟨gr, l * 4 + 1, none⟩ (.slice A6 lb.length c6)).setCell ⟨gr, l * 4 + 2, none⟩ (.int .i64 rs[l].synced)) (w.heap.size) 26 #[.int .i64 ep, .int .i64 l, .slice (some ⟨gi, 0, none⟩) is.length d1, .slice (some ⟨gk, 0, none⟩) ks.length d3, .slice (some ⟨gr, 0, none⟩) rs.length d5, .int .i64 fw, .int .i64 ba] := ((B12_bx.out).far (p := ⟨gr, l * 4 + 1, none⟩) (by show w.heap.size ≠ gr; omega) _).far (p := ⟨gr, l * 4 + 2, none⟩) (by show w.heap.size ≠ gr; omega) _
        have b_be13 : Blk ((W12.setCell ⟨gr, l * 4 + 1, none⟩ (.slice A6 lb.length c6)).setCell ⟨gr, l * 4 + 2, none⟩ (.int .i64 rs[l].synced)) (w.heap.size + 1) 55 #[.int .i64 ep, .int .i64 pid, .int .i64 ver, .int .i64 seq, .int .i64 kind, .bool txn, .string text] := ((B12_be.out).far (p := ⟨gr, l * 4 + 1, none⟩) (by show w.heap.size + 1 ≠ gr; omega) _).far (p := ⟨gr, l * 4 + 2, none⟩) (by show w.heap.size + 1 ≠ gr; omega) _
        have b_bz13 : Blk ((W12.setCell ⟨gr, l * 4 + 1, none⟩ (.slice A6 lb.length c6)).setCell ⟨gr, l * 4 + 2, none⟩ (.int .i64 rs[l].synced)) (w.heap.size + 1 + 1) 26 #[.int .i64 0, .int .i64 0, .slice none 0 0, .slice none 0 0, .slice none 0 0, .int .i64 0, .int .i64 0] := ((B12_bz.out).far (p := ⟨gr, l * 4 + 1, none⟩) (by show w.heap.size + 1 + 1 ≠ gr; omega) _).far (p := ⟨gr, l * 4 + 2, none⟩) (by show w.heap.size + 1 + 1 ≠ gr; omega) _
        have b_bl13 : Blk ((W12.setCell ⟨gr, l * 4 + 1, none⟩ (.slice A6 lb.length c6)).setCell ⟨gr, l * 4 + 2, none⟩ (.int .i64 rs[l].synced)) (W10.heap.size) 42 #[.slice A6 lb.length c6, .int .i64 rs[l].synced] := ((B12_bl.out).far (p := ⟨gr, l * 4 + 1, none⟩) (by show W10.heap.size ≠ gr; omega) _).far (p := ⟨gr, l * 4 + 2, none⟩) (by show W10.heap.size ≠ gr; omega) _
        have k_own13 := (K12_own.out.setLog l hll rs[l].synced (own_base K12_lg.out.own (by omega)))
        have hz13 : W12.heap.size + 0 ≤ ((W12.setCell ⟨gr, l * 4 + 1, none⟩ (.slice A6 lb.length c6)).setCell ⟨gr, l * 4 + 2, none⟩ (.int .i64 rs[l].synced)).heap.size := by first | omega | (simp; done) | (simp; omega)
        generalize (W12.setCell ⟨gr, l * 4 + 1, none⟩ (.slice A6 lb.length c6)).setCell ⟨gr, l * 4 + 2, none⟩ (.int .i64 rs[l].synced) = W13 at *
        have HB13 := Lib.hid hb13
        have B13_bx := Lib.hid b_bx13
        have B13_be := Lib.hid b_be13
        have B13_bz := Lib.hid b_bz13
        have B13_bl := Lib.hid b_bl13
        have K13_own := Lib.hid k_own13
        clear hb13 b_bx13 b_be13 b_bz13 b_bl13 k_own13
        clear B12_bx B12_be B12_bz B12_bl HB12 K12_own
        have c_bx0 := B13_bx.out.cell 0
        have c_bx1 := B13_bx.out.cell 1
        have c_bx2 := B13_bx.out.cell 2
        have c_bx3 := B13_bx.out.cell 3
        have c_bx4 := B13_bx.out.cell 4
        have c_bx5 := B13_bx.out.cell 5
        have c_bx6 := B13_bx.out.cell 6
        have l_bx := B13_bx.out.lt
        have c_bz0 := B13_bz.out.cell 0
        have f_bz0 := B13_bz.out.frozen 0
        have c_bz1 := B13_bz.out.cell 1
        have f_bz1 := B13_bz.out.frozen 1
        have c_bz2 := B13_bz.out.cell 2
        have f_bz2 := B13_bz.out.frozen 2
        have c_bz3 := B13_bz.out.cell 3
        have f_bz3 := B13_bz.out.frozen 3
        have c_bz4 := B13_bz.out.cell 4
        have f_bz4 := B13_bz.out.frozen 4
        have c_bz5 := B13_bz.out.cell 5
        have f_bz5 := B13_bz.out.frozen 5
        have c_bz6 := B13_bz.out.cell 6
        have f_bz6 := B13_bz.out.frozen 6
        have l_bz := B13_bz.out.lt
        go_wp2_with fail
        clear c_bx0 c_bx1 c_bx2 c_bx3 c_bx4 c_bx5 c_bx6 l_bx c_bz0 f_bz0 c_bz1 f_bz1 c_bz2 f_bz2 c_bz3 f_bz3 c_bz4 f_bz4 c_bz5 f_bz5 c_bz6 f_bz6 l_bz
        have hszF := HB13.out.size
        have hbF : Below w.heap.size w (((((((W13.setCell ⟨w.heap.size + 1 + 1, 0, none⟩ (.int .i64 ep)).setCell ⟨w.heap.size + 1 + 1, 1, none⟩ (.int .i64 l)).setCell ⟨w.heap.size + 1 + 1, 2, none⟩ (.slice (some ⟨gi, 0, none⟩) is.length d1)).setCell ⟨w.heap.size + 1 + 1, 3, none⟩ (.slice (some ⟨gk, 0, none⟩) ks.length d3)).setCell ⟨w.heap.size + 1 + 1, 4, none⟩ (.slice (some ⟨gr, 0, none⟩) rs.length d5)).setCell ⟨w.heap.size + 1 + 1, 5, none⟩ (.int .i64 fw)).setCell ⟨w.heap.size + 1 + 1, 6, none⟩ (.int .i64 ba)) := (((((((HB13.out).setCell (by show w.heap.size ≤ w.heap.size + 1 + 1; omega) _).setCell (by show w.heap.size ≤ w.heap.size + 1 + 1; omega) _).setCell (by show w.heap.size ≤ w.heap.size + 1 + 1; omega) _).setCell (by show w.heap.size ≤ w.heap.size + 1 + 1; omega) _).setCell (by show w.heap.size ≤ w.heap.size + 1 + 1; omega) _).setCell (by show w.heap.size ≤ w.heap.size + 1 + 1; omega) _).setCell (by show w.heap.size ≤ w.heap.size + 1 + 1; omega) _
        have b_bxF : Blk (((((((W13.setCell ⟨w.heap.size + 1 + 1, 0, none⟩ (.int .i64 ep)).setCell ⟨w.heap.size + 1 + 1, 1, none⟩ (.int .i64 l)).setCell ⟨w.heap.size + 1 + 1, 2, none⟩ (.slice (some ⟨gi, 0, none⟩) is.length d1)).setCell ⟨w.heap.size + 1 + 1, 3, none⟩ (.slice (some ⟨gk, 0, none⟩) ks.length d3)).setCell ⟨w.heap.size + 1 + 1, 4, none⟩ (.slice (some ⟨gr, 0, none⟩) rs.length d5)).setCell ⟨w.heap.size + 1 + 1, 5, none⟩ (.int .i64 fw)).setCell ⟨w.heap.size + 1 + 1, 6, none⟩ (.int .i64 ba)) (w.heap.size) 26 #[.int .i64 ep, .int .i64 l, .slice (some ⟨gi, 0, none⟩) is.length d1, .slice (some ⟨gk, 0, none⟩) ks.length d3, .slice (some ⟨gr, 0, none⟩) rs.length d5, .int .i64 fw, .int .i64 ba] := (((((((B13_bx.out).far (p := ⟨w.heap.size + 1 + 1, 0, none⟩) (by show w.heap.size ≠ w.heap.size + 1 + 1; omega) _).far (p := ⟨w.heap.size + 1 + 1, 1, none⟩) (by show w.heap.size ≠ w.heap.size + 1 + 1; omega) _).far (p := ⟨w.heap.size + 1 + 1, 2, none⟩) (by show w.heap.size ≠ w.heap.size + 1 + 1; omega) _).far (p := ⟨w.heap.size + 1 + 1, 3, none⟩) (by show w.heap.size ≠ w.heap.size + 1 + 1; omega) _).far (p := ⟨w.heap.size + 1 + 1, 4, none⟩) (by show w.heap.size ≠ w.heap.size + 1 + 1; omega) _).far (p := ⟨w.heap.size + 1 + 1, 5, none⟩) (by show w.heap.size ≠ w.heap.size + 1 + 1; omega) _).far (p := ⟨w.heap.size + 1 + 1, 6, none⟩) (by show w.heap.size ≠ w.heap.size + 1 + 1; omega) _
        have b_beF : Blk (((((((W13.setCell ⟨w.heap.size + 1 + 1, 0, none⟩ (.int .i64 ep)).setCell ⟨w.heap.size + 1 + 1, 1, none⟩ (.int .i64 l)).setCell ⟨w.heap.size + 1 + 1, 2, none⟩ (.slice (some ⟨gi, 0, none⟩) is.length d1)).setCell ⟨w.heap.size + 1 + 1, 3, none⟩ (.slice (some ⟨gk, 0, none⟩) ks.length d3)).setCell ⟨w.heap.size + 1 + 1, 4, none⟩ (.slice (some ⟨gr, 0, none⟩) rs.length d5)).setCell ⟨w.heap.size + 1 + 1, 5, none⟩ (.int .i64 fw)).setCell ⟨w.heap.size + 1 + 1, 6, none⟩ (.int .i64 ba)) (w.heap.size + 1) 55 #[.int .i64 ep, .int .i64 pid, .int .i64 ver, .int .i64 seq, .int .i64 kind, .bool txn, .string text] := (((((((B13_be.out).far (p := ⟨w.heap.size + 1 + 1, 0, none⟩) (by show w.heap.size + 1 ≠ w.heap.size + 1 + 1; omega) _).far (p := ⟨w.heap.size + 1 + 1, 1, none⟩) (by show w.heap.size + 1 ≠ w.heap.size + 1 + 1; omega) _).far (p := ⟨w.heap.size + 1 + 1, 2, none⟩) (by show w.heap.size + 1 ≠ w.heap.size + 1 + 1; omega) _).far (p := ⟨w.heap.size + 1 + 1, 3, none⟩) (by show w.heap.size + 1 ≠ w.heap.size + 1 + 1; omega) _).far (p := ⟨w.heap.size + 1 + 1, 4, none⟩) (by show w.heap.size + 1 ≠ w.heap.size + 1 + 1; omega) _).far (p := ⟨w.heap.size + 1 + 1, 5, none⟩) (by show w.heap.size + 1 ≠ w.heap.size + 1 + 1; omega) _).far (p := ⟨w.heap.size + 1 + 1, 6, none⟩) (by show w.heap.size + 1 ≠ w.heap.size + 1 + 1; omega) _
        have b_bzF : Blk (((((((W13.setCell ⟨w.heap.size + 1 + 1, 0, none⟩ (.int .i64 ep)).setCell ⟨w.heap.size + 1 + 1, 1, none⟩ (.int .i64 l)).setCell ⟨w.heap.size + 1 + 1, 2, none⟩ (.slice (some ⟨gi, 0, none⟩) is.length d1)).setCell ⟨w.heap.size + 1 + 1, 3, none⟩ (.slice (some ⟨gk, 0, none⟩) ks.length d3)).setCell ⟨w.heap.size + 1 + 1, 4, none⟩ (.slice (some ⟨gr, 0, none⟩) rs.length d5)).setCell ⟨w.heap.size + 1 + 1, 5, none⟩ (.int .i64 fw)).setCell ⟨w.heap.size + 1 + 1, 6, none⟩ (.int .i64 ba)) (w.heap.size + 1 + 1) 26 #[.int .i64 ep, .int .i64 l, .slice (some ⟨gi, 0, none⟩) is.length d1, .slice (some ⟨gk, 0, none⟩) ks.length d3, .slice (some ⟨gr, 0, none⟩) rs.length d5, .int .i64 fw, .int .i64 ba] := (((((((B13_bz.out).set_ 0 _).set_ 1 _).set_ 2 _).set_ 3 _).set_ 4 _).set_ 5 _).set_ 6 _
        have b_blF : Blk (((((((W13.setCell ⟨w.heap.size + 1 + 1, 0, none⟩ (.int .i64 ep)).setCell ⟨w.heap.size + 1 + 1, 1, none⟩ (.int .i64 l)).setCell ⟨w.heap.size + 1 + 1, 2, none⟩ (.slice (some ⟨gi, 0, none⟩) is.length d1)).setCell ⟨w.heap.size + 1 + 1, 3, none⟩ (.slice (some ⟨gk, 0, none⟩) ks.length d3)).setCell ⟨w.heap.size + 1 + 1, 4, none⟩ (.slice (some ⟨gr, 0, none⟩) rs.length d5)).setCell ⟨w.heap.size + 1 + 1, 5, none⟩ (.int .i64 fw)).setCell ⟨w.heap.size + 1 + 1, 6, none⟩ (.int .i64 ba)) (W10.heap.size) 42 #[.slice A6 lb.length c6, .int .i64 rs[l].synced] := (((((((B13_bl.out).far (p := ⟨w.heap.size + 1 + 1, 0, none⟩) (by show W10.heap.size ≠ w.heap.size + 1 + 1; omega) _).far (p := ⟨w.heap.size + 1 + 1, 1, none⟩) (by show W10.heap.size ≠ w.heap.size + 1 + 1; omega) _).far (p := ⟨w.heap.size + 1 + 1, 2, none⟩) (by show W10.heap.size ≠ w.heap.size + 1 + 1; omega) _).far (p := ⟨w.heap.size + 1 + 1, 3, none⟩) (by show W10.heap.size ≠ w.heap.size + 1 + 1; omega) _).far (p := ⟨w.heap.size + 1 + 1, 4, none⟩) (by show W10.heap.size ≠ w.heap.size + 1 + 1; omega) _).far (p := ⟨w.heap.size + 1 + 1, 5, none⟩) (by show W10.heap.size ≠ w.heap.size + 1 + 1; omega) _).far (p := ⟨w.heap.size + 1 + 1, 6, none⟩) (by show W10.heap.size ≠ w.heap.size + 1 + 1; omega) _
        have k_ownF := (((((((K13_own.out).under (a := ⟨w.heap.size + 1 + 1, 0, none⟩) (by (try dsimp only); omega) (.int .i64 ep)).under (a := ⟨w.heap.size + 1 + 1, 1, none⟩) (by (try dsimp only); omega) (.int .i64 l)).under (a := ⟨w.heap.size + 1 + 1, 2, none⟩) (by (try dsimp only); omega) (.slice (some ⟨gi, 0, none⟩) is.length d1)).under (a := ⟨w.heap.size + 1 + 1, 3, none⟩) (by (try dsimp only); omega) (.slice (some ⟨gk, 0, none⟩) ks.length d3)).under (a := ⟨w.heap.size + 1 + 1, 4, none⟩) (by (try dsimp only); omega) (.slice (some ⟨gr, 0, none⟩) rs.length d5)).under (a := ⟨w.heap.size + 1 + 1, 5, none⟩) (by (try dsimp only); omega) (.int .i64 fw)).under (a := ⟨w.heap.size + 1 + 1, 6, none⟩) (by (try dsimp only); omega) (.int .i64 ba)
        have hsm : PSm ⟨ep, (l : Int), is, ks, rs.set l { rs[l] with bytes := lb }, fw, ba⟩ := by
          refine ⟨HSM.out.isr, HSM.out.known, by simp only [List.length_set]; exact HSM.out.reps, fun u hu => ?_⟩
          rcases mem_set_cases hu with rfl | hu
          · exact HLBL.out
          · exact HSM.out.bytes u hu
        have y0 := b_bzF.cell 0
        have y1 := b_bzF.cell 1
        have y2 := b_bzF.cell 2
        have y3 := b_bzF.cell 3
        have y4 := b_bzF.cell 4
        have y5 := b_bzF.cell 5
        have y6 := b_bzF.cell 6
        exact bodyPost_ret (v := .tuple #[.agg #[.int .i64 ep, .int .i64 l, .slice (some ⟨gi, 0, none⟩) is.length d1, .slice (some ⟨gk, 0, none⟩) ks.length d3, .slice (some ⟨gr, 0, none⟩) rs.length d5, .int .i64 fw, .int .i64 ba], .int .i64 es.length, .int .i64 0]) (by simp [results, Try.results67, go_sem, y0, y1, y2, y3, y4, y5, y6]) rfl (⟨_, rfl, k_ownF.pv hsm, hbF⟩)
      · go_simp
        have hb : Below W9.heap.size W9 (W9.alloc (.cells #[.slice none 0 0, .int .i64 0] 42)) := (Below.refl _ _).alloc (Nat.le_refl _) _
        have r1n := (hb.cell (p := ⟨gr, l * 4 + 1, none⟩) (show gr < _ by omega)).trans r1
        have r2n := (hb.cell (p := ⟨gr, l * 4 + 2, none⟩) (show gr < _ by omega)).trans r2
        clear r1 r2
        have r1 := r1n
        have r2 := r2n
        clear r1n r2n
        clear hb
        refine hK.out _ _ ?_ (fun hHeld => ?_)
        · exact ⟨((B9_be.out).alloc _).cell 0, ((B9_be.out).alloc _).cell 1, ((B9_be.out).alloc _).cell 2, ((B9_be.out).alloc _).cell 3, ((B9_be.out).alloc _).cell 4, ((B9_be.out).alloc _).cell 5, ((B9_be.out).alloc _).cell 6, r1, r2⟩
        clear hK K
        try simp only [Act.put, List.getElem_toArray, List.getElem_cons_zero, List.getElem_cons_succ, List.setIfInBounds_toArray, List.set_cons_zero, List.set_cons_succ]
        have hsz10 := HB9.out.size
        have hb10 : Below w.heap.size w (W9.alloc (.cells #[.slice none 0 0, .int .i64 0] 42)) := (HB9.out).alloc (by first | omega | (simp; done) | (simp; omega)) _
        have hal10 : Below W9.heap.size W9 (W9.alloc (.cells #[.slice none 0 0, .int .i64 0] 42)) := (Below.refl _ _).alloc (by first | omega | (simp; done) | (simp; omega)) _
        have b_bx10 : Blk (W9.alloc (.cells #[.slice none 0 0, .int .i64 0] 42)) (w.heap.size) 26 #[.int .i64 ep, .int .i64 l, .slice (some ⟨gi, 0, none⟩) is.length d1, .slice (some ⟨gk, 0, none⟩) ks.length d3, .slice (some ⟨gr, 0, none⟩) rs.length d5, .int .i64 fw, .int .i64 ba] := (B9_bx.out).alloc _
        have b_be10 : Blk (W9.alloc (.cells #[.slice none 0 0, .int .i64 0] 42)) (w.heap.size + 1) 55 #[.int .i64 ep, .int .i64 pid, .int .i64 ver, .int .i64 seq, .int .i64 kind, .bool txn, .string text] := (B9_be.out).alloc _
        have b_bz10 : Blk (W9.alloc (.cells #[.slice none 0 0, .int .i64 0] 42)) (w.heap.size + 1 + 1) 26 #[.int .i64 0, .int .i64 0, .slice none 0 0, .slice none 0 0, .slice none 0 0, .int .i64 0, .int .i64 0] := (B9_bz.out).alloc _
        have b_bl10 : Blk (W9.alloc (.cells #[.slice none 0 0, .int .i64 0] 42)) (W9.heap.size) 42 #[.slice none 0 0, .int .i64 0] := Blk.new_ _ 42 #[.slice none 0 0, .int .i64 0] (by first | rfl | (simp; done) | (simp; omega))
        have k_own10 := (K9_own.out).alloc (.cells #[.slice none 0 0, .int .i64 0] 42)
        have k_en10 := (K9_en.out).alloc (.cells #[.slice none 0 0, .int .i64 0] 42)
        have hz10 : W9.heap.size + 1 ≤ (W9.alloc (.cells #[.slice none 0 0, .int .i64 0] 42)).heap.size := by first | omega | (simp; done) | (simp; omega)
        generalize W9.alloc (.cells #[.slice none 0 0, .int .i64 0] 42) = W10 at *
        have HB10 := Lib.hid hb10
        have B10_bx := Lib.hid b_bx10
        have B10_be := Lib.hid b_be10
        have B10_bz := Lib.hid b_bz10
        have B10_bl := Lib.hid b_bl10
        have K10_own := Lib.hid k_own10
        have K10_en := Lib.hid k_en10
        clear hb10 b_bx10 b_be10 b_bz10 b_bl10 k_own10 k_en10
        clear B9_bx B9_be B9_bz HB9 K9_own K9_en
        refine wpAnyH_ready (rs := [5]) (by kernel_rfl) (by simp) (AllReadyH.cons rfl (fun K hK => ?_) AllReadyH.nil)
        go_simp
        go_at_call 45
        obtain ⟨A8b, c8b, ⟨-, r1b, -, -⟩, -, rby⟩ := K10_own.out.repAt l hll
        (try simp only at r1b rby)
        obtain ⟨rfl, rfl⟩ : A8b = A8 ∧ c8b = c8 := by
          rw [r1] at r1b
          simp only [Option.some.injEq, Value.slice.injEq, true_and] at r1b
          exact ⟨r1b.1.symm, r1b.2.symm⟩
        have RBY2 := Lib.hid rby
        clear r1b rby
        refine (append_ok _ rs[l].bytes rs[l].synced ⟨ep, pid, ver, seq, kind, txn, text⟩ _ RBY2.out HLG.out HOKX.out HFL.out).mono ?_
        rintro e W11 ⟨v6, rfl, hp6, hb⟩
        dsimp only at hp6
        rw [HLB.out] at hp6
        obtain ⟨A6, c6, rfl, hc6⟩ := (Sl.of_own hp6).form
        have HLO := Lib.hid (LgO.mk hp6)
        clear hp6 RBY2
        have hb11 : Below w.heap.size w W11 := below_then HB10.out hb
        have b_bx11 := B10_bx.out.below hb B10_bx.out.lt
        have b_be11 := B10_be.out.below hb B10_be.out.lt
        have b_bz11 := B10_bz.out.below hb B10_bz.out.lt
        have b_bl11 := B10_bl.out.below hb B10_bl.out.lt
        have k_own11 := K10_own.out.keep hb
        have k_en11 := K10_en.out.keep hb
        have hz11 := hb.size
        have HB11 := Lib.hid hb11
        have B11_bx := Lib.hid b_bx11
        have B11_be := Lib.hid b_be11
        have B11_bz := Lib.hid b_bz11
        have B11_bl := Lib.hid b_bl11
        have K11_own := Lib.hid k_own11
        have K11_en := Lib.hid k_en11
        clear hb11 b_bx11 b_be11 b_bz11 b_bl11 k_own11 k_en11
        clear B10_bx B10_be B10_bz B10_bl HB10 K10_own K10_en
        have r1n := (hb.cell (p := ⟨gr, l * 4 + 1, none⟩) (show gr < _ by omega)).trans r1
        have r2n := (hb.cell (p := ⟨gr, l * 4 + 2, none⟩) (show gr < _ by omega)).trans r2
        clear r1 r2
        have r1 := r1n
        have r2 := r2n
        clear r1n r2n
        refine hK.out _ _ ?_ (fun hHeld => ?_)
        · exact ⟨(B11_be.out).cell 0, (B11_be.out).cell 1, (B11_be.out).cell 2, (B11_be.out).cell 3, (B11_be.out).cell 4, (B11_be.out).cell 5, (B11_be.out).cell 6, r1, r2⟩
        clear hK K
        refine wpAnyH_take (i := 6) (v := ?_) rfl (by kernel_rfl) (by kernel_rfl) (by kernel_rfl) (fun _ _ _ h => h) (Or.inl ⟨by rfl, ?_⟩) (by assumption) ?_
        rotate_left
        · intro w0 hSw
          (try dsimp only at hSw)
          go_simp
          all_goals with_reducible rfl
        try simp only [Act.put, List.getElem_toArray, List.getElem_cons_zero, List.getElem_cons_succ, List.setIfInBounds_toArray, List.set_cons_zero, List.set_cons_succ]
        refine wpAnyH_take (i := 7) (v := ?_) rfl (by kernel_rfl) (by kernel_rfl) (by kernel_rfl) (fun _ _ _ h => h) (Or.inl ⟨by rfl, ?_⟩) (by assumption) ?_
        rotate_left
        · intro w0 hSw
          (try dsimp only at hSw)
          go_simp
          all_goals with_reducible rfl
        try simp only [Act.put, List.getElem_toArray, List.getElem_cons_zero, List.getElem_cons_succ, List.setIfInBounds_toArray, List.set_cons_zero, List.set_cons_succ]
        refine wpAnyH_take (i := 8) (v := ?_) rfl (by kernel_rfl) (by kernel_rfl) (by kernel_rfl) (fun _ _ _ h => h) (Or.inl ⟨by rfl, ?_⟩) (by assumption) ?_
        rotate_left
        · intro w0 hSw
          (try dsimp only at hSw)
          go_simp
          all_goals with_reducible rfl
        try simp only [Act.put, List.getElem_toArray, List.getElem_cons_zero, List.getElem_cons_succ, List.setIfInBounds_toArray, List.set_cons_zero, List.set_cons_succ]
        have c_bl0 := B11_bl.out.cell 0
        have f_bl0 := B11_bl.out.frozen 0
        have c_bl1 := B11_bl.out.cell 1
        have f_bl1 := B11_bl.out.frozen 1
        have l_bl := B11_bl.out.lt
        have r1m := r1
        have r2m := r2
        refine wpAnyH_ready (rs := [10]) (by kernel_rfl) (by simp) (AllReadyH.cons rfl (fun K hK => ?_) AllReadyH.nil)
        go_simp
        have hne : gr ≠ W9.heap.size := by omega
        have e1 := cell_setCell_far_ W11 gr (W9.heap.size) (l * 4 + 1) 0 1 (.slice A6 lb.length c6) (.int .i64 rs[l].synced) hne
        have e2 := cell_setCell_far_ W11 gr (W9.heap.size) (l * 4 + 2) 0 1 (.slice A6 lb.length c6) (.int .i64 rs[l].synced) hne
        have r1 := e1.trans r1m
        have r2 := e2.trans r2m
        refine hK.out _ _ ?_ (fun hHeld => ?_)
        · exact ⟨(((B11_be.out).far (p := ⟨W9.heap.size, 0, none⟩) (by show w.heap.size + 1 ≠ W9.heap.size; omega) _).far (p := ⟨W9.heap.size, 1, none⟩) (by show w.heap.size + 1 ≠ W9.heap.size; omega) _).cell 0, (((B11_be.out).far (p := ⟨W9.heap.size, 0, none⟩) (by show w.heap.size + 1 ≠ W9.heap.size; omega) _).far (p := ⟨W9.heap.size, 1, none⟩) (by show w.heap.size + 1 ≠ W9.heap.size; omega) _).cell 1, (((B11_be.out).far (p := ⟨W9.heap.size, 0, none⟩) (by show w.heap.size + 1 ≠ W9.heap.size; omega) _).far (p := ⟨W9.heap.size, 1, none⟩) (by show w.heap.size + 1 ≠ W9.heap.size; omega) _).cell 2, (((B11_be.out).far (p := ⟨W9.heap.size, 0, none⟩) (by show w.heap.size + 1 ≠ W9.heap.size; omega) _).far (p := ⟨W9.heap.size, 1, none⟩) (by show w.heap.size + 1 ≠ W9.heap.size; omega) _).cell 3, (((B11_be.out).far (p := ⟨W9.heap.size, 0, none⟩) (by show w.heap.size + 1 ≠ W9.heap.size; omega) _).far (p := ⟨W9.heap.size, 1, none⟩) (by show w.heap.size + 1 ≠ W9.heap.size; omega) _).cell 4, (((B11_be.out).far (p := ⟨W9.heap.size, 0, none⟩) (by show w.heap.size + 1 ≠ W9.heap.size; omega) _).far (p := ⟨W9.heap.size, 1, none⟩) (by show w.heap.size + 1 ≠ W9.heap.size; omega) _).cell 5, (((B11_be.out).far (p := ⟨W9.heap.size, 0, none⟩) (by show w.heap.size + 1 ≠ W9.heap.size; omega) _).far (p := ⟨W9.heap.size, 1, none⟩) (by show w.heap.size + 1 ≠ W9.heap.size; omega) _).cell 6, r1, r2⟩
        clear hK K r1 r2 e1 e2 hne r1m r2m
        clear c_bl0 f_bl0 c_bl1 f_bl1 l_bl
        refine wpAnyH_take (i := 11) (v := ?_) rfl (by kernel_rfl) (by kernel_rfl) (by kernel_rfl) (fun _ _ _ h => h) (Or.inl ⟨by rfl, ?_⟩) (by assumption) ?_
        rotate_left
        · intro w0 hSw
          (try dsimp only at hSw)
          go_simp
          all_goals with_reducible rfl
        try simp only [Act.put, List.getElem_toArray, List.getElem_cons_zero, List.getElem_cons_succ, List.setIfInBounds_toArray, List.set_cons_zero, List.set_cons_succ]
        refine wpAnyH_done (by kernel_rfl) ?_ _
        go_upto_region 28 with fail
        have hsz12 := HB11.out.size
        have hb12 : Below w.heap.size w ((W11.setCell ⟨W9.heap.size, 0, none⟩ (.slice A6 lb.length c6)).setCell ⟨W9.heap.size, 1, none⟩ (.int .i64 rs[l].synced)) := ((HB11.out).setCell (by show w.heap.size ≤ W9.heap.size; omega) _).setCell (by show w.heap.size ≤ W9.heap.size; omega) _
        have b_bx12 : Blk ((W11.setCell ⟨W9.heap.size, 0, none⟩ (.slice A6 lb.length c6)).setCell ⟨W9.heap.size, 1, none⟩ (.int .i64 rs[l].synced)) (w.heap.size) 26 #[.int .i64 ep, .int .i64 l, .slice (some ⟨gi, 0, none⟩) is.length d1, .slice (some ⟨gk, 0, none⟩) ks.length d3, .slice (some ⟨gr, 0, none⟩) rs.length d5, .int .i64 fw, .int .i64 ba] := ((B11_bx.out).far (p := ⟨W9.heap.size, 0, none⟩) (by show w.heap.size ≠ W9.heap.size; omega) _).far (p := ⟨W9.heap.size, 1, none⟩) (by show w.heap.size ≠ W9.heap.size; omega) _
        have b_be12 : Blk ((W11.setCell ⟨W9.heap.size, 0, none⟩ (.slice A6 lb.length c6)).setCell ⟨W9.heap.size, 1, none⟩ (.int .i64 rs[l].synced)) (w.heap.size + 1) 55 #[.int .i64 ep, .int .i64 pid, .int .i64 ver, .int .i64 seq, .int .i64 kind, .bool txn, .string text] := ((B11_be.out).far (p := ⟨W9.heap.size, 0, none⟩) (by show w.heap.size + 1 ≠ W9.heap.size; omega) _).far (p := ⟨W9.heap.size, 1, none⟩) (by show w.heap.size + 1 ≠ W9.heap.size; omega) _
        have b_bz12 : Blk ((W11.setCell ⟨W9.heap.size, 0, none⟩ (.slice A6 lb.length c6)).setCell ⟨W9.heap.size, 1, none⟩ (.int .i64 rs[l].synced)) (w.heap.size + 1 + 1) 26 #[.int .i64 0, .int .i64 0, .slice none 0 0, .slice none 0 0, .slice none 0 0, .int .i64 0, .int .i64 0] := ((B11_bz.out).far (p := ⟨W9.heap.size, 0, none⟩) (by show w.heap.size + 1 + 1 ≠ W9.heap.size; omega) _).far (p := ⟨W9.heap.size, 1, none⟩) (by show w.heap.size + 1 + 1 ≠ W9.heap.size; omega) _
        have b_bl12 : Blk ((W11.setCell ⟨W9.heap.size, 0, none⟩ (.slice A6 lb.length c6)).setCell ⟨W9.heap.size, 1, none⟩ (.int .i64 rs[l].synced)) (W9.heap.size) 42 #[.slice A6 lb.length c6, .int .i64 rs[l].synced] := ((B11_bl.out).set_ 0 _).set_ 1 _
        have k_own12 := ((K11_own.out.blkL B11_bl.out 0 (.slice A6 lb.length c6)).blkL (B11_bl.out.set_ 0 (.slice A6 lb.length c6)) 1 (.int .i64 rs[l].synced))
        have k_en12 := ((K11_en.out.blkL B11_bl.out 0 (.slice A6 lb.length c6)).blkL (B11_bl.out.set_ 0 (.slice A6 lb.length c6)) 1 (.int .i64 rs[l].synced))
        have k_lg12 := ((HLO.out.blkL B11_bl.out 0 (.slice A6 lb.length c6)).blkL (B11_bl.out.set_ 0 (.slice A6 lb.length c6)) 1 (.int .i64 rs[l].synced))
        have hz12 : W11.heap.size + 0 ≤ ((W11.setCell ⟨W9.heap.size, 0, none⟩ (.slice A6 lb.length c6)).setCell ⟨W9.heap.size, 1, none⟩ (.int .i64 rs[l].synced)).heap.size := by first | omega | (simp; done) | (simp; omega)
        generalize (W11.setCell ⟨W9.heap.size, 0, none⟩ (.slice A6 lb.length c6)).setCell ⟨W9.heap.size, 1, none⟩ (.int .i64 rs[l].synced) = W12 at *
        have HB12 := Lib.hid hb12
        have B12_bx := Lib.hid b_bx12
        have B12_be := Lib.hid b_be12
        have B12_bz := Lib.hid b_bz12
        have B12_bl := Lib.hid b_bl12
        have K12_own := Lib.hid k_own12
        have K12_en := Lib.hid k_en12
        have K12_lg := Lib.hid k_lg12
        clear hb12 b_bx12 b_be12 b_bz12 b_bl12 k_own12 k_en12 k_lg12
        clear B11_bx B11_be B11_bz B11_bl HB11 K11_own K11_en HLO
        have c_bx0 := B12_bx.out.cell 0
        have c_bx1 := B12_bx.out.cell 1
        have c_bx2 := B12_bx.out.cell 2
        have c_bx3 := B12_bx.out.cell 3
        have c_bx4 := B12_bx.out.cell 4
        have c_bx5 := B12_bx.out.cell 5
        have c_bx6 := B12_bx.out.cell 6
        have l_bx := B12_bx.out.lt
        have c_bl0 := B12_bl.out.cell 0
        have c_bl1 := B12_bl.out.cell 1
        have l_bl := B12_bl.out.lt
        obtain ⟨A8, c8, ⟨s0, s1, s2, s3⟩, ⟨-, sf1, sf2, -⟩, -⟩ := K12_own.out.repAt l hll
        go_upto_region 31 with fail
        clear c_bx0 c_bx1 c_bx2 c_bx3 c_bx4 c_bx5 c_bx6 l_bx c_bl0 c_bl1 l_bl s0 s1 s2 s3 sf1 sf2
        have hsz13 := HB12.out.size
        have hb13 : Below w.heap.size w ((W12.setCell ⟨gr, l * 4 + 1, none⟩ (.slice A6 lb.length c6)).setCell ⟨gr, l * 4 + 2, none⟩ (.int .i64 rs[l].synced)) := ((HB12.out).setCell (by show w.heap.size ≤ gr; omega) _).setCell (by show w.heap.size ≤ gr; omega) _
        have b_bx13 : Blk ((W12.setCell ⟨gr, l * 4 + 1, none⟩ (.slice A6 lb.length c6)).setCell ⟨gr, l * 4 + 2, none⟩ (.int .i64 rs[l].synced)) (w.heap.size) 26 #[.int .i64 ep, .int .i64 l, .slice (some ⟨gi, 0, none⟩) is.length d1, .slice (some ⟨gk, 0, none⟩) ks.length d3, .slice (some ⟨gr, 0, none⟩) rs.length d5, .int .i64 fw, .int .i64 ba] := ((B12_bx.out).far (p := ⟨gr, l * 4 + 1, none⟩) (by show w.heap.size ≠ gr; omega) _).far (p := ⟨gr, l * 4 + 2, none⟩) (by show w.heap.size ≠ gr; omega) _
        have b_be13 : Blk ((W12.setCell ⟨gr, l * 4 + 1, none⟩ (.slice A6 lb.length c6)).setCell ⟨gr, l * 4 + 2, none⟩ (.int .i64 rs[l].synced)) (w.heap.size + 1) 55 #[.int .i64 ep, .int .i64 pid, .int .i64 ver, .int .i64 seq, .int .i64 kind, .bool txn, .string text] := ((B12_be.out).far (p := ⟨gr, l * 4 + 1, none⟩) (by show w.heap.size + 1 ≠ gr; omega) _).far (p := ⟨gr, l * 4 + 2, none⟩) (by show w.heap.size + 1 ≠ gr; omega) _
        have b_bz13 : Blk ((W12.setCell ⟨gr, l * 4 + 1, none⟩ (.slice A6 lb.length c6)).setCell ⟨gr, l * 4 + 2, none⟩ (.int .i64 rs[l].synced)) (w.heap.size + 1 + 1) 26 #[.int .i64 0, .int .i64 0, .slice none 0 0, .slice none 0 0, .slice none 0 0, .int .i64 0, .int .i64 0] := ((B12_bz.out).far (p := ⟨gr, l * 4 + 1, none⟩) (by show w.heap.size + 1 + 1 ≠ gr; omega) _).far (p := ⟨gr, l * 4 + 2, none⟩) (by show w.heap.size + 1 + 1 ≠ gr; omega) _
        have b_bl13 : Blk ((W12.setCell ⟨gr, l * 4 + 1, none⟩ (.slice A6 lb.length c6)).setCell ⟨gr, l * 4 + 2, none⟩ (.int .i64 rs[l].synced)) (W9.heap.size) 42 #[.slice A6 lb.length c6, .int .i64 rs[l].synced] := ((B12_bl.out).far (p := ⟨gr, l * 4 + 1, none⟩) (by show W9.heap.size ≠ gr; omega) _).far (p := ⟨gr, l * 4 + 2, none⟩) (by show W9.heap.size ≠ gr; omega) _
        have k_own13 := (K12_own.out.setLog l hll rs[l].synced (own_base K12_lg.out.own (by omega)))
        have hz13 : W12.heap.size + 0 ≤ ((W12.setCell ⟨gr, l * 4 + 1, none⟩ (.slice A6 lb.length c6)).setCell ⟨gr, l * 4 + 2, none⟩ (.int .i64 rs[l].synced)).heap.size := by first | omega | (simp; done) | (simp; omega)
        generalize (W12.setCell ⟨gr, l * 4 + 1, none⟩ (.slice A6 lb.length c6)).setCell ⟨gr, l * 4 + 2, none⟩ (.int .i64 rs[l].synced) = W13 at *
        have HB13 := Lib.hid hb13
        have B13_bx := Lib.hid b_bx13
        have B13_be := Lib.hid b_be13
        have B13_bz := Lib.hid b_bz13
        have B13_bl := Lib.hid b_bl13
        have K13_own := Lib.hid k_own13
        clear hb13 b_bx13 b_be13 b_bz13 b_bl13 k_own13
        clear B12_bx B12_be B12_bz B12_bl HB12 K12_own
        have c_bx0 := B13_bx.out.cell 0
        have c_bx1 := B13_bx.out.cell 1
        have c_bx2 := B13_bx.out.cell 2
        have c_bx3 := B13_bx.out.cell 3
        have c_bx4 := B13_bx.out.cell 4
        have c_bx5 := B13_bx.out.cell 5
        have c_bx6 := B13_bx.out.cell 6
        have l_bx := B13_bx.out.lt
        have c_bz0 := B13_bz.out.cell 0
        have f_bz0 := B13_bz.out.frozen 0
        have c_bz1 := B13_bz.out.cell 1
        have f_bz1 := B13_bz.out.frozen 1
        have c_bz2 := B13_bz.out.cell 2
        have f_bz2 := B13_bz.out.frozen 2
        have c_bz3 := B13_bz.out.cell 3
        have f_bz3 := B13_bz.out.frozen 3
        have c_bz4 := B13_bz.out.cell 4
        have f_bz4 := B13_bz.out.frozen 4
        have c_bz5 := B13_bz.out.cell 5
        have f_bz5 := B13_bz.out.frozen 5
        have c_bz6 := B13_bz.out.cell 6
        have f_bz6 := B13_bz.out.frozen 6
        have l_bz := B13_bz.out.lt
        go_wp2_with fail
        clear c_bx0 c_bx1 c_bx2 c_bx3 c_bx4 c_bx5 c_bx6 l_bx c_bz0 f_bz0 c_bz1 f_bz1 c_bz2 f_bz2 c_bz3 f_bz3 c_bz4 f_bz4 c_bz5 f_bz5 c_bz6 f_bz6 l_bz
        have hszF := HB13.out.size
        have hbF : Below w.heap.size w (((((((W13.setCell ⟨w.heap.size + 1 + 1, 0, none⟩ (.int .i64 ep)).setCell ⟨w.heap.size + 1 + 1, 1, none⟩ (.int .i64 l)).setCell ⟨w.heap.size + 1 + 1, 2, none⟩ (.slice (some ⟨gi, 0, none⟩) is.length d1)).setCell ⟨w.heap.size + 1 + 1, 3, none⟩ (.slice (some ⟨gk, 0, none⟩) ks.length d3)).setCell ⟨w.heap.size + 1 + 1, 4, none⟩ (.slice (some ⟨gr, 0, none⟩) rs.length d5)).setCell ⟨w.heap.size + 1 + 1, 5, none⟩ (.int .i64 fw)).setCell ⟨w.heap.size + 1 + 1, 6, none⟩ (.int .i64 ba)) := (((((((HB13.out).setCell (by show w.heap.size ≤ w.heap.size + 1 + 1; omega) _).setCell (by show w.heap.size ≤ w.heap.size + 1 + 1; omega) _).setCell (by show w.heap.size ≤ w.heap.size + 1 + 1; omega) _).setCell (by show w.heap.size ≤ w.heap.size + 1 + 1; omega) _).setCell (by show w.heap.size ≤ w.heap.size + 1 + 1; omega) _).setCell (by show w.heap.size ≤ w.heap.size + 1 + 1; omega) _).setCell (by show w.heap.size ≤ w.heap.size + 1 + 1; omega) _
        have b_bxF : Blk (((((((W13.setCell ⟨w.heap.size + 1 + 1, 0, none⟩ (.int .i64 ep)).setCell ⟨w.heap.size + 1 + 1, 1, none⟩ (.int .i64 l)).setCell ⟨w.heap.size + 1 + 1, 2, none⟩ (.slice (some ⟨gi, 0, none⟩) is.length d1)).setCell ⟨w.heap.size + 1 + 1, 3, none⟩ (.slice (some ⟨gk, 0, none⟩) ks.length d3)).setCell ⟨w.heap.size + 1 + 1, 4, none⟩ (.slice (some ⟨gr, 0, none⟩) rs.length d5)).setCell ⟨w.heap.size + 1 + 1, 5, none⟩ (.int .i64 fw)).setCell ⟨w.heap.size + 1 + 1, 6, none⟩ (.int .i64 ba)) (w.heap.size) 26 #[.int .i64 ep, .int .i64 l, .slice (some ⟨gi, 0, none⟩) is.length d1, .slice (some ⟨gk, 0, none⟩) ks.length d3, .slice (some ⟨gr, 0, none⟩) rs.length d5, .int .i64 fw, .int .i64 ba] := (((((((B13_bx.out).far (p := ⟨w.heap.size + 1 + 1, 0, none⟩) (by show w.heap.size ≠ w.heap.size + 1 + 1; omega) _).far (p := ⟨w.heap.size + 1 + 1, 1, none⟩) (by show w.heap.size ≠ w.heap.size + 1 + 1; omega) _).far (p := ⟨w.heap.size + 1 + 1, 2, none⟩) (by show w.heap.size ≠ w.heap.size + 1 + 1; omega) _).far (p := ⟨w.heap.size + 1 + 1, 3, none⟩) (by show w.heap.size ≠ w.heap.size + 1 + 1; omega) _).far (p := ⟨w.heap.size + 1 + 1, 4, none⟩) (by show w.heap.size ≠ w.heap.size + 1 + 1; omega) _).far (p := ⟨w.heap.size + 1 + 1, 5, none⟩) (by show w.heap.size ≠ w.heap.size + 1 + 1; omega) _).far (p := ⟨w.heap.size + 1 + 1, 6, none⟩) (by show w.heap.size ≠ w.heap.size + 1 + 1; omega) _
        have b_beF : Blk (((((((W13.setCell ⟨w.heap.size + 1 + 1, 0, none⟩ (.int .i64 ep)).setCell ⟨w.heap.size + 1 + 1, 1, none⟩ (.int .i64 l)).setCell ⟨w.heap.size + 1 + 1, 2, none⟩ (.slice (some ⟨gi, 0, none⟩) is.length d1)).setCell ⟨w.heap.size + 1 + 1, 3, none⟩ (.slice (some ⟨gk, 0, none⟩) ks.length d3)).setCell ⟨w.heap.size + 1 + 1, 4, none⟩ (.slice (some ⟨gr, 0, none⟩) rs.length d5)).setCell ⟨w.heap.size + 1 + 1, 5, none⟩ (.int .i64 fw)).setCell ⟨w.heap.size + 1 + 1, 6, none⟩ (.int .i64 ba)) (w.heap.size + 1) 55 #[.int .i64 ep, .int .i64 pid, .int .i64 ver, .int .i64 seq, .int .i64 kind, .bool txn, .string text] := (((((((B13_be.out).far (p := ⟨w.heap.size + 1 + 1, 0, none⟩) (by show w.heap.size + 1 ≠ w.heap.size + 1 + 1; omega) _).far (p := ⟨w.heap.size + 1 + 1, 1, none⟩) (by show w.heap.size + 1 ≠ w.heap.size + 1 + 1; omega) _).far (p := ⟨w.heap.size + 1 + 1, 2, none⟩) (by show w.heap.size + 1 ≠ w.heap.size + 1 + 1; omega) _).far (p := ⟨w.heap.size + 1 + 1, 3, none⟩) (by show w.heap.size + 1 ≠ w.heap.size + 1 + 1; omega) _).far (p := ⟨w.heap.size + 1 + 1, 4, none⟩) (by show w.heap.size + 1 ≠ w.heap.size + 1 + 1; omega) _).far (p := ⟨w.heap.size + 1 + 1, 5, none⟩) (by show w.heap.size + 1 ≠ w.heap.size + 1 + 1; omega) _).far (p := ⟨w.heap.size + 1 + 1, 6, none⟩) (by show w.heap.size + 1 ≠ w.heap.size + 1 + 1; omega) _
        have b_bzF : Blk (((((((W13.setCell ⟨w.heap.size + 1 + 1, 0, none⟩ (.int .i64 ep)).setCell ⟨w.heap.size + 1 + 1, 1, none⟩ (.int .i64 l)).setCell ⟨w.heap.size + 1 + 1, 2, none⟩ (.slice (some ⟨gi, 0, none⟩) is.length d1)).setCell ⟨w.heap.size + 1 + 1, 3, none⟩ (.slice (some ⟨gk, 0, none⟩) ks.length d3)).setCell ⟨w.heap.size + 1 + 1, 4, none⟩ (.slice (some ⟨gr, 0, none⟩) rs.length d5)).setCell ⟨w.heap.size + 1 + 1, 5, none⟩ (.int .i64 fw)).setCell ⟨w.heap.size + 1 + 1, 6, none⟩ (.int .i64 ba)) (w.heap.size + 1 + 1) 26 #[.int .i64 ep, .int .i64 l, .slice (some ⟨gi, 0, none⟩) is.length d1, .slice (some ⟨gk, 0, none⟩) ks.length d3, .slice (some ⟨gr, 0, none⟩) rs.length d5, .int .i64 fw, .int .i64 ba] := (((((((B13_bz.out).set_ 0 _).set_ 1 _).set_ 2 _).set_ 3 _).set_ 4 _).set_ 5 _).set_ 6 _
        have b_blF : Blk (((((((W13.setCell ⟨w.heap.size + 1 + 1, 0, none⟩ (.int .i64 ep)).setCell ⟨w.heap.size + 1 + 1, 1, none⟩ (.int .i64 l)).setCell ⟨w.heap.size + 1 + 1, 2, none⟩ (.slice (some ⟨gi, 0, none⟩) is.length d1)).setCell ⟨w.heap.size + 1 + 1, 3, none⟩ (.slice (some ⟨gk, 0, none⟩) ks.length d3)).setCell ⟨w.heap.size + 1 + 1, 4, none⟩ (.slice (some ⟨gr, 0, none⟩) rs.length d5)).setCell ⟨w.heap.size + 1 + 1, 5, none⟩ (.int .i64 fw)).setCell ⟨w.heap.size + 1 + 1, 6, none⟩ (.int .i64 ba)) (W9.heap.size) 42 #[.slice A6 lb.length c6, .int .i64 rs[l].synced] := (((((((B13_bl.out).far (p := ⟨w.heap.size + 1 + 1, 0, none⟩) (by show W9.heap.size ≠ w.heap.size + 1 + 1; omega) _).far (p := ⟨w.heap.size + 1 + 1, 1, none⟩) (by show W9.heap.size ≠ w.heap.size + 1 + 1; omega) _).far (p := ⟨w.heap.size + 1 + 1, 2, none⟩) (by show W9.heap.size ≠ w.heap.size + 1 + 1; omega) _).far (p := ⟨w.heap.size + 1 + 1, 3, none⟩) (by show W9.heap.size ≠ w.heap.size + 1 + 1; omega) _).far (p := ⟨w.heap.size + 1 + 1, 4, none⟩) (by show W9.heap.size ≠ w.heap.size + 1 + 1; omega) _).far (p := ⟨w.heap.size + 1 + 1, 5, none⟩) (by show W9.heap.size ≠ w.heap.size + 1 + 1; omega) _).far (p := ⟨w.heap.size + 1 + 1, 6, none⟩) (by show W9.heap.size ≠ w.heap.size + 1 + 1; omega) _
        have k_ownF := (((((((K13_own.out).under (a := ⟨w.heap.size + 1 + 1, 0, none⟩) (by (try dsimp only); omega) (.int .i64 ep)).under (a := ⟨w.heap.size + 1 + 1, 1, none⟩) (by (try dsimp only); omega) (.int .i64 l)).under (a := ⟨w.heap.size + 1 + 1, 2, none⟩) (by (try dsimp only); omega) (.slice (some ⟨gi, 0, none⟩) is.length d1)).under (a := ⟨w.heap.size + 1 + 1, 3, none⟩) (by (try dsimp only); omega) (.slice (some ⟨gk, 0, none⟩) ks.length d3)).under (a := ⟨w.heap.size + 1 + 1, 4, none⟩) (by (try dsimp only); omega) (.slice (some ⟨gr, 0, none⟩) rs.length d5)).under (a := ⟨w.heap.size + 1 + 1, 5, none⟩) (by (try dsimp only); omega) (.int .i64 fw)).under (a := ⟨w.heap.size + 1 + 1, 6, none⟩) (by (try dsimp only); omega) (.int .i64 ba)
        have hsm : PSm ⟨ep, (l : Int), is, ks, rs.set l { rs[l] with bytes := lb }, fw, ba⟩ := by
          refine ⟨HSM.out.isr, HSM.out.known, by simp only [List.length_set]; exact HSM.out.reps, fun u hu => ?_⟩
          rcases mem_set_cases hu with rfl | hu
          · exact HLBL.out
          · exact HSM.out.bytes u hu
        have y0 := b_bzF.cell 0
        have y1 := b_bzF.cell 1
        have y2 := b_bzF.cell 2
        have y3 := b_bzF.cell 3
        have y4 := b_bzF.cell 4
        have y5 := b_bzF.cell 5
        have y6 := b_bzF.cell 6
        exact bodyPost_ret (v := .tuple #[.agg #[.int .i64 ep, .int .i64 l, .slice (some ⟨gi, 0, none⟩) is.length d1, .slice (some ⟨gk, 0, none⟩) ks.length d3, .slice (some ⟨gr, 0, none⟩) rs.length d5, .int .i64 fw, .int .i64 ba], .int .i64 es.length, .int .i64 0]) (by simp [results, Try.results67, go_sem, y0, y1, y2, y3, y4, y5, y6]) rfl (⟨_, rfl, k_ownF.pv hsm, hbF⟩)
end Go.Proofs.Ytpjjfnpdopdnkaa
