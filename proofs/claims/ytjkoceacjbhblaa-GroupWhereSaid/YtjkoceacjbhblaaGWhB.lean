/- tailraceref.WhereOf. -/
import Derived.Test.YtjkoceacjbhblaaGWh
namespace Go.Proofs.Ytjkoceacjbhblaa
open Go.RowKit

set_option maxRecDepth 100000 in
set_option maxHeartbeats 4000000 in
theorem whereOf_fault (v : Value) (g : GroupD) (s : ByteArray) (p : Int) (n : Int) (hf : NameFaultM g s n) (w : World) (h : Gv w v g) (hnm : ∀ t ∈ g.mems, t.name.size ≤ 9223372036854775807) (hs : s.size ≤ 9223372036854775807) :
    Calls Try.prog 46 #[v, .string s, .int .i64 p] w (Two (0) (n) w) := by
  obtain ⟨mv, ov, rfl, hx, hy, hl1, hl2⟩ := id h
  obtain ⟨A, m, rfl, -⟩ := hx.at_
  obtain ⟨A', m', rfl, -⟩ := hy.at_
  have H := Lib.hid h
  have HX := Lib.hid hx
  have HY := Lib.hid hy
  clear h hx hy
  unfold groupV at *
  obtain ⟨ck, wt, gn, ms, os⟩ := g
  simp only at *
  have hn0 := hf.ne
  have n1 : (n == 0) = false := beq_eq_false_iff_ne.2 hn0
  have n2 : (n != 0) = true := by simpa using hn0
  have HF := Lib.hid hf
  clear hf hn0
  have HNM := Lib.hid hnm
  clear hnm
  go_enter Try.func46, Try.ntmps46
  go_wp2_with fail
  have hb1 : Below w.heap.size w (w.alloc (.cells #[.int .i64 ck, .int .i64 wt, .int .i64 gn, .slice A ms.length m, .slice A' os.length m'] 36)) := (Below.refl _ _).alloc (by first | omega | (simp; done) | (simp; omega)) _
  have hal1 : Below w.heap.size w (w.alloc (.cells #[.int .i64 ck, .int .i64 wt, .int .i64 gn, .slice A ms.length m, .slice A' os.length m'] 36)) := (Below.refl _ _).alloc (by first | omega | (simp; done) | (simp; omega)) _
  have b_bx1 : Blk (w.alloc (.cells #[.int .i64 ck, .int .i64 wt, .int .i64 gn, .slice A ms.length m, .slice A' os.length m'] 36)) (w.heap.size) 36 #[.int .i64 ck, .int .i64 wt, .int .i64 gn, .slice A ms.length m, .slice A' os.length m'] := Blk.new_ _ 36 #[.int .i64 ck, .int .i64 wt, .int .i64 gn, .slice A ms.length m, .slice A' os.length m'] (by first | rfl | (simp; done) | (simp; omega))
  have hz1 : w.heap.size + 1 ≤ (w.alloc (.cells #[.int .i64 ck, .int .i64 wt, .int .i64 gn, .slice A ms.length m, .slice A' os.length m'] 36)).heap.size := by first | omega | (simp; done) | (simp; omega)
  generalize w.alloc (.cells #[.int .i64 ck, .int .i64 wt, .int .i64 gn, .slice A ms.length m, .slice A' os.length m'] 36) = W1 at *
  have HB1 := Lib.hid hb1
  have B1_bx := Lib.hid b_bx1
  clear hb1 b_bx1
  refine (groupFault_any _ ⟨ck, wt, gn, ms, os⟩ s n _ (H.out.below hal1) HNM.out hs (Or.inl HF.out)).mono ?_
  rintro e W2 ⟨rfl, hb⟩
  have hb2 : Below w.heap.size w W2 := below_then HB1.out hb
  have b_bx2 := B1_bx.out.below hb B1_bx.out.lt
  have hz2 := hb.size
  have HB2 := Lib.hid hb2
  have B2_bx := Lib.hid b_bx2
  clear hb2 b_bx2
  clear B1_bx HB1
  go_wp2_with fail
  go_quiet (fail)
  go_wp2
  go_ret2
  exact ⟨rfl, below_then HB2.out (below_drewN_ _ _)⟩
set_option maxRecDepth 100000 in
set_option maxHeartbeats 4000000 in
theorem whereOf_none (v : Value) (g : GroupD) (s : ByteArray) (p : Int) (hk : GroupOk g) (hn : NameOk s) (hi : idxM g.mems s = none) (w : World) (h : Gv w v g) (hnm : ∀ t ∈ g.mems, t.name.size ≤ 9223372036854775807) (hs : s.size ≤ 9223372036854775807) :
    Calls Try.prog 46 #[v, .string s, .int .i64 p] w (Two (0) (5) w) := by
  obtain ⟨mv, ov, rfl, hx, hy, hl1, hl2⟩ := id h
  obtain ⟨A, m, rfl, -⟩ := hx.at_
  obtain ⟨A', m', rfl, -⟩ := hy.at_
  have H := Lib.hid h
  have HX := Lib.hid hx
  have HY := Lib.hid hy
  clear h hx hy
  unfold groupV at *
  obtain ⟨ck, wt, gn, ms, os⟩ := g
  simp only at *
  have hix : ixM ms s = -1 := by simp [ixM, hi]
  have HI := Lib.hid hix
  clear hix
  have HK := Lib.hid hk
  have HN := Lib.hid hn
  have HNM := Lib.hid hnm
  clear hk hn hnm
  go_enter Try.func46, Try.ntmps46
  go_wp2_with fail
  have hb1 : Below w.heap.size w (w.alloc (.cells #[.int .i64 ck, .int .i64 wt, .int .i64 gn, .slice A ms.length m, .slice A' os.length m'] 36)) := (Below.refl _ _).alloc (by first | omega | (simp; done) | (simp; omega)) _
  have hal1 : Below w.heap.size w (w.alloc (.cells #[.int .i64 ck, .int .i64 wt, .int .i64 gn, .slice A ms.length m, .slice A' os.length m'] 36)) := (Below.refl _ _).alloc (by first | omega | (simp; done) | (simp; omega)) _
  have b_bx1 : Blk (w.alloc (.cells #[.int .i64 ck, .int .i64 wt, .int .i64 gn, .slice A ms.length m, .slice A' os.length m'] 36)) (w.heap.size) 36 #[.int .i64 ck, .int .i64 wt, .int .i64 gn, .slice A ms.length m, .slice A' os.length m'] := Blk.new_ _ 36 #[.int .i64 ck, .int .i64 wt, .int .i64 gn, .slice A ms.length m, .slice A' os.length m'] (by first | rfl | (simp; done) | (simp; omega))
  have k_g1 := H.out.below hal1
  have hz1 : w.heap.size + 1 ≤ (w.alloc (.cells #[.int .i64 ck, .int .i64 wt, .int .i64 gn, .slice A ms.length m, .slice A' os.length m'] 36)).heap.size := by first | omega | (simp; done) | (simp; omega)
  generalize w.alloc (.cells #[.int .i64 ck, .int .i64 wt, .int .i64 gn, .slice A ms.length m, .slice A' os.length m'] 36) = W1 at *
  have HB1 := Lib.hid hb1
  have B1_bx := Lib.hid b_bx1
  have K1_g := Lib.hid k_g1
  clear hb1 b_bx1 k_g1
  clear H
  refine (groupFault_any _ ⟨ck, wt, gn, ms, os⟩ s 0 _ K1_g.out HNM.out hs (Or.inr ⟨HK.out, HN.out, rfl⟩)).mono ?_
  rintro e W2 ⟨rfl, hb⟩
  have hb2 : Below w.heap.size w W2 := below_then HB1.out hb
  have b_bx2 := B1_bx.out.below hb B1_bx.out.lt
  have k_g2 := K1_g.out.below hb
  have hz2 := hb.size
  have HB2 := Lib.hid hb2
  have B2_bx := Lib.hid b_bx2
  have K2_g := Lib.hid k_g2
  clear hb2 b_bx2 k_g2
  clear B1_bx HB1 K1_g
  have c_bx0 := B2_bx.out.cell 0
  have c_bx1 := B2_bx.out.cell 1
  have c_bx2 := B2_bx.out.cell 2
  have c_bx3 := B2_bx.out.cell 3
  have c_bx4 := B2_bx.out.cell 4
  have l_bx := B2_bx.out.lt
  go_wp2_with fail
  clear c_bx0 c_bx1 c_bx2 c_bx3 c_bx4 l_bx
  refine (memberOf_any _ ⟨ck, wt, gn, ms, os⟩ s _ K2_g.out).mono ?_
  rintro e W3 ⟨rfl, hb⟩
  simp only
  rw [HI.out]
  have hb3 : Below w.heap.size w W3 := below_then HB2.out hb
  have b_bx3 := B2_bx.out.below hb B2_bx.out.lt
  have k_g3 := K2_g.out.below hb
  have hz3 := hb.size
  have HB3 := Lib.hid hb3
  have B3_bx := Lib.hid b_bx3
  have K3_g := Lib.hid k_g3
  clear hb3 b_bx3 k_g3
  clear B2_bx HB2 K2_g
  have c_bx0 := B3_bx.out.cell 0
  have c_bx1 := B3_bx.out.cell 1
  have c_bx2 := B3_bx.out.cell 2
  have c_bx3 := B3_bx.out.cell 3
  have c_bx4 := B3_bx.out.cell 4
  have l_bx := B3_bx.out.lt
  go_wp2_with fail
  go_quiet (fail)
  go_wp2
  go_ret2
  exact ⟨rfl, below_then HB3.out (below_drewN_ _ _)⟩
set_option maxRecDepth 100000 in
set_option maxHeartbeats 4000000 in
theorem whereOf_out (v : Value) (g : GroupD) (s : ByteArray) (p : Int) (i : Nat) (hk : GroupOk g) (hn : NameOk s) (hi : idxM g.mems s = some i) (hl : i < g.mems.length) (hp : p ∉ g.mems[i].parts) (w : World) (h : Gv w v g) (hnm : ∀ t ∈ g.mems, t.name.size ≤ 9223372036854775807) (hs : s.size ≤ 9223372036854775807) :
    Calls Try.prog 46 #[v, .string s, .int .i64 p] w (Two (0) (12) w) := by
  obtain ⟨mv, ov, rfl, hx, hy, hl1, hl2⟩ := id h
  obtain ⟨A, m, rfl, -⟩ := hx.at_
  obtain ⟨A', m', rfl, -⟩ := hy.at_
  have H := Lib.hid h
  have HX := Lib.hid hx
  have HY := Lib.hid hy
  clear h hx hy
  unfold groupV at *
  obtain ⟨ck, wt, gn, ms, os⟩ := g
  simp only at *
  obtain ⟨bb, oo, rfl⟩ := HX.out.some_ (Nat.lt_of_le_of_lt (Nat.zero_le i) hl)
  have hix : ixM ms s = i := (ixM_some hi).2
  have HI := Lib.hid hix
  clear hix hi
  have HK := Lib.hid hk
  have HN := Lib.hid hn
  have HP := Lib.hid hp
  have HNM := Lib.hid hnm
  clear hk hn hp hnm
  go_enter Try.func46, Try.ntmps46
  go_wp2_with fail
  have hb1 : Below w.heap.size w (w.alloc (.cells #[.int .i64 ck, .int .i64 wt, .int .i64 gn, .slice (some ⟨bb, oo, none⟩) ms.length m, .slice A' os.length m'] 36)) := (Below.refl _ _).alloc (by first | omega | (simp; done) | (simp; omega)) _
  have hal1 : Below w.heap.size w (w.alloc (.cells #[.int .i64 ck, .int .i64 wt, .int .i64 gn, .slice (some ⟨bb, oo, none⟩) ms.length m, .slice A' os.length m'] 36)) := (Below.refl _ _).alloc (by first | omega | (simp; done) | (simp; omega)) _
  have b_bx1 : Blk (w.alloc (.cells #[.int .i64 ck, .int .i64 wt, .int .i64 gn, .slice (some ⟨bb, oo, none⟩) ms.length m, .slice A' os.length m'] 36)) (w.heap.size) 36 #[.int .i64 ck, .int .i64 wt, .int .i64 gn, .slice (some ⟨bb, oo, none⟩) ms.length m, .slice A' os.length m'] := Blk.new_ _ 36 #[.int .i64 ck, .int .i64 wt, .int .i64 gn, .slice (some ⟨bb, oo, none⟩) ms.length m, .slice A' os.length m'] (by first | rfl | (simp; done) | (simp; omega))
  have k_g1 := H.out.below hal1
  have hz1 : w.heap.size + 1 ≤ (w.alloc (.cells #[.int .i64 ck, .int .i64 wt, .int .i64 gn, .slice (some ⟨bb, oo, none⟩) ms.length m, .slice A' os.length m'] 36)).heap.size := by first | omega | (simp; done) | (simp; omega)
  generalize w.alloc (.cells #[.int .i64 ck, .int .i64 wt, .int .i64 gn, .slice (some ⟨bb, oo, none⟩) ms.length m, .slice A' os.length m'] 36) = W1 at *
  have HB1 := Lib.hid hb1
  have B1_bx := Lib.hid b_bx1
  have K1_g := Lib.hid k_g1
  clear hb1 b_bx1 k_g1
  clear H
  refine (groupFault_any _ ⟨ck, wt, gn, ms, os⟩ s 0 _ K1_g.out HNM.out hs (Or.inr ⟨HK.out, HN.out, rfl⟩)).mono ?_
  rintro e W2 ⟨rfl, hb⟩
  have hb2 : Below w.heap.size w W2 := below_then HB1.out hb
  have b_bx2 := B1_bx.out.below hb B1_bx.out.lt
  have k_g2 := K1_g.out.below hb
  have hz2 := hb.size
  have HB2 := Lib.hid hb2
  have B2_bx := Lib.hid b_bx2
  have K2_g := Lib.hid k_g2
  clear hb2 b_bx2 k_g2
  clear B1_bx HB1 K1_g
  have c_bx0 := B2_bx.out.cell 0
  have c_bx1 := B2_bx.out.cell 1
  have c_bx2 := B2_bx.out.cell 2
  have c_bx3 := B2_bx.out.cell 3
  have c_bx4 := B2_bx.out.cell 4
  have l_bx := B2_bx.out.lt
  go_wp2_with fail
  clear c_bx0 c_bx1 c_bx2 c_bx3 c_bx4 l_bx
  refine (memberOf_any _ ⟨ck, wt, gn, ms, os⟩ s _ K2_g.out).mono ?_
  rintro e W3 ⟨rfl, hb⟩
  simp only
  rw [HI.out]
  have hb3 : Below w.heap.size w W3 := below_then HB2.out hb
  have b_bx3 := B2_bx.out.below hb B2_bx.out.lt
  have k_g3 := K2_g.out.below hb
  have hz3 := hb.size
  have HB3 := Lib.hid hb3
  have B3_bx := Lib.hid b_bx3
  have K3_g := Lib.hid k_g3
  clear hb3 b_bx3 k_g3
  clear B2_bx HB2 K2_g
  have hbd : Below W3.heap.size W3 W3.drew := (Below.refl _ _).drew
  obtain ⟨hbl, A3, m3, x0, x1, x2, xi, xl⟩ := HX.out.rowAt HB3.out i hl
  have i0 : (0 : Int) ≤ (i : Int) := by omega
  have i1 : (i : Int) < (ms.length : Int) := Int.ofNat_lt.2 hl
  have i2 : decide ((i : Int) < 0) = false := decide_eq_false (by omega)
  have XI := Lib.hid xi
  clear xi
  have c_bx0 := B3_bx.out.cell 0
  have c_bx1 := B3_bx.out.cell 1
  have c_bx2 := B3_bx.out.cell 2
  have c_bx3 := B3_bx.out.cell 3
  have c_bx4 := B3_bx.out.cell 4
  have l_bx := B3_bx.out.lt
  have hbl2 : bb < W3.heap.size := by have := HB3.out.size; omega
  go_wp2_with fail
  go_region_with (first | (go_at_call 83; refine (memberOf_any _ ⟨ck, wt, gn, ms, os⟩ s _ (K3_g.out.below hbd)).mono ?_; rintro e w5 ⟨rfl, hb5⟩; simp only; rw [HI.out]; have hA := below_then hbd hb5; have hA0 := below_then HB3.out hA; have X0 := (hA.cell (p := ⟨bb, oo + i * 3, none⟩) hbl2).trans x0; have X1 := (hA.cell (p := ⟨bb, oo + i * 3 + 1, none⟩) hbl2).trans x1; have X2 := (hA.cell (p := ⟨bb, oo + i * 3 + 2, none⟩) hbl2).trans x2; have u3 := (B3_bx.out.below hA B3_bx.out.lt).cell 3; have ul := (B3_bx.out.below hA B3_bx.out.lt).lt) | (go_at_call 90; refine (ownsPart_any _ _ _ ms[i].parts p _ (XI.out.below hA0) xl).mono ?_; rintro e w6 hT; obtain ⟨rfl, hb6⟩ := hT.no HP.out; clear hT))
  all_goals go_wp2
  all_goals go_ret2
  all_goals exact ⟨rfl, below_then hA0 hb6⟩
set_option maxRecDepth 100000 in
set_option maxHeartbeats 4000000 in
theorem whereOf_in (v : Value) (g : GroupD) (s : ByteArray) (p : Int) (i : Nat) (hk : GroupOk g) (hn : NameOk s) (hi : idxM g.mems s = some i) (hl : i < g.mems.length) (hp : p ∈ g.mems[i].parts) (w : World) (h : Gv w v g) (hnm : ∀ t ∈ g.mems, t.name.size ≤ 9223372036854775807) (hs : s.size ≤ 9223372036854775807) :
    Calls Try.prog 46 #[v, .string s, .int .i64 p] w (Two (whereOf g.offs p) (0) w) := by
  obtain ⟨mv, ov, rfl, hx, hy, hl1, hl2⟩ := id h
  obtain ⟨A, m, rfl, -⟩ := hx.at_
  obtain ⟨A', m', rfl, -⟩ := hy.at_
  have H := Lib.hid h
  have HX := Lib.hid hx
  have HY := Lib.hid hy
  clear h hx hy
  unfold groupV at *
  obtain ⟨ck, wt, gn, ms, os⟩ := g
  simp only at *
  obtain ⟨bb, oo, rfl⟩ := HX.out.some_ (Nat.lt_of_le_of_lt (Nat.zero_le i) hl)
  have hix : ixM ms s = i := (ixM_some hi).2
  have HI := Lib.hid hix
  clear hix hi
  have HK := Lib.hid hk
  have HN := Lib.hid hn
  have HP := Lib.hid hp
  have HNM := Lib.hid hnm
  clear hk hn hp hnm
  go_enter Try.func46, Try.ntmps46
  go_wp2_with fail
  have hb1 : Below w.heap.size w (w.alloc (.cells #[.int .i64 ck, .int .i64 wt, .int .i64 gn, .slice (some ⟨bb, oo, none⟩) ms.length m, .slice A' os.length m'] 36)) := (Below.refl _ _).alloc (by first | omega | (simp; done) | (simp; omega)) _
  have hal1 : Below w.heap.size w (w.alloc (.cells #[.int .i64 ck, .int .i64 wt, .int .i64 gn, .slice (some ⟨bb, oo, none⟩) ms.length m, .slice A' os.length m'] 36)) := (Below.refl _ _).alloc (by first | omega | (simp; done) | (simp; omega)) _
  have b_bx1 : Blk (w.alloc (.cells #[.int .i64 ck, .int .i64 wt, .int .i64 gn, .slice (some ⟨bb, oo, none⟩) ms.length m, .slice A' os.length m'] 36)) (w.heap.size) 36 #[.int .i64 ck, .int .i64 wt, .int .i64 gn, .slice (some ⟨bb, oo, none⟩) ms.length m, .slice A' os.length m'] := Blk.new_ _ 36 #[.int .i64 ck, .int .i64 wt, .int .i64 gn, .slice (some ⟨bb, oo, none⟩) ms.length m, .slice A' os.length m'] (by first | rfl | (simp; done) | (simp; omega))
  have k_g1 := H.out.below hal1
  have hz1 : w.heap.size + 1 ≤ (w.alloc (.cells #[.int .i64 ck, .int .i64 wt, .int .i64 gn, .slice (some ⟨bb, oo, none⟩) ms.length m, .slice A' os.length m'] 36)).heap.size := by first | omega | (simp; done) | (simp; omega)
  generalize w.alloc (.cells #[.int .i64 ck, .int .i64 wt, .int .i64 gn, .slice (some ⟨bb, oo, none⟩) ms.length m, .slice A' os.length m'] 36) = W1 at *
  have HB1 := Lib.hid hb1
  have B1_bx := Lib.hid b_bx1
  have K1_g := Lib.hid k_g1
  clear hb1 b_bx1 k_g1
  clear H
  refine (groupFault_any _ ⟨ck, wt, gn, ms, os⟩ s 0 _ K1_g.out HNM.out hs (Or.inr ⟨HK.out, HN.out, rfl⟩)).mono ?_
  rintro e W2 ⟨rfl, hb⟩
  have hb2 : Below w.heap.size w W2 := below_then HB1.out hb
  have b_bx2 := B1_bx.out.below hb B1_bx.out.lt
  have k_g2 := K1_g.out.below hb
  have hz2 := hb.size
  have HB2 := Lib.hid hb2
  have B2_bx := Lib.hid b_bx2
  have K2_g := Lib.hid k_g2
  clear hb2 b_bx2 k_g2
  clear B1_bx HB1 K1_g
  have c_bx0 := B2_bx.out.cell 0
  have c_bx1 := B2_bx.out.cell 1
  have c_bx2 := B2_bx.out.cell 2
  have c_bx3 := B2_bx.out.cell 3
  have c_bx4 := B2_bx.out.cell 4
  have l_bx := B2_bx.out.lt
  go_wp2_with fail
  clear c_bx0 c_bx1 c_bx2 c_bx3 c_bx4 l_bx
  refine (memberOf_any _ ⟨ck, wt, gn, ms, os⟩ s _ K2_g.out).mono ?_
  rintro e W3 ⟨rfl, hb⟩
  simp only
  rw [HI.out]
  have hb3 : Below w.heap.size w W3 := below_then HB2.out hb
  have b_bx3 := B2_bx.out.below hb B2_bx.out.lt
  have k_g3 := K2_g.out.below hb
  have hz3 := hb.size
  have HB3 := Lib.hid hb3
  have B3_bx := Lib.hid b_bx3
  have K3_g := Lib.hid k_g3
  clear hb3 b_bx3 k_g3
  clear B2_bx HB2 K2_g
  have hbd : Below W3.heap.size W3 W3.drew := (Below.refl _ _).drew
  obtain ⟨hbl, A3, m3, x0, x1, x2, xi, xl⟩ := HX.out.rowAt HB3.out i hl
  have i0 : (0 : Int) ≤ (i : Int) := by omega
  have i1 : (i : Int) < (ms.length : Int) := Int.ofNat_lt.2 hl
  have i2 : decide ((i : Int) < 0) = false := decide_eq_false (by omega)
  have XI := Lib.hid xi
  clear xi
  have c_bx0 := B3_bx.out.cell 0
  have c_bx1 := B3_bx.out.cell 1
  have c_bx2 := B3_bx.out.cell 2
  have c_bx3 := B3_bx.out.cell 3
  have c_bx4 := B3_bx.out.cell 4
  have l_bx := B3_bx.out.lt
  have hbl2 : bb < W3.heap.size := by have := HB3.out.size; omega
  go_wp2_with fail
  go_region_with (first | (go_at_call 83; refine (memberOf_any _ ⟨ck, wt, gn, ms, os⟩ s _ (K3_g.out.below hbd)).mono ?_; rintro e w5 ⟨rfl, hb5⟩; simp only; rw [HI.out]; have hA := below_then hbd hb5; have hA0 := below_then HB3.out hA; have X0 := (hA.cell (p := ⟨bb, oo + i * 3, none⟩) hbl2).trans x0; have X1 := (hA.cell (p := ⟨bb, oo + i * 3 + 1, none⟩) hbl2).trans x1; have X2 := (hA.cell (p := ⟨bb, oo + i * 3 + 2, none⟩) hbl2).trans x2; have u3 := (B3_bx.out.below hA B3_bx.out.lt).cell 3; have ul := (B3_bx.out.below hA B3_bx.out.lt).lt) | (go_at_call 90; refine (ownsPart_any _ _ _ ms[i].parts p _ (XI.out.below hA0) xl).mono ?_; rintro e w6 hT; obtain ⟨rfl, hb6⟩ := hT.yes HP.out; clear hT))
  all_goals
    have hb7 := below_then hA0 hb6
    have bx7 := (B3_bx.out.below hA B3_bx.out.lt).below hb6 (B3_bx.out.below hA B3_bx.out.lt).lt
    have HB7 := Lib.hid hb7
    have BX7 := Lib.hid bx7
    obtain ⟨B6, d6, hv, hd6, hcell⟩ := HY.out.at_
    injection hv with e1 e2 e3
    subst e1 e3
    have HC := Lib.hid hcell
    clear hcell e2 hb7 bx7 hA0 hb6 hb5 u3 ul X0 X1 X2 x0 x1 x2
    go_wp2_with fail
    go_loopw [9] (fun i wr => ∃ k : Nat, k ≤ os.length ∧ i = .int .i64 k ∧ Hid (∀ j (hj : j < os.length), j < k → os[j].part ≠ p) ∧ Hid (Below w6.heap.size w6 wr)) (fun i _ => os.length - (intOf i).toNat)
    case atStart => exact ⟨0, by omega, rfl, fun j _ hj => by omega, Below.refl _ _⟩
    case round =>
      obtain ⟨k, hk, rfl, HJ, HW⟩ := hrel
      have hbw := below_then HB7.out HW.out
      have bw := BX7.out.below HW.out BX7.out.lt
      have v4 := bw.cell 4
      have vl := bw.lt
      have HBW := Lib.hid hbw
      clear hbw bw
      by_cases hlt : k < os.length
      · obtain ⟨b, off, rfl, hb, hcell⟩ := HC.out (by omega)
        obtain ⟨x0, x1⟩ := hcell k hlt
        have X0 := (HBW.out.cell (p := ⟨b, off + k * 2, none⟩) hb).trans x0
        have X1 := (HBW.out.cell (p := ⟨b, off + k * 2 + 1, none⟩) hb).trans x1
        have k0 : (0 : Int) ≤ (k : Int) := by omega
        have k1 : (k : Int) < (os.length : Int) := by omega
        clear x0 x1 hcell
        by_cases hq : os[k].part = p
        · have d : (os[k].part == p) = true := by simp [hq]
          have hw := where_hit hlt hq HJ.out
          have HWH := Lib.hid hw
          clear hq hw
          go_wp2
          go_ret2
          refine ⟨?_, HBW.out⟩
          rw [HWH.out]
          try rfl
        · have d : (os[k].part == p) = false := beq_eq_false_iff_ne.2 hq
          have hj : ∀ j (hj : j < os.length), j < k + 1 → os[j].part ≠ p := fun j hj hjk => by
            rcases Nat.lt_succ_iff_lt_or_eq.1 hjk with h' | rfl
            · exact HJ.out j hj h'
            · exact hq
          have HJ2 := Lib.hid hj
          clear hq hj
          go_wp2
          go_light
          exact ⟨⟨k + 1, by omega, by go_num, HJ2.out, HW.out⟩, by simp [intOf]; omega⟩
      · obtain rfl : k = os.length := by omega
        have hw := where_zero (os := os) (p := p) fun j hj => HJ.out j hj hj
        have HWH := Lib.hid hw
        clear hw
        go_wp2
        go_ret2
        refine ⟨?_, HBW.out⟩
        rw [HWH.out]
        try rfl
theorem whereOf_any (v : Value) (g : GroupD) (s : ByteArray) (p : Int) (r0 r1 : Int) (ht : WhereTo g s p r0 r1) (w : World) (h : Gv w v g) (hnm : ∀ t ∈ g.mems, t.name.size ≤ 9223372036854775807) (hs : s.size ≤ 9223372036854775807) : Calls Try.prog 46 #[v, .string s, .int .i64 p] w (Two r0 r1 w) := by
  rcases ht with ⟨hf, rfl⟩ | ⟨hk, hn, ⟨hi, rfl, rfl⟩ | ⟨i, hi, hl, ⟨h1, rfl, rfl⟩ | ⟨h1, rfl, rfl⟩⟩⟩
  · exact whereOf_fault v g s p r1 hf w h hnm hs
  · exact whereOf_none v g s p hk hn hi w h hnm hs
  · exact whereOf_out v g s p i hk hn hi hl h1 w h hnm hs
  · exact whereOf_in v g s p i hk hn hi hl h1 w h hnm hs
end Go.Proofs.Ytjkoceacjbhblaa
