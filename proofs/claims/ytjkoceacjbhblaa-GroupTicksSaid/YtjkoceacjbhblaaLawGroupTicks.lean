/- GroupTicksSaid is proved: group.Tick of a group within the machine's reach answers as the document says. -/
import Derived.Test.YtjkoceacjbhblaaGt1
import Derived.Deep.CondSized
import Derived.Test.YtjkoceacjbhblaaGt2
import Derived.Test.YtjkoceacjbhblaaGt11
import Derived.Test.YtjkoceacjbhblaaGt12
namespace Go.Proofs.Ytjkoceacjbhblaa.lawGroupTicks
open Go.ChangeShapes Go.WideShapes Go.ChangeAt Go.RowKit Go.Joins Go.Deep
open Go.ChangeMaps (open_string shut_string)

set_option maxRecDepth 100000 in
set_option maxHeartbeats 4000000 in
theorem walk (v : Value) (c : GroupD) (n : Int) (parts : Int) (w : World) (h : Gv w v c) (hw : c.Wf) (hs : c.Small) (c' : GroupD) (r0 : Int) (ht : TickGTo c n parts c' r0) (hf : c'.Fits) :
    Calls Try.prog 21 #[v, .int .i64 n, .int .i64 parts] w fun e w' => e = .returned (.bool true) ∧ Below w.heap.size w w' := by
  have hr : reachBytes ≤ 140737488355328 := by decide
  have hcf : c.Fits := ⟨⟨by have := hw.2.2.2.1; simp only [maxLen] at this; omega, by have := hw.2.2.2.2.2.1; simp only [maxLen] at this; omega⟩, fun t ht => by have := (hw.2.2.2.2.1 t ht).2.2.1; simp only [maxLen] at this; omega⟩
  have hnm : ∀ t ∈ c.mems, t.name.size ≤ 9223372036854775807 := fun t ht => by
    have := (hw.2.2.2.2.1 t ht).1
    simp only [maxLen] at this
    omega
  have hs1 := Nat.le_trans hs.1 hr
  have hs2 := fun t ht => Nat.le_trans (hs.2.1 t ht) hr
  have hs3 := Nat.le_trans hs.2.2 hr
  obtain ⟨mv, ov, rfl, hx, hy, -⟩ := id h
  obtain ⟨A, m, rfl, -⟩ := hx.at_
  obtain ⟨B, k, rfl, -⟩ := hy.at_
  unfold groupV at *
  have H := Lib.hid h
  have HNM := Lib.hid hnm
  have HCF := Lib.hid hcf
  have HS2 := Lib.hid hs2
  have HT := Lib.hid ht
  have HF := Lib.hid hf
  clear h hw hs hr hnm hcf hs2 ht hf hx hy
  go_enter Try.func21, Try.ntmps21
  go_wp2_with fail
  have hb1 : Below w.heap.size w (w.alloc (.cells #[.int .i64 c.clock, .int .i64 c.wait, .int .i64 c.gen, .slice A c.mems.length m, .slice B c.offs.length k] 36)) := (Below.refl _ _).alloc (by first | omega | (simp; done) | (simp; omega)) _
  have hal1 : Below w.heap.size w (w.alloc (.cells #[.int .i64 c.clock, .int .i64 c.wait, .int .i64 c.gen, .slice A c.mems.length m, .slice B c.offs.length k] 36)) := (Below.refl _ _).alloc (by first | omega | (simp; done) | (simp; omega)) _
  have b_bc1 : Blk (w.alloc (.cells #[.int .i64 c.clock, .int .i64 c.wait, .int .i64 c.gen, .slice A c.mems.length m, .slice B c.offs.length k] 36)) (w.heap.size) 36 #[.int .i64 c.clock, .int .i64 c.wait, .int .i64 c.gen, .slice A c.mems.length m, .slice B c.offs.length k] := Blk.new_ _ 36 #[.int .i64 c.clock, .int .i64 c.wait, .int .i64 c.gen, .slice A c.mems.length m, .slice B c.offs.length k] (by first | rfl | (simp; done) | (simp; omega))
  have k_c1 := H.out.below hal1
  have hz1 : w.heap.size + 1 ≤ (w.alloc (.cells #[.int .i64 c.clock, .int .i64 c.wait, .int .i64 c.gen, .slice A c.mems.length m, .slice B c.offs.length k] 36)).heap.size := by first | omega | (simp; done) | (simp; omega)
  generalize w.alloc (.cells #[.int .i64 c.clock, .int .i64 c.wait, .int .i64 c.gen, .slice A c.mems.length m, .slice B c.offs.length k] 36) = W1 at *
  have HB1 := Lib.hid hb1
  have B1_bc := Lib.hid b_bc1
  have K1_c := Lib.hid k_c1
  clear hb1 b_bc1 k_c1
  clear H
  refine (refGroupCopy_any _ c _ K1_c.out hs1 HS2.out hs3).mono ?_
  rintro e W2 hA
  obtain ⟨A1, m1, B1, k1, rfl, hcv, hb⟩ := hA.open_ HCF.out
  clear hA
  have hb2 : Below w.heap.size w W2 := below_then HB1.out hb
  have b_bc2 := B1_bc.out.below hb B1_bc.out.lt
  have k_c2 := K1_c.out.below hb
  have hz2 := hb.size
  have HB2 := Lib.hid hb2
  have B2_bc := Lib.hid b_bc2
  have K2_c := Lib.hid k_c2
  clear hb2 b_bc2 k_c2
  clear B1_bc HB1 K1_c
  have HK := Lib.hid hcv
  clear hcv
  have c_bc0 := B2_bc.out.cell 0
  have c_bc1 := B2_bc.out.cell 1
  have c_bc2 := B2_bc.out.cell 2
  have c_bc3 := B2_bc.out.cell 3
  have c_bc4 := B2_bc.out.cell 4
  have l_bc := B2_bc.out.lt
  go_wp2_with fail
  clear c_bc0 c_bc1 c_bc2 c_bc3 c_bc4 l_bc
  have hsz3 := HB2.out.size
  have hb3 : Below w.heap.size w (W2.alloc (.cells #[.int .i64 c.clock, .int .i64 c.wait, .int .i64 c.gen, .slice A1 c.mems.length m1, .slice B1 c.offs.length k1] 36)) := (HB2.out).alloc (by first | omega | (simp; done) | (simp; omega)) _
  have hal3 : Below W2.heap.size W2 (W2.alloc (.cells #[.int .i64 c.clock, .int .i64 c.wait, .int .i64 c.gen, .slice A1 c.mems.length m1, .slice B1 c.offs.length k1] 36)) := (Below.refl _ _).alloc (by first | omega | (simp; done) | (simp; omega)) _
  have b_bc3 : Blk (W2.alloc (.cells #[.int .i64 c.clock, .int .i64 c.wait, .int .i64 c.gen, .slice A1 c.mems.length m1, .slice B1 c.offs.length k1] 36)) (w.heap.size) 36 #[.int .i64 c.clock, .int .i64 c.wait, .int .i64 c.gen, .slice A c.mems.length m, .slice B c.offs.length k] := (B2_bc.out).alloc _
  have b_bk3 : Blk (W2.alloc (.cells #[.int .i64 c.clock, .int .i64 c.wait, .int .i64 c.gen, .slice A1 c.mems.length m1, .slice B1 c.offs.length k1] 36)) (W2.heap.size) 36 #[.int .i64 c.clock, .int .i64 c.wait, .int .i64 c.gen, .slice A1 c.mems.length m1, .slice B1 c.offs.length k1] := Blk.new_ _ 36 #[.int .i64 c.clock, .int .i64 c.wait, .int .i64 c.gen, .slice A1 c.mems.length m1, .slice B1 c.offs.length k1] (by first | rfl | (simp; done) | (simp; omega))
  have k_c3 := K2_c.out.below hal3
  have k_k3 := HK.out.below hal3
  have hz3 : W2.heap.size + 1 ≤ (W2.alloc (.cells #[.int .i64 c.clock, .int .i64 c.wait, .int .i64 c.gen, .slice A1 c.mems.length m1, .slice B1 c.offs.length k1] 36)).heap.size := by first | omega | (simp; done) | (simp; omega)
  generalize W2.alloc (.cells #[.int .i64 c.clock, .int .i64 c.wait, .int .i64 c.gen, .slice A1 c.mems.length m1, .slice B1 c.offs.length k1] 36) = W3 at *
  have HB3 := Lib.hid hb3
  have B3_bc := Lib.hid b_bc3
  have B3_bk := Lib.hid b_bk3
  have K3_c := Lib.hid k_c3
  have K3_k := Lib.hid k_k3
  clear hb3 b_bc3 b_bk3 k_c3 k_k3
  clear B2_bc HB2 K2_c HK
  refine (tickG_any _ c n parts c' r0 HT.out _ K3_k.out).mono ?_
  rintro e W4 hA
  obtain ⟨A2, m2, B2, k2, rfl, hcv, hb⟩ := hA.open_ HF.out
  clear hA
  have hb4 : Below w.heap.size w W4 := below_then HB3.out hb
  have b_bc4 := B3_bc.out.below hb B3_bc.out.lt
  have b_bk4 := B3_bk.out.below hb B3_bk.out.lt
  have k_c4 := K3_c.out.below hb
  have k_k4 := K3_k.out.below hb
  have hz4 := hb.size
  have HB4 := Lib.hid hb4
  have B4_bc := Lib.hid b_bc4
  have B4_bk := Lib.hid b_bk4
  have K4_c := Lib.hid k_c4
  have K4_k := Lib.hid k_k4
  clear hb4 b_bc4 b_bk4 k_c4 k_k4
  clear B3_bc B3_bk HB3 K3_c K3_k
  have HA := Lib.hid hcv
  clear hcv
  have c_bc0 := B4_bc.out.cell 0
  have c_bc1 := B4_bc.out.cell 1
  have c_bc2 := B4_bc.out.cell 2
  have c_bc3 := B4_bc.out.cell 3
  have c_bc4 := B4_bc.out.cell 4
  have l_bc := B4_bc.out.lt
  have c_bk0 := B4_bk.out.cell 0
  have c_bk1 := B4_bk.out.cell 1
  have c_bk2 := B4_bk.out.cell 2
  have c_bk3 := B4_bk.out.cell 3
  have c_bk4 := B4_bk.out.cell 4
  have l_bk := B4_bk.out.lt
  go_wp2_with fail
  clear c_bc0 c_bc1 c_bc2 c_bc3 c_bc4 l_bc c_bk0 c_bk1 c_bk2 c_bk3 c_bk4 l_bk
  have hsz5 := HB4.out.size
  have hb5 : Below w.heap.size w (W4.alloc (.cells #[.int .i64 c'.clock, .int .i64 c'.wait, .int .i64 c'.gen, .slice A2 c'.mems.length m2, .slice B2 c'.offs.length k2] 36)) := (HB4.out).alloc (by first | omega | (simp; done) | (simp; omega)) _
  have hal5 : Below W4.heap.size W4 (W4.alloc (.cells #[.int .i64 c'.clock, .int .i64 c'.wait, .int .i64 c'.gen, .slice A2 c'.mems.length m2, .slice B2 c'.offs.length k2] 36)) := (Below.refl _ _).alloc (by first | omega | (simp; done) | (simp; omega)) _
  have b_bc5 : Blk (W4.alloc (.cells #[.int .i64 c'.clock, .int .i64 c'.wait, .int .i64 c'.gen, .slice A2 c'.mems.length m2, .slice B2 c'.offs.length k2] 36)) (w.heap.size) 36 #[.int .i64 c.clock, .int .i64 c.wait, .int .i64 c.gen, .slice A c.mems.length m, .slice B c.offs.length k] := (B4_bc.out).alloc _
  have b_bk5 : Blk (W4.alloc (.cells #[.int .i64 c'.clock, .int .i64 c'.wait, .int .i64 c'.gen, .slice A2 c'.mems.length m2, .slice B2 c'.offs.length k2] 36)) (W2.heap.size) 36 #[.int .i64 c.clock, .int .i64 c.wait, .int .i64 c.gen, .slice A1 c.mems.length m1, .slice B1 c.offs.length k1] := (B4_bk.out).alloc _
  have b_ba5 : Blk (W4.alloc (.cells #[.int .i64 c'.clock, .int .i64 c'.wait, .int .i64 c'.gen, .slice A2 c'.mems.length m2, .slice B2 c'.offs.length k2] 36)) (W4.heap.size) 36 #[.int .i64 c'.clock, .int .i64 c'.wait, .int .i64 c'.gen, .slice A2 c'.mems.length m2, .slice B2 c'.offs.length k2] := Blk.new_ _ 36 #[.int .i64 c'.clock, .int .i64 c'.wait, .int .i64 c'.gen, .slice A2 c'.mems.length m2, .slice B2 c'.offs.length k2] (by first | rfl | (simp; done) | (simp; omega))
  have k_c5 := K4_c.out.below hal5
  have k_k5 := K4_k.out.below hal5
  have k_a5 := HA.out.below hal5
  have hz5 : W4.heap.size + 1 ≤ (W4.alloc (.cells #[.int .i64 c'.clock, .int .i64 c'.wait, .int .i64 c'.gen, .slice A2 c'.mems.length m2, .slice B2 c'.offs.length k2] 36)).heap.size := by first | omega | (simp; done) | (simp; omega)
  generalize W4.alloc (.cells #[.int .i64 c'.clock, .int .i64 c'.wait, .int .i64 c'.gen, .slice A2 c'.mems.length m2, .slice B2 c'.offs.length k2] 36) = W5 at *
  have HB5 := Lib.hid hb5
  have B5_bc := Lib.hid b_bc5
  have B5_bk := Lib.hid b_bk5
  have B5_ba := Lib.hid b_ba5
  have K5_c := Lib.hid k_c5
  have K5_k := Lib.hid k_k5
  have K5_a := Lib.hid k_a5
  clear hb5 b_bc5 b_bk5 b_ba5 k_c5 k_k5 k_a5
  clear B4_bc B4_bk HB4 K4_c K4_k HA
  refine (tickedG_any _ c n parts c' r0 HT.out _ K5_c.out HNM.out).mono ?_
  rintro e W6 hA
  obtain ⟨A3, m3, B3, k3, rfl, hcv, hb⟩ := hA.open_ HF.out
  clear hA
  have hb6 : Below w.heap.size w W6 := below_then HB5.out hb
  have b_bc6 := B5_bc.out.below hb B5_bc.out.lt
  have b_bk6 := B5_bk.out.below hb B5_bk.out.lt
  have b_ba6 := B5_ba.out.below hb B5_ba.out.lt
  have k_c6 := K5_c.out.below hb
  have k_k6 := K5_k.out.below hb
  have k_a6 := K5_a.out.below hb
  have hz6 := hb.size
  have HB6 := Lib.hid hb6
  have B6_bc := Lib.hid b_bc6
  have B6_bk := Lib.hid b_bk6
  have B6_ba := Lib.hid b_ba6
  have K6_c := Lib.hid k_c6
  have K6_k := Lib.hid k_k6
  have K6_a := Lib.hid k_a6
  clear hb6 b_bc6 b_bk6 b_ba6 k_c6 k_k6 k_a6
  clear B5_bc B5_bk B5_ba HB5 K5_c K5_k K5_a
  have HB := Lib.hid hcv
  clear hcv
  have c_bc0 := B6_bc.out.cell 0
  have c_bc1 := B6_bc.out.cell 1
  have c_bc2 := B6_bc.out.cell 2
  have c_bc3 := B6_bc.out.cell 3
  have c_bc4 := B6_bc.out.cell 4
  have l_bc := B6_bc.out.lt
  have c_bk0 := B6_bk.out.cell 0
  have c_bk1 := B6_bk.out.cell 1
  have c_bk2 := B6_bk.out.cell 2
  have c_bk3 := B6_bk.out.cell 3
  have c_bk4 := B6_bk.out.cell 4
  have l_bk := B6_bk.out.lt
  have c_ba0 := B6_ba.out.cell 0
  have c_ba1 := B6_ba.out.cell 1
  have c_ba2 := B6_ba.out.cell 2
  have c_ba3 := B6_ba.out.cell 3
  have c_ba4 := B6_ba.out.cell 4
  have l_ba := B6_ba.out.lt
  go_wp2_with fail
  clear c_bc0 c_bc1 c_bc2 c_bc3 c_bc4 l_bc c_bk0 c_bk1 c_bk2 c_bk3 c_bk4 l_bk c_ba0 c_ba1 c_ba2 c_ba3 c_ba4 l_ba
  have hsz7 := HB6.out.size
  have hb7 : Below w.heap.size w (W6.alloc (.cells #[.int .i64 c'.clock, .int .i64 c'.wait, .int .i64 c'.gen, .slice A3 c'.mems.length m3, .slice B3 c'.offs.length k3] 36)) := (HB6.out).alloc (by first | omega | (simp; done) | (simp; omega)) _
  have hal7 : Below W6.heap.size W6 (W6.alloc (.cells #[.int .i64 c'.clock, .int .i64 c'.wait, .int .i64 c'.gen, .slice A3 c'.mems.length m3, .slice B3 c'.offs.length k3] 36)) := (Below.refl _ _).alloc (by first | omega | (simp; done) | (simp; omega)) _
  have b_bc7 : Blk (W6.alloc (.cells #[.int .i64 c'.clock, .int .i64 c'.wait, .int .i64 c'.gen, .slice A3 c'.mems.length m3, .slice B3 c'.offs.length k3] 36)) (w.heap.size) 36 #[.int .i64 c.clock, .int .i64 c.wait, .int .i64 c.gen, .slice A c.mems.length m, .slice B c.offs.length k] := (B6_bc.out).alloc _
  have b_bk7 : Blk (W6.alloc (.cells #[.int .i64 c'.clock, .int .i64 c'.wait, .int .i64 c'.gen, .slice A3 c'.mems.length m3, .slice B3 c'.offs.length k3] 36)) (W2.heap.size) 36 #[.int .i64 c.clock, .int .i64 c.wait, .int .i64 c.gen, .slice A1 c.mems.length m1, .slice B1 c.offs.length k1] := (B6_bk.out).alloc _
  have b_ba7 : Blk (W6.alloc (.cells #[.int .i64 c'.clock, .int .i64 c'.wait, .int .i64 c'.gen, .slice A3 c'.mems.length m3, .slice B3 c'.offs.length k3] 36)) (W4.heap.size) 36 #[.int .i64 c'.clock, .int .i64 c'.wait, .int .i64 c'.gen, .slice A2 c'.mems.length m2, .slice B2 c'.offs.length k2] := (B6_ba.out).alloc _
  have b_bb7 : Blk (W6.alloc (.cells #[.int .i64 c'.clock, .int .i64 c'.wait, .int .i64 c'.gen, .slice A3 c'.mems.length m3, .slice B3 c'.offs.length k3] 36)) (W6.heap.size) 36 #[.int .i64 c'.clock, .int .i64 c'.wait, .int .i64 c'.gen, .slice A3 c'.mems.length m3, .slice B3 c'.offs.length k3] := Blk.new_ _ 36 #[.int .i64 c'.clock, .int .i64 c'.wait, .int .i64 c'.gen, .slice A3 c'.mems.length m3, .slice B3 c'.offs.length k3] (by first | rfl | (simp; done) | (simp; omega))
  have k_c7 := K6_c.out.below hal7
  have k_k7 := K6_k.out.below hal7
  have k_a7 := K6_a.out.below hal7
  have k_b7 := HB.out.below hal7
  have hz7 : W6.heap.size + 1 ≤ (W6.alloc (.cells #[.int .i64 c'.clock, .int .i64 c'.wait, .int .i64 c'.gen, .slice A3 c'.mems.length m3, .slice B3 c'.offs.length k3] 36)).heap.size := by first | omega | (simp; done) | (simp; omega)
  generalize W6.alloc (.cells #[.int .i64 c'.clock, .int .i64 c'.wait, .int .i64 c'.gen, .slice A3 c'.mems.length m3, .slice B3 c'.offs.length k3] 36) = W7 at *
  have HB7 := Lib.hid hb7
  have B7_bc := Lib.hid b_bc7
  have B7_bk := Lib.hid b_bk7
  have B7_ba := Lib.hid b_ba7
  have B7_bb := Lib.hid b_bb7
  have K7_c := Lib.hid k_c7
  have K7_k := Lib.hid k_k7
  have K7_a := Lib.hid k_a7
  have K7_b := Lib.hid k_b7
  clear hb7 b_bc7 b_bk7 b_ba7 b_bb7 k_c7 k_k7 k_a7 k_b7
  clear B6_bc B6_bk B6_ba HB6 K6_c K6_k K6_a HB
  refine (sameGroup_same _ _ c' _ K7_a.out K7_b.out).mono ?_
  rintro e W8 ⟨rfl, hb⟩
  have hb8 : Below w.heap.size w W8 := below_then HB7.out hb
  have b_bc8 := B7_bc.out.below hb B7_bc.out.lt
  have b_bk8 := B7_bk.out.below hb B7_bk.out.lt
  have b_ba8 := B7_ba.out.below hb B7_ba.out.lt
  have b_bb8 := B7_bb.out.below hb B7_bb.out.lt
  have k_c8 := K7_c.out.below hb
  have k_k8 := K7_k.out.below hb
  have k_a8 := K7_a.out.below hb
  have k_b8 := K7_b.out.below hb
  have hz8 := hb.size
  have HB8 := Lib.hid hb8
  have B8_bc := Lib.hid b_bc8
  have B8_bk := Lib.hid b_bk8
  have B8_ba := Lib.hid b_ba8
  have B8_bb := Lib.hid b_bb8
  have K8_c := Lib.hid k_c8
  have K8_k := Lib.hid k_k8
  have K8_a := Lib.hid k_a8
  have K8_b := Lib.hid k_b8
  clear hb8 b_bc8 b_bk8 b_ba8 b_bb8 k_c8 k_k8 k_a8 k_b8
  clear B7_bc B7_bk B7_ba B7_bb HB7 K7_c K7_k K7_a K7_b
  have c_bc0 := B8_bc.out.cell 0
  have c_bc1 := B8_bc.out.cell 1
  have c_bc2 := B8_bc.out.cell 2
  have c_bc3 := B8_bc.out.cell 3
  have c_bc4 := B8_bc.out.cell 4
  have l_bc := B8_bc.out.lt
  have c_bk0 := B8_bk.out.cell 0
  have c_bk1 := B8_bk.out.cell 1
  have c_bk2 := B8_bk.out.cell 2
  have c_bk3 := B8_bk.out.cell 3
  have c_bk4 := B8_bk.out.cell 4
  have l_bk := B8_bk.out.lt
  go_wp2_with fail
  clear c_bc0 c_bc1 c_bc2 c_bc3 c_bc4 l_bc c_bk0 c_bk1 c_bk2 c_bk3 c_bk4 l_bk
  refine (sameGroup_same _ _ c _ K8_k.out K8_c.out).mono ?_
  rintro e W9 ⟨rfl, hb⟩
  have hb9 : Below w.heap.size w W9 := below_then HB8.out hb
  have b_bc9 := B8_bc.out.below hb B8_bc.out.lt
  have b_bk9 := B8_bk.out.below hb B8_bk.out.lt
  have b_ba9 := B8_ba.out.below hb B8_ba.out.lt
  have b_bb9 := B8_bb.out.below hb B8_bb.out.lt
  have k_c9 := K8_c.out.below hb
  have k_k9 := K8_k.out.below hb
  have k_a9 := K8_a.out.below hb
  have k_b9 := K8_b.out.below hb
  have hz9 := hb.size
  have HB9 := Lib.hid hb9
  have B9_bc := Lib.hid b_bc9
  have B9_bk := Lib.hid b_bk9
  have B9_ba := Lib.hid b_ba9
  have B9_bb := Lib.hid b_bb9
  have K9_c := Lib.hid k_c9
  have K9_k := Lib.hid k_k9
  have K9_a := Lib.hid k_a9
  have K9_b := Lib.hid k_b9
  clear hb9 b_bc9 b_bk9 b_ba9 b_bb9 k_c9 k_k9 k_a9 k_b9
  clear B8_bc B8_bk B8_ba B8_bb HB8 K8_c K8_k K8_a K8_b
  go_wp2
  go_ret
  exact ⟨ret_bool (by simp), HB9.out⟩

set_option maxRecDepth 100000 in
theorem contract (H : Type) (enc : TypeId × Value → H) (W : World) (base : Nat) (args : Array Value) (ds gs : List (DataW H)) (before : List MemPlace)
    (hval : ∀ (j : Nat) t v, Try.f21.params[j]? = some t → args[j]? = some v → Value.okWide Try.prog W .any base t v)
    (hW : DataW.Whole enc Try.prog Try.f21.params.toList Rows.groupTicksSpec.vars false W args.toList ds gs before) (hsz : (DataW.weightsEach Try.prog (Try.f21.params.toList ++ Rows.groupTicksSpec.plain.varTypes Try.prog) (ds ++ gs)).all (· ≤ reachBytes) = true) :
    Calls Try.prog 21 args W fun e W' => ∃ v, e = .returned v ∧ Rows.groupTicksSpec.post enc Try.prog Try.f21 false true false false W args v W' := by
  have hW' := hW
  obtain ⟨p, q, hA0, hV, rfl, hfz, hnd⟩ := hW
  have hA : DataW.TrodAll enc Try.prog W 0 (fun _ => true) true Try.f21.params.toList args.toList ds p := hA0
  rw [Try.params21] at hA hval
  obtain ⟨v0, vs0, d0, ds0, p0, q0, hargs, rfl, rfl, h0, r0⟩ := trodAll_cons hA
  obtain ⟨v1, vs1, d1, ds1, p1, q1, rfl, rfl, rfl, h1, r1⟩ := trodAll_cons r0
  obtain ⟨v2, vs2, d2, ds2, p2, q2, rfl, rfl, rfl, h2, r2⟩ := trodAll_cons r1
  obtain ⟨rfl, rfl, rfl⟩ := trodAll_nil r2
  obtain rfl : args = #[v0, v1, v2] := by cases args; simp_all
  obtain ⟨rfl, rfl⟩ := trodVars_none hV
  obtain ⟨c, gvc, wfc, smc⟩ := open_group (hval 0 36 v0 rfl rfl) h0
  obtain ⟨n, en, -, -, wn⟩ := open_int Try.underlying3 (hval 1 3 v1 rfl rfl) h1
  subst en
  obtain ⟨parts, eparts, -, -, wparts⟩ := open_int Try.underlying3 (hval 2 3 v2 rfl rfl) h2
  subst eparts
  refine Calls.mono (R := fun e W' => e = .returned (.bool true) ∧ Below W.heap.size W W') ?_ fun e W' ⟨he, hb⟩ => ?_
  · obtain ⟨c', r0, ht⟩ := tickG_to c n parts
    exact walk v0 c n parts W gvc wfc (smc (fits_arg hsz (j := 0) (t := 36) (by rw [Try.params21]; rfl) rfl)) c' r0 ht ht.fits
  · subst he
    exact ⟨_, rfl, law_post laid_ rfl rfl (by rfl) Try.underlying4 (by rw [Try.params21]; exact rec_ok (by kernel_rfl)) hW' hb⟩

set_option maxRecDepth 100000 in
theorem lifted (os : Os) (started : os.Started) (H : Type) (enc : TypeId × Value → H) :
    ReturnsInHanded {} Try.checked os 21 .any (Rows.groupTicksSpec.pre6 enc Try.prog Try.f21 Rows.groupTicksRow.domain false) (Rows.groupTicksSpec.post enc Try.prog Try.f21 false true false false) := by
  refine returnsInHanded_of_change_sized (C := Try.checked) own_ started (by kernel_rfl) Try.func21
    (ChangeSpec.witness6 (enc := enc) (C := Try.checked) false ⟨#[], #[.agg #[.int .i64 0, .int .i64 0, .int .i64 0, .slice none 0 0, .slice none 0 0], .int .i64 0, .int .i64 0], []⟩ 8 (by kernel_rfl) (by kernel_rfl) (by kernel_rfl) (by kernel_rfl)) ?_
  intro W base args ds gs before hval hW _ hsz _
  exact contract H enc W base args ds gs before hval hW hsz

theorem closed : joinedFacts Try.prog 21 Try.f21 Rows.groupTicksSpec Rows.groupTicksRow = true := by
  unfold joinedFacts
  rw [mayEnter_, lifts_, make_]
  kernel_rfl

theorem proved : Rows.GroupTicksSaid :=
  OpenClaim.holds_of_wide 21 Try.f21 rfl rfl rfl rfl rfl rfl rfl ⟨rfl, rfl, rfl, rfl, rfl⟩ rfl rfl rfl rfl rfl (by kernel_rfl) Try.func21 closed
    (of_decide_eq_true (by kernel_rfl)) (by unfold Func.isWrapper; first | (rw [if_pos (by decide +kernel)]; kernel_rfl) | (rw [if_neg (by decide +kernel)]; exact ⟨rfl, rfl⟩))
    (fun os started H enc _ => lifted os started H enc)

end Go.Proofs.Ytjkoceacjbhblaa.lawGroupTicks
