/- PartFetchesSaid is proved: part.Fetch answers what tailraceref.FetchedOf answers, and leaves its argument as it was, for every part and replica. No condition. -/
import Derived.Test.YtpjjfnpdopdnkaaPf1
import Derived.Test.YtpjjfnpdopdnkaaPf2
import Derived.Test.YtpjjfnpdopdnkaaPf11
import Derived.Test.YtpjjfnpdopdnkaaPf12
import Derived.Test.YtpjjfnpdopdnkaaPf15
import Derived.Test.YtpjjfnpdopdnkaaPf16
import Derived.Deep.CondSized
namespace Go.Proofs.Ytpjjfnpdopdnkaa.lawPartFetches
open Go.ChangeShapes Go.WideShapes Go.ChangeAt Go.RowKit Go.Joins Go.Deep
open Go.ChangeMaps (open_string shut_string)

theorem adv_len (c : PartD) (l : Nat) (hl : c.leader = l) : (advD c).reps.length = c.reps.length := by
  rw [advD_at (i := l) hl]
  simp [PartD.updR]
set_option maxRecDepth 100000 in
set_option maxHeartbeats 4000000 in
theorem walk (v : Value) (c c2 : PartD) (r m code : Int) (w : World) (h : Pv w v c) (h1 : c.isr.length ≤ 140737488355328) (h2 : c.known.length * 8 ≤ 140737488355328) (h3 : c.reps.length * 48 ≤ 140737488355328) (h4 : ∀ t ∈ c.reps, t.bytes.length ≤ 140737488355328)
    (hf : ∀ (v : Value) (w : World), Pv w v c → Calls Try.prog 65 #[v, .int .i64 r] w (PRes3 c2 m code w)) (hg : ∀ (v : Value) (w : World), Pv w v c → Calls Try.prog 66 #[v, .int .i64 r] w (PRes3 c2 m code w)) :
    Calls Try.prog 21 #[v, .int .i64 r] w fun e w' => e = .returned (.bool true) ∧ Below w.heap.size w w' := by
  have HF := Lib.hid hf
  have HG := Lib.hid hg
  have HC := Lib.hid (fun (v : Value) (w : World) (h : Pv w v c) => refPartCopy_any v c w h h1 h2 h3 h4)
  have HB0 := Lib.hid (fun (base : Nat) (w : World) (iv kv rv : Value) (h : PO base w c iv kv rv) => h.pvb (by omega) (by omega) (by omega) (fun t ht => by have := h4 t ht; omega))
  clear hf hg h1 h2 h3 h4
  obtain ⟨A1, c1, A3, c3, A5, c5, rfl⟩ := h.form
  have H := Lib.hid h
  clear h
  unfold partV at *
  have zc : (code == code) = true := by simp
  have zm : (m == m) = true := by simp
  go_enter Try.func21, Try.ntmps21
  go_wp2_with fail
  have hb1 : Below w.heap.size w (w.alloc (.cells #[.int .i64 c.epoch, .int .i64 c.leader, .slice A1 c.isr.length c1, .slice A3 c.known.length c3, .slice A5 c.reps.length c5, .int .i64 c.few, .int .i64 c.base] 26)) := (Below.refl _ _).alloc (by first | omega | (simp; done) | (simp; omega)) _
  have hal1 : Below w.heap.size w (w.alloc (.cells #[.int .i64 c.epoch, .int .i64 c.leader, .slice A1 c.isr.length c1, .slice A3 c.known.length c3, .slice A5 c.reps.length c5, .int .i64 c.few, .int .i64 c.base] 26)) := (Below.refl _ _).alloc (by first | omega | (simp; done) | (simp; omega)) _
  have b_bx1 : Blk (w.alloc (.cells #[.int .i64 c.epoch, .int .i64 c.leader, .slice A1 c.isr.length c1, .slice A3 c.known.length c3, .slice A5 c.reps.length c5, .int .i64 c.few, .int .i64 c.base] 26)) (w.heap.size) 26 #[.int .i64 c.epoch, .int .i64 c.leader, .slice A1 c.isr.length c1, .slice A3 c.known.length c3, .slice A5 c.reps.length c5, .int .i64 c.few, .int .i64 c.base] := Blk.new_ _ 26 #[.int .i64 c.epoch, .int .i64 c.leader, .slice A1 c.isr.length c1, .slice A3 c.known.length c3, .slice A5 c.reps.length c5, .int .i64 c.few, .int .i64 c.base] (by first | rfl | (simp; done) | (simp; omega))
  have k_v1 := H.out.below hal1
  have hz1 : w.heap.size + 1 ≤ (w.alloc (.cells #[.int .i64 c.epoch, .int .i64 c.leader, .slice A1 c.isr.length c1, .slice A3 c.known.length c3, .slice A5 c.reps.length c5, .int .i64 c.few, .int .i64 c.base] 26)).heap.size := by first | omega | (simp; done) | (simp; omega)
  generalize w.alloc (.cells #[.int .i64 c.epoch, .int .i64 c.leader, .slice A1 c.isr.length c1, .slice A3 c.known.length c3, .slice A5 c.reps.length c5, .int .i64 c.few, .int .i64 c.base] 26) = W1 at *
  have HB1 := Lib.hid hb1
  have B1_bx := Lib.hid b_bx1
  have K1_v := Lib.hid k_v1
  clear hb1 b_bx1 k_v1
  clear H
  refine (HC.out _ _ K1_v.out).mono ?_
  rintro e W2 ⟨iv, kv, rv, rfl, ho, hb⟩
  obtain ⟨B1, d1, B3, d3, B5, d5, rfl, rfl, rfl⟩ := ho.form
  have hk := HB0.out _ _ _ _ _ ho
  clear ho
  unfold partV at *
  have HK := Lib.hid hk
  clear hk
  have hb2 : Below w.heap.size w W2 := below_then HB1.out hb
  have b_bx2 := B1_bx.out.below hb B1_bx.out.lt
  have k_v2 := K1_v.out.below hb
  have hz2 := hb.size
  have HB2 := Lib.hid hb2
  have B2_bx := Lib.hid b_bx2
  have K2_v := Lib.hid k_v2
  clear hb2 b_bx2 k_v2
  clear B1_bx HB1 K1_v
  go_upto_region 2 with fail
  have hsz3 := HB2.out.size
  have hb3 : Below w.heap.size w (W2.alloc (.cells #[.int .i64 c.epoch, .int .i64 c.leader, .slice B1 c.isr.length d1, .slice B3 c.known.length d3, .slice B5 c.reps.length d5, .int .i64 c.few, .int .i64 c.base] 26)) := (HB2.out).alloc (by first | omega | (simp; done) | (simp; omega)) _
  have hal3 : Below W2.heap.size W2 (W2.alloc (.cells #[.int .i64 c.epoch, .int .i64 c.leader, .slice B1 c.isr.length d1, .slice B3 c.known.length d3, .slice B5 c.reps.length d5, .int .i64 c.few, .int .i64 c.base] 26)) := (Below.refl _ _).alloc (by first | omega | (simp; done) | (simp; omega)) _
  have b_bx3 : Blk (W2.alloc (.cells #[.int .i64 c.epoch, .int .i64 c.leader, .slice B1 c.isr.length d1, .slice B3 c.known.length d3, .slice B5 c.reps.length d5, .int .i64 c.few, .int .i64 c.base] 26)) (w.heap.size) 26 #[.int .i64 c.epoch, .int .i64 c.leader, .slice A1 c.isr.length c1, .slice A3 c.known.length c3, .slice A5 c.reps.length c5, .int .i64 c.few, .int .i64 c.base] := (B2_bx.out).alloc _
  have b_bk3 : Blk (W2.alloc (.cells #[.int .i64 c.epoch, .int .i64 c.leader, .slice B1 c.isr.length d1, .slice B3 c.known.length d3, .slice B5 c.reps.length d5, .int .i64 c.few, .int .i64 c.base] 26)) (W2.heap.size) 26 #[.int .i64 c.epoch, .int .i64 c.leader, .slice B1 c.isr.length d1, .slice B3 c.known.length d3, .slice B5 c.reps.length d5, .int .i64 c.few, .int .i64 c.base] := Blk.new_ _ 26 #[.int .i64 c.epoch, .int .i64 c.leader, .slice B1 c.isr.length d1, .slice B3 c.known.length d3, .slice B5 c.reps.length d5, .int .i64 c.few, .int .i64 c.base] (by first | rfl | (simp; done) | (simp; omega))
  have k_v3 := K2_v.out.below hal3
  have k_k3 := HK.out.below hal3
  have hz3 : W2.heap.size + 1 ≤ (W2.alloc (.cells #[.int .i64 c.epoch, .int .i64 c.leader, .slice B1 c.isr.length d1, .slice B3 c.known.length d3, .slice B5 c.reps.length d5, .int .i64 c.few, .int .i64 c.base] 26)).heap.size := by first | omega | (simp; done) | (simp; omega)
  generalize W2.alloc (.cells #[.int .i64 c.epoch, .int .i64 c.leader, .slice B1 c.isr.length d1, .slice B3 c.known.length d3, .slice B5 c.reps.length d5, .int .i64 c.few, .int .i64 c.base] 26) = W3 at *
  have HB3 := Lib.hid hb3
  have B3_bx := Lib.hid b_bx3
  have B3_bk := Lib.hid b_bk3
  have K3_v := Lib.hid k_v3
  have K3_k := Lib.hid k_k3
  clear hb3 b_bx3 b_bk3 k_v3 k_k3
  clear B2_bx HB2 K2_v HK
  have c_bk0 := B3_bk.out.cell 0
  have c_bk1 := B3_bk.out.cell 1
  have c_bk2 := B3_bk.out.cell 2
  have c_bk3 := B3_bk.out.cell 3
  have c_bk4 := B3_bk.out.cell 4
  have c_bk5 := B3_bk.out.cell 5
  have c_bk6 := B3_bk.out.cell 6
  have l_bk := B3_bk.out.lt
  go_wp2_with fail
  clear c_bk0 c_bk1 c_bk2 c_bk3 c_bk4 c_bk5 c_bk6 l_bk
  refine (HF.out _ _ K3_k.out).mono ?_
  rintro e W4 ⟨v2, rfl, ha, hb⟩
  obtain ⟨D1, e1, D3, e3, D5, e5, rfl⟩ := ha.form
  unfold partV at *
  have HA := Lib.hid ha
  clear ha
  have hb4 : Below w.heap.size w W4 := below_then HB3.out hb
  have b_bx4 := B3_bx.out.below hb B3_bx.out.lt
  have b_bk4 := B3_bk.out.below hb B3_bk.out.lt
  have k_v4 := K3_v.out.below hb
  have k_k4 := K3_k.out.below hb
  have hz4 := hb.size
  have HB4 := Lib.hid hb4
  have B4_bx := Lib.hid b_bx4
  have B4_bk := Lib.hid b_bk4
  have K4_v := Lib.hid k_v4
  have K4_k := Lib.hid k_k4
  clear hb4 b_bx4 b_bk4 k_v4 k_k4
  clear B3_bx B3_bk HB3 K3_v K3_k
  go_upto_region 3 with fail
  have hsz5 := HB4.out.size
  have hb5 : Below w.heap.size w (W4.alloc (.cells #[.int .i64 c2.epoch, .int .i64 c2.leader, .slice D1 c2.isr.length e1, .slice D3 c2.known.length e3, .slice D5 c2.reps.length e5, .int .i64 c2.few, .int .i64 c2.base] 26)) := (HB4.out).alloc (by first | omega | (simp; done) | (simp; omega)) _
  have hal5 : Below W4.heap.size W4 (W4.alloc (.cells #[.int .i64 c2.epoch, .int .i64 c2.leader, .slice D1 c2.isr.length e1, .slice D3 c2.known.length e3, .slice D5 c2.reps.length e5, .int .i64 c2.few, .int .i64 c2.base] 26)) := (Below.refl _ _).alloc (by first | omega | (simp; done) | (simp; omega)) _
  have b_bx5 : Blk (W4.alloc (.cells #[.int .i64 c2.epoch, .int .i64 c2.leader, .slice D1 c2.isr.length e1, .slice D3 c2.known.length e3, .slice D5 c2.reps.length e5, .int .i64 c2.few, .int .i64 c2.base] 26)) (w.heap.size) 26 #[.int .i64 c.epoch, .int .i64 c.leader, .slice A1 c.isr.length c1, .slice A3 c.known.length c3, .slice A5 c.reps.length c5, .int .i64 c.few, .int .i64 c.base] := (B4_bx.out).alloc _
  have b_bk5 : Blk (W4.alloc (.cells #[.int .i64 c2.epoch, .int .i64 c2.leader, .slice D1 c2.isr.length e1, .slice D3 c2.known.length e3, .slice D5 c2.reps.length e5, .int .i64 c2.few, .int .i64 c2.base] 26)) (W2.heap.size) 26 #[.int .i64 c.epoch, .int .i64 c.leader, .slice B1 c.isr.length d1, .slice B3 c.known.length d3, .slice B5 c.reps.length d5, .int .i64 c.few, .int .i64 c.base] := (B4_bk.out).alloc _
  have b_ba5 : Blk (W4.alloc (.cells #[.int .i64 c2.epoch, .int .i64 c2.leader, .slice D1 c2.isr.length e1, .slice D3 c2.known.length e3, .slice D5 c2.reps.length e5, .int .i64 c2.few, .int .i64 c2.base] 26)) (W4.heap.size) 26 #[.int .i64 c2.epoch, .int .i64 c2.leader, .slice D1 c2.isr.length e1, .slice D3 c2.known.length e3, .slice D5 c2.reps.length e5, .int .i64 c2.few, .int .i64 c2.base] := Blk.new_ _ 26 #[.int .i64 c2.epoch, .int .i64 c2.leader, .slice D1 c2.isr.length e1, .slice D3 c2.known.length e3, .slice D5 c2.reps.length e5, .int .i64 c2.few, .int .i64 c2.base] (by first | rfl | (simp; done) | (simp; omega))
  have k_v5 := K4_v.out.below hal5
  have k_k5 := K4_k.out.below hal5
  have k_a5 := HA.out.below hal5
  have hz5 : W4.heap.size + 1 ≤ (W4.alloc (.cells #[.int .i64 c2.epoch, .int .i64 c2.leader, .slice D1 c2.isr.length e1, .slice D3 c2.known.length e3, .slice D5 c2.reps.length e5, .int .i64 c2.few, .int .i64 c2.base] 26)).heap.size := by first | omega | (simp; done) | (simp; omega)
  generalize W4.alloc (.cells #[.int .i64 c2.epoch, .int .i64 c2.leader, .slice D1 c2.isr.length e1, .slice D3 c2.known.length e3, .slice D5 c2.reps.length e5, .int .i64 c2.few, .int .i64 c2.base] 26) = W5 at *
  have HB5 := Lib.hid hb5
  have B5_bx := Lib.hid b_bx5
  have B5_bk := Lib.hid b_bk5
  have B5_ba := Lib.hid b_ba5
  have K5_v := Lib.hid k_v5
  have K5_k := Lib.hid k_k5
  have K5_a := Lib.hid k_a5
  clear hb5 b_bx5 b_bk5 b_ba5 k_v5 k_k5 k_a5
  clear B4_bx B4_bk HB4 K4_v K4_k HA
  have c_bx0 := B5_bx.out.cell 0
  have c_bx1 := B5_bx.out.cell 1
  have c_bx2 := B5_bx.out.cell 2
  have c_bx3 := B5_bx.out.cell 3
  have c_bx4 := B5_bx.out.cell 4
  have c_bx5 := B5_bx.out.cell 5
  have c_bx6 := B5_bx.out.cell 6
  have l_bx := B5_bx.out.lt
  go_wp2_with fail
  clear c_bx0 c_bx1 c_bx2 c_bx3 c_bx4 c_bx5 c_bx6 l_bx
  refine (HG.out _ _ K5_v.out).mono ?_
  rintro e W6 ⟨v3, rfl, hq, hb⟩
  obtain ⟨F1, g1, F3, g3, F5, g5, rfl⟩ := hq.form
  unfold partV at *
  have HQ := Lib.hid hq
  clear hq
  have hb6 : Below w.heap.size w W6 := below_then HB5.out hb
  have b_bx6 := B5_bx.out.below hb B5_bx.out.lt
  have b_bk6 := B5_bk.out.below hb B5_bk.out.lt
  have b_ba6 := B5_ba.out.below hb B5_ba.out.lt
  have k_v6 := K5_v.out.below hb
  have k_k6 := K5_k.out.below hb
  have k_a6 := K5_a.out.below hb
  have hz6 := hb.size
  have HB6 := Lib.hid hb6
  have B6_bx := Lib.hid b_bx6
  have B6_bk := Lib.hid b_bk6
  have B6_ba := Lib.hid b_ba6
  have K6_v := Lib.hid k_v6
  have K6_k := Lib.hid k_k6
  have K6_a := Lib.hid k_a6
  clear hb6 b_bx6 b_bk6 b_ba6 k_v6 k_k6 k_a6
  clear B5_bx B5_bk B5_ba HB5 K5_v K5_k K5_a
  go_upto_region 4 with fail
  have hsz7 := HB6.out.size
  have hb7 : Below w.heap.size w (W6.alloc (.cells #[.int .i64 c2.epoch, .int .i64 c2.leader, .slice F1 c2.isr.length g1, .slice F3 c2.known.length g3, .slice F5 c2.reps.length g5, .int .i64 c2.few, .int .i64 c2.base] 26)) := (HB6.out).alloc (by first | omega | (simp; done) | (simp; omega)) _
  have hal7 : Below W6.heap.size W6 (W6.alloc (.cells #[.int .i64 c2.epoch, .int .i64 c2.leader, .slice F1 c2.isr.length g1, .slice F3 c2.known.length g3, .slice F5 c2.reps.length g5, .int .i64 c2.few, .int .i64 c2.base] 26)) := (Below.refl _ _).alloc (by first | omega | (simp; done) | (simp; omega)) _
  have b_bx7 : Blk (W6.alloc (.cells #[.int .i64 c2.epoch, .int .i64 c2.leader, .slice F1 c2.isr.length g1, .slice F3 c2.known.length g3, .slice F5 c2.reps.length g5, .int .i64 c2.few, .int .i64 c2.base] 26)) (w.heap.size) 26 #[.int .i64 c.epoch, .int .i64 c.leader, .slice A1 c.isr.length c1, .slice A3 c.known.length c3, .slice A5 c.reps.length c5, .int .i64 c.few, .int .i64 c.base] := (B6_bx.out).alloc _
  have b_bk7 : Blk (W6.alloc (.cells #[.int .i64 c2.epoch, .int .i64 c2.leader, .slice F1 c2.isr.length g1, .slice F3 c2.known.length g3, .slice F5 c2.reps.length g5, .int .i64 c2.few, .int .i64 c2.base] 26)) (W2.heap.size) 26 #[.int .i64 c.epoch, .int .i64 c.leader, .slice B1 c.isr.length d1, .slice B3 c.known.length d3, .slice B5 c.reps.length d5, .int .i64 c.few, .int .i64 c.base] := (B6_bk.out).alloc _
  have b_ba7 : Blk (W6.alloc (.cells #[.int .i64 c2.epoch, .int .i64 c2.leader, .slice F1 c2.isr.length g1, .slice F3 c2.known.length g3, .slice F5 c2.reps.length g5, .int .i64 c2.few, .int .i64 c2.base] 26)) (W4.heap.size) 26 #[.int .i64 c2.epoch, .int .i64 c2.leader, .slice D1 c2.isr.length e1, .slice D3 c2.known.length e3, .slice D5 c2.reps.length e5, .int .i64 c2.few, .int .i64 c2.base] := (B6_ba.out).alloc _
  have b_bb7 : Blk (W6.alloc (.cells #[.int .i64 c2.epoch, .int .i64 c2.leader, .slice F1 c2.isr.length g1, .slice F3 c2.known.length g3, .slice F5 c2.reps.length g5, .int .i64 c2.few, .int .i64 c2.base] 26)) (W6.heap.size) 26 #[.int .i64 c2.epoch, .int .i64 c2.leader, .slice F1 c2.isr.length g1, .slice F3 c2.known.length g3, .slice F5 c2.reps.length g5, .int .i64 c2.few, .int .i64 c2.base] := Blk.new_ _ 26 #[.int .i64 c2.epoch, .int .i64 c2.leader, .slice F1 c2.isr.length g1, .slice F3 c2.known.length g3, .slice F5 c2.reps.length g5, .int .i64 c2.few, .int .i64 c2.base] (by first | rfl | (simp; done) | (simp; omega))
  have k_v7 := K6_v.out.below hal7
  have k_k7 := K6_k.out.below hal7
  have k_a7 := K6_a.out.below hal7
  have k_b7 := HQ.out.below hal7
  have hz7 : W6.heap.size + 1 ≤ (W6.alloc (.cells #[.int .i64 c2.epoch, .int .i64 c2.leader, .slice F1 c2.isr.length g1, .slice F3 c2.known.length g3, .slice F5 c2.reps.length g5, .int .i64 c2.few, .int .i64 c2.base] 26)).heap.size := by first | omega | (simp; done) | (simp; omega)
  generalize W6.alloc (.cells #[.int .i64 c2.epoch, .int .i64 c2.leader, .slice F1 c2.isr.length g1, .slice F3 c2.known.length g3, .slice F5 c2.reps.length g5, .int .i64 c2.few, .int .i64 c2.base] 26) = W7 at *
  have HB7 := Lib.hid hb7
  have B7_bx := Lib.hid b_bx7
  have B7_bk := Lib.hid b_bk7
  have B7_ba := Lib.hid b_ba7
  have B7_bb := Lib.hid b_bb7
  have K7_v := Lib.hid k_v7
  have K7_k := Lib.hid k_k7
  have K7_a := Lib.hid k_a7
  have K7_b := Lib.hid k_b7
  clear hb7 b_bx7 b_bk7 b_ba7 b_bb7 k_v7 k_k7 k_a7 k_b7
  clear B6_bx B6_bk B6_ba HB6 K6_v K6_k K6_a HQ
  have c_ba0 := B7_ba.out.cell 0
  have c_ba1 := B7_ba.out.cell 1
  have c_ba2 := B7_ba.out.cell 2
  have c_ba3 := B7_ba.out.cell 3
  have c_ba4 := B7_ba.out.cell 4
  have c_ba5 := B7_ba.out.cell 5
  have c_ba6 := B7_ba.out.cell 6
  have l_ba := B7_ba.out.lt
  have c_bb0 := B7_bb.out.cell 0
  have c_bb1 := B7_bb.out.cell 1
  have c_bb2 := B7_bb.out.cell 2
  have c_bb3 := B7_bb.out.cell 3
  have c_bb4 := B7_bb.out.cell 4
  have c_bb5 := B7_bb.out.cell 5
  have c_bb6 := B7_bb.out.cell 6
  have l_bb := B7_bb.out.lt
  go_wp2_with fail
  clear c_ba0 c_ba1 c_ba2 c_ba3 c_ba4 c_ba5 c_ba6 l_ba c_bb0 c_bb1 c_bb2 c_bb3 c_bb4 c_bb5 c_bb6 l_bb
  refine (samePart_same _ _ c2 _ K7_a.out K7_b.out).mono ?_
  rintro e W8 ⟨rfl, hb⟩
  have hb8 : Below w.heap.size w W8 := below_then HB7.out hb
  have b_bx8 := B7_bx.out.below hb B7_bx.out.lt
  have b_bk8 := B7_bk.out.below hb B7_bk.out.lt
  have b_ba8 := B7_ba.out.below hb B7_ba.out.lt
  have b_bb8 := B7_bb.out.below hb B7_bb.out.lt
  have k_v8 := K7_v.out.below hb
  have k_k8 := K7_k.out.below hb
  have k_a8 := K7_a.out.below hb
  have k_b8 := K7_b.out.below hb
  have hz8 := hb.size
  have HB8 := Lib.hid hb8
  have B8_bx := Lib.hid b_bx8
  have B8_bk := Lib.hid b_bk8
  have B8_ba := Lib.hid b_ba8
  have B8_bb := Lib.hid b_bb8
  have K8_v := Lib.hid k_v8
  have K8_k := Lib.hid k_k8
  have K8_a := Lib.hid k_a8
  have K8_b := Lib.hid k_b8
  clear hb8 b_bx8 b_bk8 b_ba8 b_bb8 k_v8 k_k8 k_a8 k_b8
  clear B7_bx B7_bk B7_ba B7_bb HB7 K7_v K7_k K7_a K7_b
  have c_bk0 := B8_bk.out.cell 0
  have c_bk1 := B8_bk.out.cell 1
  have c_bk2 := B8_bk.out.cell 2
  have c_bk3 := B8_bk.out.cell 3
  have c_bk4 := B8_bk.out.cell 4
  have c_bk5 := B8_bk.out.cell 5
  have c_bk6 := B8_bk.out.cell 6
  have l_bk := B8_bk.out.lt
  have c_bx0 := B8_bx.out.cell 0
  have c_bx1 := B8_bx.out.cell 1
  have c_bx2 := B8_bx.out.cell 2
  have c_bx3 := B8_bx.out.cell 3
  have c_bx4 := B8_bx.out.cell 4
  have c_bx5 := B8_bx.out.cell 5
  have c_bx6 := B8_bx.out.cell 6
  have l_bx := B8_bx.out.lt
  go_wp2_with fail
  clear c_bk0 c_bk1 c_bk2 c_bk3 c_bk4 c_bk5 c_bk6 l_bk c_bx0 c_bx1 c_bx2 c_bx3 c_bx4 c_bx5 c_bx6 l_bx
  refine (samePart_same _ _ c _ K8_k.out K8_v.out).mono ?_
  rintro e W9 ⟨rfl, hb⟩
  have hb9 : Below w.heap.size w W9 := below_then HB8.out hb
  have b_bx9 := B8_bx.out.below hb B8_bx.out.lt
  have b_bk9 := B8_bk.out.below hb B8_bk.out.lt
  have b_ba9 := B8_ba.out.below hb B8_ba.out.lt
  have b_bb9 := B8_bb.out.below hb B8_bb.out.lt
  have k_v9 := K8_v.out.below hb
  have k_k9 := K8_k.out.below hb
  have k_a9 := K8_a.out.below hb
  have k_b9 := K8_b.out.below hb
  have hz9 := hb.size
  have HB9 := Lib.hid hb9
  have B9_bx := Lib.hid b_bx9
  have B9_bk := Lib.hid b_bk9
  have B9_ba := Lib.hid b_ba9
  have B9_bb := Lib.hid b_bb9
  have K9_v := Lib.hid k_v9
  have K9_k := Lib.hid k_k9
  have K9_a := Lib.hid k_a9
  have K9_b := Lib.hid k_b9
  clear hb9 b_bx9 b_bk9 b_ba9 b_bb9 k_v9 k_k9 k_a9 k_b9
  clear B8_bx B8_bk B8_ba B8_bb HB8 K8_v K8_k K8_a K8_b
  go_wp2
  go_ret
  exact ⟨rfl, HB9.out⟩

set_option maxRecDepth 100000 in
theorem contract (H : Type) (enc : TypeId × Value → H) (W : World) (base : Nat) (args : Array Value) (ds gs : List (DataW H)) (before : List MemPlace)
    (hval : ∀ (j : Nat) t v, Try.f21.params[j]? = some t → args[j]? = some v → Value.okWide Try.prog W .any base t v)
    (hW : DataW.Whole enc Try.prog Try.f21.params.toList Rows.partFetchesSpec.vars false W args.toList ds gs before) (hsz : (DataW.weightsEach Try.prog (Try.f21.params.toList ++ Rows.partFetchesSpec.plain.varTypes Try.prog) (ds ++ gs)).all (· ≤ reachBytes) = true) :
    Calls Try.prog 21 args W fun e W' => ∃ v, e = .returned v ∧ Rows.partFetchesSpec.post enc Try.prog Try.f21 false true false false W args v W' := by
  have hW' := hW
  obtain ⟨p, q, hA0, hV, rfl, hfz, hnd⟩ := hW
  have hA : DataW.TrodAll enc Try.prog W 0 (fun _ => true) true Try.f21.params.toList args.toList ds p := hA0
  rw [Try.params21] at hA hval
  obtain ⟨v0, vs0, d0, ds0, p0, q0, hargs, rfl, rfl, h0, r0⟩ := trodAll_cons hA
  obtain ⟨v1, vs1, d1, ds1, p1, q1, rfl, rfl, rfl, h1, r1⟩ := trodAll_cons r0
  obtain ⟨rfl, rfl, rfl⟩ := trodAll_nil r1
  obtain rfl : args = #[v0, v1] := by cases args; simp_all
  obtain ⟨rfl, rfl⟩ := trodVars_none hV
  obtain ⟨x, ptx, wfx, smx⟩ := open_part (hval 0 26 v0 rfl rfl) h0
  obtain ⟨y, ey, -, -, wy⟩ := open_int Try.underlying3 (hval 1 3 v1 rfl rfl) h1
  subst ey
  refine Calls.mono (R := fun e W' => e = .returned (.bool true) ∧ Below W.heap.size W W') ?_ fun e W' ⟨he, hb⟩ => ?_
  · have hs := smx (fits_arg hsz (j := 0) (t := 26) (by rw [Try.params21]; rfl) rfl)
    obtain ⟨s1, s2, s3, s4⟩ := hs
    simp only [reachBytes] at s1 s2 s3 s4
    rcases at_cases x y with ⟨cd, hf⟩ | ⟨hn, i, rfl, hi⟩
    · exact walk v0 x zeroP y 0 cd W ptx (by omega) (by omega) (by omega) (fun t ht => by have := s4 t ht; omega) (fun v w h => fetch_at v x y cd hf w h) (fun v w h => fetchedOf_at v x y cd hf w h)
    · by_cases hl0 : x.leader < 0
      · exact walk v0 x zeroP i 0 8 W ptx (by omega) (by omega) (by omega) (fun t ht => by have := s4 t ht; omega) (fun v w h => fetch_none v x i hn hi hl0 w h) (fun v w h => fetchedOf_none v x i hn hi hl0 w h)
      · obtain ⟨l, hl⟩ : ∃ l : Nat, x.leader = l := ⟨x.leader.toNat, by omega⟩
        have hll : l < x.reps.length := by have := hn.leader; omega
        by_cases hne : l = i
        · exact walk v0 x zeroP i 0 8 W ptx (by omega) (by omega) (by omega) (fun t ht => by have := s4 t ht; omega) (fun v w h => fetch_same v x i hn hi (by rw [hl, hne]) w h) (fun v w h => fetchedOf_same v x i hn hi (by rw [hl, hne]) w h)
        · rcases hu : x.reps[i].up with _ | _
          · exact walk v0 x zeroP i 0 7 W ptx (by omega) (by omega) (by omega) (fun t ht => by have := s4 t ht; omega) (fun v w h => fetch_down v x i hn hi (by omega) (by omega) hu w h) (fun v w h => fetchedOf_down v x i hn hi (by omega) (by omega) hu w h)
          · obtain ⟨ei, ji, hli⟩ := hn.log i hi
            obtain ⟨el, jl, hlg⟩ := hn.log l hll
            obtain ⟨n, hcm⟩ := commTo_ex ei el
            have hql0 := adv_len ⟨x.epoch, x.leader, x.isr, x.known.set i ((min ji n : Nat) : Int), x.reps.set i { x.reps[i] with bytes := x.reps[i].bytes.take (flat (ei.take n)).length, synced := ((min x.reps[i].synced.toNat (flat (ei.take n)).length : Nat) : Int) }, x.few, x.base⟩ l hl
            simp only [List.length_set] at hql0
            have hqi := Nat.lt_of_lt_of_eq hi hql0.symm
            have hql := Nat.lt_of_lt_of_eq hll hql0.symm
            by_cases hend : el.length ≤ n
            · exact walk v0 x _ i 0 0 W ptx (by omega) (by omega) (by omega) (fun t ht => by have := s4 t ht; omega) (fun v w h => fetch_end v x hn i l hi hl hll hne hu hli hlg n hcm rfl rfl rfl rfl rfl hqi hql hend rfl w h) (fun v w h => fetchedOf_end v x hn i l hi hl hll hne hu hli hlg n hcm rfl rfl rfl rfl rfl hqi hql hend rfl w h)
            · have hmore : n < el.length := by omega
              by_cases hap : (ei.take n).length = 400 ∨ 40000 < (x.reps[i].bytes.take (flat (ei.take n)).length).length + (el[n].enc).length
              · exact walk v0 x _ i 0 0 W ptx (by omega) (by omega) (by omega) (fun t ht => by have := s4 t ht; omega) (fun v w h => fetch_full v x hn i l hi hl hll hne hu hli hlg n hcm rfl rfl rfl rfl rfl hqi hql hmore hap rfl w h) (fun v w h => fetchedOf_full v x hn i l hi hl hll hne hu hli hlg n hcm rfl rfl rfl rfl rfl hqi hql hmore hap rfl w h)
              · exact walk v0 x _ i 1 0 W ptx (by omega) (by omega) (by omega) (fun t ht => by have := s4 t ht; omega) (fun v w h => fetch_ok v x hn i l hi hl hll hne hu hli hlg n hcm rfl rfl rfl rfl rfl hqi hql hmore rfl hap rfl (by simpa using hqi) (by simpa using hql) rfl w h) (fun v w h => fetchedOf_ok v x hn i l hi hl hll hne hu hli hlg n hcm rfl rfl rfl rfl rfl hqi hql hmore rfl hap rfl (by simpa using hqi) (by simpa using hql) rfl w h)
  · subst he
    exact ⟨_, rfl, law_post laid_ rfl rfl (by rfl) Try.underlying4 (by rw [Try.params21]; exact rec_ok (by kernel_rfl)) hW' hb⟩

set_option maxRecDepth 100000 in
theorem lifted (os : Os) (started : os.Started) (H : Type) (enc : TypeId × Value → H) :
    ReturnsInHanded {} Try.checked os 21 .any (Rows.partFetchesSpec.pre6 enc Try.prog Try.f21 Rows.partFetchesRow.domain false) (Rows.partFetchesSpec.post enc Try.prog Try.f21 false true false false) := by
  refine returnsInHanded_of_change_sized (C := Try.checked) own_ started (by kernel_rfl) Try.func21
    (ChangeSpec.witness6 (enc := enc) (C := Try.checked) false ⟨#[], #[.agg #[.int .i64 0, .int .i64 0, .slice none 0 0, .slice none 0 0, .slice none 0 0, .int .i64 0, .int .i64 0], .int .i64 0], []⟩ 8 (by kernel_rfl) (by kernel_rfl) (by kernel_rfl) (by kernel_rfl)) ?_
  intro W base args ds gs before hval hW _ hsz _
  exact contract H enc W base args ds gs before hval hW hsz

theorem closed : joinedFacts Try.prog 21 Try.f21 Rows.partFetchesSpec Rows.partFetchesRow = true := by
  unfold joinedFacts
  rw [mayEnter_, lifts_, make_]
  kernel_rfl

theorem proved : Rows.PartFetchesSaid :=
  OpenClaim.holds_of_wide 21 Try.f21 rfl rfl rfl rfl rfl rfl rfl ⟨rfl, rfl, rfl, rfl, rfl⟩ rfl rfl rfl rfl rfl (by kernel_rfl) Try.func21 closed
    (of_decide_eq_true (by kernel_rfl)) (by unfold Func.isWrapper; first | (rw [if_pos (by decide +kernel)]; kernel_rfl) | (rw [if_neg (by decide +kernel)]; exact ⟨rfl, rfl⟩))
    (fun os started H enc _ => lifted os started H enc)

end Go.Proofs.Ytpjjfnpdopdnkaa.lawPartFetches
