/- tailraceref.knownFault. -/
import Derived.Test.YtjkoceacjbhblaaKnownA
namespace Go.Proofs.Ytjkoceacjbhblaa
open Go.RowKit

set_option maxRecDepth 100000 in
set_option maxHeartbeats 4000000 in
theorem knownFault_name (v : Value) (c : CoordD) (s : ByteArray) (ver : Int) (n : Int) (hf : NameFault c s n) (hn0 : n ≠ 0) (w : World) (h : Cv w v c) (hnm : ∀ t ∈ c.txns, t.name.size ≤ 9223372036854775807) (hs : s.size ≤ 9223372036854775807) :
    Calls Try.prog 92 #[v, .string s, .int .i64 ver] w fun e w' => e = .returned (.int .i64 n) ∧ Below w.heap.size w w' := by
  obtain ⟨tv, rfl, hx, hlen⟩ := id h
  obtain ⟨A, m, rfl, hm, hcell⟩ := hx.at_
  have H := Lib.hid h
  have HC := Lib.hid hcell
  clear h hx hcell
  unfold coordV at *
  obtain ⟨ck, nx, wt, ts⟩ := c
  simp only at *
  have HNM := Lib.hid hnm
  clear hnm
  have HF := Lib.hid hf
  have hn1 : (n == 0) = false := beq_eq_false_iff_ne.2 hn0
  clear hf hn0
  go_enter Try.func92, Try.ntmps92
  go_wp2_with fail
  have hal := (Below.refl w.heap.size w).alloc (Nat.le_refl _) (.cells #[.int .i64 ck, .int .i64 nx, .int .i64 wt, .slice A ts.length m] 28)
  have bx := Blk.new w 28 #[.int .i64 ck, .int .i64 nx, .int .i64 wt, .slice A ts.length m]
  refine (coordFault_any _ ⟨ck, nx, wt, ts⟩ s n _ (H.out.below hal) HNM.out hs (Or.inl HF.out)).mono ?_
  rintro e w1 ⟨rfl, hb⟩
  have hb1 := below_then hal hb
  have HB := Lib.hid hb1
  clear hal hb hb1 bx
  go_wp2_with fail
  go_quiet (fail)
  go_wp2
  go_ret
  exact ⟨rfl, below_then HB.out (below_drewN_ _ _)⟩
set_option maxRecDepth 100000 in
set_option maxHeartbeats 4000000 in
theorem knownFault_none (v : Value) (c : CoordD) (s : ByteArray) (ver : Int) (hk : CoordOk c) (hn : NameOk s) (hi : idxOf c.txns s = none) (w : World) (h : Cv w v c) (hnm : ∀ t ∈ c.txns, t.name.size ≤ 9223372036854775807) (hs : s.size ≤ 9223372036854775807) :
    Calls Try.prog 92 #[v, .string s, .int .i64 ver] w fun e w' => e = .returned (.int .i64 5) ∧ Below w.heap.size w w' := by
  obtain ⟨tv, rfl, hx, hlen⟩ := id h
  obtain ⟨A, m, rfl, hm, hcell⟩ := hx.at_
  have H := Lib.hid h
  have HC := Lib.hid hcell
  clear h hx hcell
  unfold coordV at *
  obtain ⟨ck, nx, wt, ts⟩ := c
  simp only at *
  have HNM := Lib.hid hnm
  clear hnm
  have hix : ixOf ts s = -1 := by simp [ixOf, hi]
  have HI := Lib.hid hix
  have HK := Lib.hid hk
  have HN := Lib.hid hn
  clear hi hix hk hn
  go_enter Try.func92, Try.ntmps92
  go_wp2_with fail
  have hal := (Below.refl w.heap.size w).alloc (Nat.le_refl _) (.cells #[.int .i64 ck, .int .i64 nx, .int .i64 wt, .slice A ts.length m] 28)
  have bx := Blk.new w 28 #[.int .i64 ck, .int .i64 nx, .int .i64 wt, .slice A ts.length m]
  refine (coordFault_any _ ⟨ck, nx, wt, ts⟩ s 0 _ (H.out.below hal) HNM.out hs (Or.inr ⟨HK.out, HN.out, rfl⟩)).mono ?_
  rintro e w1 ⟨rfl, hb⟩
  have bx1 := bx.below hb bx.lt
  have hb1 := below_then hal hb
  obtain ⟨⟨g0, g1, g2, g3⟩, -, gl⟩ := bx1.all4
  have HB := Lib.hid hb1
  have BX := Lib.hid bx1
  clear hal hb hb1 bx bx1
  go_wp2_with fail
  refine (txnOf_any _ ⟨ck, nx, wt, ts⟩ s _ (H.out.below HB.out)).mono ?_
  rintro e w2 ⟨rfl, hb⟩
  simp only
  rw [HI.out]
  have bx2 := BX.out.below hb BX.out.lt
  have hb2 := below_then HB.out hb
  clear g0 g1 g2 g3 gl
  obtain ⟨⟨g0, g1, g2, g3⟩, -, gl⟩ := bx2.all4
  have HB2 := Lib.hid hb2
  have BX2 := Lib.hid bx2
  clear hb hb2 bx2
  go_wp2_with fail
  go_quiet (fail)
  go_wp2
  go_ret
  exact ⟨rfl, below_then HB2.out (below_drewN_ _ _)⟩
set_option maxRecDepth 100000 in
set_option maxHeartbeats 4000000 in
theorem knownFault_ver (v : Value) (c : CoordD) (s : ByteArray) (ver : Int) (i : Nat) (hk : CoordOk c) (hn : NameOk s) (hi : idxOf c.txns s = some i) (hl : i < c.txns.length) (hv : c.txns[i].ver ≠ ver) (w : World) (h : Cv w v c) (hnm : ∀ t ∈ c.txns, t.name.size ≤ 9223372036854775807) (hs : s.size ≤ 9223372036854775807) :
    Calls Try.prog 92 #[v, .string s, .int .i64 ver] w fun e w' => e = .returned (.int .i64 10) ∧ Below w.heap.size w w' := by
  obtain ⟨tv, rfl, hx, hlen⟩ := id h
  obtain ⟨A, m, rfl, hm, hcell⟩ := hx.at_
  have H := Lib.hid h
  have HC := Lib.hid hcell
  clear h hx hcell
  unfold coordV at *
  obtain ⟨ck, nx, wt, ts⟩ := c
  simp only at *
  have HNM := Lib.hid hnm
  clear hnm
  have hix : ixOf ts s = i := (ix_some hi).2
  have hv1 : (ts[i].ver != ver) = true := by simpa using hv
  have HI := Lib.hid hix
  have HK := Lib.hid hk
  have HN := Lib.hid hn
  clear hi hix hk hn hv
  go_enter Try.func92, Try.ntmps92
  go_wp2_with fail
  have hal := (Below.refl w.heap.size w).alloc (Nat.le_refl _) (.cells #[.int .i64 ck, .int .i64 nx, .int .i64 wt, .slice A ts.length m] 28)
  have bx := Blk.new w 28 #[.int .i64 ck, .int .i64 nx, .int .i64 wt, .slice A ts.length m]
  refine (coordFault_any _ ⟨ck, nx, wt, ts⟩ s 0 _ (H.out.below hal) HNM.out hs (Or.inr ⟨HK.out, HN.out, rfl⟩)).mono ?_
  rintro e w1 ⟨rfl, hb⟩
  have bx1 := bx.below hb bx.lt
  have hb1 := below_then hal hb
  obtain ⟨⟨g0, g1, g2, g3⟩, -, gl⟩ := bx1.all4
  have HB := Lib.hid hb1
  have BX := Lib.hid bx1
  clear hal hb hb1 bx bx1
  go_wp2_with fail
  refine (txnOf_any _ ⟨ck, nx, wt, ts⟩ s _ (H.out.below HB.out)).mono ?_
  rintro e w2 ⟨rfl, hb⟩
  simp only
  rw [HI.out]
  have bx2 := BX.out.below hb BX.out.lt
  have hb2 := below_then HB.out hb
  clear g0 g1 g2 g3 gl
  obtain ⟨⟨g0, g1, g2, g3⟩, -, gl⟩ := bx2.all4
  have HB2 := Lib.hid hb2
  have BX2 := Lib.hid bx2
  clear hb hb2 bx2
  obtain ⟨b, off, rfl, hbl, hcell⟩ := HC.out (Nat.lt_of_le_of_lt (Nat.zero_le i) hl)
  obtain ⟨pv, -, -, x2, -⟩ := hcell i hl
  have X2 := (HB2.out.cell (p := ⟨b, off + i * 7 + 2, none⟩) hbl).trans x2
  have i0 : (0 : Int) ≤ (i : Int) := by omega
  have i1 : (i : Int) < (ts.length : Int) := Int.ofNat_lt.2 hl
  have hbd : Below w2.heap.size w2 w2.drew := (Below.refl _ _).drew
  have hbl2 : b < w2.heap.size := by have := HB2.out.size; omega
  clear x2 hcell
  go_wp2_with fail
  go_region_with (go_at_call 86; refine (txnOf_any _ ⟨ck, nx, wt, ts⟩ s _ (H.out.below (below_then HB2.out hbd))).mono ?_; rintro e w5 ⟨rfl, hb5⟩; simp only; rw [HI.out]; have hA := below_then hbd hb5; have X5 := (hA.cell (p := ⟨b, off + i * 7 + 2, none⟩) hbl2).trans X2; have q3 := (BX2.out.below hA BX2.out.lt).cell 3; have ql := (BX2.out.below hA BX2.out.lt).lt)
  all_goals go_wp2
  all_goals go_ret
  all_goals exact ⟨rfl, below_then HB2.out hA⟩
set_option maxRecDepth 100000 in
set_option maxHeartbeats 4000000 in
theorem knownFault_good (v : Value) (c : CoordD) (s : ByteArray) (ver : Int) (i : Nat) (hk : CoordOk c) (hn : NameOk s) (hi : idxOf c.txns s = some i) (hl : i < c.txns.length) (hv : c.txns[i].ver = ver) (w : World) (h : Cv w v c) (hnm : ∀ t ∈ c.txns, t.name.size ≤ 9223372036854775807) (hs : s.size ≤ 9223372036854775807) :
    Calls Try.prog 92 #[v, .string s, .int .i64 ver] w fun e w' => e = .returned (.int .i64 0) ∧ Below w.heap.size w w' := by
  obtain ⟨tv, rfl, hx, hlen⟩ := id h
  obtain ⟨A, m, rfl, hm, hcell⟩ := hx.at_
  have H := Lib.hid h
  have HC := Lib.hid hcell
  clear h hx hcell
  unfold coordV at *
  obtain ⟨ck, nx, wt, ts⟩ := c
  simp only at *
  have HNM := Lib.hid hnm
  clear hnm
  have hix : ixOf ts s = i := (ix_some hi).2
  have hv1 : (ts[i].ver != ver) = false := by simp [hv]
  have HI := Lib.hid hix
  have HK := Lib.hid hk
  have HN := Lib.hid hn
  clear hi hix hk hn hv
  go_enter Try.func92, Try.ntmps92
  go_wp2_with fail
  have hal := (Below.refl w.heap.size w).alloc (Nat.le_refl _) (.cells #[.int .i64 ck, .int .i64 nx, .int .i64 wt, .slice A ts.length m] 28)
  have bx := Blk.new w 28 #[.int .i64 ck, .int .i64 nx, .int .i64 wt, .slice A ts.length m]
  refine (coordFault_any _ ⟨ck, nx, wt, ts⟩ s 0 _ (H.out.below hal) HNM.out hs (Or.inr ⟨HK.out, HN.out, rfl⟩)).mono ?_
  rintro e w1 ⟨rfl, hb⟩
  have bx1 := bx.below hb bx.lt
  have hb1 := below_then hal hb
  obtain ⟨⟨g0, g1, g2, g3⟩, -, gl⟩ := bx1.all4
  have HB := Lib.hid hb1
  have BX := Lib.hid bx1
  clear hal hb hb1 bx bx1
  go_wp2_with fail
  refine (txnOf_any _ ⟨ck, nx, wt, ts⟩ s _ (H.out.below HB.out)).mono ?_
  rintro e w2 ⟨rfl, hb⟩
  simp only
  rw [HI.out]
  have bx2 := BX.out.below hb BX.out.lt
  have hb2 := below_then HB.out hb
  clear g0 g1 g2 g3 gl
  obtain ⟨⟨g0, g1, g2, g3⟩, -, gl⟩ := bx2.all4
  have HB2 := Lib.hid hb2
  have BX2 := Lib.hid bx2
  clear hb hb2 bx2
  obtain ⟨b, off, rfl, hbl, hcell⟩ := HC.out (Nat.lt_of_le_of_lt (Nat.zero_le i) hl)
  obtain ⟨pv, -, -, x2, -⟩ := hcell i hl
  have X2 := (HB2.out.cell (p := ⟨b, off + i * 7 + 2, none⟩) hbl).trans x2
  have i0 : (0 : Int) ≤ (i : Int) := by omega
  have i1 : (i : Int) < (ts.length : Int) := Int.ofNat_lt.2 hl
  have hbd : Below w2.heap.size w2 w2.drew := (Below.refl _ _).drew
  have hbl2 : b < w2.heap.size := by have := HB2.out.size; omega
  clear x2 hcell
  go_wp2_with fail
  go_region_with (go_at_call 86; refine (txnOf_any _ ⟨ck, nx, wt, ts⟩ s _ (H.out.below (below_then HB2.out hbd))).mono ?_; rintro e w5 ⟨rfl, hb5⟩; simp only; rw [HI.out]; have hA := below_then hbd hb5; have X5 := (hA.cell (p := ⟨b, off + i * 7 + 2, none⟩) hbl2).trans X2; have q3 := (BX2.out.below hA BX2.out.lt).cell 3; have ql := (BX2.out.below hA BX2.out.lt).lt)
  all_goals go_wp2
  all_goals go_ret
  all_goals exact ⟨rfl, below_then HB2.out hA⟩

end Go.Proofs.Ytjkoceacjbhblaa
