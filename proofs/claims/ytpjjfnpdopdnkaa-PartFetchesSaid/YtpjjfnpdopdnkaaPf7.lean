/- Parts of a proof, merged: PartU, ViewA, ViewB, ViewC, ViewG, ViewI, ConcB, SegJ, PmPut. No condition. -/
import Derived.Test.YtpjjfnpdopdnkaaPf6
import Derived.Deep.RegionLaw
import Derived.Test.YtpjjfnpdopdnkaaPf2
import Derived.Maps.RangeWalk
import Derived.Maps.OwnOps
import Derived.Maps.Ext
import Derived.Test.YtpjjfnpdopdnkaaPf1
import Derived.Test.YtpjjfnpdopdnkaaPf4
import Derived.Lib.AppendZerosOnto
import Derived.Lib.SliceRun
import Derived.Deep.RegionHeld3
import Derived.Deep.DrawnRows
namespace Go.Proofs.Ytpjjfnpdopdnkaa
open Go.RowKit

/-- the loops of tailraceref.PartCopy: what was copied so far is the part c -/
def PcLp (w : World) (bc zc : Array Value) (n : Nat) (f : Nat → PartD) (i : Value) (wr : World) : Prop :=
  ∃ (k : Nat) (iv kv rv : Value), k ≤ n ∧ i = .int .i64 k ∧ PO (w.heap.size + 3) wr (f k) iv kv rv ∧ Blk wr w.heap.size 26 bc ∧ Blk wr (w.heap.size + 1) 26 zc ∧ Blk wr (w.heap.size + 2) 26 #[.int .i64 (f k).epoch, .int .i64 (f k).leader, iv, kv, rv, .int .i64 (f k).few, .int .i64 (f k).base] ∧ Below w.heap.size w wr ∧ w.heap.size + 3 ≤ wr.heap.size
theorem bool_info : (Try.prog.info? 4).map (fun i => (i.zero, i.size, i.bytes)) = some (some (.bool false), 1, 1) := by kernel_rfl
theorem int_info : (Try.prog.info? 3).map (fun i => (i.zero, i.size, i.bytes)) = some (some (.int .i64 0), 1, 8) := by kernel_rfl
theorem rep_info : (Try.prog.info? 71).map (fun i => (i.zero, i.size, i.bytes)) = some (some (.agg #[.bool false, .slice none 0 0, .int .i64 0, .int .i64 0]), 4, 48) := by kernel_rfl

set_option maxRecDepth 100000 in
set_option maxHeartbeats 16000000 in
theorem refPartCopy_any (v : Value) (c : PartD) (w : World) (h : Pv w v c) (h1 : c.isr.length ≤ 140737488355328) (h2 : c.known.length * 8 ≤ 140737488355328) (h3 : c.reps.length * 48 ≤ 140737488355328) (h4 : ∀ t ∈ c.reps, t.bytes.length ≤ 140737488355328) :
    Calls Try.prog 47 #[v] w (CopiesP c w) := by
  obtain ⟨i0, hi0, hy0, hy1, hy2'⟩ := info_parts bool_info
  obtain ⟨j0, hj0, hx0, hx1', hx2'⟩ := info_parts int_info
  obtain ⟨m0, hm0, hz0, hz1, hz2'⟩ := info_parts rep_info
  obtain ⟨xi, xk, xr, rfl, ix, kx, rx, hli, hlk, hlr⟩ := id h
  obtain ⟨A5, c5, rfl, hc5, hx2⟩ := rx.at_
  obtain ⟨A1, c1, rfl, hc1, hx1⟩ := ix.at_
  obtain ⟨A3, c3, rfl, hc3, hx3⟩ := kx.at_
  unfold partV at *
  have HC := Lib.hid hx2
  have HI := Lib.hid hx1
  have HK := Lib.hid hx3
  have H4 := Lib.hid h4
  clear h ix kx rx hx1 hx2 hx3 h4
  obtain ⟨ep, ld, is, ks, rs, fw, ba⟩ := c
  simp only at *
  go_enter Try.func47, Try.ntmps47
  go_wp2
  have bx := ((Blk.new w 26 #[.int .i64 ep, .int .i64 ld, .slice A1 is.length c1, .slice A3 ks.length c3, .slice A5 rs.length c5, .int .i64 fw, .int .i64 ba]).alloc (.cells #[.int .i64 0, .int .i64 0, .slice none 0 0, .slice none 0 0, .slice none 0 0, .int .i64 0, .int .i64 0] 26)).alloc (.cells #[.int .i64 ep, .int .i64 ld, .slice none 0 0, .slice none 0 0, .slice none 0 0, .int .i64 fw, .int .i64 ba] 26)
  have bz := (Blk.new (w.alloc (.cells #[.int .i64 ep, .int .i64 ld, .slice A1 is.length c1, .slice A3 ks.length c3, .slice A5 rs.length c5, .int .i64 fw, .int .i64 ba] 26)) 26 #[.int .i64 0, .int .i64 0, .slice none 0 0, .slice none 0 0, .slice none 0 0, .int .i64 0, .int .i64 0]).alloc (.cells #[.int .i64 ep, .int .i64 ld, .slice none 0 0, .slice none 0 0, .slice none 0 0, .int .i64 fw, .int .i64 ba] 26)
  have bn := Blk.new ((w.alloc (.cells #[.int .i64 ep, .int .i64 ld, .slice A1 is.length c1, .slice A3 ks.length c3, .slice A5 rs.length c5, .int .i64 fw, .int .i64 ba] 26)).alloc (.cells #[.int .i64 0, .int .i64 0, .slice none 0 0, .slice none 0 0, .slice none 0 0, .int .i64 0, .int .i64 0] 26)) 26 #[.int .i64 ep, .int .i64 ld, .slice none 0 0, .slice none 0 0, .slice none 0 0, .int .i64 fw, .int .i64 ba]
  have hbl : Below w.heap.size w (((w.alloc (.cells #[.int .i64 ep, .int .i64 ld, .slice A1 is.length c1, .slice A3 ks.length c3, .slice A5 rs.length c5, .int .i64 fw, .int .i64 ba] 26)).alloc (.cells #[.int .i64 0, .int .i64 0, .slice none 0 0, .slice none 0 0, .slice none 0 0, .int .i64 0, .int .i64 0] 26)).alloc (.cells #[.int .i64 ep, .int .i64 ld, .slice none 0 0, .slice none 0 0, .slice none 0 0, .int .i64 fw, .int .i64 ba] 26)) := ((((Below.refl _ _).alloc (Nat.le_refl _) _).alloc (by simp) _).alloc (by simp; omega) _)
  have hsz0 : w.heap.size + 3 ≤ (((w.alloc (.cells #[.int .i64 ep, .int .i64 ld, .slice A1 is.length c1, .slice A3 ks.length c3, .slice A5 rs.length c5, .int .i64 fw, .int .i64 ba] 26)).alloc (.cells #[.int .i64 0, .int .i64 0, .slice none 0 0, .slice none 0 0, .slice none 0 0, .int .i64 0, .int .i64 0] 26)).alloc (.cells #[.int .i64 ep, .int .i64 ld, .slice none 0 0, .slice none 0 0, .slice none 0 0, .int .i64 fw, .int .i64 ba] 26)).heap.size := by simp
  simp only [World.size_alloc] at bz bn
  generalize ((w.alloc (.cells #[.int .i64 ep, .int .i64 ld, .slice A1 is.length c1, .slice A3 ks.length c3, .slice A5 rs.length c5, .int .i64 fw, .int .i64 ba] 26)).alloc (.cells #[.int .i64 0, .int .i64 0, .slice none 0 0, .slice none 0 0, .slice none 0 0, .int .i64 0, .int .i64 0] 26)).alloc (.cells #[.int .i64 ep, .int .i64 ld, .slice none 0 0, .slice none 0 0, .slice none 0 0, .int .i64 fw, .int .i64 ba] 26) = W0 at *
  have HBX := Lib.hid bx
  have HBZ := Lib.hid bz
  have HBN := Lib.hid bn
  have HBL := Lib.hid hbl
  clear bx bz bn hbl
  go_loopw [4] (fun i wr => PcLp w #[.int .i64 ep, .int .i64 ld, .slice A1 is.length c1, .slice A3 ks.length c3, .slice A5 rs.length c5, .int .i64 fw, .int .i64 ba] #[.int .i64 0, .int .i64 0, .slice none 0 0, .slice none 0 0, .slice none 0 0, .int .i64 0, .int .i64 0] is.length (fun k => ⟨ep, ld, is.take k, [], [], fw, ba⟩) i wr) (fun i _ => is.length - (intOf i).toNat)
  case atStart => exact ⟨0, _, _, _, Nat.zero_le _, rfl, PO.nil _ _ _ _ _ _, HBX.out, HBZ.out, HBN.out, HBL.out, hsz0⟩
  case round =>
    obtain ⟨k, iv, kv, rv, hk, rfl, ho, hbx, hbz, hbn, hbw, hsz⟩ := hrel
    have htl : (is.take k).length = k := by rw [List.length_take]; omega
    obtain ⟨B1, d1, B3, d3, B5, d5, rfl, rfl, rfl⟩ := ho.form
    simp only [htl, List.length_nil] at hbn ho
    by_cases hlt : k < is.length
    · obtain ⟨b, off, rfl, hbb, hcell⟩ := HI.out (by omega)
      have X0 := (hbw.cell (p := ⟨b, off + k, none⟩) hbb).trans (hcell k hlt)
      have i0' : (0 : Int) ≤ (k : Int) := by omega
      have i1' : (k : Int) < (is.length : Int) := by omega
      have hble : b < wr.heap.size := by have := hbw.size; omega
      have g2 := hbx.cell 2
      have gl := hbx.lt
      have n2 : wr.cell? ⟨w.heap.size + 1 + 1, 2, none⟩ = some (.slice B1 k d1) := hbn.cell 2
      have nl : w.heap.size + 1 + 1 < wr.heap.size := hbn.lt
      have hdr : Below wr.heap.size wr wr.drew := (Below.refl _ _).drew
      have hod := ho.keep hdr
      have hne : ∀ g, (Value.slice B1 k d1).ownBlock = some g → w.heap.size + 3 ≤ g := fun g hg => by
        have := ho.isr.lt g hg
        omega
      have hszd := hdr.size
      have HND := Lib.hid (hbn.below hdr hbn.lt)
      have HXD := Lib.hid (hbx.below hdr hbx.lt)
      have HZD := Lib.hid (hbz.below hdr hbz.lt)
      have HOD := Lib.hid hod
      have HBD := Lib.hid (below_then hbw hdr)
      have HNE := Lib.hid hne
      have HFD := Lib.hid (own_eq hod.isr htl rfl)
      clear hcell hbn hbx hbz hne hod hdr ho hbw htl
      go_wp2_with fail
      go_region_law ((refine step_append_sl rfl (.tmp 25) (.tmp 31) 22 rfl (w.heap.size + 3) 4 i0 (.bool false) 1 1 Try.underlying22 hi0 hy0 hy1 hy2' rfl (by decide) _ _ _ (by first | rfl | simp [Act.eval, Act.put]) (HFD.out.alloc _) _ 1 _ (by first | rfl | simp [Act.eval, Act.put]) (Sl.lit' _ _ _ 1 1 _ rfl (by simp)) (bools_one [is[k]]) (by simp only [maxLen]; omega) (by omega) (by simp; omega) ?_; intro v7 w7 ho7 hg7 ha7; obtain ⟨A7, c7, rfl, hc7⟩ := (Sl.of_own ho7).form; have bn7 := (HND.out.alloc _).grown hg7 (fun e => by have := HNE.out _ e.symm; omega); have c7' : w7.cell? ⟨w.heap.size + 1 + 1, 2, none⟩ = some (.slice B1 k d1) := bn7.cell 2; have f7 : w7.frozen? ⟨w.heap.size + 1 + 1, 2, none⟩ = false := bn7.frozen 2; have l7 : w.heap.size + 1 + 1 < w7.heap.size := bn7.lt))
      all_goals
        have hpu := (HOD.out.pushIsr (x := is[k]) (n := k) (by simp only [List.length_take]; omega) hg7 ho7).under (a := ⟨w.heap.size + 2, 2, none⟩) (Nat.lt_succ_self _) (.slice A7 (k + 1) c7)
        have hbl7 : Below w.heap.size w w7 := (HBD.out.alloc (by have := HBD.out.size; omega) _).grown hg7 (by have := HBD.out.size; simp; omega) (fun b hb => by have := HNE.out b hb; omega)
        have hs7 := hg7.size
        have bx7 := ((HXD.out.alloc _).grown hg7 (fun e => by have := HNE.out _ e.symm; omega)).far (p := ⟨w.heap.size + 2, 2, none⟩) (by show w.heap.size ≠ w.heap.size + 2; omega) (.slice A7 (k + 1) c7)
        have bz7 := ((HZD.out.alloc _).grown hg7 (fun e => by have := HNE.out _ e.symm; omega)).far (p := ⟨w.heap.size + 2, 2, none⟩) (by show w.heap.size + 1 ≠ w.heap.size + 2; omega) (.slice A7 (k + 1) c7)
        have bn8 := bn7.set_ 2 (.slice A7 (k + 1) c7)
        simp only [List.setIfInBounds_toArray, List.set_cons_succ, List.set_cons_zero] at bn8
        have hbl8 := hbl7.setCell (p := ⟨w.heap.size + 2, 2, none⟩) (Nat.le_add_right _ 2) (.slice A7 (k + 1) c7)
        simp only [← List.take_succ_eq_append_getElem hlt] at hpu
        go_wp2
        go_light
        exact ⟨⟨k + 1, _, _, _, by omega, by go_num, hpu, bx7, bz7, bn8, hbl8, by simp at hs7 ⊢; omega⟩, by simp [intOf]; omega⟩
    · obtain rfl : k = is.length := by omega
      have ho9 := ho
      simp only [List.take_length] at ho9
      have g9 := hbx.cell 3
      have q9 := hbx.cell 2
      have gl9 := hbx.lt
      obtain ⟨w9, hw9⟩ : ∃ w9, w9 = wr := ⟨_, rfl⟩
      subst hw9
      have O2 := Lib.hid ho9
      have X2 := Lib.hid hbx
      have Z2 := Lib.hid hbz
      have N2 := Lib.hid hbn
      have L2 := Lib.hid hbw
      have hsz2 := hsz
      clear ho9 ho hbx hbz hbn hbw htl hsz hlt
      go_wp2_with fail
      clear g9 gl9 q9
      go_loopw [5] (fun i wr => PcLp w #[.int .i64 ep, .int .i64 ld, .slice A1 is.length c1, .slice A3 ks.length c3, .slice A5 rs.length c5, .int .i64 fw, .int .i64 ba] #[.int .i64 0, .int .i64 0, .slice none 0 0, .slice none 0 0, .slice none 0 0, .int .i64 0, .int .i64 0] ks.length (fun k => ⟨ep, ld, is, ks.take k, [], fw, ba⟩) i wr) (fun i _ => ks.length - (intOf i).toNat)
      case atStart => exact ⟨0, _, _, _, Nat.zero_le _, rfl, O2.out, X2.out, Z2.out, N2.out, L2.out, hsz2⟩
      case round =>
        obtain ⟨k, iv, kv, rv, hk, rfl, ho, hbx, hbz, hbn, hbw, hsz⟩ := hrel
        have htl : (ks.take k).length = k := by rw [List.length_take]; omega
        obtain ⟨B1, d1, B3, d3, B5, d5, rfl, rfl, rfl⟩ := ho.form
        simp only [htl, List.length_nil] at hbn ho
        by_cases hlt : k < ks.length
        · obtain ⟨b, off, rfl, hbb, hcell⟩ := HK.out (by omega)
          have X0 := (hbw.cell (p := ⟨b, off + k, none⟩) hbb).trans (hcell k hlt)
          have i0' : (0 : Int) ≤ (k : Int) := by omega
          have i1' : (k : Int) < (ks.length : Int) := by omega
          have hble : b < wr.heap.size := by have := hbw.size; omega
          have g2 := hbx.cell 3
          have gl := hbx.lt
          have n2 : wr.cell? ⟨w.heap.size + 1 + 1, 3, none⟩ = some (.slice B3 k d3) := hbn.cell 3
          have nl : w.heap.size + 1 + 1 < wr.heap.size := hbn.lt
          have hdr : Below wr.heap.size wr wr.drew := (Below.refl _ _).drew
          have hod := ho.keep hdr
          have hne : ∀ g, (Value.slice B3 k d3).ownBlock = some g → w.heap.size + 3 ≤ g := fun g hg => by
            have := ho.known.lt g hg
            omega
          have hszd := hdr.size
          have HND := Lib.hid (hbn.below hdr hbn.lt)
          have HXD := Lib.hid (hbx.below hdr hbx.lt)
          have HZD := Lib.hid (hbz.below hdr hbz.lt)
          have HOD := Lib.hid hod
          have HBD := Lib.hid (below_then hbw hdr)
          have HNE := Lib.hid hne
          have HFD := Lib.hid (own_eq hod.known htl rfl)
          clear hcell hbn hbx hbz hne hod hdr ho hbw htl
          go_wp2_with fail
          go_region_law ((refine step_append_sl rfl (.tmp 42) (.tmp 48) 23 rfl (w.heap.size + 3) 3 j0 (.int .i64 0) 1 8 Try.underlying23 hj0 hx0 hx1' hx2' rfl (by decide) _ _ _ (by first | rfl | simp [Act.eval, Act.put]) (HFD.out.alloc _) _ 1 _ (by first | rfl | simp [Act.eval, Act.put]) (Sl.lit' _ _ _ 1 1 _ rfl (by simp)) (ints_one [ks[k]]) (by simp only [maxLen]; omega) (by omega) (by simp; omega) ?_; intro v7 w7 ho7 hg7 ha7; obtain ⟨A7, c7, rfl, hc7⟩ := (Sl.of_own ho7).form; have bn7 := (HND.out.alloc _).grown hg7 (fun e => by have := HNE.out _ e.symm; omega); have c7' : w7.cell? ⟨w.heap.size + 1 + 1, 3, none⟩ = some (.slice B3 k d3) := bn7.cell 3; have f7 : w7.frozen? ⟨w.heap.size + 1 + 1, 3, none⟩ = false := bn7.frozen 3; have l7 : w.heap.size + 1 + 1 < w7.heap.size := bn7.lt))
          all_goals
            have hpu := (HOD.out.pushKnown (x := ks[k]) (n := k) (by simp only [List.length_take]; omega) hg7 ho7).under (a := ⟨w.heap.size + 2, 3, none⟩) (Nat.lt_succ_self _) (.slice A7 (k + 1) c7)
            have hbl7 : Below w.heap.size w w7 := (HBD.out.alloc (by have := HBD.out.size; omega) _).grown hg7 (by have := HBD.out.size; simp; omega) (fun b hb => by have := HNE.out b hb; omega)
            have hs7 := hg7.size
            have bx7 := ((HXD.out.alloc _).grown hg7 (fun e => by have := HNE.out _ e.symm; omega)).far (p := ⟨w.heap.size + 2, 3, none⟩) (by show w.heap.size ≠ w.heap.size + 2; omega) (.slice A7 (k + 1) c7)
            have bz7 := ((HZD.out.alloc _).grown hg7 (fun e => by have := HNE.out _ e.symm; omega)).far (p := ⟨w.heap.size + 2, 3, none⟩) (by show w.heap.size + 1 ≠ w.heap.size + 2; omega) (.slice A7 (k + 1) c7)
            have bn8 := bn7.set_ 3 (.slice A7 (k + 1) c7)
            simp only [List.setIfInBounds_toArray, List.set_cons_succ, List.set_cons_zero] at bn8
            have hbl8 := hbl7.setCell (p := ⟨w.heap.size + 2, 3, none⟩) (Nat.le_add_right _ 2) (.slice A7 (k + 1) c7)
            simp only [← List.take_succ_eq_append_getElem hlt] at hpu
            go_wp2
            go_light
            exact ⟨⟨k + 1, _, _, _, by omega, by go_num, hpu, bx7, bz7, bn8, hbl8, by simp at hs7 ⊢; omega⟩, by simp [intOf]; omega⟩
        · obtain rfl : k = ks.length := by omega
          have ho9 := ho
          simp only [List.take_length] at ho9
          have g9 := hbx.cell 4
          have q9 := hbx.cell 3
          have gl9 := hbx.lt
          obtain ⟨w9, hw9⟩ : ∃ w9, w9 = wr := ⟨_, rfl⟩
          subst hw9
          have O3 := Lib.hid ho9
          have X3 := Lib.hid hbx
          have Z3 := Lib.hid hbz
          have N3 := Lib.hid hbn
          have L3 := Lib.hid hbw
          have hsz3 := hsz
          clear ho9 ho hbx hbz hbn hbw htl hsz hlt
          go_wp2_with fail
          clear g9 gl9 q9
          go_loopw [6] (fun i wr => PcLp w #[.int .i64 ep, .int .i64 ld, .slice A1 is.length c1, .slice A3 ks.length c3, .slice A5 rs.length c5, .int .i64 fw, .int .i64 ba] #[.int .i64 0, .int .i64 0, .slice none 0 0, .slice none 0 0, .slice none 0 0, .int .i64 0, .int .i64 0] rs.length (fun k => ⟨ep, ld, is, ks, rs.take k, fw, ba⟩) i wr) (fun i _ => rs.length - (intOf i).toNat)
          case atStart => exact ⟨0, _, _, _, Nat.zero_le _, rfl, O3.out, X3.out, Z3.out, N3.out, L3.out, hsz3⟩
          case round =>
            obtain ⟨k, iv, kv, rv, hk, rfl, ho, hbx, hbz, hbn, hbw, hsz⟩ := hrel
            have htl : (rs.take k).length = k := by rw [List.length_take]; omega
            obtain ⟨B1, d1, B3, d3, B5, d5, rfl, rfl, rfl⟩ := ho.form
            simp only [htl] at hbn ho
            have g4 := hbx.cell 4
            have gl := hbx.lt
            by_cases hlt : k < rs.length
            · obtain ⟨b, off, rfl, hbb, hcell⟩ := HC.out (by omega)
              obtain ⟨pv, x0, x1, x2, x3, xb, xl⟩ := hcell k hlt
              obtain ⟨A3', c3', rfl, hc3', -⟩ := xb.at_
              have X0 := (hbw.cell (p := ⟨b, off + k * 4, none⟩) hbb).trans x0
              have X1 := (hbw.cell (p := ⟨b, off + k * 4 + 1, none⟩) hbb).trans x1
              have X2 := (hbw.cell (p := ⟨b, off + k * 4 + 2, none⟩) hbb).trans x2
              have X3 := (hbw.cell (p := ⟨b, off + k * 4 + 3, none⟩) hbb).trans x3
              have i0' : (0 : Int) ≤ (k : Int) := by omega
              have i1' : (k : Int) < (rs.length : Int) := by omega
              have hble : b < wr.heap.size := by have := hbw.size; omega
              have XB := Lib.hid (xb.below hbw)
              have HBW := Lib.hid hbw
              have hb4 := H4.out rs[k] (List.getElem_mem _)
              obtain ⟨t, ht⟩ : ∃ t, t = rs[k] := ⟨_, rfl⟩
              have HT := Lib.hid ht.symm
              rw [← ht] at X0 X1 X2 X3 XB hb4 hc3'
              clear ht
              clear x0 x1 x2 x3 hcell xb hbw
              obtain ⟨tu, tb, ts, th⟩ := t
              simp only at *
              go_wp2_with fail
              have bt := (Blk.new wr 71 #[.bool tu, .slice A3' tb.length c3', .int .i64 ts, .int .i64 th]).alloc (.cells #[.slice A3' tb.length c3'] 34)
              have bk := Blk.new_ (wr.alloc (.cells #[.bool tu, .slice A3' tb.length c3', .int .i64 ts, .int .i64 th] 71)) 34 #[.slice A3' tb.length c3'] (g := wr.heap.size + 1) (by simp)
              have hal := ((Below.refl wr.heap.size wr).alloc (Nat.le_refl _) (.cells #[.bool tu, .slice A3' tb.length c3', .int .i64 ts, .int .i64 th] 71)).alloc (by simp) (.cells #[.slice A3' tb.length c3'] 34)
              have hz2 : ((wr.alloc (.cells #[.bool tu, .slice A3' tb.length c3', .int .i64 ts, .int .i64 th] 71)).alloc (.cells #[.slice A3' tb.length c3'] 34)).heap.size = wr.heap.size + 2 := by simp
              generalize (wr.alloc (.cells #[.bool tu, .slice A3' tb.length c3', .int .i64 ts, .int .i64 th] 71)).alloc (.cells #[.slice A3' tb.length c3'] 34) = w2 at *
              refine (bytesCopy_blk (l := tb) rfl bk (XB.out.below hal) hb4).mono ?_
              rintro e w5 ⟨v5, rfl, ho5, hb5⟩
              obtain ⟨A6, c6, rfl, hc6⟩ := (Sl.of_own ho5).form
              have hb6 := below_then hal hb5
              have bt5 := bt.below hb5 bt.lt
              have bx5 := hbx.below hb6 hbx.lt
              have bz5 := hbz.below hb6 hbz.lt
              have bn5 := hbn.below hb6 hbn.lt
              have f1 := bt5.frozen 1
              have e1 := bt5.cell 1
              have tlt := bt5.lt
              have bt6 := bt5.set_ 1 (.slice A6 tb.length c6)
              simp only [List.setIfInBounds_toArray, List.set_cons_succ, List.set_cons_zero] at bt6
              have bn6 := bn5.far (p := ⟨wr.heap.size, 1, none⟩) (by show w.heap.size + 2 ≠ wr.heap.size; omega) (.slice A6 tb.length c6)
              have bx6 := bx5.far (p := ⟨wr.heap.size, 1, none⟩) (by show w.heap.size ≠ wr.heap.size; omega) (.slice A6 tb.length c6)
              have bz6 := bz5.far (p := ⟨wr.heap.size, 1, none⟩) (by show w.heap.size + 1 ≠ wr.heap.size; omega) (.slice A6 tb.length c6)
              have hb6' : Below wr.heap.size wr (w5.setCell ⟨wr.heap.size, 1, none⟩ (.slice A6 tb.length c6)) := hb6.setCell (Nat.le_refl _) _
              have ho5' := own_base (ownsRow_setCell_below ho5 (a := ⟨wr.heap.size, 1, none⟩) (by show wr.heap.size < _; omega) (.slice A6 tb.length c6)) (show w.heap.size + 3 ≤ w2.heap.size by omega)
              have hoK := ho.keep hb6'
              have y0 := bt6.cell 0
              have y1 := bt6.cell 1
              have y2 := bt6.cell 2
              have y3 := bt6.cell 3
              have n4 : (w5.setCell ⟨wr.heap.size, 1, none⟩ (.slice A6 tb.length c6)).cell? ⟨w.heap.size + 1 + 1, 4, none⟩ = some (.slice B5 k d5) := bn6.cell 4
              have nl4 : w.heap.size + 1 + 1 < (w5.setCell ⟨wr.heap.size, 1, none⟩ (.slice A6 tb.length c6)).heap.size := bn6.lt
              have tl6 := bt6.lt
              have hlen6 : w.heap.size + 3 ≤ (w5.setCell ⟨wr.heap.size, 1, none⟩ (.slice A6 tb.length c6)).heap.size := Nat.le_trans hsz hb6'.size
              have hbW := below_then HBW.out hb6'
              obtain ⟨q1, q2, rows, q3, q4, q5⟩ := hoK
              have hot := own_eq q4 htl rfl
              have hne : ∀ g, (Value.slice B5 k d5).ownBlock = some g → w.heap.size + 3 ≤ g := fun g hg => (hot.lt g hg).1
              have Q1 := Lib.hid q1
              have Q2 := Lib.hid q2
              have Q3 := Lib.hid q3
              have Q4 := Lib.hid q4
              have Q5 := Lib.hid q5
              have HNX := Lib.hid bx6
              have HNZ := Lib.hid bz6
              have HNN := Lib.hid bn6
              have HBWW := Lib.hid hbW
              have HO5 := Lib.hid ho5'
              have HNE := Lib.hid hne
              have HOT := Lib.hid hot
              clear bt bt5 bt6 bx5 bz5 bn5 bn6 bx6 bz6 hb6 hb6' ho5 ho5' hb5 hal hne hbx hbz hbn q1 q2 q3 q4 q5 hot hbW bk ho htl
              go_wp2_with (at_builtin; go_must (refine wpList_append_sl _ rfl (.tmp 71) (.tmp 73) 24 rfl (w.heap.size + 3) 71 m0 (.agg #[.bool false, .slice none 0 0, .int .i64 0, .int .i64 0]) 4 48 Try.underlying24 hm0 hz0 hz1 hz2' rfl (by decide) _ _ _ (by rfl) (HOT.out.alloc _) _ 1 _ (by rfl) (Sl.lit' _ _ _ 4 1 _ rfl (by simp)) (rcells_one [(⟨tu, tb, ts, th⟩, .slice A6 tb.length c6)] (by intro t ht; simp only [List.mem_singleton] at ht; subst ht; rfl)) (by simp only [maxLen]; omega) (by omega) (by simp; omega) ?_; intro v7 w7 ho7 hg7 ha7; obtain ⟨A7, c7, rfl, hc7⟩ := (Sl.of_own ho7).form; have bn7 := (HNN.out.alloc _).grown hg7 (fun e => by have := HNE.out _ e.symm; omega); have c7' : w7.cell? ⟨w.heap.size + 1 + 1, 4, none⟩ = some (.slice B5 k d5) := bn7.cell 4; have f7 : w7.frozen? ⟨w.heap.size + 1 + 1, 4, none⟩ = false := bn7.frozen 4; have l7 : w.heap.size + 1 + 1 < w7.heap.size := bn7.lt))
              have hpu := (PO.pushRep (c := ⟨ep, ld, is, ks, rs.take k, fw, ba⟩) (t := ⟨tu, tb, ts, th⟩) (n := k) Q1.out Q2.out Q3.out Q4.out Q5.out (by simp only [List.length_take]; omega) hg7 HO5.out ho7).under (a := ⟨w.heap.size + 2, 4, none⟩) (Nat.lt_succ_self _) (.slice A7 (k + 1) c7)
              have hbl7 : Below w.heap.size w w7 := (HBWW.out.alloc (by have := HBWW.out.size; omega) _).grown hg7 (by have := HBWW.out.size; simp at this ⊢; omega) (fun b hb => by have := HNE.out b hb; omega)
              have hs7 := hg7.size
              have bx7 := ((HNX.out.alloc _).grown hg7 (fun e => by have := HNE.out _ e.symm; omega)).far (p := ⟨w.heap.size + 2, 4, none⟩) (by show w.heap.size ≠ w.heap.size + 2; omega) (.slice A7 (k + 1) c7)
              have bz7 := ((HNZ.out.alloc _).grown hg7 (fun e => by have := HNE.out _ e.symm; omega)).far (p := ⟨w.heap.size + 2, 4, none⟩) (by show w.heap.size + 1 ≠ w.heap.size + 2; omega) (.slice A7 (k + 1) c7)
              have bn8 := bn7.set_ 4 (.slice A7 (k + 1) c7)
              simp only [List.setIfInBounds_toArray, List.set_cons_succ, List.set_cons_zero] at bn8
              have hbl8 := hbl7.setCell (p := ⟨w.heap.size + 2, 4, none⟩) (Nat.le_add_right _ 2) (.slice A7 (k + 1) c7)
              have htk : rs.take (k + 1) = rs.take k ++ [⟨tu, tb, ts, th⟩] := by rw [List.take_succ_eq_append_getElem hlt, HT.out]
              simp only [← htk] at hpu
              have hge : (w5.setCell ⟨wr.heap.size, 1, none⟩ (.slice A6 tb.length c6)).heap.size ≤ w7.heap.size := Nat.le_trans (by simp) hs7
              go_light
              exact ⟨⟨k + 1, _, _, _, by omega, by go_num, hpu, bx7, bz7, bn8, hbl8, by simp only [World.size_setCell]; omega⟩, by simp [intOf]; omega⟩
            · obtain rfl : k = rs.length := by omega
              simp only [List.take_length] at ho
              have HO := Lib.hid ho
              have BZ := Lib.hid hbz
              have HBW := Lib.hid hbw
              have q0 := hbn.cell 0
              have q1 := hbn.cell 1
              have q2 := hbn.cell 2
              have q3 := hbn.cell 3
              have q4 := hbn.cell 4
              have q5 := hbn.cell 5
              have q6 := hbn.cell 6
              have ql := hbn.lt
              have zl := hbz.lt
              have z0 := hbz.cell 0
              have zf0 := hbz.frozen 0
              have z1 := hbz.cell 1
              have zf1 := hbz.frozen 1
              have z2 := hbz.cell 2
              have zf2 := hbz.frozen 2
              have z3 := hbz.cell 3
              have zf3 := hbz.frozen 3
              have z4 := hbz.cell 4
              have zf4 := hbz.frozen 4
              have z5 := hbz.cell 5
              have zf5 := hbz.frozen 5
              have z6 := hbz.cell 6
              have zf6 := hbz.frozen 6
              clear ho hbz hbn hbw
              go_wp2
              have HB5 := (((((((BZ.out).set_ 0 (.int .i64 ep)).set_ 1 (.int .i64 ld)).set_ 2 (.slice B1 is.length d1)).set_ 3 (.slice B3 ks.length d3)).set_ 4 (.slice B5 rs.length d5)).set_ 5 (.int .i64 fw)).set_ 6 (.int .i64 ba)
              have HO5 := (((((((HO.out).under (a := ⟨w.heap.size + 1, 0, none⟩) (by simp) (.int .i64 ep)).under (a := ⟨w.heap.size + 1, 1, none⟩) (by simp) (.int .i64 ld)).under (a := ⟨w.heap.size + 1, 2, none⟩) (by simp) (.slice B1 is.length d1)).under (a := ⟨w.heap.size + 1, 3, none⟩) (by simp) (.slice B3 ks.length d3)).under (a := ⟨w.heap.size + 1, 4, none⟩) (by simp) (.slice B5 rs.length d5)).under (a := ⟨w.heap.size + 1, 5, none⟩) (by simp) (.int .i64 fw)).under (a := ⟨w.heap.size + 1, 6, none⟩) (by simp) (.int .i64 ba)
              have HL5 := (((((((HBW.out).setCell (p := ⟨w.heap.size + 1, 0, none⟩) (Nat.le_succ _) (.int .i64 ep)).setCell (p := ⟨w.heap.size + 1, 1, none⟩) (Nat.le_succ _) (.int .i64 ld)).setCell (p := ⟨w.heap.size + 1, 2, none⟩) (Nat.le_succ _) (.slice B1 is.length d1)).setCell (p := ⟨w.heap.size + 1, 3, none⟩) (Nat.le_succ _) (.slice B3 ks.length d3)).setCell (p := ⟨w.heap.size + 1, 4, none⟩) (Nat.le_succ _) (.slice B5 rs.length d5)).setCell (p := ⟨w.heap.size + 1, 5, none⟩) (Nat.le_succ _) (.int .i64 fw)).setCell (p := ⟨w.heap.size + 1, 6, none⟩) (Nat.le_succ _) (.int .i64 ba)
              generalize ((((((wr.setCell ⟨w.heap.size + 1, 0, none⟩ (.int .i64 ep)).setCell ⟨w.heap.size + 1, 1, none⟩ (.int .i64 ld)).setCell ⟨w.heap.size + 1, 2, none⟩ (.slice B1 is.length d1)).setCell ⟨w.heap.size + 1, 3, none⟩ (.slice B3 ks.length d3)).setCell ⟨w.heap.size + 1, 4, none⟩ (.slice B5 rs.length d5)).setCell ⟨w.heap.size + 1, 5, none⟩ (.int .i64 fw)).setCell ⟨w.heap.size + 1, 6, none⟩ (.int .i64 ba) = W5 at *
              simp only [List.setIfInBounds_toArray, List.set_cons_succ, List.set_cons_zero] at HB5
              have y0 := HB5.cell 0
              have y1 := HB5.cell 1
              have y2 := HB5.cell 2
              have y3 := HB5.cell 3
              have y4 := HB5.cell 4
              have y5 := HB5.cell 5
              have y6 := HB5.cell 6
              exact bodyPost_ret (v := .agg #[.int .i64 ep, .int .i64 ld, .slice B1 is.length d1, .slice B3 ks.length d3, .slice B5 rs.length d5, .int .i64 fw, .int .i64 ba]) (by simp [results, Try.results47, go_sem, y0, y1, y2, y3, y4, y5, y6]) rfl ⟨_, _, _, rfl, HO5.more (by omega), HL5⟩
theorem refPartCopy_ok {v : Value} {c : PartD} {w : World} (h : Pv w v c) (hs : PSm c) : Calls Try.prog 47 #[v] w (CopiesP c w) := by
  have s1 := hs.isr
  have s2 := hs.known
  have s3 := hs.reps
  exact refPartCopy_any v c w h (by omega) (by omega) (by omega) (fun t ht => by have := hs.bytes t ht; omega)
end Go.Proofs.Ytpjjfnpdopdnkaa
namespace Go.Proofs.Ytpjjfnpdopdnkaa
open Go.RowKit

structure PrD where
  ver : Int
  seq : Int
  opn : Int
  mark : Int
def prZ : PrD := ⟨0, -1, -1, -1⟩
def prVer (e : Ent) (q : PrD) : PrD := if e.ver = q.ver then q else ⟨e.ver, -1, q.opn, q.mark⟩
def prKind (i : Nat) (e : Ent) (q : PrD) : PrD := if e.kind = 1 then ⟨q.ver, e.seq, if e.txn = true ∧ q.opn < 0 then (i : Int) else q.opn, q.mark⟩ else ⟨q.ver, q.seq, -1, (i : Int)⟩
def prNext (i : Nat) (e : Ent) (q : PrD) : PrD := prKind i e (prVer e q)
/-- what the first k entries tell of the producer pid -/
def prTo (es : List Ent) (pid : Int) : Nat → Option PrD
  | 0 => none
  | k + 1 => match es[k]? with
    | some e => if e.pid = pid then some (prNext k e ((prTo es pid k).getD prZ)) else prTo es pid k
    | none => prTo es pid k
def verTo (es : List Ent) (pid : Int) : Nat → Int
  | 0 => -1
  | k + 1 => match es[k]? with
    | some e => if e.pid = pid then e.ver else verTo es pid k
    | none => verTo es pid k
/-- the last number, and its version -/
def seqTo (es : List Ent) (pid : Int) : Nat → Int × Int
  | 0 => (-1, -1)
  | k + 1 => match es[k]? with
    | some e => if e.pid = pid then (if e.kind = 1 then e.seq else if e.ver = (seqTo es pid k).2 then (seqTo es pid k).1 else -1, e.ver) else seqTo es pid k
    | none => seqTo es pid k
def markTo (es : List Ent) (pid : Int) : Nat → Int
  | 0 => -1
  | k + 1 => match es[k]? with
    | some e => if e.pid = pid ∧ e.kind ≠ 1 then (k : Int) else markTo es pid k
    | none => markTo es pid k
def openTo (es : List Ent) (pid : Int) : Nat → Int
  | 0 => -1
  | k + 1 => match es[k]? with
    | some e => if e.pid = pid then (if e.kind = 1 then (if e.txn = true ∧ openTo es pid k < 0 then (k : Int) else openTo es pid k) else -1) else openTo es pid k
    | none => openTo es pid k
section
variable {es : List Ent} {pid : Int} {k : Nat}
/-- no entry of a version below 0 -/
def VerOk (es : List Ent) : Prop := ∀ (k : Nat) (h : k < es.length), 0 ≤ es[k].ver
/-- what the four loops say of the producer -/
def PrSays (es : List Ent) (pid : Int) (k : Nat) : Option PrD → Prop
  | none => verTo es pid k = -1 ∧ seqTo es pid k = (-1, -1) ∧ markTo es pid k = -1 ∧ openTo es pid k = -1
  | some q => verTo es pid k = q.ver ∧ seqTo es pid k = (q.seq, q.ver) ∧ markTo es pid k = q.mark ∧ openTo es pid k = q.opn ∧ 0 ≤ q.ver
/-- an entry that opens a transaction of pid's -/
def Hit (es : List Ent) (pid : Int) (i : Nat) : Prop := ∃ h : i < es.length, es[i].pid = pid ∧ es[i].txn = true ∧ es[i].kind = 1
/-- r: the first behind m that does; -1: none -/
def First (es : List Ent) (pid m : Int) (n : Nat) (r : Int) : Prop := r = -1 ∧ (∀ i : Nat, m < i → i < n → ¬ Hit es pid i) ∨ ∃ j : Nat, r = j ∧ m < j ∧ j < n ∧ Hit es pid j ∧ ∀ i : Nat, m < i → i < j → ¬ Hit es pid i
end
end Go.Proofs.Ytpjjfnpdopdnkaa
namespace Go.Proofs.Ytpjjfnpdopdnkaa
open Go.RowKit

/-- how a pointer to a producer reads -/
def ptrR : Value → Option (DataW Unit × List MemPlace)
  | .pointer none => some (.nil, [])
  | .pointer (some ⟨b, 0, none⟩) => some (.lit (.int .i64 b), [])
  | _ => none
def ptrV : Option Nat → Value
  | none => .pointer none
  | some b => .pointer (some ⟨b, 0, none⟩)
def ptrD (r : Option Nat) (zd : DataW Unit) : DataW Unit := match r with
  | none => zd
  | some b => .lit (.int .i64 b)
def pkey (pid : Int) : Lit := .int .i64 pid
def prCells (q : PrD) : Array Value := #[.int .i64 q.ver, .int .i64 q.seq, .int .i64 q.opn, .int .i64 q.mark]
/-- block M is a map of producers: f says where each lies, g what it is -/
structure PrMap (base : Nat) (w : World) (M n : Nat) (f : Int → Option Nat) (g : Int → Option PrD) : Prop where
  map : ∃ D, w.ownsMap Try.prog 3 ptrR M n D ∧ ∀ pid zd, D.atKey (pkey pid) zd = ptrD (f pid) zd
  blk : ∀ pid b, f pid = some b → base ≤ b ∧ ∃ q, g pid = some q ∧ Blk w b 110 (prCells q)
  none_ : ∀ pid, f pid = none → g pid = none
  inj : ∀ p p' b, f p = some b → f p' = some b → p = p'
theorem pkey_is (pid : Int) : WideAt.IsKeyLit (pkey pid) := by simp [pkey, WideAt.IsKeyLit]
section
variable {base n M : Nat} {w w' : World} {f : Int → Option Nat} {g : Int → Option PrD}
theorem PrMap.lt (h : PrMap base w M n f g) : M < w.heap.size := by
  obtain ⟨D, h1, _⟩ := h.map
  exact h1.lt
theorem PrMap.ne (h : PrMap base w M n f g) {b : Nat} {t : TypeId} {cs : Array Value} (hb : Blk w b t cs) : M ≠ b := by
  obtain ⟨D, ⟨es, clock, h1, _⟩, _⟩ := h.map
  rintro rfl
  have h2 : w.heap[M]? = _ := hb
  rw [h1] at h2
  cases h2
theorem PrMap.made (w : World) (base : Nat) : PrMap base (w.alloc (.map #[] 0)) w.heap.size 0 (fun _ => none) (fun _ => none) :=
  ⟨⟨_, World.ownsMap_made w _ _ _, fun pid zd => rfl⟩, fun _ _ h => by simp at h, fun _ _ => rfl, fun _ _ _ h => by simp at h⟩
theorem PrMap.mono (h : PrMap base w M n f g) {n' : Nat} (hn : n ≤ n') : PrMap base w M n' f g := by
  obtain ⟨⟨D, h1, h2⟩, h3, h4, h5⟩ := h
  exact ⟨⟨D, h1.mono hn, h2⟩, h3, h4, h5⟩
theorem PrMap.keep (h : PrMap base w M n f g) (hb : Below w.heap.size w w') : PrMap base w' M n f g := by
  obtain ⟨⟨D, h1, h2⟩, h3, h4, h5⟩ := h
  refine ⟨⟨D, h1.kept (⟨hb.os, hb.tape, hb.output, hb.size, fun i hi _ => hb.block i hi⟩ : w.grownBy w' none) (by simp), h2⟩, fun pid b hf => ?_, h4, h5⟩
  obtain ⟨h6, q, h7, h8⟩ := h3 pid b hf
  exact ⟨h6, q, h7, h8.below hb h8.lt⟩
/-- a producer is laid into the map -/
theorem PrMap.put {D : DataW Unit} (h : PrMap base w M n f g) (hD : w.ownsMap Try.prog 3 ptrR M n D) (ha : ∀ pid zd, D.atKey (pkey pid) zd = ptrD (f pid) zd) {pid : Int} {b : Nat} {q : PrD} (hfree : f pid = none) (hb : Blk w b 110 (prCells q)) (hbb : base ≤ b) (hnew : ∀ p b', f p = some b' → b' ≠ b)
    (hg : w.grownBy w' (some M)) (hput : w'.ownsMap Try.prog 3 ptrR M (n + 1) (D.put (pkey pid) (.lit (.int .i64 b)))) : PrMap base w' M (n + 1) (fun p => if p = pid then some b else f p) (fun p => if p = pid then some q else g p) := by
  have hMb := h.ne hb
  obtain ⟨_, h3, h4, h5⟩ := h
  have hcan := hD.canon (Maps.int_keyed Try.underlying3)
  obtain ⟨es, he, -⟩ := hcan
  have hm : Maps.IsMap D := ⟨es, he⟩
  refine ⟨⟨_, hput, fun p zd => ?_⟩, fun p b' hf' => ?_, fun p hp => ?_, fun p p' b' e1 e2 => ?_⟩
  · by_cases hp : p = pid
    · subst hp
      rw [Maps.atKey_put_same hm (pkey_is p)]
      simp [ptrD]
    · rw [Maps.atKey_put_other (fun e => hp (by simpa [pkey] using e)), ha]
      simp [hp]
  · by_cases hp : p = pid
    · subst hp
      simp only [if_pos] at hf'
      cases hf'
      exact ⟨hbb, q, by simp, hb.grown hg (fun e => by injection e with e; exact hMb e.symm)⟩
    · rw [if_neg hp] at hf'
      obtain ⟨a1, q', a2, a3⟩ := h3 p b' hf'
      refine ⟨a1, q', by simp [hp, a2], a3.grown hg (fun e => ?_)⟩
      injection e with e
      obtain ⟨D0, ⟨es0, clock, c1, _⟩⟩ : ∃ D0, w.ownsMap Try.prog 3 ptrR M n D0 := ⟨D, hD⟩
      have c2 : w.heap[b']? = _ := a3
      rw [e, c1] at c2
      cases c2
  · by_cases hp' : p = pid
    · subst hp'; simp at hp
    · rw [if_neg hp'] at hp
      simp [hp', h4 p hp]
  · by_cases hp : p = pid <;> by_cases hp' : p' = pid
    · rw [hp, hp']
    · rw [if_pos hp] at e1; rw [if_neg hp'] at e2; cases e1
      exact absurd rfl (hnew p' _ e2)
    · rw [if_neg hp] at e1; rw [if_pos hp'] at e2; cases e2
      exact absurd rfl (hnew p _ e1)
    · rw [if_neg hp] at e1; rw [if_neg hp'] at e2
      exact h5 p p' b' e1 e2
end
end Go.Proofs.Ytpjjfnpdopdnkaa
namespace Go.Proofs.Ytpjjfnpdopdnkaa
open Go.RowKit

/-- what the first k entries tell, of the producers that have a number -/
def prG (es : List Ent) (k : Nat) (pid : Int) : Option PrD := if pid = 0 then none else prTo es pid k
/-- entries of numbers that are numbers -/
def PlainE (es : List Ent) : Prop := ∀ (k : Nat) (h : k < es.length), 0 ≤ es[k].ver ∧ es[k].ver ≤ 1073741824 ∧ 0 ≤ es[k].seq ∧ es[k].seq ≤ 1073741824 ∧ 0 ≤ es[k].pid ∧ es[k].pid ≤ 1073741824 ∧ 1 ≤ es[k].kind ∧ es[k].kind ≤ 3
theorem PlainE.ver {es : List Ent} (h : PlainE es) : VerOk es := fun k hk => (h k hk).1
/-- the map that replay hands back -/
def ReplayPost (es : List Ent) (w : World) (e : Ending) (w' : World) : Prop := ∃ (M : Nat) (f : Int → Option Nat), e = .returned (.map (some M)) ∧ PrMap w.heap.size w' M es.length f (prG es es.length) ∧ Below w.heap.size w w' ∧ w.heap.size ≤ M
theorem below_dn (w : World) (n : Nat) : Below w.heap.size w (w.drewN n) := ⟨rfl, rfl, rfl, Nat.le_refl _, fun _ _ => rfl⟩
end Go.Proofs.Ytpjjfnpdopdnkaa
namespace Go.Proofs.Ytpjjfnpdopdnkaa
open Go.RowKit

/-- the same entry -/
def SameAt (es : List Ent) (x : Ent) (i : Nat) : Prop := ∃ h : i < es.length, es[i].kind = 1 ∧ es[i].pid = x.pid ∧ es[i].ver = x.ver ∧ es[i].seq = x.seq
/-- where it stands already; code -/
inductive FindTo (es : List Ent) (x : Ent) : Int → Int → Prop
  | at_ (i : Nat) (h : SameAt es x i) (hn : ∀ j : Nat, j < i → ¬ SameAt es x j) : FindTo es x i 0
  | no (hn : ∀ j : Nat, ¬ SameAt es x j) : FindTo es x 0 11
/-- a mark that says so already -/
def MarkIs (es : List Ent) (x : Ent) (q : PrD) : Prop := q.opn < 0 ∧ ∃ m : Nat, q.mark = m ∧ ∃ h : m < es.length, es[m].kind = x.kind ∧ es[m].ver = x.ver
/-- what is answered where the producer is q, and the last number s -/
inductive ChkTo (es : List Ent) (x : Ent) (q : PrD) : Int → Int → Prop
  | fence (h : x.ver < q.ver) : ChkTo es x q 0 10
  | mark (h : ¬ x.ver < q.ver) (hk : x.kind ≠ 1) (hm : MarkIs es x q) : ChkTo es x q q.mark 0
  | free (h : ¬ x.ver < q.ver) (hk : x.kind ≠ 1) (hm : ¬ MarkIs es x q) : ChkTo es x q (-1) 0
  | gap (h : ¬ x.ver < q.ver) (hk : x.kind = 1) (s : Int) (hs : s = if q.ver < x.ver then -1 else q.seq) (hg : s + 1 < x.seq) : ChkTo es x q 0 11
  | next (h : ¬ x.ver < q.ver) (hk : x.kind = 1) (s : Int) (hs : s = if q.ver < x.ver then -1 else q.seq) (hg : x.seq = s + 1) : ChkTo es x q (-1) 0
  | find (h : ¬ x.ver < q.ver) (hk : x.kind = 1) (s : Int) (hs : s = if q.ver < x.ver then -1 else q.seq) (hg : x.seq < s + 1) {n c : Int} (hf : FindTo es x n c) : ChkTo es x q n c
/-- the producer of x as the entries tell it -/
def prOf (es : List Ent) (x : Ent) : PrD := (prTo es x.pid es.length).getD ⟨x.ver, -1, -1, -1⟩
/-- what view.Check answers -/
def Checked (es : List Ent) (x : Ent) (n c : Int) : Prop := x.pid = 0 ∧ n = -1 ∧ c = 0 ∨ x.pid ≠ 0 ∧ ChkTo es x (prOf es x) n c
end Go.Proofs.Ytpjjfnpdopdnkaa
namespace Go.Proofs.Ytpjjfnpdopdnkaa
open Go.RowKit

/-- what the four loops answer, beside what is known of the producer -/
structure RefQ (es : List Ent) (x : Ent) (q : PrD) (vT mT oT sT : Int) : Prop where
  ver : verTo es x.pid es.length = vT
  mark : markTo es x.pid es.length = mT
  opn : openTo es x.pid es.length = oT
  seq : (seqTo es x.pid es.length).1 = sT
  fence : x.ver < vT ↔ x.ver < q.ver
  mk_ : mT = q.mark
  on_ : oT = q.opn
  bd : -1 ≤ mT ∧ mT < es.length ∧ -1 ≤ sT ∧ sT ≤ 1073741824
  new_ : ¬ x.ver < q.ver → q.ver < x.ver → x.ver ≠ vT
  old : ¬ x.ver < q.ver → ¬ q.ver < x.ver → (x.ver = vT ∧ sT = q.seq) ∨ (x.ver ≠ vT ∧ q.seq = -1)
end Go.Proofs.Ytpjjfnpdopdnkaa
namespace Go.Proofs.Ytpjjfnpdopdnkaa
open Go.RowKit

theorem zeros_size (n : Nat) : (Builtin.zeroCells #[Value.int .u8 0] n).size = n := by
  have := size_zeroCells #[Value.int .u8 0] n
  simpa using this
set_option maxRecDepth 100000 in
set_option maxHeartbeats 1000000 in
theorem grow_nil (n : Nat) (w : World) (hn : 0 < n) (hb : n ≤ 140737488355328) :
    Calls Try.prog 103 #[.slice none 0 0, .int .i64 n] w fun e w' => ∃ v', e = .returned v' ∧ w'.ownsRow w.heap.size 5 1 v' 0 [] ∧ Below w.heap.size w w' := by
  obtain ⟨i0, hi0, hz0, hz1, hz2⟩ := info_parts CloneByte_info
  have hold : (Builtin.firstCells i0.size 0 (.slice none 0 0)).run Try.prog w.drew = .ok ([] : List Value).toArray w.drew := run_firstCells_none w.drew i0.size 0 0 0
  have hrz : ∀ ty, (Builtin.append_ #[34, 3] ty #[.slice none 0 0, .int .i64 (n : Int)]).run Try.prog w =
      .ok (.slice (some ⟨w.heap.size, 0, none⟩) n (grownCap w n 0 5)) (w.drew.alloc (.cells ((#[] : Array Value) ++ Builtin.zeroCells #[.int .u8 0] n ++ Builtin.zeroCells #[.int .u8 0] (grownCap w n 0 5 - n)) 5)) := fun ty => by
    have h := Lib.run_append_grow_zeros (P := Try.prog) w 34 3 ty 5 i0 (.int .u8 0) .i64 .i64 Try.underlying34 Try.underlying3 hi0 hz0 none 0 0 [] hold n hn (by omega) (by omega) (by omega) (by rw [hz2]; omega) (by rw [Nat.zero_add]; exact growslice_fits (by omega) (by rw [hz2]; omega))
    simpa [Value.cells] using h
  have hGn : n ≤ grownCap w n 0 5 := grownCap_ge w _ _ _
  have hGm : grownCap w n 0 5 ≤ maxLen := grownCap_le_maxLen w n 0 5 (by unfold maxLen; omega)
  have hG63 : grownCap w n 0 5 ≤ 9223372036854775807 := by unfold maxLen at hGm; omega
  generalize grownCap w n 0 5 = G at *
  have hsz : ((#[] : Array Value) ++ Builtin.zeroCells #[.int .u8 0] n ++ Builtin.zeroCells #[.int .u8 0] (G - n)).size = G := by
    simp only [Array.size_append, zeros_size]
    simp
    omega
  generalize (#[] : Array Value) ++ Builtin.zeroCells #[.int .u8 0] n ++ Builtin.zeroCells #[.int .u8 0] (G - n) = cs at *
  have hbw : Below w.heap.size w (w.drew.alloc (.cells cs 5)) := ((Below.refl w.heap.size w).drew).alloc (Nat.le_refl _) _
  have how : (w.drew.alloc (.cells cs 5)).ownsRow w.heap.size 5 1 (.slice (some ⟨w.heap.size, 0, none⟩) 0 G) 0 [] :=
    ⟨rfl, Or.inr ⟨w.heap.size, G, cs, rfl, Nat.le_refl _, Blk.new w.drew 5 cs, Nat.zero_le _, hGm, by omega, rfl⟩⟩
  have HOW := Lib.hid how
  have HBW := Lib.hid hbw
  have h1 : ¬ ((n : Int) < 0) := by omega
  have h4 : (0 : Int) < (n : Int) := by omega
  clear how hbw hold hsz
  go_enter Try.func103, Try.ntmps103
  go_wp2_with (at_builtin; refine Lib.wpList_append_run _ rfl _ _ _ _ rfl _ _ rfl rfl _ _ (hrz _) ?_)
  all_goals (go_ret; exact ⟨_, rfl, HOW.out, HBW.out⟩)

set_option maxRecDepth 100000 in
set_option maxHeartbeats 1000000 in
theorem concat_any (v : Value) (rows : List (List UInt8)) (vs : List Value) (w : World) (hvl : vs.length = rows.length) (h : Sl w 1 v rows.length vs) (hr : ∀ k (h1 : k < rows.length) (h2 : k < vs.length), By w vs[k] rows[k]) (hm : rows.flatten.length ≤ 140737488355328) (hpos : 0 < rows.flatten.length) (hn : rows.length ≤ 9223372036854775807) :
    Calls Try.prog 84 #[v] w fun e w' => ∃ v', e = .returned v' ∧ w'.ownsRow w.heap.size 5 1 v' rows.flatten.length (bvs rows.flatten) ∧ Below w.heap.size w w' := by
  obtain ⟨i0, hi0, hz0, hz1, hz2⟩ := info_parts CloneByte_info
  obtain ⟨hl, A, c, rfl, hc, hcell⟩ := h
  have HC := Lib.hid hcell
  have HR := Lib.hid hr
  have HP := Lib.hid hpos
  clear hcell hr hl hpos
  go_enter Try.func84, Try.ntmps84
  go_wp2
  obtain ⟨f, hf⟩ : ∃ f : Nat → Nat, ∀ k, f k = (rows.take k).flatten.length := ⟨_, fun _ => rfl⟩
  have hf0 : f 0 = 0 := by rw [hf]; rfl
  have HF := Lib.hid hf
  clear hf
  go_loopw [3, 11] (fun o i wr => ∃ k : Nat, k ≤ rows.length ∧ o = .int .i64 ((f k : Nat) : Int) ∧ i = .int .i64 k ∧ w = wr) (fun _ i _ => rows.length - (intOf i).toNat)
  case atStart => exact ⟨0, Nat.zero_le _, by rw [hf0]; rfl, rfl, rfl⟩
  case round =>
    clear hf0
    obtain ⟨k, hk, rfl, rfl, rfl⟩ := hrel
    by_cases hlt : k < rows.length
    · obtain ⟨b, off, rfl, hbl, hcs⟩ := HC.out (by omega)
      have hlt' : k < vs.length := by omega
      have X0 := hcs k vs[k] (by simp [List.getElem?_eq_getElem hlt'])
      have hy := HR.out k hlt hlt'
      obtain ⟨A2, c2, e2, hc2, -⟩ := hy.at_
      rw [e2] at X0 hy
      have i0' : (0 : Int) ≤ (k : Int) := by omega
      have i1 : (k : Int) < (rows.length : Int) := by omega
      have hfl : f k + rows[k].length ≤ 140737488355328 := by have := flat_le' rows k hlt; rw [HF.out]; omega
      have HL := Lib.hid (show f (k + 1) = f k + rows[k].length by
        have := congrArg List.length (flat_bvs rows k hlt)
        rw [HF.out, HF.out]
        simpa only [List.length_append, bvs_length] using this)
      have z0 : decide (((f k : Nat) : Int) + (rows[k].length : Int) < 0) = false := decide_eq_false (by omega)
      clear hcs e2 hy
      generalize rows[k] = r at *
      go_wp2
      go_roundw
      case rel => exact ⟨k + 1, by omega, by rw [HL.out]; go_num, by go_num, by trivial⟩
      case measure => simp [intOf]; omega
    · obtain rfl : k = rows.length := by omega
      have hfe : f rows.length = rows.flatten.length := by rw [HF.out, List.take_length]
      have HFE := Lib.hid hfe
      have hfm : f rows.length ≤ 140737488355328 := by omega
      have hfp : 0 < f rows.length := by rw [hfe]; exact HP.out
      clear hfe
      go_wp2_with fail
      refine (grow_nil _ w hfp hfm).mono ?_
      rintro e w1 ⟨v1, rfl, ho1, hb1⟩
      have HO1 := Lib.hid ho1
      have HB1 := Lib.hid hb1
      clear ho1 hb1
      go_wp2
      go_loopw [6, 27] (fun o i wr => ∃ (k : Nat) (x : Value), k ≤ rows.length ∧ o = x ∧ i = .int .i64 k ∧ wr.ownsRow w.heap.size 5 1 x (rows.take k).flatten.length (bvs (rows.take k).flatten) ∧ Below w.heap.size w wr) (fun _ i _ => rows.length - (intOf i).toNat)
      case atStart => exact ⟨0, _, Nat.zero_le _, rfl, rfl, HO1.out, HB1.out⟩
      case round =>
        obtain ⟨k, x, hk, rfl, rfl, ho, hb⟩ := hrel
        by_cases hlt : k < rows.length
        · obtain ⟨b, off, rfl, hbl, hcs⟩ := HC.out (by omega)
          have hlt' : k < vs.length := by omega
          have X0 := (hb.cell (p := ⟨b, off + k, none⟩) hbl).trans (hcs k vs[k] (by simp [List.getElem?_eq_getElem hlt']))
          have hy := (HR.out k hlt hlt').below hb
          obtain ⟨A2, c2, e2, hc2, -⟩ := hy.at_
          rw [e2] at X0 hy
          have i0' : (0 : Int) ≤ (k : Int) := by omega
          have i1 : (k : Int) < (rows.length : Int) := by omega
          have hfl := flat_le' rows k hlt
          have HE := Lib.hid (flat_bvs rows k hlt)
          have HL := Lib.hid (show (rows.take (k + 1)).flatten.length = (rows.take k).flatten.length + rows[k].length by
            have := congrArg List.length (flat_bvs rows k hlt)
            simpa only [List.length_append, bvs_length] using this)
          have HB := Lib.hid hb
          have hsz := hb.size
          clear hcs e2 hb
          generalize rows[k] = r at *
          go_wp2_with (at_builtin; go_must (refine wpList_append_sl _ rfl (.tmp 31) (.tmp 32) 34 rfl w.heap.size 5 i0 (.int .u8 0) 1 1 Try.underlying34 hi0 hz0 hz1 hz2 rfl (by decide) _ _ _ (by rfl) ho _ r.length (bvs r) (by rfl) hy (bvs_one r) (by simp only [maxLen]; omega) (by omega) hsz ?_; intro v4 w4 ho4 hg4 ha4))
          go_roundw
          case rel => exact ⟨k + 1, v4, by omega, rfl, by go_num, own_eq ho4 HL.out.symm HE.out.symm, own_below' HB.out (Nat.le_refl _) ho hg4⟩
          case measure => simp [intOf]; omega
        · obtain rfl : k = rows.length := by omega
          rw [List.take_length] at ho
          go_wp2
          go_ret
          exact ⟨_, rfl, ho, hb⟩
end Go.Proofs.Ytpjjfnpdopdnkaa
namespace Go.Proofs.Ytpjjfnpdopdnkaa
open Go.RowKit

theorem concat_two {A B : Option Addr} {l r : List UInt8} {c d : Nat} {w0 w : World} (h : By w0 (.slice A l.length c) l) (k : By w0 (.slice B r.length d) r) (hw : Below w0.heap.size w0 w) (hm : l.length + r.length ≤ 140737488355328) (hp : 0 < l.length + r.length) :
    Calls Try.prog 84 #[.slice (some ⟨w.heap.size, 0, none⟩) 2 2] (w.alloc (.cells #[.slice A l.length c, .slice B r.length d] 34)) fun e w' => ∃ v', e = .returned v' ∧ w'.ownsRow w.heap.size 5 1 v' (l.length + r.length) (bvs (l ++ r)) ∧ Below w.heap.size w w' := by
  have hbl : Below w.heap.size w (w.alloc (.cells #[.slice A l.length c, .slice B r.length d] 34)) := (Below.refl _ _).alloc (Nat.le_refl _) _
  refine (concat_any _ [l, r] [.slice A l.length c, .slice B r.length d] _ rfl (Sl.lit' w 34 #[.slice A l.length c, .slice B r.length d] 1 2 _ rfl rfl) (fun i h1 h2 => ?_) (by simpa using hm) (by simpa using hp) (by simp)).mono ?_
  · rcases i with _ | _ | i
    · exact (h.below hw).below hbl
    · exact (k.below hw).below hbl
    · exact absurd h1 (by simp)
  · rintro e w' ⟨v', rfl, ho, hb⟩
    exact ⟨v', rfl, own_base (own_eq ho (by simp) (by simp)) hbl.size, hbl.trans (hb.mono hbl.size)⟩

set_option maxRecDepth 100000 in
set_option maxHeartbeats 2000000 in
theorem append_full (v : Value) (l : List UInt8) (s : Int) (y : Ent) (w : World) (hv : By w v l) {es : List Ent} {j : Nat} (h : LogIs ⟨l, s⟩ es j) (hy : y.ok) (hf : es.length = 400 ∨ 40000 < l.length + y.enc.length) :
    Calls Try.prog 45 #[.agg #[v, .int .i64 s], .agg #[.int .i64 y.ep, .int .i64 y.pid, .int .i64 y.ver, .int .i64 y.seq, .int .i64 y.kind, .bool y.txn, .string y.text]] w (LogPost ⟨[], 0⟩ 16 w) := by
  obtain ⟨A, c, rfl, hc, -⟩ := hv.at_
  have HV := Lib.hid hv
  have hbx := ((Blk.new w 42 #[.slice A l.length c, .int .i64 s]).alloc (.cells #[.int .i64 y.ep, .int .i64 y.pid, .int .i64 y.ver, .int .i64 y.seq, .int .i64 y.kind, .bool y.txn, .string y.text] 55)).alloc (.cells #[.slice none 0 0, .int .i64 0] 42)
  have hbe := (Blk.new (w.alloc (.cells #[.slice A l.length c, .int .i64 s] 42)) 55 #[.int .i64 y.ep, .int .i64 y.pid, .int .i64 y.ver, .int .i64 y.seq, .int .i64 y.kind, .bool y.txn, .string y.text]).alloc (.cells #[.slice none 0 0, .int .i64 0] 42)
  have hbz := Blk.new ((w.alloc (.cells #[.slice A l.length c, .int .i64 s] 42)).alloc (.cells #[.int .i64 y.ep, .int .i64 y.pid, .int .i64 y.ver, .int .i64 y.seq, .int .i64 y.kind, .bool y.txn, .string y.text] 55)) 42 #[.slice none 0 0, .int .i64 0]
  have hbl : Below w.heap.size w (((w.alloc (.cells #[.slice A l.length c, .int .i64 s] 42)).alloc (.cells #[.int .i64 y.ep, .int .i64 y.pid, .int .i64 y.ver, .int .i64 y.seq, .int .i64 y.kind, .bool y.txn, .string y.text] 55)).alloc (.cells #[.slice none 0 0, .int .i64 0] 42)) := (((Below.refl _ _).alloc (Nat.le_refl _) _).alloc (by simp) _).alloc (by simp; omega) _
  simp only [World.size_alloc] at hbz hbe
  have hv0 := hv.below hbl
  clear hv
  obtain ⟨hlen, k, rfl, hk, -, -, -⟩ := log_long h
  have HE := Lib.hid (segEntries_ok _ l k _ hv0 h)
  have hmany := h.many
  have hbytes : Hid (l = flat es) := Lib.hid h.bytes
  clear h
  have hq := fun W => encode_ent y W hy
  have HQ := Lib.hid hq
  have hen := Ent.enc_len y
  have hbl2 := Ent.body_len_ hy
  have hyl : 4 ≤ y.enc.length ∧ y.enc.length ≤ 64 := by omega
  clear hq hen hbl2
  by_cases h5 : es.length = 400
  · have z5 : ((es.length : Int) == 400) = true := by simp only [beq_iff_eq]; omega
    go_enter Try.func45, Try.ntmps45
    go_wp2_with fail
    refine HE.out.mono ?_
    rintro e w1 ⟨v1, rfl, ho1, hb1⟩
    obtain ⟨A1, c1, rfl, hc1⟩ := (Sl.of_own ho1).form
    have bx1 := hbx.below hb1 hbx.lt
    have be1 := hbe.below hb1 hbe.lt
    have bz1 := hbz.below hb1 hbz.lt
    have hw1 := hbl.trans (hb1.mono hbl.size)
    have q0 := bx1.cell 0
    have q1 := bx1.cell 1
    have e0 := be1.cell 0
    have e1 := be1.cell 1
    have e2 := be1.cell 2
    have e3 := be1.cell 3
    have e4 := be1.cell 4
    have e5 := be1.cell 5
    have e6 := be1.cell 6
    have z0 := bz1.cell 0
    have z1 := bz1.cell 1
    have zf0 := bz1.frozen 0
    have zf1 := bz1.frozen 1
    have zl := bz1.lt
    have el := be1.lt
    have ql := bx1.lt
    clear ho1 hb1
    go_wp2_with fail
    refine (HQ.out _).mono ?_
    rintro e w2 ⟨v2, rfl, ho2, hb2⟩
    have hr2 : By w2 v2 y.enc := Sl.of_own ho2
    obtain ⟨A2, c2, rfl, hc2, -⟩ := hr2.at_
    clear q0 q1 e0 e1 e2 e3 e4 e5 e6 z0 z1 zf0 zf1 zl el ql
    have bx2 := bx1.below hb2 bx1.lt
    have be2 := be1.below hb2 be1.lt
    have bz2 := bz1.below hb2 bz1.lt
    have hw2 := hw1.trans (hb2.mono hw1.size)
    have q0 := bx2.cell 0
    have q1 := bx2.cell 1
    have e0 := be2.cell 0
    have e1 := be2.cell 1
    have e2 := be2.cell 2
    have e3 := be2.cell 3
    have e4 := be2.cell 4
    have e5 := be2.cell 5
    have e6 := be2.cell 6
    have z0 := bz2.cell 0
    have z1 := bz2.cell 1
    have zf0 := bz2.frozen 0
    have zf1 := bz2.frozen 1
    have zl := bz2.lt
    have el := be2.lt
    have ql := bx2.lt
    clear ho2 hb2
    go_wp2
    obtain ⟨r0, r1, ro, rb⟩ := log_stored (v := .slice none 0 0) (s := 0) bz2 rfl
    generalize (w2.setCell ⟨w.heap.size + 2, 0, none⟩ (.slice none 0 0)).setCell ⟨w.heap.size + 2, 1, none⟩ (.int .i64 0) = W6 at *
    exact bodyPost_ret (v := .tuple #[.agg #[.slice none 0 0, .int .i64 0], .int .i64 16]) (by simp [results, Try.results45, go_sem, r0, r1]) rfl ⟨.slice none 0 0, rfl, World.ownsRow_nil _ _ _ _, rb _ _ (by omega) hw2⟩
  · have z5 : ((es.length : Int) == 400) = false := by simp only [beq_eq_false_iff_ne]; omega
    have z6 : decide ((40000 : Int) < (l.length : Int) + (y.enc.length : Int)) = true := decide_eq_true (by omega)
    go_enter Try.func45, Try.ntmps45
    go_wp2_with fail
    refine HE.out.mono ?_
    rintro e w1 ⟨v1, rfl, ho1, hb1⟩
    obtain ⟨A1, c1, rfl, hc1⟩ := (Sl.of_own ho1).form
    have bx1 := hbx.below hb1 hbx.lt
    have be1 := hbe.below hb1 hbe.lt
    have bz1 := hbz.below hb1 hbz.lt
    have hw1 := hbl.trans (hb1.mono hbl.size)
    have q0 := bx1.cell 0
    have q1 := bx1.cell 1
    have e0 := be1.cell 0
    have e1 := be1.cell 1
    have e2 := be1.cell 2
    have e3 := be1.cell 3
    have e4 := be1.cell 4
    have e5 := be1.cell 5
    have e6 := be1.cell 6
    have z0 := bz1.cell 0
    have z1 := bz1.cell 1
    have zf0 := bz1.frozen 0
    have zf1 := bz1.frozen 1
    have zl := bz1.lt
    have el := be1.lt
    have ql := bx1.lt
    clear ho1 hb1
    go_wp2_with fail
    refine (HQ.out _).mono ?_
    rintro e w2 ⟨v2, rfl, ho2, hb2⟩
    have hr2 : By w2 v2 y.enc := Sl.of_own ho2
    obtain ⟨A2, c2, rfl, hc2, -⟩ := hr2.at_
    clear q0 q1 e0 e1 e2 e3 e4 e5 e6 z0 z1 zf0 zf1 zl el ql
    have bx2 := bx1.below hb2 bx1.lt
    have be2 := be1.below hb2 be1.lt
    have bz2 := bz1.below hb2 bz1.lt
    have hw2 := hw1.trans (hb2.mono hw1.size)
    have q0 := bx2.cell 0
    have q1 := bx2.cell 1
    have e0 := be2.cell 0
    have e1 := be2.cell 1
    have e2 := be2.cell 2
    have e3 := be2.cell 3
    have e4 := be2.cell 4
    have e5 := be2.cell 5
    have e6 := be2.cell 6
    have z0 := bz2.cell 0
    have z1 := bz2.cell 1
    have zf0 := bz2.frozen 0
    have zf1 := bz2.frozen 1
    have zl := bz2.lt
    have el := be2.lt
    have ql := bx2.lt
    clear ho2 hb2
    go_wp2
    obtain ⟨r0, r1, ro, rb⟩ := log_stored (v := .slice none 0 0) (s := 0) bz2 rfl
    generalize (w2.setCell ⟨w.heap.size + 2, 0, none⟩ (.slice none 0 0)).setCell ⟨w.heap.size + 2, 1, none⟩ (.int .i64 0) = W6 at *
    exact bodyPost_ret (v := .tuple #[.agg #[.slice none 0 0, .int .i64 0], .int .i64 16]) (by simp [results, Try.results45, go_sem, r0, r1]) rfl ⟨.slice none 0 0, rfl, World.ownsRow_nil _ _ _ _, rb _ _ (by omega) hw2⟩

set_option maxRecDepth 100000 in
set_option maxHeartbeats 2000000 in
theorem append_ok (v : Value) (l : List UInt8) (s : Int) (y : Ent) (w : World) (hv : By w v l) {es : List Ent} {j : Nat} (h : LogIs ⟨l, s⟩ es j) (hy : y.ok) (hf : ¬ (es.length = 400 ∨ 40000 < l.length + y.enc.length)) :
    Calls Try.prog 45 #[.agg #[v, .int .i64 s], .agg #[.int .i64 y.ep, .int .i64 y.pid, .int .i64 y.ver, .int .i64 y.seq, .int .i64 y.kind, .bool y.txn, .string y.text]] w (LogPost ⟨l ++ y.enc, s⟩ 0 w) := by
  obtain ⟨A, c, rfl, hc, -⟩ := hv.at_
  have HV := Lib.hid hv
  have hbx := ((Blk.new w 42 #[.slice A l.length c, .int .i64 s]).alloc (.cells #[.int .i64 y.ep, .int .i64 y.pid, .int .i64 y.ver, .int .i64 y.seq, .int .i64 y.kind, .bool y.txn, .string y.text] 55)).alloc (.cells #[.slice none 0 0, .int .i64 0] 42)
  have hbe := (Blk.new (w.alloc (.cells #[.slice A l.length c, .int .i64 s] 42)) 55 #[.int .i64 y.ep, .int .i64 y.pid, .int .i64 y.ver, .int .i64 y.seq, .int .i64 y.kind, .bool y.txn, .string y.text]).alloc (.cells #[.slice none 0 0, .int .i64 0] 42)
  have hbz := Blk.new ((w.alloc (.cells #[.slice A l.length c, .int .i64 s] 42)).alloc (.cells #[.int .i64 y.ep, .int .i64 y.pid, .int .i64 y.ver, .int .i64 y.seq, .int .i64 y.kind, .bool y.txn, .string y.text] 55)) 42 #[.slice none 0 0, .int .i64 0]
  have hbl : Below w.heap.size w (((w.alloc (.cells #[.slice A l.length c, .int .i64 s] 42)).alloc (.cells #[.int .i64 y.ep, .int .i64 y.pid, .int .i64 y.ver, .int .i64 y.seq, .int .i64 y.kind, .bool y.txn, .string y.text] 55)).alloc (.cells #[.slice none 0 0, .int .i64 0] 42)) := (((Below.refl _ _).alloc (Nat.le_refl _) _).alloc (by simp) _).alloc (by simp; omega) _
  simp only [World.size_alloc] at hbz hbe
  have hv0 := hv.below hbl
  clear hv
  obtain ⟨hlen, k, rfl, hk, -, -, -⟩ := log_long h
  have HE := Lib.hid (segEntries_ok _ l k _ hv0 h)
  have hmany := h.many
  have hbytes : Hid (l = flat es) := Lib.hid h.bytes
  clear h
  have hq := fun W => encode_ent y W hy
  have HQ := Lib.hid hq
  have hen := Ent.enc_len y
  have hbl2 := Ent.body_len_ hy
  have hyl : 4 ≤ y.enc.length ∧ y.enc.length ≤ 64 := by omega
  clear hq hen hbl2
  have z5 : ((es.length : Int) == 400) = false := by simp only [beq_eq_false_iff_ne]; omega
  have z6 : decide ((40000 : Int) < (l.length : Int) + (y.enc.length : Int)) = false := decide_eq_false (by omega)
  have hal : (l ++ y.enc).length = l.length + y.enc.length := List.length_append
  have HAL := Lib.hid hal
  clear hal
  go_enter Try.func45, Try.ntmps45
  go_wp2_with fail
  refine HE.out.mono ?_
  rintro e w1 ⟨v1, rfl, ho1, hb1⟩
  obtain ⟨A1, c1, rfl, hc1⟩ := (Sl.of_own ho1).form
  have bx1 := hbx.below hb1 hbx.lt
  have be1 := hbe.below hb1 hbe.lt
  have bz1 := hbz.below hb1 hbz.lt
  have hw1 := hbl.trans (hb1.mono hbl.size)
  have q0 := bx1.cell 0
  have q1 := bx1.cell 1
  have e0 := be1.cell 0
  have e1 := be1.cell 1
  have e2 := be1.cell 2
  have e3 := be1.cell 3
  have e4 := be1.cell 4
  have e5 := be1.cell 5
  have e6 := be1.cell 6
  have z0 := bz1.cell 0
  have z1 := bz1.cell 1
  have zf0 := bz1.frozen 0
  have zf1 := bz1.frozen 1
  have zl := bz1.lt
  have el := be1.lt
  have ql := bx1.lt
  clear ho1 hb1
  go_wp2_with fail
  refine (HQ.out _).mono ?_
  rintro e w2 ⟨v2, rfl, ho2, hb2⟩
  have hr2 : By w2 v2 y.enc := Sl.of_own ho2
  obtain ⟨A2, c2, rfl, hc2, -⟩ := hr2.at_
  clear q0 q1 e0 e1 e2 e3 e4 e5 e6 z0 z1 zf0 zf1 zl el ql
  have bx2 := bx1.below hb2 bx1.lt
  have be2 := be1.below hb2 be1.lt
  have bz2 := bz1.below hb2 bz1.lt
  have hw2 := hw1.trans (hb2.mono hw1.size)
  have q0 := bx2.cell 0
  have q1 := bx2.cell 1
  have e0 := be2.cell 0
  have e1 := be2.cell 1
  have e2 := be2.cell 2
  have e3 := be2.cell 3
  have e4 := be2.cell 4
  have e5 := be2.cell 5
  have e6 := be2.cell 6
  have z0 := bz2.cell 0
  have z1 := bz2.cell 1
  have zf0 := bz2.frozen 0
  have zf1 := bz2.frozen 1
  have zl := bz2.lt
  have el := be2.lt
  have ql := bx2.lt
  clear ho2 hb2
  have hbd := (Below.refl w2.heap.size w2).drew
  have hal := HAL.out
  generalize hcat : l ++ y.enc = cat at *
  have HCAT := Lib.hid hcat
  have HAL2 := Lib.hid hal
  clear hcat hal
  go_wp2_with fail
  go_region_with (go_at_call 84; refine (concat_two (HV.out.below hw2) hr2 hbd (by omega) (by omega)).mono ?_; rw [HCAT.out]; rintro e w5 ⟨v5, rfl, ho5, hb5⟩; have ho5 := own_eq ho5 HAL2.out.symm rfl; obtain ⟨A5, c5, rfl, hc5⟩ := (Sl.of_own ho5).form; have hbel := below_then hbd hb5; have bx5 := bx2.below hbel bx2.lt; have bz5 := bz2.below hbel bz2.lt; have y0 := bx5.cell 0; have y1 := bx5.cell 1; have u0 := bz5.cell 0; have u1 := bz5.cell 1; have uf0 := bz5.frozen 0; have uf1 := bz5.frozen 1; have ul := bz5.lt; have yl := bx5.lt)
  all_goals go_wp2
  all_goals obtain ⟨r0, r1, ro, rb⟩ := log_stored (v := .slice A5 cat.length c5) (s := k) bz5 rfl
  all_goals generalize (w5.setCell ⟨w.heap.size + 2, 0, none⟩ (.slice A5 cat.length c5)).setCell ⟨w.heap.size + 2, 1, none⟩ (.int .i64 k) = W6 at *
  all_goals exact bodyPost_ret (v := .tuple #[.agg #[.slice A5 cat.length c5, .int .i64 k], .int .i64 0]) (by simp [results, Try.results45, go_sem, r0, r1]) rfl ⟨.slice A5 cat.length c5, rfl, ro _ _ _ _ (own_base ho5 hw2.size), rb _ _ (by omega) (hw2.trans (hbel.mono hw2.size))⟩

end Go.Proofs.Ytpjjfnpdopdnkaa
namespace Go.Proofs.Ytpjjfnpdopdnkaa
open Go.RowKit
attribute [local go_sem ↓] Go.wp_at_zero Go.wp_at_succ

/-- the call answers a part, a number and a code -/
def PRes3 (c : PartD) (m code : Int) (w : World) (e : Ending) (w' : World) : Prop := ∃ v, e = .returned (.tuple #[v, .int .i64 m, .int .i64 code]) ∧ Pv w' v c ∧ Below w.heap.size w w'
structure EnO (base : Nat) (w : World) (v : Value) (l : List Ent) : Prop where
  own : w.ownsRow base 55 7 v l.length (ecs l)
theorem EnO.keep {base : Nat} {w w' : World} {v : Value} {l : List Ent} (h : EnO base w v l) (hb : Below w.heap.size w w') : EnO base w' v l := ⟨own_keep h.own hb (fun b hb => (h.own.lt b hb).2)⟩
theorem EnO.alloc {base : Nat} {w : World} {v : Value} {l : List Ent} (h : EnO base w v l) (o : Obj) : EnO base (w.alloc o) v l := h.keep ((Below.refl _ _).alloc (Nat.le_refl _) o)
theorem EnO.under {base : Nat} {w : World} {v : Value} {l : List Ent} (h : EnO base w v l) {a : Addr} (ha : a.block < base) (u : Value) : EnO base (w.setCell a u) v l := ⟨ownsRow_setCell_below h.own ha u⟩
theorem EnO.es {base : Nat} {w : World} {v : Value} {l : List Ent} (h : EnO base w v l) : Es w v l := Sl.of_own h.own
structure LgO (base : Nat) (w : World) (v : Value) (l : List UInt8) : Prop where
  own : w.ownsRow base 5 1 v l.length (bvs l)
theorem LgO.keep {base : Nat} {w w' : World} {v : Value} {l : List UInt8} (h : LgO base w v l) (hb : Below w.heap.size w w') : LgO base w' v l := ⟨own_keep h.own hb (fun b hb => (h.own.lt b hb).2)⟩
theorem LgO.alloc {base : Nat} {w : World} {v : Value} {l : List UInt8} (h : LgO base w v l) (o : Obj) : LgO base (w.alloc o) v l := h.keep ((Below.refl _ _).alloc (Nat.le_refl _) o)
theorem LgO.under {base : Nat} {w : World} {v : Value} {l : List UInt8} (h : LgO base w v l) {a : Addr} (ha : a.block < base) (u : Value) : LgO base (w.setCell a u) v l := ⟨ownsRow_setCell_below h.own ha u⟩
/-- how many of the first k replicas keep up and are up -/
def upCnt (is : List Bool) (rs : List RepD) (k : Nat) : Nat := ((is.zip rs).take k).countP fun p => p.1 && p.2.up
theorem PO.blkL {base : Nat} {w : World} {c : PartD} {iv kv rv : Value} (h : PO base w c iv kv rv) {g : Nat} {cs : Array Value} (hb : Blk w g 42 cs) (j : Nat) (u : Value) : PO base (w.setCell ⟨g, j, none⟩ u) c iv kv rv := by
  obtain ⟨h1, h2, rows, h3, h4, h5⟩ := h
  exact ⟨own_far h1 hb (by decide) _ _, own_far h2 hb (by decide) _ _, rows, h3, own_far h4 hb (by decide) _ _, fun t ht => own_far (h5 t ht) hb (by decide) _ _⟩
theorem EnO.blkL {base : Nat} {w : World} {v : Value} {l : List Ent} (h : EnO base w v l) {g : Nat} {cs : Array Value} (hb : Blk w g 42 cs) (j : Nat) (u : Value) : EnO base (w.setCell ⟨g, j, none⟩ u) v l := ⟨own_far h.own hb (by decide) _ _⟩
theorem LgO.blkL {base : Nat} {w : World} {v : Value} {l : List UInt8} (h : LgO base w v l) {g : Nat} {cs : Array Value} (hb : Blk w g 42 cs) (j : Nat) (u : Value) : LgO base (w.setCell ⟨g, j, none⟩ u) v l := ⟨own_far h.own hb (by decide) _ _⟩
theorem cell_setCell_far_ (w : World) (g h i j k : Nat) (u v : Value) (hne : g ≠ h) : ((w.setCell ⟨h, j, none⟩ u).setCell ⟨h, k, none⟩ v).cell? ⟨g, i, none⟩ = w.cell? ⟨g, i, none⟩ := by
  have key : ∀ (w : World) (j : Nat) (u : Value), (w.setCell ⟨h, j, none⟩ u).cell? ⟨g, i, none⟩ = w.cell? ⟨g, i, none⟩ := fun w j u => by
    unfold World.cell?
    simp only
    rw [heap_setCell_other _ _ _ _ (by exact hne)]
  rw [key, key]
end Go.Proofs.Ytpjjfnpdopdnkaa
