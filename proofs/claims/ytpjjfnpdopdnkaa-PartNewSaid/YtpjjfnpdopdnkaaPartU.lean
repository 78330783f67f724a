/- tailraceref.PartCopy: a part in memory of its own. -/
import Derived.Test.YtpjjfnpdopdnkaaPartQ
import Derived.Test.YtpjjfnpdopdnkaaSegI
import Derived.Deep.RegionLaw
namespace Go.Proofs.Ytpjjfnpdopdnkaa
open Go.RowKit

/-- the loops of tailraceref.PartCopy: what was copied so far is the part c -/
def PcLp (w : World) (bc zc : Array Value) (n : Nat) (f : Nat → PartD) (i : Value) (wr : World) : Prop :=
  ∃ (k : Nat) (iv kv rv : Value), k ≤ n ∧ i = .int .i64 k ∧ PO (w.heap.size + 3) wr (f k) iv kv rv ∧ Blk wr w.heap.size 26 bc ∧ Blk wr (w.heap.size + 1) 26 zc ∧ Blk wr (w.heap.size + 2) 26 #[.int .i64 (f k).epoch, .int .i64 (f k).leader, iv, kv, rv, .int .i64 (f k).few, .int .i64 (f k).base] ∧ Below w.heap.size w wr ∧ w.heap.size + 3 ≤ wr.heap.size
theorem bool_info : (Try.prog.info? 4).map (fun i => (i.zero, i.size, i.bytes)) = some (some (.bool false), 1, 1) := by kernel_rfl
theorem int_info : (Try.prog.info? 3).map (fun i => (i.zero, i.size, i.bytes)) = some (some (.int .i64 0), 1, 8) := by kernel_rfl
theorem rep_info : (Try.prog.info? 71).map (fun i => (i.zero, i.size, i.bytes)) = some (some (.agg #[.bool false, .slice none 0 0, .int .i64 0, .int .i64 0]), 4, 48) := by kernel_rfl

set_option maxRecDepth 100000 in
set_option maxHeartbeats 16000000 in
theorem refPartCopy_any (v : Value) (c : PartD) (w : World) (h : Pv w v c) (h1 : c.isr.length ≤ 140737488355328) (h2 : c.known.length * 8 ≤ 140737488355328) (h3 : c.reps.length * 48 ≤ 140737488355328) (h4 : ∀ t ∈ c.reps, t.bytes.length ≤ 140737488355328) :
    Calls Try.prog 47 #[v] w (CopiesP c w) := by
  obtain ⟨i0, hi0, hy0, hy1, hy2'⟩ := info_parts bool_info
  obtain ⟨j0, hj0, hx0, hx1', hx2'⟩ := info_parts int_info
  obtain ⟨m0, hm0, hz0, hz1, hz2'⟩ := info_parts rep_info
  obtain ⟨xi, xk, xr, rfl, ix, kx, rx, hli, hlk, hlr⟩ := id h
  obtain ⟨A5, c5, rfl, hc5, hx2⟩ := rx.at_
  obtain ⟨A1, c1, rfl, hc1, hx1⟩ := ix.at_
  obtain ⟨A3, c3, rfl, hc3, hx3⟩ := kx.at_
  unfold partV at *
  have HC := Lib.hid hx2
  have HI := Lib.hid hx1
  have HK := Lib.hid hx3
  have H4 := Lib.hid h4
  clear h ix kx rx hx1 hx2 hx3 h4
  obtain ⟨ep, ld, is, ks, rs, fw, ba⟩ := c
  simp only at *
  go_enter Try.func47, Try.ntmps47
  go_wp2
  have bx := ((Blk.new w 26 #[.int .i64 ep, .int .i64 ld, .slice A1 is.length c1, .slice A3 ks.length c3, .slice A5 rs.length c5, .int .i64 fw, .int .i64 ba]).alloc (.cells #[.int .i64 0, .int .i64 0, .slice none 0 0, .slice none 0 0, .slice none 0 0, .int .i64 0, .int .i64 0] 26)).alloc (.cells #[.int .i64 ep, .int .i64 ld, .slice none 0 0, .slice none 0 0, .slice none 0 0, .int .i64 fw, .int .i64 ba] 26)
  have bz := (Blk.new (w.alloc (.cells #[.int .i64 ep, .int .i64 ld, .slice A1 is.length c1, .slice A3 ks.length c3, .slice A5 rs.length c5, .int .i64 fw, .int .i64 ba] 26)) 26 #[.int .i64 0, .int .i64 0, .slice none 0 0, .slice none 0 0, .slice none 0 0, .int .i64 0, .int .i64 0]).alloc (.cells #[.int .i64 ep, .int .i64 ld, .slice none 0 0, .slice none 0 0, .slice none 0 0, .int .i64 fw, .int .i64 ba] 26)
  have bn := Blk.new ((w.alloc (.cells #[.int .i64 ep, .int .i64 ld, .slice A1 is.length c1, .slice A3 ks.length c3, .slice A5 rs.length c5, .int .i64 fw, .int .i64 ba] 26)).alloc (.cells #[.int .i64 0, .int .i64 0, .slice none 0 0, .slice none 0 0, .slice none 0 0, .int .i64 0, .int .i64 0] 26)) 26 #[.int .i64 ep, .int .i64 ld, .slice none 0 0, .slice none 0 0, .slice none 0 0, .int .i64 fw, .int .i64 ba]
  have hbl : Below w.heap.size w (((w.alloc (.cells #[.int .i64 ep, .int .i64 ld, .slice A1 is.length c1, .slice A3 ks.length c3, .slice A5 rs.length c5, .int .i64 fw, .int .i64 ba] 26)).alloc (.cells #[.int .i64 0, .int .i64 0, .slice none 0 0, .slice none 0 0, .slice none 0 0, .int .i64 0, .int .i64 0] 26)).alloc (.cells #[.int .i64 ep, .int .i64 ld, .slice none 0 0, .slice none 0 0, .slice none 0 0, .int .i64 fw, .int .i64 ba] 26)) := ((((Below.refl _ _).alloc (Nat.le_refl _) _).alloc (by simp) _).alloc (by simp; omega) _)
  have hsz0 : w.heap.size + 3 ≤ (((w.alloc (.cells #[.int .i64 ep, .int .i64 ld, .slice A1 is.length c1, .slice A3 ks.length c3, .slice A5 rs.length c5, .int .i64 fw, .int .i64 ba] 26)).alloc (.cells #[.int .i64 0, .int .i64 0, .slice none 0 0, .slice none 0 0, .slice none 0 0, .int .i64 0, .int .i64 0] 26)).alloc (.cells #[.int .i64 ep, .int .i64 ld, .slice none 0 0, .slice none 0 0, .slice none 0 0, .int .i64 fw, .int .i64 ba] 26)).heap.size := by simp
  simp only [World.size_alloc] at bz bn
  generalize ((w.alloc (.cells #[.int .i64 ep, .int .i64 ld, .slice A1 is.length c1, .slice A3 ks.length c3, .slice A5 rs.length c5, .int .i64 fw, .int .i64 ba] 26)).alloc (.cells #[.int .i64 0, .int .i64 0, .slice none 0 0, .slice none 0 0, .slice none 0 0, .int .i64 0, .int .i64 0] 26)).alloc (.cells #[.int .i64 ep, .int .i64 ld, .slice none 0 0, .slice none 0 0, .slice none 0 0, .int .i64 fw, .int .i64 ba] 26) = W0 at *
  have HBX := Lib.hid bx
  have HBZ := Lib.hid bz
  have HBN := Lib.hid bn
  have HBL := Lib.hid hbl
  clear bx bz bn hbl
  go_loopw [4] (fun i wr => PcLp w #[.int .i64 ep, .int .i64 ld, .slice A1 is.length c1, .slice A3 ks.length c3, .slice A5 rs.length c5, .int .i64 fw, .int .i64 ba] #[.int .i64 0, .int .i64 0, .slice none 0 0, .slice none 0 0, .slice none 0 0, .int .i64 0, .int .i64 0] is.length (fun k => ⟨ep, ld, is.take k, [], [], fw, ba⟩) i wr) (fun i _ => is.length - (intOf i).toNat)
  case atStart => exact ⟨0, _, _, _, Nat.zero_le _, rfl, PO.nil _ _ _ _ _ _, HBX.out, HBZ.out, HBN.out, HBL.out, hsz0⟩
  case round =>
    obtain ⟨k, iv, kv, rv, hk, rfl, ho, hbx, hbz, hbn, hbw, hsz⟩ := hrel
    have htl : (is.take k).length = k := by rw [List.length_take]; omega
    obtain ⟨B1, d1, B3, d3, B5, d5, rfl, rfl, rfl⟩ := ho.form
    simp only [htl, List.length_nil] at hbn ho
    by_cases hlt : k < is.length
    · obtain ⟨b, off, rfl, hbb, hcell⟩ := HI.out (by omega)
      have X0 := (hbw.cell (p := ⟨b, off + k, none⟩) hbb).trans (hcell k hlt)
      have i0' : (0 : Int) ≤ (k : Int) := by omega
      have i1' : (k : Int) < (is.length : Int) := by omega
      have hble : b < wr.heap.size := by have := hbw.size; omega
      have g2 := hbx.cell 2
      have gl := hbx.lt
      have n2 : wr.cell? ⟨w.heap.size + 1 + 1, 2, none⟩ = some (.slice B1 k d1) := hbn.cell 2
      have nl : w.heap.size + 1 + 1 < wr.heap.size := hbn.lt
      have hdr : Below wr.heap.size wr wr.drew := (Below.refl _ _).drew
      have hod := ho.keep hdr
      have hne : ∀ g, (Value.slice B1 k d1).ownBlock = some g → w.heap.size + 3 ≤ g := fun g hg => by
        have := ho.isr.lt g hg
        omega
      have hszd := hdr.size
      have HND := Lib.hid (hbn.below hdr hbn.lt)
      have HXD := Lib.hid (hbx.below hdr hbx.lt)
      have HZD := Lib.hid (hbz.below hdr hbz.lt)
      have HOD := Lib.hid hod
      have HBD := Lib.hid (below_then hbw hdr)
      have HNE := Lib.hid hne
      have HFD := Lib.hid (own_eq hod.isr htl rfl)
      clear hcell hbn hbx hbz hne hod hdr ho hbw htl
      go_wp2_with fail
      go_region_law ((refine step_append_sl rfl (.tmp 25) (.tmp 31) 22 rfl (w.heap.size + 3) 4 i0 (.bool false) 1 1 Try.underlying22 hi0 hy0 hy1 hy2' rfl (by decide) _ _ _ (by first | rfl | simp [Act.eval, Act.put]) (HFD.out.alloc _) _ 1 _ (by first | rfl | simp [Act.eval, Act.put]) (Sl.lit' _ _ _ 1 1 _ rfl (by simp)) (bools_one [is[k]]) (by simp only [maxLen]; omega) (by omega) (by simp; omega) ?_; intro v7 w7 ho7 hg7 ha7; obtain ⟨A7, c7, rfl, hc7⟩ := (Sl.of_own ho7).form; have bn7 := (HND.out.alloc _).grown hg7 (fun e => by have := HNE.out _ e.symm; omega); have c7' : w7.cell? ⟨w.heap.size + 1 + 1, 2, none⟩ = some (.slice B1 k d1) := bn7.cell 2; have f7 : w7.frozen? ⟨w.heap.size + 1 + 1, 2, none⟩ = false := bn7.frozen 2; have l7 : w.heap.size + 1 + 1 < w7.heap.size := bn7.lt))
      all_goals
        have hpu := (HOD.out.pushIsr (x := is[k]) (n := k) (by simp only [List.length_take]; omega) hg7 ho7).under (a := ⟨w.heap.size + 2, 2, none⟩) (Nat.lt_succ_self _) (.slice A7 (k + 1) c7)
        have hbl7 : Below w.heap.size w w7 := (HBD.out.alloc (by have := HBD.out.size; omega) _).grown hg7 (by have := HBD.out.size; simp; omega) (fun b hb => by have := HNE.out b hb; omega)
        have hs7 := hg7.size
        have bx7 := ((HXD.out.alloc _).grown hg7 (fun e => by have := HNE.out _ e.symm; omega)).far (p := ⟨w.heap.size + 2, 2, none⟩) (by show w.heap.size ≠ w.heap.size + 2; omega) (.slice A7 (k + 1) c7)
        have bz7 := ((HZD.out.alloc _).grown hg7 (fun e => by have := HNE.out _ e.symm; omega)).far (p := ⟨w.heap.size + 2, 2, none⟩) (by show w.heap.size + 1 ≠ w.heap.size + 2; omega) (.slice A7 (k + 1) c7)
        have bn8 := bn7.set_ 2 (.slice A7 (k + 1) c7)
        simp only [List.setIfInBounds_toArray, List.set_cons_succ, List.set_cons_zero] at bn8
        have hbl8 := hbl7.setCell (p := ⟨w.heap.size + 2, 2, none⟩) (Nat.le_add_right _ 2) (.slice A7 (k + 1) c7)
        simp only [← List.take_succ_eq_append_getElem hlt] at hpu
        go_wp2
        go_light
        exact ⟨⟨k + 1, _, _, _, by omega, by go_num, hpu, bx7, bz7, bn8, hbl8, by simp at hs7 ⊢; omega⟩, by simp [intOf]; omega⟩
    · obtain rfl : k = is.length := by omega
      have ho9 := ho
      simp only [List.take_length] at ho9
      have g9 := hbx.cell 3
      have q9 := hbx.cell 2
      have gl9 := hbx.lt
      obtain ⟨w9, hw9⟩ : ∃ w9, w9 = wr := ⟨_, rfl⟩
      subst hw9
      have O2 := Lib.hid ho9
      have X2 := Lib.hid hbx
      have Z2 := Lib.hid hbz
      have N2 := Lib.hid hbn
      have L2 := Lib.hid hbw
      have hsz2 := hsz
      clear ho9 ho hbx hbz hbn hbw htl hsz hlt
      go_wp2_with fail
      clear g9 gl9 q9
      go_loopw [5] (fun i wr => PcLp w #[.int .i64 ep, .int .i64 ld, .slice A1 is.length c1, .slice A3 ks.length c3, .slice A5 rs.length c5, .int .i64 fw, .int .i64 ba] #[.int .i64 0, .int .i64 0, .slice none 0 0, .slice none 0 0, .slice none 0 0, .int .i64 0, .int .i64 0] ks.length (fun k => ⟨ep, ld, is, ks.take k, [], fw, ba⟩) i wr) (fun i _ => ks.length - (intOf i).toNat)
      case atStart => exact ⟨0, _, _, _, Nat.zero_le _, rfl, O2.out, X2.out, Z2.out, N2.out, L2.out, hsz2⟩
      case round =>
        obtain ⟨k, iv, kv, rv, hk, rfl, ho, hbx, hbz, hbn, hbw, hsz⟩ := hrel
        have htl : (ks.take k).length = k := by rw [List.length_take]; omega
        obtain ⟨B1, d1, B3, d3, B5, d5, rfl, rfl, rfl⟩ := ho.form
        simp only [htl, List.length_nil] at hbn ho
        by_cases hlt : k < ks.length
        · obtain ⟨b, off, rfl, hbb, hcell⟩ := HK.out (by omega)
          have X0 := (hbw.cell (p := ⟨b, off + k, none⟩) hbb).trans (hcell k hlt)
          have i0' : (0 : Int) ≤ (k : Int) := by omega
          have i1' : (k : Int) < (ks.length : Int) := by omega
          have hble : b < wr.heap.size := by have := hbw.size; omega
          have g2 := hbx.cell 3
          have gl := hbx.lt
          have n2 : wr.cell? ⟨w.heap.size + 1 + 1, 3, none⟩ = some (.slice B3 k d3) := hbn.cell 3
          have nl : w.heap.size + 1 + 1 < wr.heap.size := hbn.lt
          have hdr : Below wr.heap.size wr wr.drew := (Below.refl _ _).drew
          have hod := ho.keep hdr
          have hne : ∀ g, (Value.slice B3 k d3).ownBlock = some g → w.heap.size + 3 ≤ g := fun g hg => by
            have := ho.known.lt g hg
            omega
          have hszd := hdr.size
          have HND := Lib.hid (hbn.below hdr hbn.lt)
          have HXD := Lib.hid (hbx.below hdr hbx.lt)
          have HZD := Lib.hid (hbz.below hdr hbz.lt)
          have HOD := Lib.hid hod
          have HBD := Lib.hid (below_then hbw hdr)
          have HNE := Lib.hid hne
          have HFD := Lib.hid (own_eq hod.known htl rfl)
          clear hcell hbn hbx hbz hne hod hdr ho hbw htl
          go_wp2_with fail
          go_region_law ((refine step_append_sl rfl (.tmp 42) (.tmp 48) 23 rfl (w.heap.size + 3) 3 j0 (.int .i64 0) 1 8 Try.underlying23 hj0 hx0 hx1' hx2' rfl (by decide) _ _ _ (by first | rfl | simp [Act.eval, Act.put]) (HFD.out.alloc _) _ 1 _ (by first | rfl | simp [Act.eval, Act.put]) (Sl.lit' _ _ _ 1 1 _ rfl (by simp)) (ints_one [ks[k]]) (by simp only [maxLen]; omega) (by omega) (by simp; omega) ?_; intro v7 w7 ho7 hg7 ha7; obtain ⟨A7, c7, rfl, hc7⟩ := (Sl.of_own ho7).form; have bn7 := (HND.out.alloc _).grown hg7 (fun e => by have := HNE.out _ e.symm; omega); have c7' : w7.cell? ⟨w.heap.size + 1 + 1, 3, none⟩ = some (.slice B3 k d3) := bn7.cell 3; have f7 : w7.frozen? ⟨w.heap.size + 1 + 1, 3, none⟩ = false := bn7.frozen 3; have l7 : w.heap.size + 1 + 1 < w7.heap.size := bn7.lt))
          all_goals
            have hpu := (HOD.out.pushKnown (x := ks[k]) (n := k) (by simp only [List.length_take]; omega) hg7 ho7).under (a := ⟨w.heap.size + 2, 3, none⟩) (Nat.lt_succ_self _) (.slice A7 (k + 1) c7)
            have hbl7 : Below w.heap.size w w7 := (HBD.out.alloc (by have := HBD.out.size; omega) _).grown hg7 (by have := HBD.out.size; simp; omega) (fun b hb => by have := HNE.out b hb; omega)
            have hs7 := hg7.size
            have bx7 := ((HXD.out.alloc _).grown hg7 (fun e => by have := HNE.out _ e.symm; omega)).far (p := ⟨w.heap.size + 2, 3, none⟩) (by show w.heap.size ≠ w.heap.size + 2; omega) (.slice A7 (k + 1) c7)
            have bz7 := ((HZD.out.alloc _).grown hg7 (fun e => by have := HNE.out _ e.symm; omega)).far (p := ⟨w.heap.size + 2, 3, none⟩) (by show w.heap.size + 1 ≠ w.heap.size + 2; omega) (.slice A7 (k + 1) c7)
            have bn8 := bn7.set_ 3 (.slice A7 (k + 1) c7)
            simp only [List.setIfInBounds_toArray, List.set_cons_succ, List.set_cons_zero] at bn8
            have hbl8 := hbl7.setCell (p := ⟨w.heap.size + 2, 3, none⟩) (Nat.le_add_right _ 2) (.slice A7 (k + 1) c7)
            simp only [← List.take_succ_eq_append_getElem hlt] at hpu
            go_wp2
            go_light
            exact ⟨⟨k + 1, _, _, _, by omega, by go_num, hpu, bx7, bz7, bn8, hbl8, by simp at hs7 ⊢; omega⟩, by simp [intOf]; omega⟩
        · obtain rfl : k = ks.length := by omega
          have ho9 := ho
          simp only [List.take_length] at ho9
          have g9 := hbx.cell 4
          have q9 := hbx.cell 3
          have gl9 := hbx.lt
          obtain ⟨w9, hw9⟩ : ∃ w9, w9 = wr := ⟨_, rfl⟩
          subst hw9
          have O3 := Lib.hid ho9
          have X3 := Lib.hid hbx
          have Z3 := Lib.hid hbz
          have N3 := Lib.hid hbn
          have L3 := Lib.hid hbw
          have hsz3 := hsz
          clear ho9 ho hbx hbz hbn hbw htl hsz hlt
          go_wp2_with fail
          clear g9 gl9 q9
          go_loopw [6] (fun i wr => PcLp w #[.int .i64 ep, .int .i64 ld, .slice A1 is.length c1, .slice A3 ks.length c3, .slice A5 rs.length c5, .int .i64 fw, .int .i64 ba] #[.int .i64 0, .int .i64 0, .slice none 0 0, .slice none 0 0, .slice none 0 0, .int .i64 0, .int .i64 0] rs.length (fun k => ⟨ep, ld, is, ks, rs.take k, fw, ba⟩) i wr) (fun i _ => rs.length - (intOf i).toNat)
          case atStart => exact ⟨0, _, _, _, Nat.zero_le _, rfl, O3.out, X3.out, Z3.out, N3.out, L3.out, hsz3⟩
          case round =>
            obtain ⟨k, iv, kv, rv, hk, rfl, ho, hbx, hbz, hbn, hbw, hsz⟩ := hrel
            have htl : (rs.take k).length = k := by rw [List.length_take]; omega
            obtain ⟨B1, d1, B3, d3, B5, d5, rfl, rfl, rfl⟩ := ho.form
            simp only [htl] at hbn ho
            have g4 := hbx.cell 4
            have gl := hbx.lt
            by_cases hlt : k < rs.length
            · obtain ⟨b, off, rfl, hbb, hcell⟩ := HC.out (by omega)
              obtain ⟨pv, x0, x1, x2, x3, xb, xl⟩ := hcell k hlt
              obtain ⟨A3', c3', rfl, hc3', -⟩ := xb.at_
              have X0 := (hbw.cell (p := ⟨b, off + k * 4, none⟩) hbb).trans x0
              have X1 := (hbw.cell (p := ⟨b, off + k * 4 + 1, none⟩) hbb).trans x1
              have X2 := (hbw.cell (p := ⟨b, off + k * 4 + 2, none⟩) hbb).trans x2
              have X3 := (hbw.cell (p := ⟨b, off + k * 4 + 3, none⟩) hbb).trans x3
              have i0' : (0 : Int) ≤ (k : Int) := by omega
              have i1' : (k : Int) < (rs.length : Int) := by omega
              have hble : b < wr.heap.size := by have := hbw.size; omega
              have XB := Lib.hid (xb.below hbw)
              have HBW := Lib.hid hbw
              have hb4 := H4.out rs[k] (List.getElem_mem _)
              obtain ⟨t, ht⟩ : ∃ t, t = rs[k] := ⟨_, rfl⟩
              have HT := Lib.hid ht.symm
              rw [← ht] at X0 X1 X2 X3 XB hb4 hc3'
              clear ht
              clear x0 x1 x2 x3 hcell xb hbw
              obtain ⟨tu, tb, ts, th⟩ := t
              simp only at *
              go_wp2_with fail
              have bt := (Blk.new wr 71 #[.bool tu, .slice A3' tb.length c3', .int .i64 ts, .int .i64 th]).alloc (.cells #[.slice A3' tb.length c3'] 34)
              have bk := Blk.new_ (wr.alloc (.cells #[.bool tu, .slice A3' tb.length c3', .int .i64 ts, .int .i64 th] 71)) 34 #[.slice A3' tb.length c3'] (g := wr.heap.size + 1) (by simp)
              have hal := ((Below.refl wr.heap.size wr).alloc (Nat.le_refl _) (.cells #[.bool tu, .slice A3' tb.length c3', .int .i64 ts, .int .i64 th] 71)).alloc (by simp) (.cells #[.slice A3' tb.length c3'] 34)
              have hz2 : ((wr.alloc (.cells #[.bool tu, .slice A3' tb.length c3', .int .i64 ts, .int .i64 th] 71)).alloc (.cells #[.slice A3' tb.length c3'] 34)).heap.size = wr.heap.size + 2 := by simp
              generalize (wr.alloc (.cells #[.bool tu, .slice A3' tb.length c3', .int .i64 ts, .int .i64 th] 71)).alloc (.cells #[.slice A3' tb.length c3'] 34) = w2 at *
              refine (bytesCopy_blk (l := tb) rfl bk (XB.out.below hal) hb4).mono ?_
              rintro e w5 ⟨v5, rfl, ho5, hb5⟩
              obtain ⟨A6, c6, rfl, hc6⟩ := (Sl.of_own ho5).form
              have hb6 := below_then hal hb5
              have bt5 := bt.below hb5 bt.lt
              have bx5 := hbx.below hb6 hbx.lt
              have bz5 := hbz.below hb6 hbz.lt
              have bn5 := hbn.below hb6 hbn.lt
              have f1 := bt5.frozen 1
              have e1 := bt5.cell 1
              have tlt := bt5.lt
              have bt6 := bt5.set_ 1 (.slice A6 tb.length c6)
              simp only [List.setIfInBounds_toArray, List.set_cons_succ, List.set_cons_zero] at bt6
              have bn6 := bn5.far (p := ⟨wr.heap.size, 1, none⟩) (by show w.heap.size + 2 ≠ wr.heap.size; omega) (.slice A6 tb.length c6)
              have bx6 := bx5.far (p := ⟨wr.heap.size, 1, none⟩) (by show w.heap.size ≠ wr.heap.size; omega) (.slice A6 tb.length c6)
              have bz6 := bz5.far (p := ⟨wr.heap.size, 1, none⟩) (by show w.heap.size + 1 ≠ wr.heap.size; omega) (.slice A6 tb.length c6)
              have hb6' : Below wr.heap.size wr (w5.setCell ⟨wr.heap.size, 1, none⟩ (.slice A6 tb.length c6)) := hb6.setCell (Nat.le_refl _) _
              have ho5' := own_base (ownsRow_setCell_below ho5 (a := ⟨wr.heap.size, 1, none⟩) (by show wr.heap.size < _; omega) (.slice A6 tb.length c6)) (show w.heap.size + 3 ≤ w2.heap.size by omega)
              have hoK := ho.keep hb6'
              have y0 := bt6.cell 0
              have y1 := bt6.cell 1
              have y2 := bt6.cell 2
              have y3 := bt6.cell 3
              have n4 : (w5.setCell ⟨wr.heap.size, 1, none⟩ (.slice A6 tb.length c6)).cell? ⟨w.heap.size + 1 + 1, 4, none⟩ = some (.slice B5 k d5) := bn6.cell 4
              have nl4 : w.heap.size + 1 + 1 < (w5.setCell ⟨wr.heap.size, 1, none⟩ (.slice A6 tb.length c6)).heap.size := bn6.lt
              have tl6 := bt6.lt
              have hlen6 : w.heap.size + 3 ≤ (w5.setCell ⟨wr.heap.size, 1, none⟩ (.slice A6 tb.length c6)).heap.size := Nat.le_trans hsz hb6'.size
              have hbW := below_then HBW.out hb6'
              obtain ⟨q1, q2, rows, q3, q4, q5⟩ := hoK
              have hot := own_eq q4 htl rfl
              have hne : ∀ g, (Value.slice B5 k d5).ownBlock = some g → w.heap.size + 3 ≤ g := fun g hg => (hot.lt g hg).1
              have Q1 := Lib.hid q1
              have Q2 := Lib.hid q2
              have Q3 := Lib.hid q3
              have Q4 := Lib.hid q4
              have Q5 := Lib.hid q5
              have HNX := Lib.hid bx6
              have HNZ := Lib.hid bz6
              have HNN := Lib.hid bn6
              have HBWW := Lib.hid hbW
              have HO5 := Lib.hid ho5'
              have HNE := Lib.hid hne
              have HOT := Lib.hid hot
              clear bt bt5 bt6 bx5 bz5 bn5 bn6 bx6 bz6 hb6 hb6' ho5 ho5' hb5 hal hne hbx hbz hbn q1 q2 q3 q4 q5 hot hbW bk ho htl
              go_wp2_with (at_builtin; go_must (refine wpList_append_sl _ rfl (.tmp 71) (.tmp 73) 24 rfl (w.heap.size + 3) 71 m0 (.agg #[.bool false, .slice none 0 0, .int .i64 0, .int .i64 0]) 4 48 Try.underlying24 hm0 hz0 hz1 hz2' rfl (by decide) _ _ _ (by rfl) (HOT.out.alloc _) _ 1 _ (by rfl) (Sl.lit' _ _ _ 4 1 _ rfl (by simp)) (rcells_one [(⟨tu, tb, ts, th⟩, .slice A6 tb.length c6)] (by intro t ht; simp only [List.mem_singleton] at ht; subst ht; rfl)) (by simp only [maxLen]; omega) (by omega) (by simp; omega) ?_; intro v7 w7 ho7 hg7 ha7; obtain ⟨A7, c7, rfl, hc7⟩ := (Sl.of_own ho7).form; have bn7 := (HNN.out.alloc _).grown hg7 (fun e => by have := HNE.out _ e.symm; omega); have c7' : w7.cell? ⟨w.heap.size + 1 + 1, 4, none⟩ = some (.slice B5 k d5) := bn7.cell 4; have f7 : w7.frozen? ⟨w.heap.size + 1 + 1, 4, none⟩ = false := bn7.frozen 4; have l7 : w.heap.size + 1 + 1 < w7.heap.size := bn7.lt))
              have hpu := (PO.pushRep (c := ⟨ep, ld, is, ks, rs.take k, fw, ba⟩) (t := ⟨tu, tb, ts, th⟩) (n := k) Q1.out Q2.out Q3.out Q4.out Q5.out (by simp only [List.length_take]; omega) hg7 HO5.out ho7).under (a := ⟨w.heap.size + 2, 4, none⟩) (Nat.lt_succ_self _) (.slice A7 (k + 1) c7)
              have hbl7 : Below w.heap.size w w7 := (HBWW.out.alloc (by have := HBWW.out.size; omega) _).grown hg7 (by have := HBWW.out.size; simp at this ⊢; omega) (fun b hb => by have := HNE.out b hb; omega)
              have hs7 := hg7.size
              have bx7 := ((HNX.out.alloc _).grown hg7 (fun e => by have := HNE.out _ e.symm; omega)).far (p := ⟨w.heap.size + 2, 4, none⟩) (by show w.heap.size ≠ w.heap.size + 2; omega) (.slice A7 (k + 1) c7)
              have bz7 := ((HNZ.out.alloc _).grown hg7 (fun e => by have := HNE.out _ e.symm; omega)).far (p := ⟨w.heap.size + 2, 4, none⟩) (by show w.heap.size + 1 ≠ w.heap.size + 2; omega) (.slice A7 (k + 1) c7)
              have bn8 := bn7.set_ 4 (.slice A7 (k + 1) c7)
              simp only [List.setIfInBounds_toArray, List.set_cons_succ, List.set_cons_zero] at bn8
              have hbl8 := hbl7.setCell (p := ⟨w.heap.size + 2, 4, none⟩) (Nat.le_add_right _ 2) (.slice A7 (k + 1) c7)
              have htk : rs.take (k + 1) = rs.take k ++ [⟨tu, tb, ts, th⟩] := by rw [List.take_succ_eq_append_getElem hlt, HT.out]
              simp only [← htk] at hpu
              have hge : (w5.setCell ⟨wr.heap.size, 1, none⟩ (.slice A6 tb.length c6)).heap.size ≤ w7.heap.size := Nat.le_trans (by simp) hs7
              go_light
              exact ⟨⟨k + 1, _, _, _, by omega, by go_num, hpu, bx7, bz7, bn8, hbl8, by simp only [World.size_setCell]; omega⟩, by simp [intOf]; omega⟩
            · obtain rfl : k = rs.length := by omega
              simp only [List.take_length] at ho
              have HO := Lib.hid ho
              have BZ := Lib.hid hbz
              have HBW := Lib.hid hbw
              have q0 := hbn.cell 0
              have q1 := hbn.cell 1
              have q2 := hbn.cell 2
              have q3 := hbn.cell 3
              have q4 := hbn.cell 4
              have q5 := hbn.cell 5
              have q6 := hbn.cell 6
              have ql := hbn.lt
              have zl := hbz.lt
              have z0 := hbz.cell 0
              have zf0 := hbz.frozen 0
              have z1 := hbz.cell 1
              have zf1 := hbz.frozen 1
              have z2 := hbz.cell 2
              have zf2 := hbz.frozen 2
              have z3 := hbz.cell 3
              have zf3 := hbz.frozen 3
              have z4 := hbz.cell 4
              have zf4 := hbz.frozen 4
              have z5 := hbz.cell 5
              have zf5 := hbz.frozen 5
              have z6 := hbz.cell 6
              have zf6 := hbz.frozen 6
              clear ho hbz hbn hbw
              go_wp2
              have HB5 := (((((((BZ.out).set_ 0 (.int .i64 ep)).set_ 1 (.int .i64 ld)).set_ 2 (.slice B1 is.length d1)).set_ 3 (.slice B3 ks.length d3)).set_ 4 (.slice B5 rs.length d5)).set_ 5 (.int .i64 fw)).set_ 6 (.int .i64 ba)
              have HO5 := (((((((HO.out).under (a := ⟨w.heap.size + 1, 0, none⟩) (by simp) (.int .i64 ep)).under (a := ⟨w.heap.size + 1, 1, none⟩) (by simp) (.int .i64 ld)).under (a := ⟨w.heap.size + 1, 2, none⟩) (by simp) (.slice B1 is.length d1)).under (a := ⟨w.heap.size + 1, 3, none⟩) (by simp) (.slice B3 ks.length d3)).under (a := ⟨w.heap.size + 1, 4, none⟩) (by simp) (.slice B5 rs.length d5)).under (a := ⟨w.heap.size + 1, 5, none⟩) (by simp) (.int .i64 fw)).under (a := ⟨w.heap.size + 1, 6, none⟩) (by simp) (.int .i64 ba)
              have HL5 := (((((((HBW.out).setCell (p := ⟨w.heap.size + 1, 0, none⟩) (Nat.le_succ _) (.int .i64 ep)).setCell (p := ⟨w.heap.size + 1, 1, none⟩) (Nat.le_succ _) (.int .i64 ld)).setCell (p := ⟨w.heap.size + 1, 2, none⟩) (Nat.le_succ _) (.slice B1 is.length d1)).setCell (p := ⟨w.heap.size + 1, 3, none⟩) (Nat.le_succ _) (.slice B3 ks.length d3)).setCell (p := ⟨w.heap.size + 1, 4, none⟩) (Nat.le_succ _) (.slice B5 rs.length d5)).setCell (p := ⟨w.heap.size + 1, 5, none⟩) (Nat.le_succ _) (.int .i64 fw)).setCell (p := ⟨w.heap.size + 1, 6, none⟩) (Nat.le_succ _) (.int .i64 ba)
              generalize ((((((wr.setCell ⟨w.heap.size + 1, 0, none⟩ (.int .i64 ep)).setCell ⟨w.heap.size + 1, 1, none⟩ (.int .i64 ld)).setCell ⟨w.heap.size + 1, 2, none⟩ (.slice B1 is.length d1)).setCell ⟨w.heap.size + 1, 3, none⟩ (.slice B3 ks.length d3)).setCell ⟨w.heap.size + 1, 4, none⟩ (.slice B5 rs.length d5)).setCell ⟨w.heap.size + 1, 5, none⟩ (.int .i64 fw)).setCell ⟨w.heap.size + 1, 6, none⟩ (.int .i64 ba) = W5 at *
              simp only [List.setIfInBounds_toArray, List.set_cons_succ, List.set_cons_zero] at HB5
              have y0 := HB5.cell 0
              have y1 := HB5.cell 1
              have y2 := HB5.cell 2
              have y3 := HB5.cell 3
              have y4 := HB5.cell 4
              have y5 := HB5.cell 5
              have y6 := HB5.cell 6
              exact bodyPost_ret (v := .agg #[.int .i64 ep, .int .i64 ld, .slice B1 is.length d1, .slice B3 ks.length d3, .slice B5 rs.length d5, .int .i64 fw, .int .i64 ba]) (by simp [results, Try.results47, go_sem, y0, y1, y2, y3, y4, y5, y6]) rfl ⟨_, _, _, rfl, HO5.more (by omega), HL5⟩
theorem refPartCopy_ok {v : Value} {c : PartD} {w : World} (h : Pv w v c) (hs : PSm c) : Calls Try.prog 47 #[v] w (CopiesP c w) := by
  have s1 := hs.isr
  have s2 := hs.known
  have s3 := hs.reps
  exact refPartCopy_any v c w h (by omega) (by omega) (by omega) (fun t ht => by have := hs.bytes t ht; omega)
end Go.Proofs.Ytpjjfnpdopdnkaa
