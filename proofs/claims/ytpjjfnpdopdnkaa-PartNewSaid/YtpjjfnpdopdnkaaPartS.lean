/- tailracelaw.samePart of two parts that are the same. -/
import Derived.Test.YtpjjfnpdopdnkaaPartD
import Derived.Test.YtpjjfnpdopdnkaaSameE
namespace Go.Proofs.Ytpjjfnpdopdnkaa
open Go.RowKit

set_option maxRecDepth 100000 in
set_option maxHeartbeats 4000000 in
theorem samePart_same (x y : Value) (c : PartD) (w : World) (hx : Pv w x c) (hy : Pv w y c) :
    Calls Try.prog 25 #[x, y] w fun e w' => e = .returned (.bool true) ∧ Below w.heap.size w w' := by
  obtain ⟨xi, xk, xr, rfl, ix, kx, rx, hli, hlk, hlr⟩ := hx
  obtain ⟨yi, yk, yr, rfl, iy, ky, ry, -⟩ := hy
  obtain ⟨A1, c1, rfl, hc1, hx1⟩ := ix.at_
  obtain ⟨A2, c2, rfl, hc2, hy1⟩ := iy.at_
  obtain ⟨A3, c3, rfl, hc3, -⟩ := kx.at_
  obtain ⟨A4, c4, rfl, hc4, -⟩ := ky.at_
  obtain ⟨A5, c5, rfl, hc5, hx2⟩ := rx.at_
  obtain ⟨A6, c6, rfl, hc6, hy2⟩ := ry.at_
  unfold partV
  obtain ⟨ep, ld, is, ks, rs, fw, ba⟩ := c
  simp only at *
  have HX := Lib.hid hx1
  have HY := Lib.hid hy1
  have HX2 := Lib.hid hx2
  have HY2 := Lib.hid hy2
  have hbl : Below w.heap.size w ((w.alloc (.cells #[.int .i64 ep, .int .i64 ld, .slice A1 is.length c1, .slice A3 ks.length c3, .slice A5 rs.length c5, .int .i64 fw, .int .i64 ba] 26)).alloc (.cells #[.int .i64 ep, .int .i64 ld, .slice A2 is.length c2, .slice A4 ks.length c4, .slice A6 rs.length c6, .int .i64 fw, .int .i64 ba] 26)) :=
    ((Below.refl _ _).alloc (Nat.le_refl _) _).alloc (by simp) _
  have hb1 := (Blk.new w 26 #[.int .i64 ep, .int .i64 ld, .slice A1 is.length c1, .slice A3 ks.length c3, .slice A5 rs.length c5, .int .i64 fw, .int .i64 ba]).alloc (.cells #[.int .i64 ep, .int .i64 ld, .slice A2 is.length c2, .slice A4 ks.length c4, .slice A6 rs.length c6, .int .i64 fw, .int .i64 ba] 26)
  have hb2 := Blk.new (w.alloc (.cells #[.int .i64 ep, .int .i64 ld, .slice A1 is.length c1, .slice A3 ks.length c3, .slice A5 rs.length c5, .int .i64 fw, .int .i64 ba] 26)) 26 #[.int .i64 ep, .int .i64 ld, .slice A2 is.length c2, .slice A4 ks.length c4, .slice A6 rs.length c6, .int .i64 fw, .int .i64 ba]
  simp only [World.size_alloc] at hb2
  have hk1 := L1.below kx hbl
  have hk2 := L1.below ky hbl
  clear hx1 hy1 hx2 hy2 ix iy rx ry kx ky
  have HLR := Lib.hid hlr
  go_enter Try.func25, Try.ntmps25
  go_wp2_with fail
  refine (sameInts_any _ _ ks ks _ hk1 hk2 hlk hlk).mono ?_
  rintro e w' ⟨rfl, n, rfl⟩
  have hb1' := hb1.below (below_drewN_ _ n) hb1.lt
  have hb2' := hb2.below (below_drewN_ _ n) hb2.lt
  have hbl' := hbl.trans ((below_drewN_ _ n).mono hbl.size)
  clear hb1 hb2 hbl hk1 hk2
  generalize ((w.alloc (.cells #[.int .i64 ep, .int .i64 ld, .slice A1 is.length c1, .slice A3 ks.length c3, .slice A5 rs.length c5, .int .i64 fw, .int .i64 ba] 26)).alloc (.cells #[.int .i64 ep, .int .i64 ld, .slice A2 is.length c2, .slice A4 ks.length c4, .slice A6 rs.length c6, .int .i64 fw, .int .i64 ba] 26)).drewN n = W0 at *
  have HBL := Lib.hid hbl'
  have HB1 := Lib.hid hb1'
  have HB2 := Lib.hid hb2'
  clear hbl' hb1' hb2'
  have ht : decide (ks = ks) = true := by simp
  go_wp2
  go_loopw [5] (fun i wr => ∃ k : Nat, k ≤ is.length ∧ i = .int .i64 k ∧ Hid (Below W0.heap.size W0 wr)) (fun i _ => is.length - (intOf i).toNat)
  case atStart => exact ⟨0, by omega, rfl, Below.refl _ _⟩
  case round =>
    obtain ⟨k, hk, rfl, hbw⟩ := hrel
    have g1 := (HB1.out.below hbw.out HB1.out.lt).cell 2
    have g2 := (HB2.out.below hbw.out HB2.out.lt).cell 2
    have HBW := Lib.hid (HBL.out.trans (hbw.out.mono HBL.out.size))
    by_cases hlt : k < is.length
    · obtain ⟨b1, o1, rfl, hbb1, q1⟩ := HX.out (by omega)
      obtain ⟨b2, o2, rfl, hbb2, q2⟩ := HY.out (by omega)
      have X0 := (HBW.out.cell (p := ⟨b1, o1 + k, none⟩) hbb1).trans (q1 k hlt)
      have Y0 := (HBW.out.cell (p := ⟨b2, o2 + k, none⟩) hbb2).trans (q2 k hlt)
      have hj0 : (0 : Int) ≤ (k : Int) := by omega
      have hj1 : (k : Int) < (is.length : Int) := by omega
      clear q1 q2
      generalize is[k] = bk at *
      have hbk : (bk != bk) = false := by simp
      go_wp2
      go_quiet (fail)
      go_wp2
      go_light
      refine ⟨⟨k + 1, by omega, by go_num, ?_⟩, by simp [intOf]; omega⟩
      exact hbw.out.trans ((below_drewN_ _ _).mono (by have := hbw.out.size; omega))
    · obtain rfl : k = is.length := by omega
      go_wp2
      clear g1 g2
      go_loopw [6] (fun i wq => ∃ j : Nat, j ≤ rs.length ∧ i = .int .i64 j ∧ Hid (Below W0.heap.size W0 wq)) (fun i _ => rs.length - (intOf i).toNat)
      case atStart => exact ⟨0, by omega, rfl, hbw⟩
      case round =>
        clear hbw HBW
        obtain ⟨k, hk, rfl, hbw⟩ := hrel
        have g1 := (HB1.out.below hbw.out HB1.out.lt).cell 4
        have g2 := (HB2.out.below hbw.out HB2.out.lt).cell 4
        have HBW := Lib.hid (HBL.out.trans (hbw.out.mono HBL.out.size))
        by_cases hlt : k < rs.length
        · obtain ⟨b1, o1, rfl, hbb1, q1⟩ := HX2.out (by omega)
          obtain ⟨b2, o2, rfl, hbb2, q2⟩ := HY2.out (by omega)
          obtain ⟨p1, x0, x1, x2, x3, xi, xl⟩ := q1 k hlt
          obtain ⟨p2, y0, y1, y2, y3, yi, -⟩ := q2 k hlt
          have k1 : ∀ o, wr.cell? ⟨b1, o, none⟩ = w.cell? ⟨b1, o, none⟩ := fun o => HBW.out.cell (p := ⟨b1, o, none⟩) hbb1
          have k2 : ∀ o, wr.cell? ⟨b2, o, none⟩ = w.cell? ⟨b2, o, none⟩ := fun o => HBW.out.cell (p := ⟨b2, o, none⟩) hbb2
          replace x0 := (k1 _).trans x0
          replace x1 := (k1 _).trans x1
          replace x2 := (k1 _).trans x2
          replace x3 := (k1 _).trans x3
          replace y0 := (k2 _).trans y0
          replace y1 := (k2 _).trans y1
          replace y2 := (k2 _).trans y2
          replace y3 := (k2 _).trans y3
          have hlb1 : b1 < wr.heap.size := by have := HBW.out.size; omega
          have hlb2 : b2 < wr.heap.size := by have := HBW.out.size; omega
          have hw1 : w.heap.size + 1 < wr.heap.size := (HB2.out.below hbw.out HB2.out.lt).lt
          have hw0 : w.heap.size < wr.heap.size := by omega
          have xi' := xi.below HBW.out
          have yi' := yi.below HBW.out
          obtain ⟨A7, c7, rfl, hc7, -⟩ := xi.at_
          obtain ⟨A8, c8, rfl, hc8, -⟩ := yi.at_
          have XI := Lib.hid xi'
          have YI := Lib.hid yi'
          have hj0 : (0 : Int) ≤ (k : Int) := by omega
          have hj1 : (k : Int) < (rs.length : Int) := by omega
          clear k1 k2 q1 q2 xi yi xi' yi' xl
          generalize rs[k] = t at *
          have hbk : (t.up != t.up) = false := by simp
          go_wp2_with fail
          refine (sameLog_same _ _ t.bytes t.synced _ (Sl.alloc (Sl.alloc XI.out _) _) (Sl.alloc (Sl.alloc YI.out _) _)).mono ?_
          rintro e w' ⟨rfl, hb'⟩
          go_wp2
          go_light
          refine ⟨⟨k + 1, by omega, by go_num, ?_⟩, by simp [intOf]; omega⟩
          exact ((hbw.out.alloc hbw.out.size _).alloc (by have := hbw.out.size; simp; omega) _).trans (hb'.mono (by have := hbw.out.size; simp; omega))
        · obtain rfl : k = rs.length := by omega
          go_wp2
          go_ret
          exact ⟨rfl, HBW.out⟩
end Go.Proofs.Ytpjjfnpdopdnkaa
