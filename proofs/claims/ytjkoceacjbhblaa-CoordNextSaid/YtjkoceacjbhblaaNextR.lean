/- tailraceref.NextOf: the n'th transaction that has markers on their way. -/
import Derived.Test.YtjkoceacjbhblaaNextB
import Derived.Test.YtjkoceacjbhblaaMayB
namespace Go.Proofs.Ytjkoceacjbhblaa
open Go.RowKit

theorem tells_below {P : Prop} {w w' : World} {e : Ending} (h : Tells P w e w') : Below w.heap.size w w' := by
  obtain ⟨_, _, _, h⟩ := h
  exact h
set_option maxRecDepth 100000 in
set_option maxHeartbeats 1000000 in
theorem ending_any (nm : ByteArray) (pid ver st sn dn : Int) (pv : Value) (w : World) (_ho : pv.oneCell' = true) :
    Calls Try.prog 79 #[.agg #[.string nm, .int .i64 pid, .int .i64 ver, .int .i64 st, pv, .int .i64 sn, .int .i64 dn]] w fun e w' => e = .returned (.bool (st == 3 || st == 4)) ∧ Below w.heap.size w w' := by
  go_enter Try.func79, Try.ntmps79
  go_wp2
  all_goals go_ret
  all_goals exact ⟨ret_bool (by simp_all), (Below.refl _ _).alloc (Nat.le_refl _) _⟩

set_option maxRecDepth 100000 in
set_option maxHeartbeats 8000000 in
theorem refNext_any (v : Value) (c : CoordD) (n : Int) (w : World) (h : Cv w v c) (hnm : ∀ t ∈ c.txns, t.name.size ≤ 9223372036854775807) : Calls Try.prog 36 #[v, .int .i64 n] w (NextPost c n w) := by
  obtain ⟨tv, rfl, hx, hlen⟩ := id h
  obtain ⟨A, m, rfl, hm, hcell⟩ := hx.at_
  have H := Lib.hid h
  have HC := Lib.hid hcell
  clear h hx hcell
  unfold coordV at *
  obtain ⟨ck, nx, wt, ts⟩ := c
  simp only at *
  have HNM := Lib.hid hnm
  clear hnm
  go_enter Try.func36, Try.ntmps36
  go_wp2_with fail
  have hal := ((Below.refl w.heap.size w).alloc (Nat.le_refl _) (.cells #[.int .i64 ck, .int .i64 nx, .int .i64 wt, .slice A ts.length m] 28)).alloc (by simp) (.cells #[.int .i64 0, .int .i64 0, .int .i64 0, .int .i64 0, .int .i64 0, .bool false, .string ⟨#[]⟩] 47)
  have bx := (Blk.new w 28 #[.int .i64 ck, .int .i64 nx, .int .i64 wt, .slice A ts.length m]).alloc (.cells #[.int .i64 0, .int .i64 0, .int .i64 0, .int .i64 0, .int .i64 0, .bool false, .string ⟨#[]⟩] 47)
  have bz := Blk.new (w.alloc (.cells #[.int .i64 ck, .int .i64 nx, .int .i64 wt, .slice A ts.length m] 28)) 47 #[.int .i64 0, .int .i64 0, .int .i64 0, .int .i64 0, .int .i64 0, .bool false, .string ⟨#[]⟩]
  simp only [World.size_alloc] at bz
  refine (coord_may_any _ ⟨ck, nx, wt, ts⟩ _ (H.out.below hal) HNM.out).mono ?_
  rintro e w1 hA
  have h1 := tells_below hA
  have hb1 := below_then hal h1
  have bx1 := bx.below h1 bx.lt
  have bz1 := bz.below h1 bz.lt
  have BX := Lib.hid bx1
  have BZ := Lib.hid bz1
  have B1 := Lib.hid hb1
  clear hal bx bz h1
  by_cases hk : CoordOk ⟨ck, nx, wt, ts⟩
  · obtain ⟨rfl, -⟩ := hA.yes hk
    have HK := Lib.hid hk
    clear hA hk bx1 bz1 hb1
    go_wp2_with fail
    go_loopw [8, 9] (fun cv i wr => ∃ k : Nat, k ≤ ts.length ∧ i = .int .i64 k ∧ cv = .int .i64 (cntE ts k : Nat) ∧ Hid (∀ j, j < k → ¬ HitAt ts n j) ∧ Hid (Below w1.heap.size w1 wr)) (fun _ i _ => ts.length - (intOf i).toNat)
    case atStart => exact ⟨0, by omega, rfl, rfl, fun j hj => by omega, Below.refl _ _⟩
    case round =>
      obtain ⟨k, hk, rfl, rfl, HJ, HW⟩ := hrel
      have hbw := below_then B1.out HW.out
      have bx1 := BX.out.below HW.out BX.out.lt
      have g3 := bx1.cell 3
      have gl := bx1.lt
      have hcl := cntE_le ts k
      by_cases hlt : k < ts.length
      · obtain ⟨b, off, rfl, hb, hcell⟩ := HC.out (by omega)
        obtain ⟨pv, x0, x1, x2, x3, x4, x5, x6, xi, xl⟩ := hcell k hlt
        have X0 := (hbw.cell (p := ⟨b, off + k * 7, none⟩) hb).trans x0
        have X1 := (hbw.cell (p := ⟨b, off + k * 7 + 1, none⟩) hb).trans x1
        have X2 := (hbw.cell (p := ⟨b, off + k * 7 + 2, none⟩) hb).trans x2
        have X3 := (hbw.cell (p := ⟨b, off + k * 7 + 3, none⟩) hb).trans x3
        have X4 := (hbw.cell (p := ⟨b, off + k * 7 + 4, none⟩) hb).trans x4
        have X5 := (hbw.cell (p := ⟨b, off + k * 7 + 5, none⟩) hb).trans x5
        have X6 := (hbw.cell (p := ⟨b, off + k * 7 + 6, none⟩) hb).trans x6
        have i0 : (0 : Int) ≤ (k : Int) := by omega
        have i1 : (k : Int) < (ts.length : Int) := by omega
        obtain ⟨A3, c3, rfl, hc3, xcell⟩ := (xi.below hbw).at_
        have HBW := Lib.hid hbw
        have HXC := Lib.hid xcell
        have hble : b < wr.heap.size := by have := hbw.size; omega
        have bz1 := BZ.out.below HW.out BZ.out.lt
        have BZ1 := Lib.hid bz1
        clear x0 x1 x2 x3 x4 x5 x6 hcell hbw xi xcell bx1 bz1
        go_wp2_with fail
        have bt := Blk.new wr 76 #[.string ts[k].name, .int .i64 ts[k].pid, .int .i64 ts[k].ver, .int .i64 ts[k].state, .slice A3 ts[k].parts.length c3, .int .i64 ts[k].since, .int .i64 ts[k].done]
        have hal := (Below.refl wr.heap.size wr).alloc (Nat.le_refl _) (.cells #[.string ts[k].name, .int .i64 ts[k].pid, .int .i64 ts[k].ver, .int .i64 ts[k].state, .slice A3 ts[k].parts.length c3, .int .i64 ts[k].since, .int .i64 ts[k].done] 76)
        refine (ending_any _ _ _ _ _ _ _ _ (by rfl)).mono ?_
        rintro e w2 ⟨rfl, h2⟩
        have hb2 := below_then hal h2
        have bt2 := bt.below h2 bt.lt
        have bz2 := BZ1.out.below hb2 BZ1.out.lt
        obtain ⟨⟨t0, t1, t2, t3, t4, t5, t6⟩, -, tlt⟩ := bt2.all7
        obtain ⟨⟨z0, z1, z2, z3, z4, z5, z6⟩, ⟨zf0, zf1, zf2, zf3, zf4, zf5, zf6⟩, zl⟩ := bz2.all7
        have HBT := Lib.hid bt2
        have HBZ := Lib.hid bz2
        have HB2 := Lib.hid hb2
        clear bt hal h2 bt2 bz2 hb2
        by_cases he : endingB ts[k] = true
        · have he' : (ts[k].state == 3 || ts[k].state == 4) = true := he
          by_cases hq : (cntE ts k : Int) = n
          · have hq' : ((cntE ts k : Int) == n) = true := by simpa using hq
            have hit : HitAt ts n k := ⟨hlt, he, hq⟩
            have HIT := Lib.hid hit
            have hst : ts[k].state = 3 ∨ ts[k].state = 4 := by simpa [endingB] using he
            have hpl : 0 < ts[k].parts.length := by
              have := (HK.out.all k hlt hlt).1.empty
              simp only at this
              omega
            obtain ⟨b3, o3, rfl, hb3, hxc⟩ := HXC.out hpl
            have U := (HB2.out.cell (p := ⟨b3, o3 + 0, none⟩) hb3).trans (hxc 0 hpl)
            have hhd : ts[k].parts[0] = ts[k].parts.headD 0 := head_get hpl
            have hpl' : (0 : Int) < (ts[k].parts.length : Int) := by omega
            have hb3' : b3 < w2.heap.size := by have := HB2.out.size; omega
            rw [hhd, Nat.add_zero] at U
            clear hit hhd hxc he hq
            rcases hst with hst | hst
            all_goals rw [hst] at t3 he'
            · go_wp2_with fail
              go_region
              go_wp2
              have hp := (HBZ.out.put7 (.int .i64 0) (.int .i64 ts[k].pid) (.int .i64 ts[k].ver) (.int .i64 0) (.int .i64 2) (.bool true) (.string ⟨#[]⟩)).alloc (.cells #[.int .i64 0, .int .i64 ts[k].pid, .int .i64 ts[k].ver, .int .i64 0, .int .i64 2, .bool true, .string ⟨#[]⟩] 47)
              obtain ⟨⟨y0, y1, y2, y3, y4, y5, y6⟩, -, -⟩ := hp.all7
              have hbw2 := below_then HBW.out HB2.out
              have hbe := ((below_put7 hbw2 (Nat.le_succ _) (.int .i64 0) (.int .i64 ts[k].pid) (.int .i64 ts[k].ver) (.int .i64 0) (.int .i64 2) (.bool true) (.string ⟨#[]⟩)).alloc (by have := hbw2.size; simpa using this) (.cells #[.int .i64 0, .int .i64 ts[k].pid, .int .i64 ts[k].ver, .int .i64 0, .int .i64 2, .bool true, .string ⟨#[]⟩] 47)).drew
              exact bodyPost_ret (v := nextV (hitR ts[k])) (by simp [results, Try.results36, go_sem, y0, y1, y2, y3, y4, y5, y6, nextV, hitR, hst]) rfl ⟨hitR ts[k], Or.inr (Or.inl ⟨HK.out, k, hlt, HIT.out, rfl⟩), rfl, hbe⟩
            · go_wp2_with fail
              go_region
              go_wp2
              have hp := (HBZ.out.put7 (.int .i64 0) (.int .i64 ts[k].pid) (.int .i64 ts[k].ver) (.int .i64 0) (.int .i64 3) (.bool true) (.string ⟨#[]⟩)).alloc (.cells #[.int .i64 0, .int .i64 ts[k].pid, .int .i64 ts[k].ver, .int .i64 0, .int .i64 3, .bool true, .string ⟨#[]⟩] 47)
              obtain ⟨⟨y0, y1, y2, y3, y4, y5, y6⟩, -, -⟩ := hp.all7
              have hbw2 := below_then HBW.out HB2.out
              have hbe := ((below_put7 hbw2 (Nat.le_succ _) (.int .i64 0) (.int .i64 ts[k].pid) (.int .i64 ts[k].ver) (.int .i64 0) (.int .i64 3) (.bool true) (.string ⟨#[]⟩)).alloc (by have := hbw2.size; simpa using this) (.cells #[.int .i64 0, .int .i64 ts[k].pid, .int .i64 ts[k].ver, .int .i64 0, .int .i64 3, .bool true, .string ⟨#[]⟩] 47)).drew
              exact bodyPost_ret (v := nextV (hitR ts[k])) (by simp [results, Try.results36, go_sem, y0, y1, y2, y3, y4, y5, y6, nextV, hitR, hst]) rfl ⟨hitR ts[k], Or.inr (Or.inl ⟨HK.out, k, hlt, HIT.out, rfl⟩), rfl, hbe⟩
          · have hq' : ((cntE ts k : Int) == n) = false := beq_eq_false_iff_ne.2 hq
            have hj : ∀ j, j < k + 1 → ¬ HitAt ts n j := fun j hj => by
              rcases Nat.lt_succ_iff_lt_or_eq.1 hj with h' | rfl
              · exact HJ.out j h'
              · exact fun ⟨_, _, h⟩ => hq h
            have hcc : Value.int .i64 ((cntE ts k : Int) + 1) = Value.int .i64 ((cntE ts (k + 1) : Nat) : Int) := by
              rw [cntE_yes hlt he]
              simp
            have HJ2 := Lib.hid hj
            have HCC := Lib.hid hcc
            clear hj hcc he hq
            go_wp2_with fail
            go_light
            exact ⟨⟨k + 1, by omega, by go_num, HCC.out, HJ2.out, below_then HW.out HB2.out⟩, by simp [intOf]; omega⟩
        · have he' : (ts[k].state == 3 || ts[k].state == 4) = false := by simpa [endingB] using he
          have hj : ∀ j, j < k + 1 → ¬ HitAt ts n j := fun j hj => by
            rcases Nat.lt_succ_iff_lt_or_eq.1 hj with h' | rfl
            · exact HJ.out j h'
            · exact fun ⟨_, h, _⟩ => he h
          have hcc : cntE ts (k + 1) = cntE ts k := cntE_no hlt (by simpa using he)
          have HJ2 := Lib.hid hj
          have HCC := Lib.hid hcc
          clear hj hcc he
          go_wp2_with fail
          go_light
          exact ⟨⟨k + 1, by omega, by go_num, by rw [HCC.out], HJ2.out, below_then HW.out HB2.out⟩, by simp [intOf]; omega⟩
      · obtain rfl : k = ts.length := by omega
        have bz1 := BZ.out.below HW.out BZ.out.lt
        obtain ⟨⟨z0, z1, z2, z3, z4, z5, z6⟩, ⟨zf0, zf1, zf2, zf3, zf4, zf5, zf6⟩, zl⟩ := bz1.all7
        have BZ1 := Lib.hid bz1
        have HBW := Lib.hid hbw
        have hno : ∀ j, ¬ HitAt ts n j := fun j h => by
          obtain ⟨hj, h2⟩ := h
          exact HJ.out j hj ⟨hj, h2⟩
        have HNO := Lib.hid hno
        clear bz1 hbw hno bx1
        go_wp2_with fail
        have hp := BZ1.out.put7 (.int .i64 0) (.int .i64 0) (.int .i64 0) (.int .i64 0) (.int .i64 0) (.bool false) (.string ⟨#[]⟩)
        obtain ⟨⟨y0, y1, y2, y3, y4, y5, y6⟩, -, -⟩ := hp.all7
        exact bodyPost_ret (v := nextV idleR) (by simp [results, Try.results36, go_sem, y0, y1, y2, y3, y4, y5, y6, nextV, idleR]) rfl ⟨idleR, Or.inr (Or.inr ⟨HK.out, HNO.out, rfl⟩), rfl, below_put7 HBW.out (Nat.le_succ _) _ _ _ _ _ _ _⟩
  · obtain ⟨rfl, -⟩ := hA.no hk
    have HK := Lib.hid hk
    obtain ⟨⟨z0, z1, z2, z3, z4, z5, z6⟩, ⟨zf0, zf1, zf2, zf3, zf4, zf5, zf6⟩, zl⟩ := bz1.all7
    clear hA hk bx1 bz1 hb1
    go_wp2_with fail
    have hp := BZ.out.put7 (.int .i64 0) (.int .i64 0) (.int .i64 0) (.int .i64 0) (.int .i64 0) (.bool false) (.string ⟨#[]⟩)
    obtain ⟨⟨y0, y1, y2, y3, y4, y5, y6⟩, -, -⟩ := hp.all7
    exact bodyPost_ret (v := nextV failR) (by simp [results, Try.results36, go_sem, y0, y1, y2, y3, y4, y5, y6, nextV, failR]) rfl ⟨failR, Or.inl ⟨HK.out, rfl⟩, rfl, below_put7 B1.out (Nat.le_succ _) _ _ _ _ _ _ _⟩

end Go.Proofs.Ytjkoceacjbhblaa
