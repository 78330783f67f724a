/- coord.Next and tailraceref.NextOf: the n'th transaction that has markers on their way. -/
import Derived.Test.YtjkoceacjbhblaaCheckB
import Derived.Test.YtjkoceacjbhblaaPutB
namespace Go.Proofs.Ytjkoceacjbhblaa
open Go.RowKit

structure NextD where
  s : ByteArray
  a : Int
  pid : Int
  ver : Int
  kind : Int
  tx : Bool
  code : Int
def nextV (r : NextD) : Value := .tuple #[.string r.s, .int .i64 r.a, .agg #[.int .i64 0, .int .i64 r.pid, .int .i64 r.ver, .int .i64 0, .int .i64 r.kind, .bool r.tx, .string ⟨#[]⟩], .int .i64 r.code]
def endingB (t : TxnD) : Bool := t.state == 3 || t.state == 4
def cntE (ts : List TxnD) (k : Nat) : Nat := (ts.take k).countP endingB
theorem cntE_yes {ts : List TxnD} {k : Nat} (hk : k < ts.length) (h : endingB ts[k] = true) : cntE ts (k + 1) = cntE ts k + 1 := by
  unfold cntE
  rw [List.take_succ_eq_append_getElem hk, List.countP_append]
  simp [h]
theorem cntE_no {ts : List TxnD} {k : Nat} (hk : k < ts.length) (h : endingB ts[k] = false) : cntE ts (k + 1) = cntE ts k := by
  unfold cntE
  rw [List.take_succ_eq_append_getElem hk, List.countP_append]
  simp [h]
theorem cntE_le (ts : List TxnD) (k : Nat) : cntE ts k ≤ k := Nat.le_trans List.countP_le_length (by rw [List.length_take]; omega)
theorem cntE_mono (ts : List TxnD) (j d : Nat) : cntE ts j ≤ cntE ts (j + d) := by
  have h : (ts.take j).Sublist (ts.take (j + d)) := by
    have : ts.take j = (ts.take (j + d)).take j := by rw [List.take_take, Nat.min_eq_left (by omega)]
    rw [this]
    exact List.take_sublist _ _
  exact h.countP_le
def HitAt (ts : List TxnD) (n : Int) (k : Nat) : Prop := ∃ h : k < ts.length, endingB ts[k] = true ∧ (cntE ts k : Int) = n
theorem HitAt.lt {ts : List TxnD} {n : Int} {j k : Nat} (hj : HitAt ts n j) (hk : HitAt ts n k) : ¬ j < k := by
  intro h
  obtain ⟨h1, h2, h3⟩ := hj
  obtain ⟨k1, k2, k3⟩ := hk
  have h4 := cntE_yes h1 h2
  have h5 := cntE_mono ts (j + 1) (k - (j + 1))
  rw [show j + 1 + (k - (j + 1)) = k from by omega] at h5
  omega
theorem HitAt.uniq {ts : List TxnD} {n : Int} {j k : Nat} (hj : HitAt ts n j) (hk : HitAt ts n k) : j = k := by
  have h1 := hj.lt hk
  have h2 := hk.lt hj
  omega
def idleR : NextD := ⟨⟨#[]⟩, 0, 0, 0, 0, false, 15⟩
def failR : NextD := ⟨⟨#[]⟩, 0, 0, 0, 0, false, 12⟩
def hitR (t : TxnD) : NextD := ⟨t.name, t.parts.headD 0, t.pid, t.ver, if t.state = 4 then 3 else 2, true, 0⟩
def NextIs (c : CoordD) (n : Int) (r : NextD) : Prop := (¬ CoordOk c ∧ r = failR) ∨ (CoordOk c ∧ ∃ k, ∃ h : k < c.txns.length, HitAt c.txns n k ∧ r = hitR c.txns[k]) ∨ (CoordOk c ∧ (∀ k, ¬ HitAt c.txns n k) ∧ r = idleR)
theorem NextIs.uniq {c : CoordD} {n : Int} {r r' : NextD} (h : NextIs c n r) (h' : NextIs c n r') : r = r' := by
  rcases h with ⟨h1, rfl⟩ | ⟨h1, k, hk, h2, rfl⟩ | ⟨h1, h2, rfl⟩
  · rcases h' with ⟨k1, rfl⟩ | ⟨k1, _⟩ | ⟨k1, _⟩
    · rfl
    · exact absurd k1 h1
    · exact absurd k1 h1
  · rcases h' with ⟨k1, rfl⟩ | ⟨k1, k', hk', k2, rfl⟩ | ⟨k1, k2, rfl⟩
    · exact absurd h1 k1
    · obtain rfl := h2.uniq k2
      rfl
    · exact absurd h2 (k2 k)
  · rcases h' with ⟨k1, rfl⟩ | ⟨k1, k', hk', k2, rfl⟩ | ⟨k1, k2, rfl⟩
    · exact absurd h1 k1
    · exact absurd k2 (h2 k')
    · rfl
def NextPost (c : CoordD) (n : Int) (w : World) (e : Ending) (w' : World) : Prop := ∃ r, NextIs c n r ∧ e = .returned (nextV r) ∧ Below w.heap.size w w'

theorem wrap64_i64 (n : Int) : wrap64 n = IntKind.i64.wrap n := by
  rw [IntKind.wrap_i64]
  unfold wrap64
  rfl
theorem head_get : ∀ {l : List Int} (h : 0 < l.length), l[0] = l.headD 0
  | [], h => by simp at h
  | _ :: _, _ => rfl
theorem wrap_zero {n m : Int} {c : Nat} (hn : -9223372036854775808 ≤ n ∧ n ≤ 9223372036854775807) (hc : c ≤ 8) (hm : m = IntKind.i64.wrap (n - c)) (h0 : m = 0) : (c : Int) = n := by
  rw [IntKind.wrap_i64] at hm
  omega
theorem wrap_zero' {n m : Int} {c : Nat} (hm : m = IntKind.i64.wrap (n - c)) (h : (c : Int) = n) : m = 0 := by
  rw [IntKind.wrap_i64] at hm
  omega
theorem wrap_less {n m : Int} {c : Nat} (hm : m = IntKind.i64.wrap (n - c)) : IntKind.i64.wrap (m - 1) = IntKind.i64.wrap (n - ((c + 1 : Nat) : Int)) := by
  rw [IntKind.wrap_i64] at hm ⊢
  rw [IntKind.wrap_i64]
  omega
theorem wrap_self {n : Int} (hn : -9223372036854775808 ≤ n ∧ n ≤ 9223372036854775807) : n = IntKind.i64.wrap (n - ((0 : Nat) : Int)) := by
  rw [IntKind.wrap_i64]
  omega

set_option maxRecDepth 100000 in
set_option maxHeartbeats 8000000 in
theorem coordNext_any (v : Value) (c : CoordD) (n : Int) (w : World) (h : Cv w v c) (hn : -9223372036854775808 ≤ n ∧ n ≤ 9223372036854775807) : Calls Try.prog 35 #[v, .int .i64 n] w (NextPost c n w) := by
  obtain ⟨tv, rfl, hx, hlen⟩ := id h
  obtain ⟨A, m, rfl, hm, hcell⟩ := hx.at_
  have H := Lib.hid h
  have HC := Lib.hid hcell
  clear h hx hcell
  unfold coordV at *
  obtain ⟨ck, nx, wt, ts⟩ := c
  simp only at *
  go_enter Try.func35, Try.ntmps35
  go_wp2_with fail
  have hal := ((Below.refl w.heap.size w).alloc (Nat.le_refl _) (.cells #[.int .i64 ck, .int .i64 nx, .int .i64 wt, .slice A ts.length m] 28)).alloc (by simp) (.cells #[.int .i64 0, .int .i64 0, .int .i64 0, .int .i64 0, .int .i64 0, .bool false, .string ⟨#[]⟩] 47)
  have bx := (Blk.new w 28 #[.int .i64 ck, .int .i64 nx, .int .i64 wt, .slice A ts.length m]).alloc (.cells #[.int .i64 0, .int .i64 0, .int .i64 0, .int .i64 0, .int .i64 0, .bool false, .string ⟨#[]⟩] 47)
  have bz := Blk.new (w.alloc (.cells #[.int .i64 ck, .int .i64 nx, .int .i64 wt, .slice A ts.length m] 28)) 47 #[.int .i64 0, .int .i64 0, .int .i64 0, .int .i64 0, .int .i64 0, .bool false, .string ⟨#[]⟩]
  simp only [World.size_alloc] at bz
  refine (coord_check_any _ ⟨ck, nx, wt, ts⟩ _ (H.out.below hal)).mono ?_
  rintro e w1 hA
  have h1 := hA.below
  have hb1 := below_then hal h1
  have bx1 := bx.below h1 bx.lt
  have bz1 := bz.below h1 bz.lt
  have BX := Lib.hid bx1
  have BZ := Lib.hid bz1
  have B1 := Lib.hid hb1
  clear hal bx bz h1
  by_cases hk : CoordOk ⟨ck, nx, wt, ts⟩
  · obtain ⟨rfl, -⟩ := hA.yes hk
    have hmany := hk.many
    simp only at hmany
    have HK := Lib.hid hk
    have g3 := bx1.cell 3
    have gl := bx1.lt
    clear hA hk bx1 bz1 hb1
    go_wp2_with fail
    go_loopw [1, 21] (fun nv i wr => ∃ (k : Nat) (q : Int), k ≤ ts.length ∧ i = .int .i64 k ∧ nv = .int .i64 q ∧ Hid (q = IntKind.i64.wrap (n - cntE ts k)) ∧ Hid (∀ j, j < k → ¬ HitAt ts n j) ∧ Hid (Below w1.heap.size w1 wr)) (fun _ i _ => ts.length - (intOf i).toNat)
    case atStart => exact ⟨0, n, by omega, rfl, rfl, wrap_self hn, fun j hj => by omega, Below.refl _ _⟩
    case round =>
      obtain ⟨k, q, hk, rfl, rfl, HQ, HJ, HW⟩ := hrel
      have hbw := below_then B1.out HW.out
      by_cases hlt : k < ts.length
      · obtain ⟨b, off, rfl, hb, hcell⟩ := HC.out (by omega)
        obtain ⟨pv, x0, x1, x2, x3, x4, x5, x6, xi, xl⟩ := hcell k hlt
        have X0 := (hbw.cell (p := ⟨b, off + k * 7, none⟩) hb).trans x0
        have X1 := (hbw.cell (p := ⟨b, off + k * 7 + 1, none⟩) hb).trans x1
        have X2 := (hbw.cell (p := ⟨b, off + k * 7 + 2, none⟩) hb).trans x2
        have X3 := (hbw.cell (p := ⟨b, off + k * 7 + 3, none⟩) hb).trans x3
        have X4 := (hbw.cell (p := ⟨b, off + k * 7 + 4, none⟩) hb).trans x4
        have X5 := (hbw.cell (p := ⟨b, off + k * 7 + 5, none⟩) hb).trans x5
        have X6 := (hbw.cell (p := ⟨b, off + k * 7 + 6, none⟩) hb).trans x6
        have i0 : (0 : Int) ≤ (k : Int) := by omega
        have i1 : (k : Int) < (ts.length : Int) := by omega
        obtain ⟨A3, c3, rfl, hc3, xcell⟩ := (xi.below hbw).at_
        have HBW := Lib.hid hbw
        have HXC := Lib.hid xcell
        have hble : b < wr.heap.size := by have := hbw.size; omega
        clear x0 x1 x2 x3 x4 x5 x6 hcell hbw xi xcell
        by_cases he : endingB ts[k] = true
        · by_cases hq : q = 0
          · have hit : HitAt ts n k := ⟨hlt, he, wrap_zero hn (Nat.le_trans (cntE_le ts k) (by omega)) HQ.out hq⟩
            have HIT := Lib.hid hit
            have hst : ts[k].state = 3 ∨ ts[k].state = 4 := by simpa [endingB] using he
            have hpl : 0 < ts[k].parts.length := by
              have := (HK.out.all k hlt hlt).1.empty
              simp only at this
              omega
            obtain ⟨b3, o3, rfl, hb3, hxc⟩ := HXC.out hpl
            have U := hxc 0 hpl
            have hhd : ts[k].parts[0] = ts[k].parts.headD 0 := head_get hpl
            have hpl' : (0 : Int) < (ts[k].parts.length : Int) := by omega
            rw [hhd, Nat.add_zero] at U
            have bz1 := BZ.out.below HW.out BZ.out.lt
            obtain ⟨⟨z0, z1, z2, z3, z4, z5, z6⟩, ⟨zf0, zf1, zf2, zf3, zf4, zf5, zf6⟩, zl⟩ := bz1.all7
            have BZ1 := Lib.hid bz1
            subst hq
            clear hit hhd hxc bz1 he
            rcases hst with hst | hst
            all_goals rw [hst] at X3
            · go_wp2_with fail
              go_region
              go_wp2
              have hp := (BZ1.out.put7 (.int .i64 0) (.int .i64 ts[k].pid) (.int .i64 ts[k].ver) (.int .i64 0) (.int .i64 2) (.bool true) (.string ⟨#[]⟩)).alloc (.cells #[.string ts[k].name, .int .i64 ts[k].pid, .int .i64 ts[k].ver, .int .i64 3, .slice (some ⟨b3, o3, none⟩) ts[k].parts.length c3, .int .i64 ts[k].since, .int .i64 ts[k].done] 76)
              obtain ⟨⟨y0, y1, y2, y3, y4, y5, y6⟩, -, -⟩ := hp.all7
              have hbe := ((below_put7 HBW.out (Nat.le_succ _) (.int .i64 0) (.int .i64 ts[k].pid) (.int .i64 ts[k].ver) (.int .i64 0) (.int .i64 2) (.bool true) (.string ⟨#[]⟩)).alloc (by have := HBW.out.size; simpa using this) (.cells #[.string ts[k].name, .int .i64 ts[k].pid, .int .i64 ts[k].ver, .int .i64 3, .slice (some ⟨b3, o3, none⟩) ts[k].parts.length c3, .int .i64 ts[k].since, .int .i64 ts[k].done] 76)).drew
              exact bodyPost_ret (v := nextV (hitR ts[k])) (by simp [results, Try.results35, go_sem, y0, y1, y2, y3, y4, y5, y6, nextV, hitR, hst]) rfl ⟨hitR ts[k], Or.inr (Or.inl ⟨HK.out, k, hlt, HIT.out, rfl⟩), rfl, hbe⟩
            · go_wp2_with fail
              go_region
              go_wp2
              have hp := (BZ1.out.put7 (.int .i64 0) (.int .i64 ts[k].pid) (.int .i64 ts[k].ver) (.int .i64 0) (.int .i64 3) (.bool true) (.string ⟨#[]⟩)).alloc (.cells #[.string ts[k].name, .int .i64 ts[k].pid, .int .i64 ts[k].ver, .int .i64 4, .slice (some ⟨b3, o3, none⟩) ts[k].parts.length c3, .int .i64 ts[k].since, .int .i64 ts[k].done] 76)
              obtain ⟨⟨y0, y1, y2, y3, y4, y5, y6⟩, -, -⟩ := hp.all7
              have hbe := ((below_put7 HBW.out (Nat.le_succ _) (.int .i64 0) (.int .i64 ts[k].pid) (.int .i64 ts[k].ver) (.int .i64 0) (.int .i64 3) (.bool true) (.string ⟨#[]⟩)).alloc (by have := HBW.out.size; simpa using this) (.cells #[.string ts[k].name, .int .i64 ts[k].pid, .int .i64 ts[k].ver, .int .i64 4, .slice (some ⟨b3, o3, none⟩) ts[k].parts.length c3, .int .i64 ts[k].since, .int .i64 ts[k].done] 76)).drew
              exact bodyPost_ret (v := nextV (hitR ts[k])) (by simp [results, Try.results35, go_sem, y0, y1, y2, y3, y4, y5, y6, nextV, hitR, hst]) rfl ⟨hitR ts[k], Or.inr (Or.inl ⟨HK.out, k, hlt, HIT.out, rfl⟩), rfl, hbe⟩
          · have hq0 : (q == 0) = false := beq_eq_false_iff_ne.2 hq
            have hst : ts[k].state = 3 ∨ ts[k].state = 4 := by simpa [endingB] using he
            have hj : ∀ j, j < k + 1 → ¬ HitAt ts n j := fun j hj => by
              rcases Nat.lt_succ_iff_lt_or_eq.1 hj with h' | rfl
              · exact HJ.out j h'
              · exact fun ⟨_, _, h⟩ => hq (wrap_zero' HQ.out h)
            have hqq : IntKind.i64.wrap (q - 1) = IntKind.i64.wrap (n - (cntE ts (k + 1) : Nat)) := by
              rw [cntE_yes hlt he]
              exact wrap_less HQ.out
            have HJ2 := Lib.hid hj
            have HQ2 := Lib.hid hqq
            clear hj hqq he hq
            rcases hst with hst | hst
            all_goals rw [hst] at X3
            all_goals go_wp2_with fail
            all_goals go_light
            all_goals exact ⟨⟨k + 1, IntKind.i64.wrap (q - 1), by omega, by go_num, congrArg (Value.int .i64) (wrap64_i64 _), HQ2.out, HJ2.out, HW.out.alloc HW.out.size _⟩, by simp [intOf]; omega⟩
        · have he' : endingB ts[k] = false := by simpa using he
          have hst : (ts[k].state != 3) = true ∧ (ts[k].state != 4) = true := by simpa [endingB] using he'
          obtain ⟨hs3, hs4⟩ := hst
          have hj : ∀ j, j < k + 1 → ¬ HitAt ts n j := fun j hj => by
            rcases Nat.lt_succ_iff_lt_or_eq.1 hj with h' | rfl
            · exact HJ.out j h'
            · exact fun ⟨_, h, _⟩ => he h
          have hqq : q = IntKind.i64.wrap (n - (cntE ts (k + 1) : Nat)) := by
            rw [cntE_no hlt he']
            exact HQ.out
          have HJ2 := Lib.hid hj
          have HQ2 := Lib.hid hqq
          clear hj hqq he he'
          go_wp2_with fail
          go_light
          exact ⟨⟨k + 1, q, by omega, by go_num, rfl, HQ2.out, HJ2.out, HW.out.alloc HW.out.size _⟩, by simp [intOf]; omega⟩
      · obtain rfl : k = ts.length := by omega
        have bz1 := BZ.out.below HW.out BZ.out.lt
        obtain ⟨⟨z0, z1, z2, z3, z4, z5, z6⟩, ⟨zf0, zf1, zf2, zf3, zf4, zf5, zf6⟩, zl⟩ := bz1.all7
        have BZ1 := Lib.hid bz1
        have HBW := Lib.hid hbw
        have hno : ∀ j, ¬ HitAt ts n j := fun j h => by
          obtain ⟨hj, h2⟩ := h
          exact HJ.out j hj ⟨hj, h2⟩
        have HNO := Lib.hid hno
        clear bz1 hbw hno
        go_wp2_with fail
        have hp := BZ1.out.put7 (.int .i64 0) (.int .i64 0) (.int .i64 0) (.int .i64 0) (.int .i64 0) (.bool false) (.string ⟨#[]⟩)
        obtain ⟨⟨y0, y1, y2, y3, y4, y5, y6⟩, -, -⟩ := hp.all7
        exact bodyPost_ret (v := nextV idleR) (by simp [results, Try.results35, go_sem, y0, y1, y2, y3, y4, y5, y6, nextV, idleR]) rfl ⟨idleR, Or.inr (Or.inr ⟨HK.out, HNO.out, rfl⟩), rfl, below_put7 HBW.out (Nat.le_succ _) _ _ _ _ _ _ _⟩
  · obtain ⟨rfl, -⟩ := hA.no hk
    have HK := Lib.hid hk
    obtain ⟨⟨z0, z1, z2, z3, z4, z5, z6⟩, ⟨zf0, zf1, zf2, zf3, zf4, zf5, zf6⟩, zl⟩ := bz1.all7
    clear hA hk bx1 bz1 hb1
    go_wp2_with fail
    have hp := BZ.out.put7 (.int .i64 0) (.int .i64 0) (.int .i64 0) (.int .i64 0) (.int .i64 0) (.bool false) (.string ⟨#[]⟩)
    obtain ⟨⟨y0, y1, y2, y3, y4, y5, y6⟩, -, -⟩ := hp.all7
    exact bodyPost_ret (v := nextV failR) (by simp [results, Try.results35, go_sem, y0, y1, y2, y3, y4, y5, y6, nextV, failR]) rfl ⟨failR, Or.inl ⟨HK.out, rfl⟩, rfl, below_put7 B1.out (Nat.le_succ _) _ _ _ _ _ _ _⟩

end Go.Proofs.Ytjkoceacjbhblaa
