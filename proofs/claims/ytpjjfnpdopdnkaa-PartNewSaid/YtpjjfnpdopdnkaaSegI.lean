/- tailraceref.CutOf: so many entries stay. -/
import Derived.Lib.MinMax
import Derived.Test.YtpjjfnpdopdnkaaSegD
import Derived.Test.YtpjjfnpdopdnkaaEntE
namespace Go.Proofs.Ytpjjfnpdopdnkaa
open Go.RowKit

theorem blk_drew {w : World} {g : Nat} {t : TypeId} {cs : Array Value} (h : Blk w g t cs) : Blk w.drew g t cs := h
theorem get_flat {l m : List UInt8} (h : l = m) {i q : Nat} (h1 : i < m.length) (hq : (m[i]).toNat = q) : ∃ h2 : i < l.length, (l[i]).toNat = q := by
  subst h
  exact ⟨h1, hq⟩
theorem bytesCopy_blk {A : Option Addr} {l : List UInt8} {c n g : Nat} {w : World} (hn : n = l.length) (hk : Blk w g 34 #[.slice A n c]) (h : By w (.slice A n c) l) (hm : l.length ≤ 140737488355328) :
    Calls Try.prog 79 #[.slice (some ⟨g, 0, none⟩) 1 1] w fun e w' => ∃ v', e = .returned v' ∧ w'.ownsRow w.heap.size 5 1 v' l.length (bvs l) ∧ Below w.heap.size w w' := by
  subst hn
  refine (bytesCopy_any _ [l] [.slice A l.length c] w rfl ⟨rfl, some ⟨g, 0, none⟩, 1, rfl, Nat.le_refl _, fun _ => ⟨g, 0, rfl, hk.lt, fun i u hu => ?_⟩⟩ (fun k h1 h2 => ?_) (by simpa using hm) (by simp)).mono ?_
  · rw [Nat.zero_add, hk.cell i]
    simpa using hu
  · obtain rfl : k = 0 := by simpa using h1
    exact h
  · rintro e w' ⟨v', rfl, ho, hb⟩
    exact ⟨v', rfl, own_eq ho (by simp) (by simp), hb⟩

set_option maxRecDepth 100000 in
set_option maxHeartbeats 2000000 in
theorem cutOf_bad (v : Value) (l : List UInt8) (s n : Int) (w : World) (hv : By w v l) (hl : l.length ≤ 9223372036854775807) (hf : logFault ⟨l, s⟩ ≠ 0) :
    Calls Try.prog 44 #[.agg #[v, .int .i64 s], .int .i64 n] w (LogPost ⟨[], 0⟩ (logFault ⟨l, s⟩) w) := by
  obtain ⟨A, c, rfl, hc, -⟩ := hv.at_
  have HV := Lib.hid hv
  have hbx := (Blk.new w 42 #[.slice A l.length c, .int .i64 s]).alloc (.cells #[.slice none 0 0, .int .i64 0] 42)
  have hbz := Blk.new (w.alloc (.cells #[.slice A l.length c, .int .i64 s] 42)) 42 #[.slice none 0 0, .int .i64 0]
  have hbl : Below w.heap.size w ((w.alloc (.cells #[.slice A l.length c, .int .i64 s] 42)).alloc (.cells #[.slice none 0 0, .int .i64 0] 42)) := ((Below.refl _ _).alloc (Nat.le_refl _) _).alloc (by simp) _
  simp only [World.size_alloc] at hbz
  have hv0 := hv.below hbl
  clear hv
  have hq := entriesOf_bad _ l s _ hv0 hl hf
  generalize logFault ⟨l, s⟩ = x at *
  have zx : (x != 0) = true := by simp only [bne_iff_ne]; exact hf
  have zy : (x == 0) = false := by simp only [beq_eq_false_iff_ne]; exact hf
  clear hf
  go_enter Try.func44, Try.ntmps44
  go_wp2_with fail
  refine hq.mono ?_
  rintro e w1 ⟨rfl, hb1⟩
  have bx := hbx.below hb1 hbx.lt
  have bz := hbz.below hb1 hbz.lt
  have hb := hbl.trans (hb1.mono hbl.size)
  clear hbx hbz hbl hb1 hv0
  have q0 := bx.cell 0
  have q1 := bx.cell 1
  have z0 := bz.cell 0
  have z1 := bz.cell 1
  have zf0 := bz.frozen 0
  have zf1 := bz.frozen 1
  have zl := bz.lt
  have ql := bx.lt
  go_wp2
  obtain ⟨r0, r1, ro, rb⟩ := log_stored (v := .slice none 0 0) (s := 0) bz rfl
  generalize (w1.setCell ⟨w.heap.size + 1, 0, none⟩ (.slice none 0 0)).setCell ⟨w.heap.size + 1, 1, none⟩ (.int .i64 0) = W6 at *
  exact bodyPost_ret (v := .tuple #[.agg #[.slice none 0 0, .int .i64 0], .int .i64 x]) (by simp [results, Try.results44, go_sem, r0, r1]) rfl ⟨.slice none 0 0, rfl, World.ownsRow_nil _ _ _ _, rb _ _ (Nat.le_succ _) hb⟩

set_option maxRecDepth 100000 in
set_option maxHeartbeats 2000000 in
theorem cutOf_range (v : Value) (l : List UInt8) (s n : Int) (w : World) (hv : By w v l) {es : List Ent} {j : Nat} (h : LogIs ⟨l, s⟩ es j) (hr : n < 0 ∨ (es.length : Int) < n) :
    Calls Try.prog 44 #[.agg #[v, .int .i64 s], .int .i64 n] w (LogPost ⟨[], 0⟩ 2 w) := by
  obtain ⟨A, c, rfl, hc, -⟩ := hv.at_
  have HV := Lib.hid hv
  have hbx := (Blk.new w 42 #[.slice A l.length c, .int .i64 s]).alloc (.cells #[.slice none 0 0, .int .i64 0] 42)
  have hbz := Blk.new (w.alloc (.cells #[.slice A l.length c, .int .i64 s] 42)) 42 #[.slice none 0 0, .int .i64 0]
  have hbl : Below w.heap.size w ((w.alloc (.cells #[.slice A l.length c, .int .i64 s] 42)).alloc (.cells #[.slice none 0 0, .int .i64 0] 42)) := ((Below.refl _ _).alloc (Nat.le_refl _) _).alloc (by simp) _
  simp only [World.size_alloc] at hbz
  have hv0 := hv.below hbl
  clear hv
  obtain ⟨hlen, k, rfl, hk, -, -, -⟩ := log_long h
  have HE := Lib.hid (entriesOf_ok _ l k _ hv0 h)
  have HB0 : Hid (l = flat es) := Lib.hid h.bytes
  have hmany := h.many
  have HOK := Lib.hid h.ok
  clear h
  have hin : inB n 0 (es.length : Int) = false := by simp [inB]; omega
  go_enter Try.func44, Try.ntmps44
  go_wp2_with fail
  refine HE.out.mono ?_
  rintro e w1 ⟨v1, rfl, ho1, hb1⟩
  have he1 : Es w1 v1 es := Sl.of_own ho1
  obtain ⟨A1, c1, rfl, hc1, he1'⟩ := he1.at_
  have HES := Lib.hid he1'
  clear ho1 he1 he1'
  have bx := hbx.below hb1 hbx.lt
  have bz := hbz.below hb1 hbz.lt
  have hb := hbl.trans (hb1.mono hbl.size)
  clear hbx hbz hbl hb1 hv0
  have q0 := bx.cell 0
  have q1 := bx.cell 1
  have z0 := bz.cell 0
  have z1 := bz.cell 1
  have zf0 := bz.frozen 0
  have zf1 := bz.frozen 1
  have zl := bz.lt
  have ql := bx.lt
  go_wp2_with fail
  refine (In_any _ _ _ _).mono ?_
  rintro e w2 ⟨rfl, rfl⟩
  rw [hin]
  go_wp2
  obtain ⟨r0, r1, ro, rb⟩ := log_stored (v := .slice none 0 0) (s := 0) bz rfl
  generalize (w1.setCell ⟨w.heap.size + 1, 0, none⟩ (.slice none 0 0)).setCell ⟨w.heap.size + 1, 1, none⟩ (.int .i64 0) = W6 at *
  exact bodyPost_ret (v := .tuple #[.agg #[.slice none 0 0, .int .i64 0], .int .i64 2]) (by simp [results, Try.results44, go_sem, r0, r1]) rfl ⟨.slice none 0 0, rfl, World.ownsRow_nil _ _ _ _, rb _ _ (Nat.le_succ _) hb⟩

set_option maxRecDepth 100000 in
set_option maxHeartbeats 2000000 in
theorem cutOf_ok (v : Value) (l : List UInt8) (s : Int) (n : Nat) (w : World) (hv : By w v l) {es : List Ent} {j : Nat} (h : LogIs ⟨l, s⟩ es j) (hn : n ≤ es.length) {z : Nat} (hze : z = (flat (es.take n)).length) :
    Calls Try.prog 44 #[.agg #[v, .int .i64 s], .int .i64 (n : Int)] w (LogPost ⟨l.take z, (min s.toNat z : Nat)⟩ 0 w) := by
  obtain ⟨A, c, rfl, hc, -⟩ := hv.at_
  have HV := Lib.hid hv
  have hbx := (Blk.new w 42 #[.slice A l.length c, .int .i64 s]).alloc (.cells #[.slice none 0 0, .int .i64 0] 42)
  have hbz := Blk.new (w.alloc (.cells #[.slice A l.length c, .int .i64 s] 42)) 42 #[.slice none 0 0, .int .i64 0]
  have hbl : Below w.heap.size w ((w.alloc (.cells #[.slice A l.length c, .int .i64 s] 42)).alloc (.cells #[.slice none 0 0, .int .i64 0] 42)) := ((Below.refl _ _).alloc (Nat.le_refl _) _).alloc (by simp) _
  simp only [World.size_alloc] at hbz
  have hv0 := hv.below hbl
  clear hv
  obtain ⟨hlen, k, rfl, hk, -, -, -⟩ := log_long h
  have HE := Lib.hid (entriesOf_ok _ l k _ hv0 h)
  have HB0 : Hid (l = flat es) := Lib.hid h.bytes
  have hmany := h.many
  have HOK := Lib.hid h.ok
  clear h
  simp only [Int.toNat_natCast]
  have hz : z ≤ l.length := by rw [hze, HB0.out]; exact flat_take_le _ _
  have hzl : (l.take z).length = z := by rw [List.length_take]; omega
  have HZE := Lib.hid hze
  have hin : inB (n : Int) 0 (es.length : Int) = true := by simp [inB]; omega
  have HIN := Lib.hid hin
  clear hze hin
  obtain ⟨r, hr⟩ : ∃ r : Nat, r = min k z := ⟨_, rfl⟩
  have HR := Lib.hid hr
  rw [← hr]
  clear hr
  have HCELL := Lib.hid HV.out.at_
  go_enter Try.func44, Try.ntmps44
  go_wp2_with fail
  refine HE.out.mono ?_
  rintro e w1 ⟨v1, rfl, ho1, hb1⟩
  have he1 : Es w1 v1 es := Sl.of_own ho1
  obtain ⟨A1, c1, rfl, hc1, he1'⟩ := he1.at_
  have HES := Lib.hid he1'
  clear ho1 he1 he1'
  have bx := hbx.below hb1 hbx.lt
  have bz := hbz.below hb1 hbz.lt
  have hb := hbl.trans (hb1.mono hbl.size)
  clear hbx hbz hbl hb1 hv0
  have q0 := bx.cell 0
  have q1 := bx.cell 1
  have z0 := bz.cell 0
  have z1 := bz.cell 1
  have zf0 := bz.frozen 0
  have zf1 := bz.frozen 1
  have zl := bz.lt
  have ql := bx.lt
  have BX := Lib.hid bx
  have BZ := Lib.hid bz
  have HB := Lib.hid hb
  clear bx bz hb
  go_wp2_with fail
  refine (In_any _ _ _ _).mono ?_
  rintro e w2 ⟨rfl, rfl⟩
  rw [HIN.out]
  go_wp2
  go_loopw [9, 10] (fun sz ix wr => ∃ i : Nat, i ≤ n ∧ sz = .int .i64 (((flat (es.take i)).length : Nat) : Int) ∧ ix = .int .i64 i ∧ wr = w1) (fun _ ix _ => n - (intOf ix).toNat)
  case atStart => exact ⟨0, Nat.zero_le _, rfl, rfl, rfl⟩
  case round =>
    obtain ⟨i, hi, rfl, rfl, rfl⟩ := hrel
    by_cases hlt : i < n
    · obtain ⟨q, ⟨hlq, hq⟩, hq2, hstep⟩ := frame_at HOK.out (k := i) (by omega)
      have HF := Lib.hid hstep
      obtain ⟨A', c', hv', -, hat⟩ := HCELL.out
      injection hv' with hA' _ _
      subst hA'
      have hfle := flat_take_le es i
      have hll : l.length = (flat es).length := congrArg List.length HB0.out
      have hfl : (flat (es.take i)).length ≤ 40000 := by omega
      obtain ⟨b, off, rfl, hbl1, hcs⟩ := hat (by omega)
      have X0 := (HB.out.cell (p := ⟨b, off + (flat (es.take i)).length, none⟩) hbl1).trans (hcs (flat (es.take i)).length (by omega))
      obtain ⟨_, e1⟩ := get_flat HB0.out hlq hq
      rw [e1] at X0
      have i2 : (0 : Int) ≤ (((flat (es.take i)).length : Nat) : Int) := by omega
      have i3 : (((flat (es.take i)).length : Nat) : Int) < (l.length : Int) := by omega
      clear hstep hcs hat hq e1 hll hlq
      go_wp2
      go_light
      refine ⟨⟨i + 1, by omega, ?_, by go_num, by trivial⟩, by simp [intOf]; omega⟩
      rw [HF.out]; go_num
    · obtain rfl : i = n := by omega
      rw [← HZE.out]
      have hb2 := HB.out
      have bx2 := BX.out
      have bz2 := BZ.out
      have hbd := (Below.refl wr.heap.size wr).drew
      have i4 : (0 : Int) ≤ (z : Int) := by omega
      have i5 : (z : Int) ≤ (c : Int) := by omega
      have bA : Below wr.heap.size wr (((wr.alloc (.cells #[.slice A z c] 34)).alloc (.cells #[.slice none 0 0, .int .i64 0] 42)).drew) := ((((Below.refl wr.heap.size wr).alloc (Nat.le_refl _) (.cells #[.slice A z c] 34)).alloc (by simp) (.cells #[.slice none 0 0, .int .i64 0] 42)).drew)
      have kA := bytesCopy_blk hzl.symm (blk_drew ((Blk.new wr 34 #[.slice A z c]).alloc (.cells #[.slice none 0 0, .int .i64 0] 42))) (By.take_b (HV.out.below (below_then hb2 bA)) hz) (by omega)
      skip
      have KA := Lib.hid kA
      have LA := Lib.hid bA
      have tA := blk_drew (Blk.new (wr.alloc (.cells #[.slice A z c] 34)) 42 #[.slice none 0 0, .int .i64 0])
      simp only [World.size_alloc] at tA
      have TA := Lib.hid tA
      clear tA
      clear bA kA
      have bB : Below wr.heap.size wr (((wr.alloc (.cells #[.slice none 0 0, .int .i64 0] 42)).alloc (.cells #[.slice A z c] 34)).drew) := ((((Below.refl wr.heap.size wr).alloc (Nat.le_refl _) (.cells #[.slice none 0 0, .int .i64 0] 42)).alloc (by simp) (.cells #[.slice A z c] 34)).drew)
      have kB := bytesCopy_blk hzl.symm (blk_drew (Blk.new (wr.alloc (.cells #[.slice none 0 0, .int .i64 0] 42)) 34 #[.slice A z c])) (By.take_b (HV.out.below (below_then hb2 bB)) hz) (by omega)
      conv at kB => arg 3; rw [World.size_alloc]
      have KB := Lib.hid kB
      have LB := Lib.hid bB
      have tB := blk_drew ((Blk.new wr 42 #[.slice none 0 0, .int .i64 0]).alloc (.cells #[.slice A z c] 34))
      skip
      have TB := Lib.hid tB
      clear tB
      clear bB kB
      have bC : Below wr.heap.size wr ((wr.alloc (.cells #[.slice A z c] 34)).drew) := (((Below.refl wr.heap.size wr).alloc (Nat.le_refl _) (.cells #[.slice A z c] 34)).drew)
      have kC := bytesCopy_blk hzl.symm (blk_drew (Blk.new wr 34 #[.slice A z c])) (By.take_b (HV.out.below (below_then hb2 bC)) hz) (by omega)
      skip
      have KC := Lib.hid kC
      have LC := Lib.hid bC
      clear bC kC
      go_wp2_with fail
      go_region_with (first | (go_at_call 79; with_reducible (refine (Hid.out KA).mono ?_); rintro e w5 ⟨v5, rfl, ho5, hb5⟩; rw [hzl] at ho5; have hbel := below_then LA.out hb5; have ho5 := own_base ho5 LA.out.size; obtain ⟨A5, c5, rfl, hc5⟩ := (Sl.of_own ho5).form; have bx5 := bx2.below hbel bx2.lt; have bz5 := bz2.below hbel bz2.lt; have y0 := bx5.cell 0; have y1 := bx5.cell 1; have u0 := bz5.cell 0; have u1 := bz5.cell 1; have uf0 := bz5.frozen 0; have uf1 := bz5.frozen 1; have ul := bz5.lt; have yl := bx5.lt; have bt5 := TA.out.below hb5 TA.out.lt; have t0 := bt5.cell 0; have t1 := bt5.cell 1; have tf0 := bt5.frozen 0; have tf1 := bt5.frozen 1; have tl := bt5.lt) | (go_at_call 79; with_reducible (refine (Hid.out KB).mono ?_); rintro e w5 ⟨v5, rfl, ho5, hb5⟩; rw [hzl] at ho5; have hbel := below_then LB.out hb5; have ho5 := own_base ho5 LB.out.size; obtain ⟨A5, c5, rfl, hc5⟩ := (Sl.of_own ho5).form; have bx5 := bx2.below hbel bx2.lt; have bz5 := bz2.below hbel bz2.lt; have y0 := bx5.cell 0; have y1 := bx5.cell 1; have u0 := bz5.cell 0; have u1 := bz5.cell 1; have uf0 := bz5.frozen 0; have uf1 := bz5.frozen 1; have ul := bz5.lt; have yl := bx5.lt; have bt5 := TB.out.below hb5 TB.out.lt; have t0 := bt5.cell 0; have t1 := bt5.cell 1; have tf0 := bt5.frozen 0; have tf1 := bt5.frozen 1; have tl := bt5.lt) | (go_at_call 79; with_reducible (refine (Hid.out KC).mono ?_); rintro e w5 ⟨v5, rfl, ho5, hb5⟩; rw [hzl] at ho5; have hbel := below_then LC.out hb5; have ho5 := own_base ho5 LC.out.size; obtain ⟨A5, c5, rfl, hc5⟩ := (Sl.of_own ho5).form; have bx5 := bx2.below hbel bx2.lt; have bz5 := bz2.below hbel bz2.lt; have y0 := bx5.cell 0; have y1 := bx5.cell 1; have u0 := bz5.cell 0; have u1 := bz5.cell 1; have uf0 := bz5.frozen 0; have uf1 := bz5.frozen 1; have ul := bz5.lt; have yl := bx5.lt; have bt6 := Blk.new w5 42 #[.slice none 0 0, .int .i64 0]; have t0 := bt6.cell 0; have t1 := bt6.cell 1; have tf0 := bt6.frozen 0; have tf1 := bt6.frozen 1; have tl := bt6.lt; have bx6 := bx5.alloc (.cells #[.slice none 0 0, .int .i64 0] 42); have y60 := bx6.cell 0; have y61 := bx6.cell 1))
      all_goals first
        | (
          have BT5 : Blk w5 (wr.heap.size + 1) 42 #[.slice none 0 0, .int .i64 0] := bt5
          have hne : w.heap.size + 1 ≠ wr.heap.size + 1 := by omega
          have hge : w.heap.size ≤ wr.heap.size + 1 := by omega
          have BT6 := (BT5.set_ 0 (.slice A5 z c5)).set_ 1 (.int .i64 k)
          simp only [List.setIfInBounds_toArray, List.set_cons_succ, List.set_cons_zero] at BT6
          have BZ6 := (bz5.far (p := ⟨wr.heap.size + 1, 0, none⟩) hne (.slice A5 z c5)).far (p := ⟨wr.heap.size + 1, 1, none⟩) hne (.int .i64 k)
          have HO6 := own_far (own_far ho5 BT5 (by decide) 0 (.slice A5 z c5)) (BT5.set_ 0 (.slice A5 z c5)) (by decide) 1 (.int .i64 k)
          have HB6 := ((hb2.trans (hbel.mono hb2.size)).setCell (p := ⟨wr.heap.size + 1, 0, none⟩) hge (.slice A5 z c5)).setCell (p := ⟨wr.heap.size + 1, 1, none⟩) hge (.int .i64 k)
          clear bt5 BT5 t0 t1 tf0 tf1 tl
          generalize (w5.setCell ⟨wr.heap.size + 1, 0, none⟩ (.slice A5 z c5)).setCell ⟨wr.heap.size + 1, 1, none⟩ (.int .i64 k) = W6 at *
          clear bx5 bz5 y0 y1 u0 u1 uf0 uf1 ul yl hbel ho5
          have s0 := BT6.cell 0
          have s1 := BT6.cell 1
          have sf0 := BT6.frozen 0
          have sf1 := BT6.frozen 1
          have sl := BT6.lt
          have u0 := BZ6.cell 0
          have u1 := BZ6.cell 1
          have uf0 := BZ6.frozen 0
          have uf1 := BZ6.frozen 1
          have ul := BZ6.lt
          clear q0 q1 z0 z1 zf0 zf1 zl ql
          by_cases hkz : z < k
          · have BT7 := BT6.set_ 1 (.int .i64 z)
            simp only [List.setIfInBounds_toArray, List.set_cons_succ, List.set_cons_zero] at BT7
            have BZ7 := BZ6.far (p := ⟨wr.heap.size + 1, 1, none⟩) hne (.int .i64 z)
            have HO7 := own_far HO6 BT6 (by decide) 1 (.int .i64 z)
            have HB7 := HB6.setCell (p := ⟨wr.heap.size + 1, 1, none⟩) hge (.int .i64 z)
            have p0 := BT7.cell 0
            have p1 := BT7.cell 1
            have pz0 := BZ7.cell 0
            have pz1 := BZ7.cell 1
            have pf0 := BZ7.frozen 0
            have pf1 := BZ7.frozen 1
            have pl := BZ7.lt
            have zc : decide ((z : Int) < (k : Int)) = true := by simp; omega
            go_wp2
            obtain ⟨r0, r1, ro, rb⟩ := log_stored (v := .slice A5 z c5) (s := z) BZ7 rfl
            generalize ((W6.setCell ⟨wr.heap.size + 1, 1, none⟩ (.int .i64 z)).setCell ⟨w.heap.size + 1, 0, none⟩ (.slice A5 z c5)).setCell ⟨w.heap.size + 1, 1, none⟩ (.int .i64 z) = W8 at *
            obtain rfl : z = r := by have := HR.out; omega
            exact bodyPost_ret (v := .tuple #[.agg #[.slice A5 z c5, .int .i64 z], .int .i64 0]) (by simp [results, Try.results44, go_sem, r0, r1]) rfl ⟨.slice A5 z c5, rfl, ro _ _ _ _ (own_base (own_eq HO7 hzl.symm rfl) hb2.size), rb _ _ (Nat.le_succ _) HB7⟩
          · have BZ7 := BZ6
            have HO7 := HO6
            have HB7 := HB6
            have zc : decide ((z : Int) < (k : Int)) = false := by simp; omega
            go_wp2
            obtain ⟨r0, r1, ro, rb⟩ := log_stored (v := .slice A5 z c5) (s := k) BZ7 rfl
            generalize (W6.setCell ⟨w.heap.size + 1, 0, none⟩ (.slice A5 z c5)).setCell ⟨w.heap.size + 1, 1, none⟩ (.int .i64 k) = W8 at *
            obtain rfl : k = r := by have := HR.out; omega
            exact bodyPost_ret (v := .tuple #[.agg #[.slice A5 z c5, .int .i64 k], .int .i64 0]) (by simp [results, Try.results44, go_sem, r0, r1]) rfl ⟨.slice A5 z c5, rfl, ro _ _ _ _ (own_base (own_eq HO7 hzl.symm rfl) hb2.size), rb _ _ (Nat.le_succ _) HB7⟩)
        | (
          have BT5 : Blk w5 wr.heap.size 42 #[.slice none 0 0, .int .i64 0] := bt5
          have hne : w.heap.size + 1 ≠ wr.heap.size := by omega
          have hge : w.heap.size ≤ wr.heap.size := by omega
          have BT6 := (BT5.set_ 0 (.slice A5 z c5)).set_ 1 (.int .i64 k)
          simp only [List.setIfInBounds_toArray, List.set_cons_succ, List.set_cons_zero] at BT6
          have BZ6 := (bz5.far (p := ⟨wr.heap.size, 0, none⟩) hne (.slice A5 z c5)).far (p := ⟨wr.heap.size, 1, none⟩) hne (.int .i64 k)
          have HO6 := own_far (own_far ho5 BT5 (by decide) 0 (.slice A5 z c5)) (BT5.set_ 0 (.slice A5 z c5)) (by decide) 1 (.int .i64 k)
          have HB6 := ((hb2.trans (hbel.mono hb2.size)).setCell (p := ⟨wr.heap.size, 0, none⟩) hge (.slice A5 z c5)).setCell (p := ⟨wr.heap.size, 1, none⟩) hge (.int .i64 k)
          clear bt5 BT5 t0 t1 tf0 tf1 tl
          generalize (w5.setCell ⟨wr.heap.size, 0, none⟩ (.slice A5 z c5)).setCell ⟨wr.heap.size, 1, none⟩ (.int .i64 k) = W6 at *
          clear bx5 bz5 y0 y1 u0 u1 uf0 uf1 ul yl hbel ho5
          have s0 := BT6.cell 0
          have s1 := BT6.cell 1
          have sf0 := BT6.frozen 0
          have sf1 := BT6.frozen 1
          have sl := BT6.lt
          have u0 := BZ6.cell 0
          have u1 := BZ6.cell 1
          have uf0 := BZ6.frozen 0
          have uf1 := BZ6.frozen 1
          have ul := BZ6.lt
          clear q0 q1 z0 z1 zf0 zf1 zl ql
          by_cases hkz : z < k
          · have BT7 := BT6.set_ 1 (.int .i64 z)
            simp only [List.setIfInBounds_toArray, List.set_cons_succ, List.set_cons_zero] at BT7
            have BZ7 := BZ6.far (p := ⟨wr.heap.size, 1, none⟩) hne (.int .i64 z)
            have HO7 := own_far HO6 BT6 (by decide) 1 (.int .i64 z)
            have HB7 := HB6.setCell (p := ⟨wr.heap.size, 1, none⟩) hge (.int .i64 z)
            have p0 := BT7.cell 0
            have p1 := BT7.cell 1
            have pz0 := BZ7.cell 0
            have pz1 := BZ7.cell 1
            have pf0 := BZ7.frozen 0
            have pf1 := BZ7.frozen 1
            have pl := BZ7.lt
            have zc : decide ((z : Int) < (k : Int)) = true := by simp; omega
            go_wp2
            obtain ⟨r0, r1, ro, rb⟩ := log_stored (v := .slice A5 z c5) (s := z) BZ7 rfl
            generalize ((W6.setCell ⟨wr.heap.size, 1, none⟩ (.int .i64 z)).setCell ⟨w.heap.size + 1, 0, none⟩ (.slice A5 z c5)).setCell ⟨w.heap.size + 1, 1, none⟩ (.int .i64 z) = W8 at *
            obtain rfl : z = r := by have := HR.out; omega
            exact bodyPost_ret (v := .tuple #[.agg #[.slice A5 z c5, .int .i64 z], .int .i64 0]) (by simp [results, Try.results44, go_sem, r0, r1]) rfl ⟨.slice A5 z c5, rfl, ro _ _ _ _ (own_base (own_eq HO7 hzl.symm rfl) hb2.size), rb _ _ (Nat.le_succ _) HB7⟩
          · have BZ7 := BZ6
            have HO7 := HO6
            have HB7 := HB6
            have zc : decide ((z : Int) < (k : Int)) = false := by simp; omega
            go_wp2
            obtain ⟨r0, r1, ro, rb⟩ := log_stored (v := .slice A5 z c5) (s := k) BZ7 rfl
            generalize (W6.setCell ⟨w.heap.size + 1, 0, none⟩ (.slice A5 z c5)).setCell ⟨w.heap.size + 1, 1, none⟩ (.int .i64 k) = W8 at *
            obtain rfl : k = r := by have := HR.out; omega
            exact bodyPost_ret (v := .tuple #[.agg #[.slice A5 z c5, .int .i64 k], .int .i64 0]) (by simp [results, Try.results44, go_sem, r0, r1]) rfl ⟨.slice A5 z c5, rfl, ro _ _ _ _ (own_base (own_eq HO7 hzl.symm rfl) hb2.size), rb _ _ (Nat.le_succ _) HB7⟩)
        | (
          have BT6 := Blk.new w5 42 #[.slice A5 z c5, .int .i64 k]
          have hne : w.heap.size + 1 ≠ w5.heap.size := by omega
          have hge : w.heap.size ≤ w5.heap.size := by omega
          have BZ6 := bz5.alloc (.cells #[.slice A5 z c5, .int .i64 k] 42)
          have HO6 := ho5.alloc (.cells #[.slice A5 z c5, .int .i64 k] 42)
          have HB6 := (hb2.trans (hbel.mono hb2.size)).alloc hge (.cells #[.slice A5 z c5, .int .i64 k] 42)
          clear bt6 bx6 y60 y61 t0 t1 tf0 tf1 tl
          generalize w5.alloc (.cells #[.slice A5 z c5, .int .i64 k] 42) = W6 at *
          clear bx5 bz5 y0 y1 u0 u1 uf0 uf1 ul yl hbel ho5
          have s0 := BT6.cell 0
          have s1 := BT6.cell 1
          have sf0 := BT6.frozen 0
          have sf1 := BT6.frozen 1
          have sl := BT6.lt
          have u0 := BZ6.cell 0
          have u1 := BZ6.cell 1
          have uf0 := BZ6.frozen 0
          have uf1 := BZ6.frozen 1
          have ul := BZ6.lt
          clear q0 q1 z0 z1 zf0 zf1 zl ql
          by_cases hkz : z < k
          · have BT7 := BT6.set_ 1 (.int .i64 z)
            simp only [List.setIfInBounds_toArray, List.set_cons_succ, List.set_cons_zero] at BT7
            have BZ7 := BZ6.far (p := ⟨w5.heap.size, 1, none⟩) hne (.int .i64 z)
            have HO7 := own_far HO6 BT6 (by decide) 1 (.int .i64 z)
            have HB7 := HB6.setCell (p := ⟨w5.heap.size, 1, none⟩) hge (.int .i64 z)
            have p0 := BT7.cell 0
            have p1 := BT7.cell 1
            have pz0 := BZ7.cell 0
            have pz1 := BZ7.cell 1
            have pf0 := BZ7.frozen 0
            have pf1 := BZ7.frozen 1
            have pl := BZ7.lt
            have zc : decide ((z : Int) < (k : Int)) = true := by simp; omega
            go_wp2
            obtain ⟨r0, r1, ro, rb⟩ := log_stored (v := .slice A5 z c5) (s := z) BZ7 rfl
            generalize ((W6.setCell ⟨w5.heap.size, 1, none⟩ (.int .i64 z)).setCell ⟨w.heap.size + 1, 0, none⟩ (.slice A5 z c5)).setCell ⟨w.heap.size + 1, 1, none⟩ (.int .i64 z) = W8 at *
            obtain rfl : z = r := by have := HR.out; omega
            exact bodyPost_ret (v := .tuple #[.agg #[.slice A5 z c5, .int .i64 z], .int .i64 0]) (by simp [results, Try.results44, go_sem, r0, r1]) rfl ⟨.slice A5 z c5, rfl, ro _ _ _ _ (own_base (own_eq HO7 hzl.symm rfl) hb2.size), rb _ _ (Nat.le_succ _) HB7⟩
          · have BZ7 := BZ6
            have HO7 := HO6
            have HB7 := HB6
            have zc : decide ((z : Int) < (k : Int)) = false := by simp; omega
            go_wp2
            obtain ⟨r0, r1, ro, rb⟩ := log_stored (v := .slice A5 z c5) (s := k) BZ7 rfl
            generalize (W6.setCell ⟨w.heap.size + 1, 0, none⟩ (.slice A5 z c5)).setCell ⟨w.heap.size + 1, 1, none⟩ (.int .i64 k) = W8 at *
            obtain rfl : k = r := by have := HR.out; omega
            exact bodyPost_ret (v := .tuple #[.agg #[.slice A5 z c5, .int .i64 k], .int .i64 0]) (by simp [results, Try.results44, go_sem, r0, r1]) rfl ⟨.slice A5 z c5, rfl, ro _ _ _ _ (own_base (own_eq HO7 hzl.symm rfl) hb2.size), rb _ _ (Nat.le_succ _) HB7⟩)

end Go.Proofs.Ytpjjfnpdopdnkaa
