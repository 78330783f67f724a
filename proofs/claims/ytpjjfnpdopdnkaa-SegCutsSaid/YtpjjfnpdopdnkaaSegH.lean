/- seg.Cut: so many entries stay. -/
import Derived.Lib.MinMax
import Derived.Test.YtpjjfnpdopdnkaaSegD
import Derived.Test.YtpjjfnpdopdnkaaEntE
namespace Go.Proofs.Ytpjjfnpdopdnkaa
open Go.RowKit

set_option maxRecDepth 100000 in
set_option maxHeartbeats 2000000 in
theorem cut_bad (v : Value) (l : List UInt8) (s n : Int) (w : World) (hv : By w v l) (hl : l.length ≤ 9223372036854775807) (hf : logFault ⟨l, s⟩ ≠ 0) :
    Calls Try.prog 43 #[.agg #[v, .int .i64 s], .int .i64 n] w (LogPost ⟨[], 0⟩ (logFault ⟨l, s⟩) w) := by
  obtain ⟨A, c, rfl, hc, -⟩ := hv.at_
  have HV := Lib.hid hv
  have hbx := (Blk.new w 42 #[.slice A l.length c, .int .i64 s]).alloc (.cells #[.slice none 0 0, .int .i64 0] 42)
  have hbz := Blk.new (w.alloc (.cells #[.slice A l.length c, .int .i64 s] 42)) 42 #[.slice none 0 0, .int .i64 0]
  have hbl : Below w.heap.size w ((w.alloc (.cells #[.slice A l.length c, .int .i64 s] 42)).alloc (.cells #[.slice none 0 0, .int .i64 0] 42)) := ((Below.refl _ _).alloc (Nat.le_refl _) _).alloc (by simp) _
  simp only [World.size_alloc] at hbz
  have hv0 := hv.below hbl
  clear hv
  have hq := segEntries_bad _ l s _ hv0 hl hf
  generalize logFault ⟨l, s⟩ = x at *
  have zx : (x != 0) = true := by simp only [bne_iff_ne]; exact hf
  have zy : (x == 0) = false := by simp only [beq_eq_false_iff_ne]; exact hf
  clear hf
  go_enter Try.func43, Try.ntmps43
  go_wp2_with fail
  refine hq.mono ?_
  rintro e w1 ⟨rfl, hb1⟩
  have bx := hbx.below hb1 hbx.lt
  have bz := hbz.below hb1 hbz.lt
  have hb := hbl.trans (hb1.mono hbl.size)
  clear hbx hbz hbl hb1 hv0
  have q0 := bx.cell 0
  have q1 := bx.cell 1
  have z0 := bz.cell 0
  have z1 := bz.cell 1
  have zf0 := bz.frozen 0
  have zf1 := bz.frozen 1
  have zl := bz.lt
  have ql := bx.lt
  go_wp2
  obtain ⟨r0, r1, ro, rb⟩ := log_stored (v := .slice none 0 0) (s := 0) bz rfl
  generalize (w1.setCell ⟨w.heap.size + 1, 0, none⟩ (.slice none 0 0)).setCell ⟨w.heap.size + 1, 1, none⟩ (.int .i64 0) = W6 at *
  exact bodyPost_ret (v := .tuple #[.agg #[.slice none 0 0, .int .i64 0], .int .i64 x]) (by simp [results, Try.results43, go_sem, r0, r1]) rfl ⟨.slice none 0 0, rfl, World.ownsRow_nil _ _ _ _, rb _ _ (Nat.le_succ _) hb⟩

set_option maxRecDepth 100000 in
set_option maxHeartbeats 2000000 in
theorem cut_range (v : Value) (l : List UInt8) (s n : Int) (w : World) (hv : By w v l) {es : List Ent} {j : Nat} (h : LogIs ⟨l, s⟩ es j) (hr : n < 0 ∨ (es.length : Int) < n) :
    Calls Try.prog 43 #[.agg #[v, .int .i64 s], .int .i64 n] w (LogPost ⟨[], 0⟩ 2 w) := by
  obtain ⟨A, c, rfl, hc, -⟩ := hv.at_
  have HV := Lib.hid hv
  have hbx := (Blk.new w 42 #[.slice A l.length c, .int .i64 s]).alloc (.cells #[.slice none 0 0, .int .i64 0] 42)
  have hbz := Blk.new (w.alloc (.cells #[.slice A l.length c, .int .i64 s] 42)) 42 #[.slice none 0 0, .int .i64 0]
  have hbl : Below w.heap.size w ((w.alloc (.cells #[.slice A l.length c, .int .i64 s] 42)).alloc (.cells #[.slice none 0 0, .int .i64 0] 42)) := ((Below.refl _ _).alloc (Nat.le_refl _) _).alloc (by simp) _
  simp only [World.size_alloc] at hbz
  have hv0 := hv.below hbl
  clear hv
  obtain ⟨hlen, k, rfl, hk, -, -, -⟩ := log_long h
  have HE := Lib.hid (segEntries_ok _ l k _ hv0 h)
  have HB0 : Hid (l = flat es) := Lib.hid h.bytes
  have hmany := h.many
  have HOK := Lib.hid h.ok
  clear h
  by_cases h0 : n < 0
  · have z0' : decide (n < 0) = true := decide_eq_true h0
    go_enter Try.func43, Try.ntmps43
    go_wp2_with fail
    refine HE.out.mono ?_
    rintro e w1 ⟨v1, rfl, ho1, hb1⟩
    have he1 : Es w1 v1 es := Sl.of_own ho1
    obtain ⟨A1, c1, rfl, hc1, he1'⟩ := he1.at_
    have HES := Lib.hid he1'
    clear ho1 he1 he1'
    have bx := hbx.below hb1 hbx.lt
    have bz := hbz.below hb1 hbz.lt
    have hb := hbl.trans (hb1.mono hbl.size)
    clear hbx hbz hbl hb1 hv0
    have q0 := bx.cell 0
    have q1 := bx.cell 1
    have z0 := bz.cell 0
    have z1 := bz.cell 1
    have zf0 := bz.frozen 0
    have zf1 := bz.frozen 1
    have zl := bz.lt
    have ql := bx.lt
    go_wp2
    obtain ⟨r0, r1, ro, rb⟩ := log_stored (v := .slice none 0 0) (s := 0) bz rfl
    generalize (w1.setCell ⟨w.heap.size + 1, 0, none⟩ (.slice none 0 0)).setCell ⟨w.heap.size + 1, 1, none⟩ (.int .i64 0) = W6 at *
    exact bodyPost_ret (v := .tuple #[.agg #[.slice none 0 0, .int .i64 0], .int .i64 2]) (by simp [results, Try.results43, go_sem, r0, r1]) rfl ⟨.slice none 0 0, rfl, World.ownsRow_nil _ _ _ _, rb _ _ (Nat.le_succ _) hb⟩
  · have z0' : decide (n < 0) = false := decide_eq_false h0
    have z1' : decide ((es.length : Int) < n) = true := decide_eq_true (by omega)
    go_enter Try.func43, Try.ntmps43
    go_wp2_with fail
    refine HE.out.mono ?_
    rintro e w1 ⟨v1, rfl, ho1, hb1⟩
    have he1 : Es w1 v1 es := Sl.of_own ho1
    obtain ⟨A1, c1, rfl, hc1, he1'⟩ := he1.at_
    have HES := Lib.hid he1'
    clear ho1 he1 he1'
    have bx := hbx.below hb1 hbx.lt
    have bz := hbz.below hb1 hbz.lt
    have hb := hbl.trans (hb1.mono hbl.size)
    clear hbx hbz hbl hb1 hv0
    have q0 := bx.cell 0
    have q1 := bx.cell 1
    have z0 := bz.cell 0
    have z1 := bz.cell 1
    have zf0 := bz.frozen 0
    have zf1 := bz.frozen 1
    have zl := bz.lt
    have ql := bx.lt
    go_wp2
    obtain ⟨r0, r1, ro, rb⟩ := log_stored (v := .slice none 0 0) (s := 0) bz rfl
    generalize (w1.setCell ⟨w.heap.size + 1, 0, none⟩ (.slice none 0 0)).setCell ⟨w.heap.size + 1, 1, none⟩ (.int .i64 0) = W6 at *
    exact bodyPost_ret (v := .tuple #[.agg #[.slice none 0 0, .int .i64 0], .int .i64 2]) (by simp [results, Try.results43, go_sem, r0, r1]) rfl ⟨.slice none 0 0, rfl, World.ownsRow_nil _ _ _ _, rb _ _ (Nat.le_succ _) hb⟩

set_option maxRecDepth 100000 in
set_option maxHeartbeats 2000000 in
theorem cut_all (v : Value) (l : List UInt8) (s : Int) (w : World) (hv : By w v l) {es : List Ent} {j : Nat} (h : LogIs ⟨l, s⟩ es j) :
    Calls Try.prog 43 #[.agg #[v, .int .i64 s], .int .i64 (es.length : Int)] w (LogPost ⟨l, s⟩ 0 w) := by
  obtain ⟨A, c, rfl, hc, -⟩ := hv.at_
  have HV := Lib.hid hv
  have hbx := (Blk.new w 42 #[.slice A l.length c, .int .i64 s]).alloc (.cells #[.slice none 0 0, .int .i64 0] 42)
  have hbz := Blk.new (w.alloc (.cells #[.slice A l.length c, .int .i64 s] 42)) 42 #[.slice none 0 0, .int .i64 0]
  have hbl : Below w.heap.size w ((w.alloc (.cells #[.slice A l.length c, .int .i64 s] 42)).alloc (.cells #[.slice none 0 0, .int .i64 0] 42)) := ((Below.refl _ _).alloc (Nat.le_refl _) _).alloc (by simp) _
  simp only [World.size_alloc] at hbz
  have hv0 := hv.below hbl
  clear hv
  obtain ⟨hlen, k, rfl, hk, -, -, -⟩ := log_long h
  have HE := Lib.hid (segEntries_ok _ l k _ hv0 h)
  have HB0 : Hid (l = flat es) := Lib.hid h.bytes
  have hmany := h.many
  have HOK := Lib.hid h.ok
  clear h
  have z0' : decide ((es.length : Int) < 0) = false := decide_eq_false (by omega)
  have z1' : decide ((es.length : Int) < (es.length : Int)) = false := decide_eq_false (by omega)
  go_enter Try.func43, Try.ntmps43
  go_wp2_with fail
  refine HE.out.mono ?_
  rintro e w1 ⟨v1, rfl, ho1, hb1⟩
  have he1 : Es w1 v1 es := Sl.of_own ho1
  obtain ⟨A1, c1, rfl, hc1, he1'⟩ := he1.at_
  have HES := Lib.hid he1'
  clear ho1 he1 he1'
  have bx := hbx.below hb1 hbx.lt
  have bz := hbz.below hb1 hbz.lt
  have hb := hbl.trans (hb1.mono hbl.size)
  clear hbx hbz hbl hb1 hv0
  have q0 := bx.cell 0
  have q1 := bx.cell 1
  have z0 := bz.cell 0
  have z1 := bz.cell 1
  have zf0 := bz.frozen 0
  have zf1 := bz.frozen 1
  have zl := bz.lt
  have ql := bx.lt
  have hbd := (Below.refl w1.heap.size w1).drew
  go_wp2_with fail
  go_region_with (go_at_call 74; refine (CloneByte_any _ l.length (bvs l) _ (HV.out.below (below_then hb hbd)) (bvs_one _) (by simp only [maxLen]; omega) (by omega)).mono ?_; rintro e w5 ⟨v5, rfl, ho5, hb5⟩; obtain ⟨A5, c5, rfl, hc5⟩ := (Sl.of_own ho5).form; have hbel := below_then hbd hb5; have bx5 := bx.below hbel bx.lt; have bz5 := bz.below hbel bz.lt; have y0 := bx5.cell 0; have y1 := bx5.cell 1; have u0 := bz5.cell 0; have u1 := bz5.cell 1; have uf0 := bz5.frozen 0; have uf1 := bz5.frozen 1; have ul := bz5.lt; have yl := bx5.lt; have hsz5 := (hb.trans (hbel.mono hb.size)).size)
  all_goals go_wp2
  all_goals obtain ⟨r0, r1, ro, rb⟩ := log_stored (v := .slice A5 l.length c5) (s := k) bz5 rfl
  all_goals generalize (w5.setCell ⟨w.heap.size + 1, 0, none⟩ (.slice A5 l.length c5)).setCell ⟨w.heap.size + 1, 1, none⟩ (.int .i64 k) = W6 at *
  all_goals exact bodyPost_ret (v := .tuple #[.agg #[.slice A5 l.length c5, .int .i64 k], .int .i64 0]) (by simp [results, Try.results43, go_sem, r0, r1]) rfl ⟨.slice A5 l.length c5, rfl, ro _ _ _ _ (own_base ho5 hb.size), rb _ _ (Nat.le_succ _) (hb.trans (hbel.mono hb.size))⟩

set_option maxRecDepth 100000 in
set_option maxHeartbeats 2000000 in
theorem cut_less (v : Value) (l : List UInt8) (s : Int) (n : Nat) (w : World) (hv : By w v l) {es : List Ent} {j : Nat} (h : LogIs ⟨l, s⟩ es j) (hn : n < es.length) {z : Nat} (hze : z = (flat (es.take n)).length) :
    Calls Try.prog 43 #[.agg #[v, .int .i64 s], .int .i64 (n : Int)] w (LogPost ⟨l.take z, (min s.toNat z : Nat)⟩ 0 w) := by
  obtain ⟨A, c, rfl, hc, -⟩ := hv.at_
  have HV := Lib.hid hv
  have hbx := (Blk.new w 42 #[.slice A l.length c, .int .i64 s]).alloc (.cells #[.slice none 0 0, .int .i64 0] 42)
  have hbz := Blk.new (w.alloc (.cells #[.slice A l.length c, .int .i64 s] 42)) 42 #[.slice none 0 0, .int .i64 0]
  have hbl : Below w.heap.size w ((w.alloc (.cells #[.slice A l.length c, .int .i64 s] 42)).alloc (.cells #[.slice none 0 0, .int .i64 0] 42)) := ((Below.refl _ _).alloc (Nat.le_refl _) _).alloc (by simp) _
  simp only [World.size_alloc] at hbz
  have hv0 := hv.below hbl
  clear hv
  obtain ⟨hlen, k, rfl, hk, -, -, -⟩ := log_long h
  have HE := Lib.hid (segEntries_ok _ l k _ hv0 h)
  have HB0 : Hid (l = flat es) := Lib.hid h.bytes
  have hmany := h.many
  have HOK := Lib.hid h.ok
  clear h
  simp only [Int.toNat_natCast]
  have hz : z ≤ l.length := by rw [hze, HB0.out]; exact flat_take_le _ _
  have hzl : (l.take z).length = z := by rw [List.length_take]; omega
  have HZE := Lib.hid hze
  have z0' : decide ((n : Int) < 0) = false := decide_eq_false (by omega)
  have z1' : decide ((es.length : Int) < (n : Int)) = false := decide_eq_false (by omega)
  have z3' : decide (es.length < n) = false := decide_eq_false (by omega)
  have z2' : ((n : Int) == (es.length : Int)) = false := by simp only [beq_eq_false_iff_ne]; omega
  clear hze
  obtain ⟨r, hr⟩ : ∃ r : Nat, r = min k z := ⟨_, rfl⟩
  have HR := Lib.hid hr
  rw [← hr]
  clear hr
  go_enter Try.func43, Try.ntmps43
  go_wp2_with fail
  refine HE.out.mono ?_
  rintro e w1 ⟨v1, rfl, ho1, hb1⟩
  have he1 : Es w1 v1 es := Sl.of_own ho1
  obtain ⟨A1, c1, rfl, hc1, he1'⟩ := he1.at_
  have HES := Lib.hid he1'
  clear ho1 he1 he1'
  have bx := hbx.below hb1 hbx.lt
  have bz := hbz.below hb1 hbz.lt
  have hb := hbl.trans (hb1.mono hbl.size)
  clear hbx hbz hbl hb1 hv0
  have q0 := bx.cell 0
  have q1 := bx.cell 1
  have z0 := bz.cell 0
  have z1 := bz.cell 1
  have zf0 := bz.frozen 0
  have zf1 := bz.frozen 1
  have zl := bz.lt
  have ql := bx.lt
  have i0 : (0 : Int) ≤ (n : Int) := by omega
  have i1 : (n : Int) ≤ (c1 : Int) := by omega
  have BX := Lib.hid bx
  have BZ := Lib.hid bz
  have HB := Lib.hid hb
  clear bx bz hb
  go_wp2
  go_loopw [9, 47] (fun sz ix wr => ∃ i : Nat, i ≤ n ∧ sz = .int .i64 (((flat (es.take i)).length : Nat) : Int) ∧ ix = .int .i64 i ∧ Hid (Below w1.heap.size w1 wr)) (fun _ ix _ => n - (intOf ix).toNat)
  case atStart => exact ⟨0, Nat.zero_le _, rfl, rfl, Below.refl _ _⟩
  case round =>
    obtain ⟨i, hi, rfl, rfl, hbw⟩ := hrel
    by_cases hlt : i < n
    · have hle : i < es.length := by omega
      obtain ⟨b, off, rfl, hbl1, he⟩ := HES.out (by omega)
      obtain ⟨x0, x1, x2, x3, x4, x5, x6⟩ := he i hle
      have kk : ∀ o, wr.cell? ⟨b, o, none⟩ = w1.cell? ⟨b, o, none⟩ := fun o => hbw.out.cell (p := ⟨b, o, none⟩) hbl1
      replace x0 := (kk _).trans x0
      replace x1 := (kk _).trans x1
      replace x2 := (kk _).trans x2
      replace x3 := (kk _).trans x3
      replace x4 := (kk _).trans x4
      replace x5 := (kk _).trans x5
      replace x6 := (kk _).trans x6
      have HF := Lib.hid (flat_take_succ es i hle)
      have hfl : (flat (es.take i)).length ≤ 40000 := by have := flat_take_le es i; have := congrArg List.length HB0.out; omega
      have hye : es[i].enc.length ≤ 64 := by have := (Ent.body_len_ (HOK.out es[i] (List.getElem_mem _))).2; rw [Ent.enc_len]; omega
      have hok := HOK.out es[i] (List.getElem_mem _)
      generalize es[i] = y at *
      have hq := fun W => encode_ent y W hok
      have HQ := Lib.hid hq
      have i2 : (0 : Int) ≤ (i : Int) := by omega
      have i3 : (i : Int) < (n : Int) := by omega
      clear he kk hok hq
      go_wp2_with fail
      refine (HQ.out _).mono ?_
      rintro e w3 ⟨v3, rfl, ho3, hb3⟩
      obtain ⟨A3, c3, rfl, -⟩ := (Sl.of_own ho3).form
      go_wp2
      have hs := hbw.out.size
      go_roundw
      case rel =>
        refine ⟨i + 1, by omega, ?_, ?_, (hbw.out.alloc hs _).trans (hb3.mono (by simp; omega))⟩
        · rw [HF.out, List.length_append]; go_num
        · go_num
      case measure => simp [intOf]; omega
    · obtain rfl : i = n := by omega
      rw [← HZE.out]
      have hb2 := HB.out.trans (hbw.out.mono HB.out.size)
      have bx2 := BX.out.below hbw.out BX.out.lt
      have bz2 := BZ.out.below hbw.out BZ.out.lt
      clear q0 q1 z0 z1 zf0 zf1 zl ql
      have q0 := bx2.cell 0
      have q1 := bx2.cell 1
      have z0 := bz2.cell 0
      have z1 := bz2.cell 1
      have zf0 := bz2.frozen 0
      have zf1 := bz2.frozen 1
      have zl := bz2.lt
      have ql := bx2.lt
      have hbd := (Below.refl wr.heap.size wr).drew
      have i4 : (0 : Int) ≤ (z : Int) := by omega
      have i5 : (z : Int) ≤ (c : Int) := by omega
      have zm : min (k : Int) (z : Int) = (r : Int) := by have := HR.out; omega
      clear hbw
      go_wp2_with fail
      go_region_with (go_at_call 74; refine (CloneByte_any _ z (bvs (l.take z)) _ (By.take_n (HV.out.below (below_then hb2 hbd)) hz) (bvs_one _) (by simp only [maxLen]; omega) (by omega)).mono ?_; rintro e w5 ⟨v5, rfl, ho5, hb5⟩; obtain ⟨A5, c5, rfl, hc5⟩ := (Sl.of_own ho5).form; have hbel := below_then hbd hb5; have bx5 := bx2.below hbel bx2.lt; have bz5 := bz2.below hbel bz2.lt; have y0 := bx5.cell 0; have y1 := bx5.cell 1; have u0 := bz5.cell 0; have u1 := bz5.cell 1; have uf0 := bz5.frozen 0; have uf1 := bz5.frozen 1; have ul := bz5.lt; have yl := bx5.lt)
      all_goals go_wp2
      all_goals obtain ⟨r0, r1, ro, rb⟩ := log_stored (v := .slice A5 z c5) (s := r) bz5 rfl
      all_goals generalize (w5.setCell ⟨w.heap.size + 1, 0, none⟩ (.slice A5 z c5)).setCell ⟨w.heap.size + 1, 1, none⟩ (.int .i64 r) = W6 at *
      all_goals exact bodyPost_ret (v := .tuple #[.agg #[.slice A5 z c5, .int .i64 r], .int .i64 0]) (by simp [results, Try.results43, go_sem, r0, r1]) rfl ⟨.slice A5 z c5, rfl, ro _ _ _ _ (own_base (own_eq ho5 hzl.symm rfl) hb2.size), rb _ _ (Nat.le_succ _) (hb2.trans (hbel.mono hb2.size))⟩


end Go.Proofs.Ytpjjfnpdopdnkaa
