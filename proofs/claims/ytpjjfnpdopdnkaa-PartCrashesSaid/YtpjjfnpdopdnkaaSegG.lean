/- seg.Crash and tailraceref.CrashedOf: what is not safe is lost. -/
import Derived.Test.YtpjjfnpdopdnkaaSegD
namespace Go.Proofs.Ytpjjfnpdopdnkaa
open Go.RowKit

set_option maxRecDepth 100000 in
set_option maxHeartbeats 2000000 in
theorem crash_bad (v : Value) (l : List UInt8) (s : Int) (keep : Int) (w : World) (hv : By w v l) (hl : l.length ≤ 9223372036854775807) (hf : logFault ⟨l, s⟩ ≠ 0) :
    Calls Try.prog 39 #[.agg #[v, .int .i64 s], .int .i64 keep] w (LogPost ⟨[], 0⟩ (logFault ⟨l, s⟩) w) := by
  obtain ⟨A, c, rfl, hc, -⟩ := hv.at_
  have HV := Lib.hid hv
  have hbx := (Blk.new w 42 #[.slice A l.length c, .int .i64 s]).alloc (.cells #[.slice none 0 0, .int .i64 0] 42)
  have hbz := Blk.new (w.alloc (.cells #[.slice A l.length c, .int .i64 s] 42)) 42 #[.slice none 0 0, .int .i64 0]
  have hbl : Below w.heap.size w ((w.alloc (.cells #[.slice A l.length c, .int .i64 s] 42)).alloc (.cells #[.slice none 0 0, .int .i64 0] 42)) := ((Below.refl _ _).alloc (Nat.le_refl _) _).alloc (by simp) _
  simp only [World.size_alloc] at hbz
  have hv0 := hv.below hbl
  clear hv
  have hq := segCheck_any _ l s _ hv0 hl
  generalize logFault ⟨l, s⟩ = x at *
  have zx : (x != 0) = true := by simp only [bne_iff_ne]; exact hf
  have zy : (x == 0) = false := by simp only [beq_eq_false_iff_ne]; exact hf
  clear hf
  go_enter Try.func39, Try.ntmps39
  go_wp2_with fail
  refine hq.mono ?_
  rintro e w1 ⟨rfl, hb1⟩
  have bx := hbx.below hb1 hbx.lt
  have bz := hbz.below hb1 hbz.lt
  have hb := hbl.trans (hb1.mono hbl.size)
  clear hbx hbz hbl hb1 hv0
  have q0 := bx.cell 0
  have q1 := bx.cell 1
  have z0 := bz.cell 0
  have z1 := bz.cell 1
  have zf0 := bz.frozen 0
  have zf1 := bz.frozen 1
  have zl := bz.lt
  have ql := bx.lt
  go_wp2
  obtain ⟨r0, r1, ro, rb⟩ := log_stored (v := .slice none 0 0) (s := 0) bz rfl
  generalize (w1.setCell ⟨w.heap.size + 1, 0, none⟩ (.slice none 0 0)).setCell ⟨w.heap.size + 1, 1, none⟩ (.int .i64 0) = W6 at *
  exact bodyPost_ret (v := .tuple #[.agg #[.slice none 0 0, .int .i64 0], .int .i64 x]) (by simp [results, Try.results39, go_sem, r0, r1]) rfl ⟨.slice none 0 0, rfl, World.ownsRow_nil _ _ _ _, rb _ _ (Nat.le_succ _) hb⟩

set_option maxRecDepth 100000 in
set_option maxHeartbeats 2000000 in
theorem crash_range (v : Value) (l : List UInt8) (s : Int) (keep : Int) (w : World) (hv : By w v l) {es : List Ent} {j : Nat} (h : LogIs ⟨l, s⟩ es j) (hr : keep < 0) :
    Calls Try.prog 39 #[.agg #[v, .int .i64 s], .int .i64 keep] w (LogPost ⟨[], 0⟩ 2 w) := by
  obtain ⟨A, c, rfl, hc, -⟩ := hv.at_
  have HV := Lib.hid hv
  have hbx := (Blk.new w 42 #[.slice A l.length c, .int .i64 s]).alloc (.cells #[.slice none 0 0, .int .i64 0] 42)
  have hbz := Blk.new (w.alloc (.cells #[.slice A l.length c, .int .i64 s] 42)) 42 #[.slice none 0 0, .int .i64 0]
  have hbl : Below w.heap.size w ((w.alloc (.cells #[.slice A l.length c, .int .i64 s] 42)).alloc (.cells #[.slice none 0 0, .int .i64 0] 42)) := ((Below.refl _ _).alloc (Nat.le_refl _) _).alloc (by simp) _
  simp only [World.size_alloc] at hbz
  have hv0 := hv.below hbl
  clear hv
  have HX := Lib.hid h.fault
  obtain ⟨hlen, k, rfl, hk, -, -, -⟩ := log_long h
  clear h
  have zk : decide (keep < 0) = true := decide_eq_true hr
  go_enter Try.func39, Try.ntmps39
  go_wp2_with fail
  refine (segCheck_any _ l k _ hv0 (by omega)).mono ?_
  rintro e w1 ⟨rfl, hb1⟩
  rw [HX.out]
  have bx := hbx.below hb1 hbx.lt
  have bz := hbz.below hb1 hbz.lt
  have hb := hbl.trans (hb1.mono hbl.size)
  clear hbx hbz hbl hb1 hv0
  have q0 := bx.cell 0
  have q1 := bx.cell 1
  have z0 := bz.cell 0
  have z1 := bz.cell 1
  have zf0 := bz.frozen 0
  have zf1 := bz.frozen 1
  have zl := bz.lt
  have ql := bx.lt
  go_wp2
  obtain ⟨r0, r1, ro, rb⟩ := log_stored (v := .slice none 0 0) (s := 0) bz rfl
  generalize (w1.setCell ⟨w.heap.size + 1, 0, none⟩ (.slice none 0 0)).setCell ⟨w.heap.size + 1, 1, none⟩ (.int .i64 0) = W6 at *
  exact bodyPost_ret (v := .tuple #[.agg #[.slice none 0 0, .int .i64 0], .int .i64 2]) (by simp [results, Try.results39, go_sem, r0, r1]) rfl ⟨.slice none 0 0, rfl, World.ownsRow_nil _ _ _ _, rb _ _ (Nat.le_succ _) hb⟩

set_option maxRecDepth 100000 in
set_option maxHeartbeats 2000000 in
theorem crash_ok (v : Value) (l : List UInt8) (s : Int) (keep : Nat) (w : World) (hv : By w v l) {es : List Ent} {j : Nat} (h : LogIs ⟨l, s⟩ es j) {p : Nat} (hp : p = s.toNat + min keep (l.length - s.toNat)) {es2 : List Ent} {m : Nat} (hd : dec (l.take p) = (es2, m)) :
    Calls Try.prog 39 #[.agg #[v, .int .i64 s], .int .i64 keep] w (LogPost ⟨l.take m, m⟩ 0 w) := by
  obtain ⟨A, c, rfl, hc, -⟩ := hv.at_
  have HV := Lib.hid hv
  have hbx := (Blk.new w 42 #[.slice A l.length c, .int .i64 s]).alloc (.cells #[.slice none 0 0, .int .i64 0] 42)
  have hbz := Blk.new (w.alloc (.cells #[.slice A l.length c, .int .i64 s] 42)) 42 #[.slice none 0 0, .int .i64 0]
  have hbl : Below w.heap.size w ((w.alloc (.cells #[.slice A l.length c, .int .i64 s] 42)).alloc (.cells #[.slice none 0 0, .int .i64 0] 42)) := ((Below.refl _ _).alloc (Nat.le_refl _) _).alloc (by simp) _
  simp only [World.size_alloc] at hbz
  have hv0 := hv.below hbl
  clear hv
  have HX := Lib.hid h.fault
  obtain ⟨hlen, k, rfl, hk, -, -, -⟩ := log_long h
  clear h
  simp only [Int.toNat_natCast] at hp
  have zk : decide ((keep : Int) < 0) = false := decide_eq_false (by omega)
  have hp' : p ≤ l.length := by omega
  have hpl : (l.take p).length = p := by rw [List.length_take]; omega
  have hm : m ≤ l.length := by have := (dec_parts hd).1; omega
  have hml : (l.take m).length = m := by rw [List.length_take]; omega
  have HD := Lib.hid hd
  have i0 : (0 : Int) ≤ (p : Int) := by omega
  have i1 : (p : Int) ≤ (c : Int) := by omega
  have i2 : (0 : Int) ≤ (m : Int) := by omega
  have i3 : (m : Int) ≤ (c : Int) := by omega
  have HPL := Lib.hid hpl
  clear hd hpl
  obtain ⟨r, hr⟩ : ∃ r : Nat, r = min keep (l.length - k) := ⟨_, rfl⟩
  have zm : (if (l.length : Int) - (k : Int) < (keep : Int) then (l.length : Int) - (k : Int) else (keep : Int)) = (r : Int) := by split <;> omega
  have zp : (k : Int) + (r : Int) = (p : Int) := by omega
  have HP := Lib.hid hp
  clear hp hr
  go_enter Try.func39, Try.ntmps39
  go_wp2_with fail
  refine (segCheck_any _ l k _ hv0 (by omega)).mono ?_
  rintro e w1 ⟨rfl, hb1⟩
  rw [HX.out]
  have bx := hbx.below hb1 hbx.lt
  have bz := hbz.below hb1 hbz.lt
  have hb := hbl.trans (hb1.mono hbl.size)
  clear hbx hbz hbl hb1 hv0
  have q0 := bx.cell 0
  have q1 := bx.cell 1
  have z0 := bz.cell 0
  have z1 := bz.cell 1
  have zf0 := bz.frozen 0
  have zf1 := bz.frozen 1
  have zl := bz.lt
  have ql := bx.lt
  go_wp2_with fail
  refine (decode_eq (By.take_b (HV.out.below hb) hp') (by rw [HPL.out]; omega) HD.out).mono ?_
  rintro e w2 ⟨v2, rfl, ho2, hb2⟩
  obtain ⟨A2, c2, rfl, hc2⟩ := (Sl.of_own ho2).form
  have hb2' := hb.trans (hb2.mono hb.size)
  have bx2 := bx.below hb2 bx.lt
  have bz2 := bz.below hb2 bz.lt
  clear hb hb2 bx bz q0 q1 z0 z1 zf0 zf1 zl ql ho2
  have q0 := bx2.cell 0
  have q1 := bx2.cell 1
  have z0 := bz2.cell 0
  have z1 := bz2.cell 1
  have zf0 := bz2.frozen 0
  have zf1 := bz2.frozen 1
  have zl := bz2.lt
  have ql := bx2.lt
  go_wp2_with fail
  refine (CloneByte_any _ m (bvs (l.take m)) _ (By.take_n (HV.out.below hb2') hm) (bvs_one _) (by simp only [maxLen]; omega) (by omega)).mono ?_
  rintro e w5 ⟨v5, rfl, ho5, hb5⟩
  skip
  obtain ⟨A5, c5, rfl, hc5⟩ := (Sl.of_own ho5).form
  have bz5 := bz2.below hb5 bz2.lt
  have u0 := bz5.cell 0
  have u1 := bz5.cell 1
  have uf0 := bz5.frozen 0
  have uf1 := bz5.frozen 1
  have ul := bz5.lt
  go_wp2
  obtain ⟨r0, r1, ro, rb⟩ := log_stored (v := .slice A5 m c5) (s := m) bz5 rfl
  generalize (w5.setCell ⟨w.heap.size + 1, 0, none⟩ (.slice A5 m c5)).setCell ⟨w.heap.size + 1, 1, none⟩ (.int .i64 m) = W6 at *
  exact bodyPost_ret (v := .tuple #[.agg #[.slice A5 m c5, .int .i64 m], .int .i64 0]) (by simp [results, Try.results39, go_sem, r0, r1]) rfl ⟨.slice A5 m c5, rfl, ro _ _ _ _ (own_base (own_eq ho5 hml.symm rfl) hb2'.size), rb _ _ (Nat.le_succ _) (hb2'.trans (hb5.mono hb2'.size))⟩

set_option maxRecDepth 100000 in
set_option maxHeartbeats 2000000 in
theorem crashedOf_bad (v : Value) (l : List UInt8) (s : Int) (keep : Int) (w : World) (hv : By w v l) (hl : l.length ≤ 9223372036854775807) (hf : logFault ⟨l, s⟩ ≠ 0) :
    Calls Try.prog 40 #[.agg #[v, .int .i64 s], .int .i64 keep] w (LogPost ⟨[], 0⟩ (logFault ⟨l, s⟩) w) := by
  obtain ⟨A, c, rfl, hc, -⟩ := hv.at_
  have HV := Lib.hid hv
  have hbx := (Blk.new w 42 #[.slice A l.length c, .int .i64 s]).alloc (.cells #[.slice none 0 0, .int .i64 0] 42)
  have hbz := Blk.new (w.alloc (.cells #[.slice A l.length c, .int .i64 s] 42)) 42 #[.slice none 0 0, .int .i64 0]
  have hbl : Below w.heap.size w ((w.alloc (.cells #[.slice A l.length c, .int .i64 s] 42)).alloc (.cells #[.slice none 0 0, .int .i64 0] 42)) := ((Below.refl _ _).alloc (Nat.le_refl _) _).alloc (by simp) _
  simp only [World.size_alloc] at hbz
  have hv0 := hv.below hbl
  clear hv
  have hq := logFault_any _ l s _ hv0 hl
  generalize logFault ⟨l, s⟩ = x at *
  have zx : (x != 0) = true := by simp only [bne_iff_ne]; exact hf
  have zy : (x == 0) = false := by simp only [beq_eq_false_iff_ne]; exact hf
  clear hf
  go_enter Try.func40, Try.ntmps40
  go_wp2_with fail
  refine hq.mono ?_
  rintro e w1 ⟨rfl, hb1⟩
  have bx := hbx.below hb1 hbx.lt
  have bz := hbz.below hb1 hbz.lt
  have hb := hbl.trans (hb1.mono hbl.size)
  clear hbx hbz hbl hb1 hv0
  have q0 := bx.cell 0
  have q1 := bx.cell 1
  have z0 := bz.cell 0
  have z1 := bz.cell 1
  have zf0 := bz.frozen 0
  have zf1 := bz.frozen 1
  have zl := bz.lt
  have ql := bx.lt
  go_wp2
  obtain ⟨r0, r1, ro, rb⟩ := log_stored (v := .slice none 0 0) (s := 0) bz rfl
  generalize (w1.setCell ⟨w.heap.size + 1, 0, none⟩ (.slice none 0 0)).setCell ⟨w.heap.size + 1, 1, none⟩ (.int .i64 0) = W6 at *
  exact bodyPost_ret (v := .tuple #[.agg #[.slice none 0 0, .int .i64 0], .int .i64 x]) (by simp [results, Try.results40, go_sem, r0, r1]) rfl ⟨.slice none 0 0, rfl, World.ownsRow_nil _ _ _ _, rb _ _ (Nat.le_succ _) hb⟩

set_option maxRecDepth 100000 in
set_option maxHeartbeats 2000000 in
theorem crashedOf_range (v : Value) (l : List UInt8) (s : Int) (keep : Int) (w : World) (hv : By w v l) {es : List Ent} {j : Nat} (h : LogIs ⟨l, s⟩ es j) (hr : keep < 0) :
    Calls Try.prog 40 #[.agg #[v, .int .i64 s], .int .i64 keep] w (LogPost ⟨[], 0⟩ 2 w) := by
  obtain ⟨A, c, rfl, hc, -⟩ := hv.at_
  have HV := Lib.hid hv
  have hbx := (Blk.new w 42 #[.slice A l.length c, .int .i64 s]).alloc (.cells #[.slice none 0 0, .int .i64 0] 42)
  have hbz := Blk.new (w.alloc (.cells #[.slice A l.length c, .int .i64 s] 42)) 42 #[.slice none 0 0, .int .i64 0]
  have hbl : Below w.heap.size w ((w.alloc (.cells #[.slice A l.length c, .int .i64 s] 42)).alloc (.cells #[.slice none 0 0, .int .i64 0] 42)) := ((Below.refl _ _).alloc (Nat.le_refl _) _).alloc (by simp) _
  simp only [World.size_alloc] at hbz
  have hv0 := hv.below hbl
  clear hv
  have HX := Lib.hid h.fault
  obtain ⟨hlen, k, rfl, hk, -, -, -⟩ := log_long h
  clear h
  have zk : decide (keep < 0) = true := decide_eq_true hr
  go_enter Try.func40, Try.ntmps40
  go_wp2_with fail
  refine (logFault_any _ l k _ hv0 (by omega)).mono ?_
  rintro e w1 ⟨rfl, hb1⟩
  rw [HX.out]
  have bx := hbx.below hb1 hbx.lt
  have bz := hbz.below hb1 hbz.lt
  have hb := hbl.trans (hb1.mono hbl.size)
  clear hbx hbz hbl hb1 hv0
  have q0 := bx.cell 0
  have q1 := bx.cell 1
  have z0 := bz.cell 0
  have z1 := bz.cell 1
  have zf0 := bz.frozen 0
  have zf1 := bz.frozen 1
  have zl := bz.lt
  have ql := bx.lt
  go_wp2
  obtain ⟨r0, r1, ro, rb⟩ := log_stored (v := .slice none 0 0) (s := 0) bz rfl
  generalize (w1.setCell ⟨w.heap.size + 1, 0, none⟩ (.slice none 0 0)).setCell ⟨w.heap.size + 1, 1, none⟩ (.int .i64 0) = W6 at *
  exact bodyPost_ret (v := .tuple #[.agg #[.slice none 0 0, .int .i64 0], .int .i64 2]) (by simp [results, Try.results40, go_sem, r0, r1]) rfl ⟨.slice none 0 0, rfl, World.ownsRow_nil _ _ _ _, rb _ _ (Nat.le_succ _) hb⟩

set_option maxRecDepth 100000 in
set_option maxHeartbeats 2000000 in
theorem crashedOf_ok (v : Value) (l : List UInt8) (s : Int) (keep : Nat) (w : World) (hv : By w v l) {es : List Ent} {j : Nat} (h : LogIs ⟨l, s⟩ es j) {p : Nat} (hp : p = s.toNat + min keep (l.length - s.toNat)) {es2 : List Ent} {m : Nat} (hd : dec (l.take p) = (es2, m)) :
    Calls Try.prog 40 #[.agg #[v, .int .i64 s], .int .i64 keep] w (LogPost ⟨l.take m, m⟩ 0 w) := by
  obtain ⟨A, c, rfl, hc, -⟩ := hv.at_
  have HV := Lib.hid hv
  have hbx := (Blk.new w 42 #[.slice A l.length c, .int .i64 s]).alloc (.cells #[.slice none 0 0, .int .i64 0] 42)
  have hbz := Blk.new (w.alloc (.cells #[.slice A l.length c, .int .i64 s] 42)) 42 #[.slice none 0 0, .int .i64 0]
  have hbl : Below w.heap.size w ((w.alloc (.cells #[.slice A l.length c, .int .i64 s] 42)).alloc (.cells #[.slice none 0 0, .int .i64 0] 42)) := ((Below.refl _ _).alloc (Nat.le_refl _) _).alloc (by simp) _
  simp only [World.size_alloc] at hbz
  have hv0 := hv.below hbl
  clear hv
  have HX := Lib.hid h.fault
  obtain ⟨hlen, k, rfl, hk, -, -, -⟩ := log_long h
  clear h
  simp only [Int.toNat_natCast] at hp
  have zk : decide ((keep : Int) < 0) = false := decide_eq_false (by omega)
  have hp' : p ≤ l.length := by omega
  have hpl : (l.take p).length = p := by rw [List.length_take]; omega
  have hm : m ≤ l.length := by have := (dec_parts hd).1; omega
  have hml : (l.take m).length = m := by rw [List.length_take]; omega
  have HD := Lib.hid hd
  have i0 : (0 : Int) ≤ (p : Int) := by omega
  have i1 : (p : Int) ≤ (c : Int) := by omega
  have i2 : (0 : Int) ≤ (m : Int) := by omega
  have i3 : (m : Int) ≤ (c : Int) := by omega
  have HPL := Lib.hid hpl
  clear hd hpl
  by_cases hr : keep < l.length - k
  · have zk2 : decide ((keep : Int) < (l.length : Int) - (k : Int)) = true := decide_eq_true (by omega)
    have zp : (k : Int) + (keep : Int) = (p : Int) := by omega
    have HP := Lib.hid hp
    clear hp
    go_enter Try.func40, Try.ntmps40
    go_wp2_with fail
    refine (logFault_any _ l k _ hv0 (by omega)).mono ?_
    rintro e w1 ⟨rfl, hb1⟩
    rw [HX.out]
    have bx := hbx.below hb1 hbx.lt
    have bz := hbz.below hb1 hbz.lt
    have hb := hbl.trans (hb1.mono hbl.size)
    clear hbx hbz hbl hb1 hv0
    have q0 := bx.cell 0
    have q1 := bx.cell 1
    have z0 := bz.cell 0
    have z1 := bz.cell 1
    have zf0 := bz.frozen 0
    have zf1 := bz.frozen 1
    have zl := bz.lt
    have ql := bx.lt
    go_wp2_with fail
    refine (entriesIn_eq (By.take_b (HV.out.below hb) hp') (by rw [HPL.out]; omega) HD.out).mono ?_
    rintro e w2 ⟨v2, rfl, ho2, hb2⟩
    obtain ⟨A2, c2, rfl, hc2⟩ := (Sl.of_own ho2).form
    have hb2' := hb.trans (hb2.mono hb.size)
    have bx2 := bx.below hb2 bx.lt
    have bz2 := bz.below hb2 bz.lt
    clear hb hb2 bx bz q0 q1 z0 z1 zf0 zf1 zl ql ho2
    have q0 := bx2.cell 0
    have q1 := bx2.cell 1
    have z0 := bz2.cell 0
    have z1 := bz2.cell 1
    have zf0 := bz2.frozen 0
    have zf1 := bz2.frozen 1
    have zl := bz2.lt
    have ql := bx2.lt
    go_wp2_with fail
    refine (bytesCopy_one hml.symm (By.take_b (HV.out.below hb2') hm) (Below.refl _ _) (by omega)).mono ?_
    rintro e w5 ⟨v5, rfl, ho5, hb5⟩
    rw [hml] at ho5
    obtain ⟨A5, c5, rfl, hc5⟩ := (Sl.of_own ho5).form
    have bz5 := bz2.below hb5 bz2.lt
    have u0 := bz5.cell 0
    have u1 := bz5.cell 1
    have uf0 := bz5.frozen 0
    have uf1 := bz5.frozen 1
    have ul := bz5.lt
    go_wp2
    obtain ⟨r0, r1, ro, rb⟩ := log_stored (v := .slice A5 m c5) (s := m) bz5 rfl
    generalize (w5.setCell ⟨w.heap.size + 1, 0, none⟩ (.slice A5 m c5)).setCell ⟨w.heap.size + 1, 1, none⟩ (.int .i64 m) = W6 at *
    exact bodyPost_ret (v := .tuple #[.agg #[.slice A5 m c5, .int .i64 m], .int .i64 0]) (by simp [results, Try.results40, go_sem, r0, r1]) rfl ⟨.slice A5 m c5, rfl, ro _ _ _ _ (own_base (own_eq ho5 hml.symm rfl) hb2'.size), rb _ _ (Nat.le_succ _) (hb2'.trans (hb5.mono hb2'.size))⟩
  · have zk2 : decide ((keep : Int) < (l.length : Int) - (k : Int)) = false := decide_eq_false (by omega)
    obtain rfl : p = l.length := by omega
    clear hp
    go_enter Try.func40, Try.ntmps40
    go_wp2_with fail
    refine (logFault_any _ l k _ hv0 (by omega)).mono ?_
    rintro e w1 ⟨rfl, hb1⟩
    rw [HX.out]
    have bx := hbx.below hb1 hbx.lt
    have bz := hbz.below hb1 hbz.lt
    have hb := hbl.trans (hb1.mono hbl.size)
    clear hbx hbz hbl hb1 hv0
    have q0 := bx.cell 0
    have q1 := bx.cell 1
    have z0 := bz.cell 0
    have z1 := bz.cell 1
    have zf0 := bz.frozen 0
    have zf1 := bz.frozen 1
    have zl := bz.lt
    have ql := bx.lt
    go_wp2_with fail
    refine (entriesIn_eq (By.take_b (HV.out.below hb) hp') (by rw [HPL.out]; omega) HD.out).mono ?_
    rintro e w2 ⟨v2, rfl, ho2, hb2⟩
    obtain ⟨A2, c2, rfl, hc2⟩ := (Sl.of_own ho2).form
    have hb2' := hb.trans (hb2.mono hb.size)
    have bx2 := bx.below hb2 bx.lt
    have bz2 := bz.below hb2 bz.lt
    clear hb hb2 bx bz q0 q1 z0 z1 zf0 zf1 zl ql ho2
    have q0 := bx2.cell 0
    have q1 := bx2.cell 1
    have z0 := bz2.cell 0
    have z1 := bz2.cell 1
    have zf0 := bz2.frozen 0
    have zf1 := bz2.frozen 1
    have zl := bz2.lt
    have ql := bx2.lt
    go_wp2_with fail
    refine (bytesCopy_one hml.symm (By.take_b (HV.out.below hb2') hm) (Below.refl _ _) (by omega)).mono ?_
    rintro e w5 ⟨v5, rfl, ho5, hb5⟩
    rw [hml] at ho5
    obtain ⟨A5, c5, rfl, hc5⟩ := (Sl.of_own ho5).form
    have bz5 := bz2.below hb5 bz2.lt
    have u0 := bz5.cell 0
    have u1 := bz5.cell 1
    have uf0 := bz5.frozen 0
    have uf1 := bz5.frozen 1
    have ul := bz5.lt
    go_wp2
    obtain ⟨r0, r1, ro, rb⟩ := log_stored (v := .slice A5 m c5) (s := m) bz5 rfl
    generalize (w5.setCell ⟨w.heap.size + 1, 0, none⟩ (.slice A5 m c5)).setCell ⟨w.heap.size + 1, 1, none⟩ (.int .i64 m) = W6 at *
    exact bodyPost_ret (v := .tuple #[.agg #[.slice A5 m c5, .int .i64 m], .int .i64 0]) (by simp [results, Try.results40, go_sem, r0, r1]) rfl ⟨.slice A5 m c5, rfl, ro _ _ _ _ (own_base (own_eq ho5 hml.symm rfl) hb2'.size), rb _ _ (Nat.le_succ _) (hb2'.trans (hb5.mono hb2'.size))⟩


end Go.Proofs.Ytpjjfnpdopdnkaa
