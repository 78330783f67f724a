/- seg.Sync and tailraceref.SyncedOf: all is safe. -/
import Derived.Test.YtpjjfnpdopdnkaaSegD
namespace Go.Proofs.Ytpjjfnpdopdnkaa
open Go.RowKit

set_option maxRecDepth 100000 in
set_option maxHeartbeats 2000000 in
theorem sync_bad (v : Value) (l : List UInt8) (s : Int) (w : World) (hv : By w v l) (hl : l.length ≤ 9223372036854775807) (hf : logFault ⟨l, s⟩ ≠ 0) :
    Calls Try.prog 36 #[.agg #[v, .int .i64 s]] w (LogPost ⟨[], 0⟩ (logFault ⟨l, s⟩) w) := by
  obtain ⟨A, c, rfl, hc, -⟩ := hv.at_
  have HV := Lib.hid hv
  have hbx := (Blk.new w 42 #[.slice A l.length c, .int .i64 s]).alloc (.cells #[.slice none 0 0, .int .i64 0] 42)
  have hbz := Blk.new (w.alloc (.cells #[.slice A l.length c, .int .i64 s] 42)) 42 #[.slice none 0 0, .int .i64 0]
  have hbl : Below w.heap.size w ((w.alloc (.cells #[.slice A l.length c, .int .i64 s] 42)).alloc (.cells #[.slice none 0 0, .int .i64 0] 42)) := ((Below.refl _ _).alloc (Nat.le_refl _) _).alloc (by simp) _
  simp only [World.size_alloc] at hbz
  have hv0 := hv.below hbl
  clear hv
  have hq := segCheck_any _ l s _ hv0 hl
  generalize logFault ⟨l, s⟩ = x at *
  have zx : (x != 0) = true := by simp only [bne_iff_ne]; exact hf
  have zy : (x == 0) = false := by simp only [beq_eq_false_iff_ne]; exact hf
  clear hf
  go_enter Try.func36, Try.ntmps36
  go_wp2_with fail
  refine hq.mono ?_
  rintro e w1 ⟨rfl, hb1⟩
  have bx := hbx.below hb1 hbx.lt
  have bz := hbz.below hb1 hbz.lt
  have hb := hbl.trans (hb1.mono hbl.size)
  clear hbx hbz hbl hb1 hv0
  have q0 := bx.cell 0
  have q1 := bx.cell 1
  have z0 := bz.cell 0
  have z1 := bz.cell 1
  have zf0 := bz.frozen 0
  have zf1 := bz.frozen 1
  have zl := bz.lt
  have ql := bx.lt
  go_wp2
  obtain ⟨r0, r1, ro, rb⟩ := log_stored (v := .slice none 0 0) (s := 0) bz rfl
  generalize (w1.setCell ⟨w.heap.size + 1, 0, none⟩ (.slice none 0 0)).setCell ⟨w.heap.size + 1, 1, none⟩ (.int .i64 0) = W6 at *
  exact bodyPost_ret (v := .tuple #[.agg #[.slice none 0 0, .int .i64 0], .int .i64 x]) (by simp [results, Try.results36, go_sem, r0, r1]) rfl ⟨.slice none 0 0, rfl, World.ownsRow_nil _ _ _ _, rb _ _ (Nat.le_succ _) hb⟩

set_option maxRecDepth 100000 in
set_option maxHeartbeats 2000000 in
theorem sync_ok (v : Value) (l : List UInt8) (s : Int) (w : World) (hv : By w v l) (hl : l.length ≤ 40000) (hf : logFault ⟨l, s⟩ = 0) :
    Calls Try.prog 36 #[.agg #[v, .int .i64 s]] w (LogPost ⟨l, l.length⟩ 0 w) := by
  obtain ⟨A, c, rfl, hc, -⟩ := hv.at_
  have HV := Lib.hid hv
  have hbx := (Blk.new w 42 #[.slice A l.length c, .int .i64 s]).alloc (.cells #[.slice none 0 0, .int .i64 0] 42)
  have hbz := Blk.new (w.alloc (.cells #[.slice A l.length c, .int .i64 s] 42)) 42 #[.slice none 0 0, .int .i64 0]
  have hbl : Below w.heap.size w ((w.alloc (.cells #[.slice A l.length c, .int .i64 s] 42)).alloc (.cells #[.slice none 0 0, .int .i64 0] 42)) := ((Below.refl _ _).alloc (Nat.le_refl _) _).alloc (by simp) _
  simp only [World.size_alloc] at hbz
  have hv0 := hv.below hbl
  clear hv
  have HF := Lib.hid hf
  clear hf
  go_enter Try.func36, Try.ntmps36
  go_wp2_with fail
  refine (segCheck_any _ l s _ hv0 (by omega)).mono ?_
  rintro e w1 ⟨rfl, hb1⟩
  rw [HF.out]
  have bx := hbx.below hb1 hbx.lt
  have bz := hbz.below hb1 hbz.lt
  have hb := hbl.trans (hb1.mono hbl.size)
  clear hbx hbz hbl hb1 hv0
  have q0 := bx.cell 0
  have q1 := bx.cell 1
  have z0 := bz.cell 0
  have z1 := bz.cell 1
  have zf0 := bz.frozen 0
  have zf1 := bz.frozen 1
  have zl := bz.lt
  have ql := bx.lt
  have hbd := (Below.refl w1.heap.size w1).drew
  go_wp2_with fail
  go_region_with (go_at_call 74; refine (CloneByte_any _ l.length (bvs l) _ (HV.out.below (below_then hb hbd)) (bvs_one _) (by simp only [maxLen]; omega) (by omega)).mono ?_; rintro e w5 ⟨v5, rfl, ho5, hb5⟩; obtain ⟨A5, c5, rfl, hc5⟩ := (Sl.of_own ho5).form; have hbel := below_then hbd hb5; have bx5 := bx.below hbel bx.lt; have bz5 := bz.below hbel bz.lt; have y0 := bx5.cell 0; have u0 := bz5.cell 0; have u1 := bz5.cell 1; have uf0 := bz5.frozen 0; have uf1 := bz5.frozen 1; have ul := bz5.lt; have yl := bx5.lt; have hsz5 := (hb.trans (hbel.mono hb.size)).size)
  all_goals go_wp2
  all_goals obtain ⟨r0, r1, ro, rb⟩ := log_stored (v := .slice A5 l.length c5) (s := l.length) bz5 rfl
  all_goals generalize (w5.setCell ⟨w.heap.size + 1, 0, none⟩ (.slice A5 l.length c5)).setCell ⟨w.heap.size + 1, 1, none⟩ (.int .i64 l.length) = W6 at *
  all_goals exact bodyPost_ret (v := .tuple #[.agg #[.slice A5 l.length c5, .int .i64 l.length], .int .i64 0]) (by simp [results, Try.results36, go_sem, r0, r1]) rfl ⟨.slice A5 l.length c5, rfl, ro _ _ _ _ (own_base ho5 hb.size), rb _ _ (Nat.le_succ _) (hb.trans (hbel.mono hb.size))⟩

set_option maxRecDepth 100000 in
set_option maxHeartbeats 2000000 in
theorem syncedOf_bad (v : Value) (l : List UInt8) (s : Int) (w : World) (hv : By w v l) (hl : l.length ≤ 9223372036854775807) (hf : logFault ⟨l, s⟩ ≠ 0) :
    Calls Try.prog 37 #[.agg #[v, .int .i64 s]] w (LogPost ⟨[], 0⟩ (logFault ⟨l, s⟩) w) := by
  obtain ⟨A, c, rfl, hc, -⟩ := hv.at_
  have HV := Lib.hid hv
  have hbx := (Blk.new w 42 #[.slice A l.length c, .int .i64 s]).alloc (.cells #[.slice none 0 0, .int .i64 0] 42)
  have hbz := Blk.new (w.alloc (.cells #[.slice A l.length c, .int .i64 s] 42)) 42 #[.slice none 0 0, .int .i64 0]
  have hbl : Below w.heap.size w ((w.alloc (.cells #[.slice A l.length c, .int .i64 s] 42)).alloc (.cells #[.slice none 0 0, .int .i64 0] 42)) := ((Below.refl _ _).alloc (Nat.le_refl _) _).alloc (by simp) _
  simp only [World.size_alloc] at hbz
  have hv0 := hv.below hbl
  clear hv
  have hq := logFault_any _ l s _ hv0 hl
  generalize logFault ⟨l, s⟩ = x at *
  have zx : (x != 0) = true := by simp only [bne_iff_ne]; exact hf
  have zy : (x == 0) = false := by simp only [beq_eq_false_iff_ne]; exact hf
  clear hf
  go_enter Try.func37, Try.ntmps37
  go_wp2_with fail
  refine hq.mono ?_
  rintro e w1 ⟨rfl, hb1⟩
  have bx := hbx.below hb1 hbx.lt
  have bz := hbz.below hb1 hbz.lt
  have hb := hbl.trans (hb1.mono hbl.size)
  clear hbx hbz hbl hb1 hv0
  have q0 := bx.cell 0
  have q1 := bx.cell 1
  have z0 := bz.cell 0
  have z1 := bz.cell 1
  have zf0 := bz.frozen 0
  have zf1 := bz.frozen 1
  have zl := bz.lt
  have ql := bx.lt
  go_wp2
  obtain ⟨r0, r1, ro, rb⟩ := log_stored (v := .slice none 0 0) (s := 0) bz rfl
  generalize (w1.setCell ⟨w.heap.size + 1, 0, none⟩ (.slice none 0 0)).setCell ⟨w.heap.size + 1, 1, none⟩ (.int .i64 0) = W6 at *
  exact bodyPost_ret (v := .tuple #[.agg #[.slice none 0 0, .int .i64 0], .int .i64 x]) (by simp [results, Try.results37, go_sem, r0, r1]) rfl ⟨.slice none 0 0, rfl, World.ownsRow_nil _ _ _ _, rb _ _ (Nat.le_succ _) hb⟩

set_option maxRecDepth 100000 in
set_option maxHeartbeats 2000000 in
theorem syncedOf_ok (v : Value) (l : List UInt8) (s : Int) (w : World) (hv : By w v l) (hl : l.length ≤ 40000) (hf : logFault ⟨l, s⟩ = 0) :
    Calls Try.prog 37 #[.agg #[v, .int .i64 s]] w (LogPost ⟨l, l.length⟩ 0 w) := by
  obtain ⟨A, c, rfl, hc, -⟩ := hv.at_
  have HV := Lib.hid hv
  have hbx := (Blk.new w 42 #[.slice A l.length c, .int .i64 s]).alloc (.cells #[.slice none 0 0, .int .i64 0] 42)
  have hbz := Blk.new (w.alloc (.cells #[.slice A l.length c, .int .i64 s] 42)) 42 #[.slice none 0 0, .int .i64 0]
  have hbl : Below w.heap.size w ((w.alloc (.cells #[.slice A l.length c, .int .i64 s] 42)).alloc (.cells #[.slice none 0 0, .int .i64 0] 42)) := ((Below.refl _ _).alloc (Nat.le_refl _) _).alloc (by simp) _
  simp only [World.size_alloc] at hbz
  have hv0 := hv.below hbl
  clear hv
  have HF := Lib.hid hf
  clear hf
  go_enter Try.func37, Try.ntmps37
  go_wp2_with fail
  refine (logFault_any _ l s _ hv0 (by omega)).mono ?_
  rintro e w1 ⟨rfl, hb1⟩
  rw [HF.out]
  have bx := hbx.below hb1 hbx.lt
  have bz := hbz.below hb1 hbz.lt
  have hb := hbl.trans (hb1.mono hbl.size)
  clear hbx hbz hbl hb1 hv0
  have q0 := bx.cell 0
  have q1 := bx.cell 1
  have z0 := bz.cell 0
  have z1 := bz.cell 1
  have zf0 := bz.frozen 0
  have zf1 := bz.frozen 1
  have zl := bz.lt
  have ql := bx.lt
  have hbd := (Below.refl w1.heap.size w1).drew
  go_wp2_with fail
  go_region_with (go_at_call 79; refine (bytesCopy_one rfl (HV.out.below hb) hbd (by omega)).mono ?_; rintro e w5 ⟨v5, rfl, ho5, hb5⟩; obtain ⟨A5, c5, rfl, hc5⟩ := (Sl.of_own ho5).form; have hbel := below_then hbd hb5; have bx5 := bx.below hbel bx.lt; have bz5 := bz.below hbel bz.lt; have y0 := bx5.cell 0; have u0 := bz5.cell 0; have u1 := bz5.cell 1; have uf0 := bz5.frozen 0; have uf1 := bz5.frozen 1; have ul := bz5.lt; have yl := bx5.lt)
  all_goals go_wp2
  all_goals obtain ⟨r0, r1, ro, rb⟩ := log_stored (v := .slice A5 l.length c5) (s := l.length) bz5 rfl
  all_goals generalize (w5.setCell ⟨w.heap.size + 1, 0, none⟩ (.slice A5 l.length c5)).setCell ⟨w.heap.size + 1, 1, none⟩ (.int .i64 l.length) = W6 at *
  all_goals exact bodyPost_ret (v := .tuple #[.agg #[.slice A5 l.length c5, .int .i64 l.length], .int .i64 0]) (by simp [results, Try.results37, go_sem, r0, r1]) rfl ⟨.slice A5 l.length c5, rfl, ro _ _ _ _ (own_base ho5 hb.size), rb _ _ (Nat.le_succ _) (hb.trans (hbel.mono hb.size))⟩


end Go.Proofs.Ytpjjfnpdopdnkaa
