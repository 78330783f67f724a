/- Parts of a proof, merged: SegK. No condition. -/
import Derived.Test.YtpjjfnpdopdnkaaPf4
import Derived.Test.YtpjjfnpdopdnkaaPf6
namespace Go.Proofs.Ytpjjfnpdopdnkaa
open Go.RowKit

set_option maxRecDepth 100000 in
set_option maxHeartbeats 2000000 in
theorem appendedOf_full (v : Value) (l : List UInt8) (s : Int) (y : Ent) (w : World) (hv : By w v l) {es : List Ent} {j : Nat} (h : LogIs ⟨l, s⟩ es j) (hy : y.ok) (hf : es.length = 400 ∨ 40000 < l.length + y.enc.length) :
    Calls Try.prog 46 #[.agg #[v, .int .i64 s], .agg #[.int .i64 y.ep, .int .i64 y.pid, .int .i64 y.ver, .int .i64 y.seq, .int .i64 y.kind, .bool y.txn, .string y.text]] w (LogPost ⟨[], 0⟩ 16 w) := by
  obtain ⟨A, c, rfl, hc, -⟩ := hv.at_
  have HV := Lib.hid hv
  have hbx := ((Blk.new w 42 #[.slice A l.length c, .int .i64 s]).alloc (.cells #[.int .i64 y.ep, .int .i64 y.pid, .int .i64 y.ver, .int .i64 y.seq, .int .i64 y.kind, .bool y.txn, .string y.text] 55)).alloc (.cells #[.slice none 0 0, .int .i64 0] 42)
  have hbe := (Blk.new (w.alloc (.cells #[.slice A l.length c, .int .i64 s] 42)) 55 #[.int .i64 y.ep, .int .i64 y.pid, .int .i64 y.ver, .int .i64 y.seq, .int .i64 y.kind, .bool y.txn, .string y.text]).alloc (.cells #[.slice none 0 0, .int .i64 0] 42)
  have hbz := Blk.new ((w.alloc (.cells #[.slice A l.length c, .int .i64 s] 42)).alloc (.cells #[.int .i64 y.ep, .int .i64 y.pid, .int .i64 y.ver, .int .i64 y.seq, .int .i64 y.kind, .bool y.txn, .string y.text] 55)) 42 #[.slice none 0 0, .int .i64 0]
  have hbl : Below w.heap.size w (((w.alloc (.cells #[.slice A l.length c, .int .i64 s] 42)).alloc (.cells #[.int .i64 y.ep, .int .i64 y.pid, .int .i64 y.ver, .int .i64 y.seq, .int .i64 y.kind, .bool y.txn, .string y.text] 55)).alloc (.cells #[.slice none 0 0, .int .i64 0] 42)) := (((Below.refl _ _).alloc (Nat.le_refl _) _).alloc (by simp) _).alloc (by simp; omega) _
  simp only [World.size_alloc] at hbz hbe
  have hv0 := hv.below hbl
  clear hv
  obtain ⟨hlen, k, rfl, hk, -, -, -⟩ := log_long h
  have HE := Lib.hid (entriesOf_ok _ l k _ hv0 h)
  have hmany := h.many
  have hbytes : Hid (l = flat es) := Lib.hid h.bytes
  clear h
  have hq := fun W => entryBytes_ent y W hy
  have HQ := Lib.hid hq
  have hen := Ent.enc_len y
  have hbl2 := Ent.body_len_ hy
  have hyl : 4 ≤ y.enc.length ∧ y.enc.length ≤ 64 := by omega
  clear hq hen hbl2
  by_cases h5 : es.length = 400
  · have z5 : decide ((400 : Int) ≤ (es.length : Int)) = true := decide_eq_true (by omega)
    have z5' : decide (400 ≤ es.length) = true := decide_eq_true (by omega)
    go_enter Try.func46, Try.ntmps46
    go_wp2_with fail
    refine HE.out.mono ?_
    rintro e w1 ⟨v1, rfl, ho1, hb1⟩
    obtain ⟨A1, c1, rfl, hc1⟩ := (Sl.of_own ho1).form
    have bx1 := hbx.below hb1 hbx.lt
    have be1 := hbe.below hb1 hbe.lt
    have bz1 := hbz.below hb1 hbz.lt
    have hw1 := hbl.trans (hb1.mono hbl.size)
    have q0 := bx1.cell 0
    have q1 := bx1.cell 1
    have e0 := be1.cell 0
    have e1 := be1.cell 1
    have e2 := be1.cell 2
    have e3 := be1.cell 3
    have e4 := be1.cell 4
    have e5 := be1.cell 5
    have e6 := be1.cell 6
    have z0 := bz1.cell 0
    have z1 := bz1.cell 1
    have zf0 := bz1.frozen 0
    have zf1 := bz1.frozen 1
    have zl := bz1.lt
    have el := be1.lt
    have ql := bx1.lt
    clear ho1 hb1
    go_wp2_with fail
    refine (HQ.out _).mono ?_
    rintro e w2 ⟨v2, rfl, ho2, hb2⟩
    have hr2 : By w2 v2 y.enc := Sl.of_own ho2
    obtain ⟨A2, c2, rfl, hc2, -⟩ := hr2.at_
    clear q0 q1 e0 e1 e2 e3 e4 e5 e6 z0 z1 zf0 zf1 zl el ql
    have bx2 := bx1.below hb2 bx1.lt
    have be2 := be1.below hb2 be1.lt
    have bz2 := bz1.below hb2 bz1.lt
    have hw2 := hw1.trans (hb2.mono hw1.size)
    have q0 := bx2.cell 0
    have q1 := bx2.cell 1
    have e0 := be2.cell 0
    have e1 := be2.cell 1
    have e2 := be2.cell 2
    have e3 := be2.cell 3
    have e4 := be2.cell 4
    have e5 := be2.cell 5
    have e6 := be2.cell 6
    have z0 := bz2.cell 0
    have z1 := bz2.cell 1
    have zf0 := bz2.frozen 0
    have zf1 := bz2.frozen 1
    have zl := bz2.lt
    have el := be2.lt
    have ql := bx2.lt
    clear ho2 hb2
    go_wp2
    obtain ⟨r0, r1, ro, rb⟩ := log_stored (v := .slice none 0 0) (s := 0) bz2 rfl
    generalize (w2.setCell ⟨w.heap.size + 2, 0, none⟩ (.slice none 0 0)).setCell ⟨w.heap.size + 2, 1, none⟩ (.int .i64 0) = W6 at *
    exact bodyPost_ret (v := .tuple #[.agg #[.slice none 0 0, .int .i64 0], .int .i64 16]) (by simp [results, Try.results46, go_sem, r0, r1]) rfl ⟨.slice none 0 0, rfl, World.ownsRow_nil _ _ _ _, rb _ _ (by omega) hw2⟩
  · have z5 : decide ((400 : Int) ≤ (es.length : Int)) = false := decide_eq_false (by omega)
    have z5' : decide (400 ≤ es.length) = false := decide_eq_false (by omega)
    have z6 : decide ((40000 : Int) < (l.length : Int) + (y.enc.length : Int)) = true := decide_eq_true (by omega)
    go_enter Try.func46, Try.ntmps46
    go_wp2_with fail
    refine HE.out.mono ?_
    rintro e w1 ⟨v1, rfl, ho1, hb1⟩
    obtain ⟨A1, c1, rfl, hc1⟩ := (Sl.of_own ho1).form
    have bx1 := hbx.below hb1 hbx.lt
    have be1 := hbe.below hb1 hbe.lt
    have bz1 := hbz.below hb1 hbz.lt
    have hw1 := hbl.trans (hb1.mono hbl.size)
    have q0 := bx1.cell 0
    have q1 := bx1.cell 1
    have e0 := be1.cell 0
    have e1 := be1.cell 1
    have e2 := be1.cell 2
    have e3 := be1.cell 3
    have e4 := be1.cell 4
    have e5 := be1.cell 5
    have e6 := be1.cell 6
    have z0 := bz1.cell 0
    have z1 := bz1.cell 1
    have zf0 := bz1.frozen 0
    have zf1 := bz1.frozen 1
    have zl := bz1.lt
    have el := be1.lt
    have ql := bx1.lt
    clear ho1 hb1
    go_wp2_with fail
    refine (HQ.out _).mono ?_
    rintro e w2 ⟨v2, rfl, ho2, hb2⟩
    have hr2 : By w2 v2 y.enc := Sl.of_own ho2
    obtain ⟨A2, c2, rfl, hc2, -⟩ := hr2.at_
    clear q0 q1 e0 e1 e2 e3 e4 e5 e6 z0 z1 zf0 zf1 zl el ql
    have bx2 := bx1.below hb2 bx1.lt
    have be2 := be1.below hb2 be1.lt
    have bz2 := bz1.below hb2 bz1.lt
    have hw2 := hw1.trans (hb2.mono hw1.size)
    have q0 := bx2.cell 0
    have q1 := bx2.cell 1
    have e0 := be2.cell 0
    have e1 := be2.cell 1
    have e2 := be2.cell 2
    have e3 := be2.cell 3
    have e4 := be2.cell 4
    have e5 := be2.cell 5
    have e6 := be2.cell 6
    have z0 := bz2.cell 0
    have z1 := bz2.cell 1
    have zf0 := bz2.frozen 0
    have zf1 := bz2.frozen 1
    have zl := bz2.lt
    have el := be2.lt
    have ql := bx2.lt
    clear ho2 hb2
    go_wp2
    obtain ⟨r0, r1, ro, rb⟩ := log_stored (v := .slice none 0 0) (s := 0) bz2 rfl
    generalize (w2.setCell ⟨w.heap.size + 2, 0, none⟩ (.slice none 0 0)).setCell ⟨w.heap.size + 2, 1, none⟩ (.int .i64 0) = W6 at *
    exact bodyPost_ret (v := .tuple #[.agg #[.slice none 0 0, .int .i64 0], .int .i64 16]) (by simp [results, Try.results46, go_sem, r0, r1]) rfl ⟨.slice none 0 0, rfl, World.ownsRow_nil _ _ _ _, rb _ _ (by omega) hw2⟩

set_option maxRecDepth 100000 in
set_option maxHeartbeats 2000000 in
theorem appendedOf_ok (v : Value) (l : List UInt8) (s : Int) (y : Ent) (w : World) (hv : By w v l) {es : List Ent} {j : Nat} (h : LogIs ⟨l, s⟩ es j) (hy : y.ok) (hf : ¬ (es.length = 400 ∨ 40000 < l.length + y.enc.length)) :
    Calls Try.prog 46 #[.agg #[v, .int .i64 s], .agg #[.int .i64 y.ep, .int .i64 y.pid, .int .i64 y.ver, .int .i64 y.seq, .int .i64 y.kind, .bool y.txn, .string y.text]] w (LogPost ⟨l ++ y.enc, s⟩ 0 w) := by
  obtain ⟨A, c, rfl, hc, -⟩ := hv.at_
  have HV := Lib.hid hv
  have hbx := ((Blk.new w 42 #[.slice A l.length c, .int .i64 s]).alloc (.cells #[.int .i64 y.ep, .int .i64 y.pid, .int .i64 y.ver, .int .i64 y.seq, .int .i64 y.kind, .bool y.txn, .string y.text] 55)).alloc (.cells #[.slice none 0 0, .int .i64 0] 42)
  have hbe := (Blk.new (w.alloc (.cells #[.slice A l.length c, .int .i64 s] 42)) 55 #[.int .i64 y.ep, .int .i64 y.pid, .int .i64 y.ver, .int .i64 y.seq, .int .i64 y.kind, .bool y.txn, .string y.text]).alloc (.cells #[.slice none 0 0, .int .i64 0] 42)
  have hbz := Blk.new ((w.alloc (.cells #[.slice A l.length c, .int .i64 s] 42)).alloc (.cells #[.int .i64 y.ep, .int .i64 y.pid, .int .i64 y.ver, .int .i64 y.seq, .int .i64 y.kind, .bool y.txn, .string y.text] 55)) 42 #[.slice none 0 0, .int .i64 0]
  have hbl : Below w.heap.size w (((w.alloc (.cells #[.slice A l.length c, .int .i64 s] 42)).alloc (.cells #[.int .i64 y.ep, .int .i64 y.pid, .int .i64 y.ver, .int .i64 y.seq, .int .i64 y.kind, .bool y.txn, .string y.text] 55)).alloc (.cells #[.slice none 0 0, .int .i64 0] 42)) := (((Below.refl _ _).alloc (Nat.le_refl _) _).alloc (by simp) _).alloc (by simp; omega) _
  simp only [World.size_alloc] at hbz hbe
  have hv0 := hv.below hbl
  clear hv
  obtain ⟨hlen, k, rfl, hk, -, -, -⟩ := log_long h
  have HE := Lib.hid (entriesOf_ok _ l k _ hv0 h)
  have hmany := h.many
  have hbytes : Hid (l = flat es) := Lib.hid h.bytes
  clear h
  have hq := fun W => entryBytes_ent y W hy
  have HQ := Lib.hid hq
  have hen := Ent.enc_len y
  have hbl2 := Ent.body_len_ hy
  have hyl : 4 ≤ y.enc.length ∧ y.enc.length ≤ 64 := by omega
  clear hq hen hbl2
  have z5 : decide ((400 : Int) ≤ (es.length : Int)) = false := decide_eq_false (by omega)
  have z5' : decide (400 ≤ es.length) = false := decide_eq_false (by omega)
  have z6 : decide ((40000 : Int) < (l.length : Int) + (y.enc.length : Int)) = false := decide_eq_false (by omega)
  have hal : (l ++ y.enc).length = l.length + y.enc.length := List.length_append
  have HAL := Lib.hid hal
  clear hal
  go_enter Try.func46, Try.ntmps46
  go_wp2_with fail
  refine HE.out.mono ?_
  rintro e w1 ⟨v1, rfl, ho1, hb1⟩
  obtain ⟨A1, c1, rfl, hc1⟩ := (Sl.of_own ho1).form
  have bx1 := hbx.below hb1 hbx.lt
  have be1 := hbe.below hb1 hbe.lt
  have bz1 := hbz.below hb1 hbz.lt
  have hw1 := hbl.trans (hb1.mono hbl.size)
  have q0 := bx1.cell 0
  have q1 := bx1.cell 1
  have e0 := be1.cell 0
  have e1 := be1.cell 1
  have e2 := be1.cell 2
  have e3 := be1.cell 3
  have e4 := be1.cell 4
  have e5 := be1.cell 5
  have e6 := be1.cell 6
  have z0 := bz1.cell 0
  have z1 := bz1.cell 1
  have zf0 := bz1.frozen 0
  have zf1 := bz1.frozen 1
  have zl := bz1.lt
  have el := be1.lt
  have ql := bx1.lt
  clear ho1 hb1
  go_wp2_with fail
  refine (HQ.out _).mono ?_
  rintro e w2 ⟨v2, rfl, ho2, hb2⟩
  have hr2 : By w2 v2 y.enc := Sl.of_own ho2
  obtain ⟨A2, c2, rfl, hc2, -⟩ := hr2.at_
  clear q0 q1 e0 e1 e2 e3 e4 e5 e6 z0 z1 zf0 zf1 zl el ql
  have bx2 := bx1.below hb2 bx1.lt
  have be2 := be1.below hb2 be1.lt
  have bz2 := bz1.below hb2 bz1.lt
  have hw2 := hw1.trans (hb2.mono hw1.size)
  have q0 := bx2.cell 0
  have q1 := bx2.cell 1
  have e0 := be2.cell 0
  have e1 := be2.cell 1
  have e2 := be2.cell 2
  have e3 := be2.cell 3
  have e4 := be2.cell 4
  have e5 := be2.cell 5
  have e6 := be2.cell 6
  have z0 := bz2.cell 0
  have z1 := bz2.cell 1
  have zf0 := bz2.frozen 0
  have zf1 := bz2.frozen 1
  have zl := bz2.lt
  have el := be2.lt
  have ql := bx2.lt
  clear ho2 hb2
  have hbd := (Below.refl w2.heap.size w2).drew
  have hal := HAL.out
  generalize hcat : l ++ y.enc = cat at *
  have HCAT := Lib.hid hcat
  have HAL2 := Lib.hid hal
  clear hcat hal
  go_wp2_with fail
  go_region_with (go_at_call 79; refine (bytesCopy_two (HV.out.below hw2) hr2 hbd (by omega)).mono ?_; rw [HCAT.out]; rintro e w5 ⟨v5, rfl, ho5, hb5⟩; have ho5 := own_eq ho5 HAL2.out.symm rfl; obtain ⟨A5, c5, rfl, hc5⟩ := (Sl.of_own ho5).form; have hbel := below_then hbd hb5; have bx5 := bx2.below hbel bx2.lt; have bz5 := bz2.below hbel bz2.lt; have y0 := bx5.cell 0; have y1 := bx5.cell 1; have u0 := bz5.cell 0; have u1 := bz5.cell 1; have uf0 := bz5.frozen 0; have uf1 := bz5.frozen 1; have ul := bz5.lt; have yl := bx5.lt)
  all_goals go_wp2
  all_goals obtain ⟨r0, r1, ro, rb⟩ := log_stored (v := .slice A5 cat.length c5) (s := k) bz5 rfl
  all_goals generalize (w5.setCell ⟨w.heap.size + 2, 0, none⟩ (.slice A5 cat.length c5)).setCell ⟨w.heap.size + 2, 1, none⟩ (.int .i64 k) = W6 at *
  all_goals exact bodyPost_ret (v := .tuple #[.agg #[.slice A5 cat.length c5, .int .i64 k], .int .i64 0]) (by simp [results, Try.results46, go_sem, r0, r1]) rfl ⟨.slice A5 cat.length c5, rfl, ro _ _ _ _ (own_base ho5 hw2.size), rb _ _ (by omega) (hw2.trans (hbel.mono hw2.size))⟩

end Go.Proofs.Ytpjjfnpdopdnkaa
