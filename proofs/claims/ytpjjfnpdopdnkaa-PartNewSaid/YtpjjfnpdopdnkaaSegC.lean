/- seg.Entries and tailraceref.EntriesOf: the entries of a log. -/
import Derived.Test.YtpjjfnpdopdnkaaSegB
namespace Go.Proofs.Ytpjjfnpdopdnkaa
open Go.RowKit

/-- what both answer of a log that may be -/
def EntsPost (es : List Ent) (j : Nat) (w : World) (e : Ending) (w' : World) : Prop := ∃ v', e = .returned (.tuple #[v', .int .i64 (j : Int), .int .i64 0]) ∧ w'.ownsRow w.heap.size 55 7 v' es.length (ecs es) ∧ Below w.heap.size w w'
theorem log_long {l : List UInt8} {s : Int} {es : List Ent} {j : Nat} (h : LogIs ⟨l, s⟩ es j) : l.length ≤ 40000 ∧ ∃ k : Nat, s = (k : Int) ∧ k ≤ l.length ∧ dec (l.take k) = (es.take j, k) ∧ (es.take j).length = j ∧ dec l = (es, l.length) := by
  have h1 := h.long
  have h2 := h.bytes
  have h3 := h.safe
  have h4 := h.le
  have h5 := h.nonneg
  have h6 := h.jle
  have h7 := h.dec_
  simp only at h2 h3 h4 h5 h7
  rw [← h2] at h1
  exact ⟨h1, s.toNat, by omega, by omega, h3, by simp; omega, h7⟩

set_option maxRecDepth 100000 in
set_option maxHeartbeats 1000000 in
theorem segEntries_bad (v : Value) (l : List UInt8) (s : Int) (w : World) (hv : By w v l) (hl : l.length ≤ 9223372036854775807) (hf : logFault ⟨l, s⟩ ≠ 0) :
    Calls Try.prog 34 #[.agg #[v, .int .i64 s]] w fun e w' => e = .returned (.tuple #[.slice none 0 0, .int .i64 0, .int .i64 (logFault ⟨l, s⟩)]) ∧ Below w.heap.size w w' := by
  obtain ⟨A, c, rfl, hc, -⟩ := hv.at_
  have hbl0 : Below w.heap.size w (w.alloc (.cells #[.slice A l.length c, .int .i64 s] 42)) := (Below.refl _ _).alloc (Nat.le_refl _) _
  have hv0 := hv.below hbl0
  have hq := segCheck_any _ l s _ hv0 hl
  generalize logFault ⟨l, s⟩ = x at *
  have zx : (x != 0) = true := by simp only [bne_iff_ne]; exact hf
  clear hv hf
  go_enter Try.func34, Try.ntmps34
  go_wp2_with fail
  refine hq.mono ?_
  rintro e w1 ⟨rfl, hb1⟩
  go_wp2
  exact bodyPost_ret (v := .tuple #[.slice none 0 0, .int .i64 0, .int .i64 x]) (by simp [results, Try.results34, go_sem]) rfl ⟨rfl, hbl0.trans (hb1.mono hbl0.size)⟩

set_option maxRecDepth 100000 in
set_option maxHeartbeats 1000000 in
theorem segEntries_ok (v : Value) (l : List UInt8) (s : Int) (w : World) (hv : By w v l) {es : List Ent} {j : Nat} (h : LogIs ⟨l, s⟩ es j) :
    Calls Try.prog 34 #[.agg #[v, .int .i64 s]] w (EntsPost es j w) := by
  obtain ⟨A, c, rfl, hc, -⟩ := hv.at_
  have HV := Lib.hid hv
  have hb0 := Blk.new w 42 #[.slice A l.length c, .int .i64 s]
  have hbl0 : Below w.heap.size w (w.alloc (.cells #[.slice A l.length c, .int .i64 s] 42)) := (Below.refl _ _).alloc (Nat.le_refl _) _
  have hv0 := hv.below hbl0
  have HX := Lib.hid h.fault
  obtain ⟨hlen, k, rfl, hk, d2, hj, d1⟩ := log_long h
  have D1 := Lib.hid d1
  have D2 := Lib.hid d2
  have HJ := Lib.hid hj
  clear hv h d1 d2 hj
  go_enter Try.func34, Try.ntmps34
  go_wp2_with fail
  refine (segCheck_any _ l k _ hv0 (by omega)).mono ?_
  rintro e w1 ⟨rfl, hb1⟩
  rw [HX.out]
  have hbl1 := hbl0.trans (hb1.mono hbl0.size)
  have hb1' := hb0.below hb1 hb0.lt
  have x0 := hb1'.cell 0
  have x1 := hb1'.cell 1
  clear hb1 hb0 hbl0 hv0
  go_wp2_with fail
  refine (decode_eq (HV.out.below hbl1) (by omega) D1.out).mono ?_
  rintro e w2 ⟨v2, rfl, ho2, hb2⟩
  obtain ⟨A2, c2, rfl, hc2⟩ := (Sl.of_own ho2).form
  have hbl2 := hbl1.trans (hb2.mono hbl1.size)
  have hb2' := hb1'.below hb2 hb1'.lt
  have y0 := hb2'.cell 0
  have y1 := hb2'.cell 1
  have hx := By.take_ (n := k) (HV.out.below hbl2) hk
  have hxl : (l.take k).length = k := by rw [List.length_take]; omega
  rw [hxl] at hx
  have i0 : (0 : Int) ≤ (k : Int) := by omega
  have i1 : (k : Int) ≤ (c : Int) := by omega
  have HB2 := Lib.hid hbl2
  have HO2 := Lib.hid ho2
  have HS1 := hbl1.size
  clear hb2 hb1' hb2' hbl2 ho2 hbl1 x0 x1
  go_wp2_with fail
  refine (decode_eq hx (by rw [hxl]; omega) D2.out).mono ?_
  rintro e w3 ⟨v3, rfl, ho3, hb3⟩
  rw [HJ.out] at ho3
  obtain ⟨A3, c3, rfl, hc3⟩ := (Sl.of_own ho3).form
  go_wp2
  exact bodyPost_ret (v := .tuple #[.slice A2 es.length c2, .int .i64 j, .int .i64 0]) (by simp [results, Try.results34, go_sem]) rfl ⟨_, rfl, own_base (own_keep HO2.out hb3 (fun b hb => (HO2.out.lt b hb).2)) HS1, below_then HB2.out hb3⟩

set_option maxRecDepth 100000 in
set_option maxHeartbeats 1000000 in
theorem entriesOf_bad (v : Value) (l : List UInt8) (s : Int) (w : World) (hv : By w v l) (hl : l.length ≤ 9223372036854775807) (hf : logFault ⟨l, s⟩ ≠ 0) :
    Calls Try.prog 35 #[.agg #[v, .int .i64 s]] w fun e w' => e = .returned (.tuple #[.slice none 0 0, .int .i64 0, .int .i64 (logFault ⟨l, s⟩)]) ∧ Below w.heap.size w w' := by
  obtain ⟨A, c, rfl, hc, -⟩ := hv.at_
  have hbl0 : Below w.heap.size w (w.alloc (.cells #[.slice A l.length c, .int .i64 s] 42)) := (Below.refl _ _).alloc (Nat.le_refl _) _
  have hv0 := hv.below hbl0
  have hq := logFault_any _ l s _ hv0 hl
  generalize logFault ⟨l, s⟩ = x at *
  have zx : (x != 0) = true := by simp only [bne_iff_ne]; exact hf
  clear hv hf
  go_enter Try.func35, Try.ntmps35
  go_wp2_with fail
  refine hq.mono ?_
  rintro e w1 ⟨rfl, hb1⟩
  go_wp2
  exact bodyPost_ret (v := .tuple #[.slice none 0 0, .int .i64 0, .int .i64 x]) (by simp [results, Try.results35, go_sem]) rfl ⟨rfl, hbl0.trans (hb1.mono hbl0.size)⟩

set_option maxRecDepth 100000 in
set_option maxHeartbeats 1000000 in
theorem entriesOf_ok (v : Value) (l : List UInt8) (s : Int) (w : World) (hv : By w v l) {es : List Ent} {j : Nat} (h : LogIs ⟨l, s⟩ es j) :
    Calls Try.prog 35 #[.agg #[v, .int .i64 s]] w (EntsPost es j w) := by
  obtain ⟨A, c, rfl, hc, -⟩ := hv.at_
  have HV := Lib.hid hv
  have hb0 := Blk.new w 42 #[.slice A l.length c, .int .i64 s]
  have hbl0 : Below w.heap.size w (w.alloc (.cells #[.slice A l.length c, .int .i64 s] 42)) := (Below.refl _ _).alloc (Nat.le_refl _) _
  have hv0 := hv.below hbl0
  have HX := Lib.hid h.fault
  obtain ⟨hlen, k, rfl, hk, d2, hj, d1⟩ := log_long h
  have D1 := Lib.hid d1
  have D2 := Lib.hid d2
  have HJ := Lib.hid hj
  clear hv h d1 d2 hj
  go_enter Try.func35, Try.ntmps35
  go_wp2_with fail
  refine (logFault_any _ l k _ hv0 (by omega)).mono ?_
  rintro e w1 ⟨rfl, hb1⟩
  rw [HX.out]
  have hbl1 := hbl0.trans (hb1.mono hbl0.size)
  have hb1' := hb0.below hb1 hb0.lt
  have x0 := hb1'.cell 0
  have x1 := hb1'.cell 1
  clear hb1 hb0 hbl0 hv0
  go_wp2_with fail
  refine (entriesIn_eq (HV.out.below hbl1) (by omega) D1.out).mono ?_
  rintro e w2 ⟨v2, rfl, ho2, hb2⟩
  obtain ⟨A2, c2, rfl, hc2⟩ := (Sl.of_own ho2).form
  have hbl2 := hbl1.trans (hb2.mono hbl1.size)
  have hb2' := hb1'.below hb2 hb1'.lt
  have y0 := hb2'.cell 0
  have y1 := hb2'.cell 1
  have hx := By.take_ (n := k) (HV.out.below hbl2) hk
  have hxl : (l.take k).length = k := by rw [List.length_take]; omega
  rw [hxl] at hx
  have i0 : (0 : Int) ≤ (k : Int) := by omega
  have i1 : (k : Int) ≤ (c : Int) := by omega
  have HB2 := Lib.hid hbl2
  have HO2 := Lib.hid ho2
  have HS1 := hbl1.size
  clear hb2 hb1' hb2' hbl2 ho2 hbl1 x0 x1
  go_wp2_with fail
  refine (entriesIn_eq hx (by rw [hxl]; omega) D2.out).mono ?_
  rintro e w3 ⟨v3, rfl, ho3, hb3⟩
  rw [HJ.out] at ho3
  obtain ⟨A3, c3, rfl, hc3⟩ := (Sl.of_own ho3).form
  go_wp2
  exact bodyPost_ret (v := .tuple #[.slice A2 es.length c2, .int .i64 j, .int .i64 0]) (by simp [results, Try.results35, go_sem]) rfl ⟨_, rfl, own_base (own_keep HO2.out hb3 (fun b hb => (HO2.out.lt b hb).2)) HS1, below_then HB2.out hb3⟩

end Go.Proofs.Ytpjjfnpdopdnkaa
