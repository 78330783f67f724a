/- Parts that may be; part.ends, tailraceref.logOf and safeOf: what a replica's log holds. -/
import Derived.Test.YtpjjfnpdopdnkaaPartC
import Derived.Test.YtpjjfnpdopdnkaaSegD
import Derived.Test.YtpjjfnpdopdnkaaInB
namespace Go.Proofs.Ytpjjfnpdopdnkaa
open Go.RowKit

def RepD.log (t : RepD) : LogD := ⟨t.bytes, t.synced⟩
/-- so many entries, so many that are safe -/
def RepD.all (t : RepD) : Nat := (dec t.bytes).1.length
def RepD.safe (t : RepD) : Nat := (dec (t.bytes.take t.synced.toNat)).1.length
def RepOk (t : RepD) (k : Int) : Prop := logFault t.log = 0 ∧ 0 ≤ t.high ∧ t.high ≤ (t.all : Int) ∧ 0 ≤ k ∧ k ≤ 400
def RepsTo (c : PartD) (n : Nat) : Prop := ∀ i, i < n → ∀ (h : i < c.reps.length) (h' : i < c.known.length), RepOk c.reps[i] c.known[i]
def LedOk (c : PartD) : Prop := ∀ i : Nat, c.leader = i → ∀ (h : i < c.isr.length) (h' : i < c.reps.length), c.isr[i] = true ∧ c.reps[i].up = true
structure PartOk (c : PartD) : Prop where
  many : 1 ≤ c.reps.length ∧ c.reps.length ≤ 5
  isr : c.isr.length = c.reps.length
  known : c.known.length = c.reps.length
  few : 1 ≤ c.few ∧ c.few ≤ c.reps.length
  epoch : 0 ≤ c.epoch ∧ c.epoch ≤ 1073741824
  leader : -1 ≤ c.leader ∧ c.leader < c.reps.length
  base : 0 ≤ c.base ∧ c.base ≤ 400
  some_ : true ∈ c.isr
  led : LedOk c
  reps : RepsTo c c.reps.length
theorem logIs_parts {l : LogD} {es : List Ent} {j : Nat} (h : LogIs l es j) : (dec l.bytes).1 = es ∧ (dec (l.bytes.take l.synced.toNat)).1.length = j := by
  rw [h.dec_, h.safe]
  have := h.jle
  exact ⟨rfl, by simp; omega⟩
theorem RepD.ents {t : RepD} {es : List Ent} {j : Nat} (h : LogIs t.log es j) : t.all = es.length ∧ t.safe = j := by
  obtain ⟨h1, h2⟩ := logIs_parts h
  exact ⟨congrArg List.length h1, h2⟩
theorem PartOk.log {c : PartD} (h : PartOk c) (i : Nat) (hi : i < c.reps.length) : ∃ es j, LogIs c.reps[i].log es j :=
  ⟨_, _, logIs_of (h.reps i hi hi (by rw [h.known]; exact hi)).1⟩

set_option maxRecDepth 100000 in
set_option maxHeartbeats 1000000 in
theorem ends_bad (v : Value) (c : PartD) (i : Nat) (w : World) (h : Pv w v c) (hi : i < c.reps.length) (hf : logFault c.reps[i].log ≠ 0) :
    Calls Try.prog 81 #[v, .int .i64 i] w fun e w' => e = .returned (.tuple #[.int .i64 0, .int .i64 0]) ∧ Below w.heap.size w w' := by
  obtain ⟨xi, xk, xr, rfl, ix, kx, rx, hli, hlk, hlr⟩ := h
  obtain ⟨A5, c5, rfl, hc5, hx2⟩ := rx.at_
  obtain ⟨A1, c1, rfl, hc1, -⟩ := ix.at_
  obtain ⟨A3, c3, rfl, hc3, -⟩ := kx.at_
  obtain ⟨b, off, rfl, hb, hcell⟩ := hx2 (by omega)
  obtain ⟨pv, x0, x1, x2, x3, xb, xl⟩ := hcell i hi
  unfold partV
  obtain ⟨ep, ld, is, ks, rs, fw, ba⟩ := c
  simp only at *
  have hbl : Below w.heap.size w (w.alloc (.cells #[.int .i64 ep, .int .i64 ld, .slice A1 is.length c1, .slice A3 ks.length c3, .slice (some ⟨b, off, none⟩) rs.length c5, .int .i64 fw, .int .i64 ba] 26)) := (Below.refl _ _).alloc (Nat.le_refl _) _
  have hq := segEntries_bad pv rs[i].bytes rs[i].synced _ (xb.below hbl) xl hf
  obtain ⟨A7, c7, rfl, hc7, -⟩ := xb.at_
  have i0 : (0 : Int) ≤ (i : Int) := by omega
  have i1 : (i : Int) < (rs.length : Int) := Int.ofNat_lt.2 hi
  have HLR := Lib.hid hlr
  clear hcell hx2 xb ix kx rx hf hlr
  generalize logFault ⟨rs[i].bytes, rs[i].synced⟩ = x at *
  generalize rs[i] = t at *
  go_enter Try.func81, Try.ntmps81
  go_wp2_with fail
  refine hq.mono ?_
  rintro e w1 ⟨rfl, hb1⟩
  go_wp2
  go_ret2
  exact ⟨rfl, hbl.trans (hb1.mono hbl.size)⟩

set_option maxRecDepth 100000 in
set_option maxHeartbeats 1000000 in
theorem ends_ok (v : Value) (c : PartD) (i : Nat) (w : World) (h : Pv w v c) (hi : i < c.reps.length) {es : List Ent} {j : Nat} (hl : LogIs c.reps[i].log es j) :
    Calls Try.prog 81 #[v, .int .i64 i] w fun e w' => e = .returned (.tuple #[.int .i64 (es.length : Int), .int .i64 (j : Int)]) ∧ Below w.heap.size w w' := by
  obtain ⟨xi, xk, xr, rfl, ix, kx, rx, hli, hlk, hlr⟩ := h
  obtain ⟨A5, c5, rfl, hc5, hx2⟩ := rx.at_
  obtain ⟨A1, c1, rfl, hc1, -⟩ := ix.at_
  obtain ⟨A3, c3, rfl, hc3, -⟩ := kx.at_
  obtain ⟨b, off, rfl, hb, hcell⟩ := hx2 (by omega)
  obtain ⟨pv, x0, x1, x2, x3, xb, xl⟩ := hcell i hi
  unfold partV
  obtain ⟨ep, ld, is, ks, rs, fw, ba⟩ := c
  simp only at *
  have hbl : Below w.heap.size w (w.alloc (.cells #[.int .i64 ep, .int .i64 ld, .slice A1 is.length c1, .slice A3 ks.length c3, .slice (some ⟨b, off, none⟩) rs.length c5, .int .i64 fw, .int .i64 ba] 26)) := (Below.refl _ _).alloc (Nat.le_refl _) _
  have hq := segEntries_ok pv rs[i].bytes rs[i].synced _ (xb.below hbl) hl
  obtain ⟨A7, c7, rfl, hc7, -⟩ := xb.at_
  have i0 : (0 : Int) ≤ (i : Int) := by omega
  have i1 : (i : Int) < (rs.length : Int) := Int.ofNat_lt.2 hi
  have HLR := Lib.hid hlr
  clear hcell hx2 xb ix kx rx hl hlr
  generalize rs[i] = t at *
  go_enter Try.func81, Try.ntmps81
  go_wp2_with fail
  refine hq.mono ?_
  rintro e w1 ⟨v1, rfl, ho1, hb1⟩
  obtain ⟨A2, c2, rfl, hc2⟩ := (Sl.of_own ho1).form
  go_wp2
  go_ret2
  exact ⟨rfl, hbl.trans (hb1.mono hbl.size)⟩

set_option maxRecDepth 100000 in
set_option maxHeartbeats 1000000 in
theorem logOf_any (v : Value) (c : PartD) (i : Nat) (w : World) (h : Pv w v c) (hi : i < c.reps.length) {es : List Ent} {j : Nat} (hl : LogIs c.reps[i].log es j) :
    Calls Try.prog 82 #[v, .int .i64 i] w fun e w' => ∃ v', e = .returned v' ∧ w'.ownsRow w.heap.size 55 7 v' es.length (ecs es) ∧ Below w.heap.size w w' := by
  obtain ⟨xi, xk, xr, rfl, ix, kx, rx, hli, hlk, hlr⟩ := h
  obtain ⟨A5, c5, rfl, hc5, hx2⟩ := rx.at_
  obtain ⟨A1, c1, rfl, hc1, -⟩ := ix.at_
  obtain ⟨A3, c3, rfl, hc3, -⟩ := kx.at_
  obtain ⟨b, off, rfl, hb, hcell⟩ := hx2 (by omega)
  obtain ⟨pv, x0, x1, x2, x3, xb, xl⟩ := hcell i hi
  unfold partV
  obtain ⟨ep, ld, is, ks, rs, fw, ba⟩ := c
  simp only at *
  have hbl : Below w.heap.size w (w.alloc (.cells #[.int .i64 ep, .int .i64 ld, .slice A1 is.length c1, .slice A3 ks.length c3, .slice (some ⟨b, off, none⟩) rs.length c5, .int .i64 fw, .int .i64 ba] 26)) := (Below.refl _ _).alloc (Nat.le_refl _) _
  have hlong : rs[i].bytes.length ≤ 1099511627776 := by have h1 := hl.long; rw [← hl.bytes] at h1; exact Nat.le_trans h1 (by decide)
  have hq := entriesIn_eq (xb.below hbl) hlong hl.dec_
  obtain ⟨A7, c7, rfl, hc7, -⟩ := xb.at_
  have i0 : (0 : Int) ≤ (i : Int) := by omega
  have i1 : (i : Int) < (rs.length : Int) := Int.ofNat_lt.2 hi
  have HLR := Lib.hid hlr
  clear hcell hx2 xb ix kx rx hl hlr
  unfold RepD.log at hq
  simp only at hq
  generalize rs[i] = t at *
  go_enter Try.func82, Try.ntmps82
  go_wp2_with fail
  refine hq.mono ?_
  rintro e w1 ⟨v1, rfl, ho1, hb1⟩
  obtain ⟨A2, c2, rfl, hc2⟩ := (Sl.of_own ho1).form
  go_wp2
  go_ret
  exact ⟨_, rfl, own_base ho1 hbl.size, hbl.trans (hb1.mono hbl.size)⟩

set_option maxRecDepth 100000 in
set_option maxHeartbeats 1000000 in
theorem safeOf_any (v : Value) (c : PartD) (i : Nat) (w : World) (h : Pv w v c) (hi : i < c.reps.length) {es : List Ent} {j : Nat} (hl : LogIs c.reps[i].log es j) :
    Calls Try.prog 92 #[v, .int .i64 i] w fun e w' => e = .returned (.int .i64 (j : Int)) ∧ Below w.heap.size w w' := by
  obtain ⟨xi, xk, xr, rfl, ix, kx, rx, hli, hlk, hlr⟩ := h
  obtain ⟨A5, c5, rfl, hc5, hx2⟩ := rx.at_
  obtain ⟨A1, c1, rfl, hc1, -⟩ := ix.at_
  obtain ⟨A3, c3, rfl, hc3, -⟩ := kx.at_
  obtain ⟨b, off, rfl, hb, hcell⟩ := hx2 (by omega)
  obtain ⟨pv, x0, x1, x2, x3, xb, xl⟩ := hcell i hi
  unfold partV
  obtain ⟨ep, ld, is, ks, rs, fw, ba⟩ := c
  simp only at *
  have hbl : Below w.heap.size w (w.alloc (.cells #[.int .i64 ep, .int .i64 ld, .slice A1 is.length c1, .slice A3 ks.length c3, .slice (some ⟨b, off, none⟩) rs.length c5, .int .i64 fw, .int .i64 ba] 26)) := (Below.refl _ _).alloc (Nat.le_refl _) _
  have hl' : LogIs ⟨rs[i].bytes, rs[i].synced⟩ es j := hl
  clear hl
  generalize rs[i] = t at *
  obtain ⟨up, bs, sy, hg⟩ := t
  simp only at *
  obtain ⟨hlen, k, rfl, hk, d2, hj, d1⟩ := log_long hl'
  have hbl2 := hbl.alloc hbl.size (.cells #[pv, .int .i64 (k : Int)] 42)
  obtain ⟨A7, c7, rfl, hc7, -⟩ := xb.at_
  have hx := By.take_ (n := k) (xb.below hbl2) hk
  have hxl : (bs.take k).length = k := by rw [List.length_take]; omega
  rw [hxl] at hx
  have hq := entriesIn_eq hx (by omega) d2
  rw [hj] at hq
  have i0 : (0 : Int) ≤ (i : Int) := by omega
  have i1 : (i : Int) < (rs.length : Int) := Int.ofNat_lt.2 hi
  have i2 : (0 : Int) ≤ (k : Int) := by omega
  have i3 : (k : Int) ≤ (c7 : Int) := by omega
  have HLR := Lib.hid hlr
  clear hcell hx2 xb ix kx rx hl' hlr hxl d1 d2 hj
  go_enter Try.func92, Try.ntmps92
  go_wp2_with fail
  refine hq.mono ?_
  rintro e w1 ⟨v1, rfl, ho1, hb1⟩
  obtain ⟨A2, c2, rfl, hc2⟩ := (Sl.of_own ho1).form
  go_wp2
  go_ret
  exact ⟨rfl, hbl2.trans (hb1.mono hbl2.size)⟩
end Go.Proofs.Ytpjjfnpdopdnkaa
