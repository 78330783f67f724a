/- tailraceref.CheckedOf. -/
import Derived.Test.YthefakbhaaponaaViewG
import Derived.Test.YthefakbhaaponaaViewD
namespace Go.Proofs.Ythefakbhaaponaa
open Go.RowKit

theorem seqTo_bnd {es : List Ent} {pid : Int} (hp : PlainE es) : ∀ k : Nat, k ≤ es.length → -1 ≤ (seqTo es pid k).1 ∧ (seqTo es pid k).1 ≤ 1073741824
  | 0, _ => by simp [seqTo]
  | k + 1, h => by
    have ih := seqTo_bnd (pid := pid) hp k (by omega)
    have hlt : k < es.length := by omega
    have hk := hp k hlt
    by_cases hq : es[k].pid = pid
    · rw [seqTo_hit hlt hq]
      simp only
      split
      · omega
      · split <;> omega
    · rw [seqTo_miss hlt hq]; exact ih
/-- what the four loops answer, beside what is known of the producer -/
structure RefQ (es : List Ent) (x : Ent) (q : PrD) (vT mT oT sT : Int) : Prop where
  ver : verTo es x.pid es.length = vT
  mark : markTo es x.pid es.length = mT
  opn : openTo es x.pid es.length = oT
  seq : (seqTo es x.pid es.length).1 = sT
  fence : x.ver < vT ↔ x.ver < q.ver
  mk_ : mT = q.mark
  on_ : oT = q.opn
  bd : -1 ≤ mT ∧ mT < es.length ∧ -1 ≤ sT ∧ sT ≤ 1073741824
  new_ : ¬ x.ver < q.ver → q.ver < x.ver → x.ver ≠ vT
  old : ¬ x.ver < q.ver → ¬ q.ver < x.ver → (x.ver = vT ∧ sT = q.seq) ∨ (x.ver ≠ vT ∧ q.seq = -1)
theorem refQ_ex {es : List Ent} (hp : PlainE es) (x : Ent) (hx : 0 ≤ x.ver) : ∃ vT mT oT sT, RefQ es x (prOf es x) vT mT oT sT := by
  have h1 := prTo_says (pid := x.pid) hp.ver es.length (Nat.le_refl _)
  have h2 := markTo_bound (es := es) (pid := x.pid) es.length (Nat.le_refl _)
  have h3 := seqTo_bnd (pid := x.pid) hp es.length (Nat.le_refl _)
  refine ⟨_, _, _, _, rfl, rfl, rfl, rfl, ?_, ?_, ?_, ⟨h2.1, h2.2, h3.1, h3.2⟩, ?_, ?_⟩
  all_goals
    unfold prOf
    cases hq : prTo es x.pid es.length with
    | none =>
      rw [hq] at h1
      obtain ⟨a1, a2, a3, a4⟩ := h1
      simp only [Option.getD_none]
      first
        | (rw [a1]; constructor <;> intro h <;> omega)
        | (rw [a3])
        | (rw [a4])
        | (rw [a1]; intro _ _; omega)
        | (rw [a1]; intro _ _; right; exact ⟨by omega, by first | rfl | trivial⟩)
    | some q =>
      rw [hq] at h1
      obtain ⟨a1, a2, a3, a4, a5⟩ := h1
      simp only [Option.getD_some]
      first
        | (rw [a1]; done)
        | (rw [a3]; done)
        | (rw [a4]; done)
        | (rw [a1]; intro _ _; omega)
        | (rw [a1, a2]; intro h1 h2; left; exact ⟨by omega, rfl⟩)
set_option maxRecDepth 100000 in
set_option maxHeartbeats 4000000 in
theorem checkedOf_zero (v : Value) (es : List Ent) (x : Ent) (w : World) (h : Es w v es) (_hl : es.length ≤ 9223372036854775806) (h0 : x.pid = 0) :
    Calls Try.prog 11 #[v, .agg #[.int .i64 x.ep, .int .i64 x.pid, .int .i64 x.ver, .int .i64 x.seq, .int .i64 x.kind, .bool x.txn, .string x.text]] w fun e w' => e = .returned (.tuple #[.int .i64 (-1), .int .i64 0]) ∧ Below w.heap.size w w' := by
  obtain ⟨A, c, rfl, hc, -⟩ := h.at_
  have z1 : (x.pid == 0) = true := beq_iff_eq.2 h0
  clear h h0
  obtain ⟨ep, pid, ver, seq, kind, txn, text⟩ := x
  simp only at *
  go_enter Try.func11, Try.ntmps11
  go_wp2
  go_ret2
  exact ⟨rfl, (Below.refl _ _).alloc (Nat.le_refl _) _⟩
set_option maxRecDepth 100000 in
set_option maxHeartbeats 4000000 in
theorem checkedOf_fence (v : Value) (es : List Ent) (x : Ent) (w : World) (h : Es w v es) (hl : es.length ≤ 9223372036854775806) (hx : 0 ≤ x.ver ∧ x.ver ≤ 1073741824 ∧ 0 ≤ x.seq ∧ x.seq ≤ 1073741824 ∧ 0 ≤ x.pid ∧ x.pid ≤ 1073741824) (h0 : x.pid ≠ 0) (q : PrD) {vT mT oT sT : Int} (hr : RefQ es x q vT mT oT sT) (hf : x.ver < q.ver) :
    Calls Try.prog 11 #[v, .agg #[.int .i64 x.ep, .int .i64 x.pid, .int .i64 x.ver, .int .i64 x.seq, .int .i64 x.kind, .bool x.txn, .string x.text]] w fun e w' => e = .returned (.tuple #[.int .i64 0, .int .i64 10]) ∧ Below w.heap.size w w' := by
  obtain ⟨A, c, rfl, hc, hx1⟩ := h.at_
  have HX := Lib.hid hx1
  have H := Lib.hid h
  obtain ⟨x0, x1, x2, x3, x4, x5⟩ := hx
  obtain ⟨hv_, hm_, ho_, hs_, hfe, hmk, hon, ⟨b1_, b2_, b3_, b4_⟩, hnew, hold⟩ := hr
  have z1 : (x.pid == 0) = false := beq_eq_false_iff_ne.2 h0
  have HVT := Lib.hid hv_
  have HMT := Lib.hid hm_
  have HOT := Lib.hid ho_
  have HST := Lib.hid hs_
  clear h hx1 h0 hv_ hm_ ho_ hs_
  have z2 : decide (x.ver < vT) = true := decide_eq_true (hfe.2 hf)
  clear hf
  clear hfe hmk hon hnew hold
  obtain ⟨ep, pid, ver, seq, kind, txn, text⟩ := x
  obtain ⟨qv, qs, qo, qm⟩ := q
  simp only at *
  go_enter Try.func11, Try.ntmps11
  go_wp2_with fail
  have hb1 : Below w.heap.size w (w.alloc (.cells #[.int .i64 ep, .int .i64 pid, .int .i64 ver, .int .i64 seq, .int .i64 kind, .bool txn, .string text] 30)) := (Below.refl _ _).alloc (by first | omega | (simp; done) | (simp; omega)) _
  have hal1 : Below w.heap.size w (w.alloc (.cells #[.int .i64 ep, .int .i64 pid, .int .i64 ver, .int .i64 seq, .int .i64 kind, .bool txn, .string text] 30)) := (Below.refl _ _).alloc (by first | omega | (simp; done) | (simp; omega)) _
  have b_bx1 : Blk (w.alloc (.cells #[.int .i64 ep, .int .i64 pid, .int .i64 ver, .int .i64 seq, .int .i64 kind, .bool txn, .string text] 30)) (w.heap.size) 30 #[.int .i64 ep, .int .i64 pid, .int .i64 ver, .int .i64 seq, .int .i64 kind, .bool txn, .string text] := Blk.new_ _ 30 #[.int .i64 ep, .int .i64 pid, .int .i64 ver, .int .i64 seq, .int .i64 kind, .bool txn, .string text] (by first | rfl | (simp; done) | (simp; omega))
  have hz1 : w.heap.size + 1 ≤ (w.alloc (.cells #[.int .i64 ep, .int .i64 pid, .int .i64 ver, .int .i64 seq, .int .i64 kind, .bool txn, .string text] 30)).heap.size := by first | omega | (simp; done) | (simp; omega)
  generalize w.alloc (.cells #[.int .i64 ep, .int .i64 pid, .int .i64 ver, .int .i64 seq, .int .i64 kind, .bool txn, .string text] 30) = W1 at *
  have HB1 := Lib.hid hb1
  have B1_bx := Lib.hid b_bx1
  clear hb1 b_bx1
  have c_bx0 := B1_bx.out.cell 0
  have c_bx1 := B1_bx.out.cell 1
  have c_bx2 := B1_bx.out.cell 2
  have c_bx3 := B1_bx.out.cell 3
  have c_bx4 := B1_bx.out.cell 4
  have c_bx5 := B1_bx.out.cell 5
  have c_bx6 := B1_bx.out.cell 6
  have l_bx := B1_bx.out.lt
  go_wp2_with fail
  refine (verOf_any _ es pid _ (H.out.below HB1.out) hl).mono ?_
  rintro e w9 ⟨rfl, he9⟩
  obtain rfl := he9.symm
  clear he9
  rw [HVT.out]
  go_wp2
  go_ret2
  exact ⟨rfl, HB1.out⟩
set_option maxRecDepth 100000 in
set_option maxHeartbeats 4000000 in
theorem checkedOf_open (v : Value) (es : List Ent) (x : Ent) (w : World) (h : Es w v es) (hl : es.length ≤ 9223372036854775806) (hx : 0 ≤ x.ver ∧ x.ver ≤ 1073741824 ∧ 0 ≤ x.seq ∧ x.seq ≤ 1073741824 ∧ 0 ≤ x.pid ∧ x.pid ≤ 1073741824) (h0 : x.pid ≠ 0) (q : PrD) {vT mT oT sT : Int} (hr : RefQ es x q vT mT oT sT) (hf : ¬ x.ver < q.ver) (hk : x.kind ≠ 1) (ho : ¬ q.opn < 0) (hm : 0 ≤ q.mark) :
    Calls Try.prog 11 #[v, .agg #[.int .i64 x.ep, .int .i64 x.pid, .int .i64 x.ver, .int .i64 x.seq, .int .i64 x.kind, .bool x.txn, .string x.text]] w fun e w' => e = .returned (.tuple #[.int .i64 (-1), .int .i64 0]) ∧ Below w.heap.size w w' := by
  obtain ⟨A, c, rfl, hc, hx1⟩ := h.at_
  have HX := Lib.hid hx1
  have H := Lib.hid h
  obtain ⟨x0, x1, x2, x3, x4, x5⟩ := hx
  obtain ⟨hv_, hm_, ho_, hs_, hfe, hmk, hon, ⟨b1_, b2_, b3_, b4_⟩, hnew, hold⟩ := hr
  have z1 : (x.pid == 0) = false := beq_eq_false_iff_ne.2 h0
  have HVT := Lib.hid hv_
  have HMT := Lib.hid hm_
  have HOT := Lib.hid ho_
  have HST := Lib.hid hs_
  clear h hx1 h0 hv_ hm_ ho_ hs_
  have z2 : decide (x.ver < vT) = false := decide_eq_false (fun h => hf (hfe.1 h))
  have z3 : (x.kind != 1) = true := by simpa using hk
  clear hk
  have z4 : decide (0 ≤ mT) = true := decide_eq_true (by omega)
  have z5 : decide (oT < 0) = false := decide_eq_false (by omega)
  clear ho hm
  clear hf
  clear hfe hmk hon hnew hold
  obtain ⟨ep, pid, ver, seq, kind, txn, text⟩ := x
  obtain ⟨qv, qs, qo, qm⟩ := q
  simp only at *
  go_enter Try.func11, Try.ntmps11
  go_wp2_with fail
  have hb1 : Below w.heap.size w (w.alloc (.cells #[.int .i64 ep, .int .i64 pid, .int .i64 ver, .int .i64 seq, .int .i64 kind, .bool txn, .string text] 30)) := (Below.refl _ _).alloc (by first | omega | (simp; done) | (simp; omega)) _
  have hal1 : Below w.heap.size w (w.alloc (.cells #[.int .i64 ep, .int .i64 pid, .int .i64 ver, .int .i64 seq, .int .i64 kind, .bool txn, .string text] 30)) := (Below.refl _ _).alloc (by first | omega | (simp; done) | (simp; omega)) _
  have b_bx1 : Blk (w.alloc (.cells #[.int .i64 ep, .int .i64 pid, .int .i64 ver, .int .i64 seq, .int .i64 kind, .bool txn, .string text] 30)) (w.heap.size) 30 #[.int .i64 ep, .int .i64 pid, .int .i64 ver, .int .i64 seq, .int .i64 kind, .bool txn, .string text] := Blk.new_ _ 30 #[.int .i64 ep, .int .i64 pid, .int .i64 ver, .int .i64 seq, .int .i64 kind, .bool txn, .string text] (by first | rfl | (simp; done) | (simp; omega))
  have hz1 : w.heap.size + 1 ≤ (w.alloc (.cells #[.int .i64 ep, .int .i64 pid, .int .i64 ver, .int .i64 seq, .int .i64 kind, .bool txn, .string text] 30)).heap.size := by first | omega | (simp; done) | (simp; omega)
  generalize w.alloc (.cells #[.int .i64 ep, .int .i64 pid, .int .i64 ver, .int .i64 seq, .int .i64 kind, .bool txn, .string text] 30) = W1 at *
  have HB1 := Lib.hid hb1
  have B1_bx := Lib.hid b_bx1
  clear hb1 b_bx1
  have c_bx0 := B1_bx.out.cell 0
  have c_bx1 := B1_bx.out.cell 1
  have c_bx2 := B1_bx.out.cell 2
  have c_bx3 := B1_bx.out.cell 3
  have c_bx4 := B1_bx.out.cell 4
  have c_bx5 := B1_bx.out.cell 5
  have c_bx6 := B1_bx.out.cell 6
  have l_bx := B1_bx.out.lt
  go_wp2_with fail
  refine (verOf_any _ es pid _ (H.out.below HB1.out) hl).mono ?_
  rintro e w9 ⟨rfl, he9⟩
  obtain rfl := he9.symm
  clear he9
  rw [HVT.out]
  go_wp2_with fail
  refine (markOf_any _ es pid _ (H.out.below HB1.out) hl).mono ?_
  rintro e w9 ⟨rfl, he9⟩
  obtain rfl := he9.symm
  clear he9
  rw [HMT.out]
  have hq : ∀ m, Calls Try.prog 18 #[.slice A es.length c, .int .i64 pid] (W1.drewN m) fun e w'' => e = .returned (.int .i64 oT) ∧ ∃ m', w'' = W1.drewN m' := fun m => Calls.quiet_of_same (by
    have h := openOf_any _ es pid (W1.drewN m) (H.out.below (below_then HB1.out (below_dn _ _))) hl
    rw [HOT.out] at h
    exact h)
  have HQ := Lib.hid hq
  clear hq
  go_wp2_with fail
  go_quiet ((go_at_call 18; exact HQ.out _))
  clear c_bx0 c_bx1 c_bx2 c_bx3 c_bx4 c_bx5 c_bx6 l_bx
  generalize hd : World.drewN W1 _ = W2 at *
  have hb : Below W1.heap.size W1 W2 := by rw [← hd]; exact below_dn _ _
  have hb2 : Below w.heap.size w W2 := below_then HB1.out hb
  have b_bx2 := B1_bx.out.below hb B1_bx.out.lt
  have hz2 := hb.size
  have HB2 := Lib.hid hb2
  have B2_bx := Lib.hid b_bx2
  clear hb2 b_bx2
  clear B1_bx HB1
  clear hd hb
  go_wp2
  go_ret2
  exact ⟨rfl, HB2.out⟩
set_option maxRecDepth 100000 in
set_option maxHeartbeats 4000000 in
theorem checkedOf_nomark (v : Value) (es : List Ent) (x : Ent) (w : World) (h : Es w v es) (hl : es.length ≤ 9223372036854775806) (hx : 0 ≤ x.ver ∧ x.ver ≤ 1073741824 ∧ 0 ≤ x.seq ∧ x.seq ≤ 1073741824 ∧ 0 ≤ x.pid ∧ x.pid ≤ 1073741824) (h0 : x.pid ≠ 0) (q : PrD) {vT mT oT sT : Int} (hr : RefQ es x q vT mT oT sT) (hf : ¬ x.ver < q.ver) (hk : x.kind ≠ 1) (hm : ¬ 0 ≤ q.mark) :
    Calls Try.prog 11 #[v, .agg #[.int .i64 x.ep, .int .i64 x.pid, .int .i64 x.ver, .int .i64 x.seq, .int .i64 x.kind, .bool x.txn, .string x.text]] w fun e w' => e = .returned (.tuple #[.int .i64 (-1), .int .i64 0]) ∧ Below w.heap.size w w' := by
  obtain ⟨A, c, rfl, hc, hx1⟩ := h.at_
  have HX := Lib.hid hx1
  have H := Lib.hid h
  obtain ⟨x0, x1, x2, x3, x4, x5⟩ := hx
  obtain ⟨hv_, hm_, ho_, hs_, hfe, hmk, hon, ⟨b1_, b2_, b3_, b4_⟩, hnew, hold⟩ := hr
  have z1 : (x.pid == 0) = false := beq_eq_false_iff_ne.2 h0
  have HVT := Lib.hid hv_
  have HMT := Lib.hid hm_
  have HOT := Lib.hid ho_
  have HST := Lib.hid hs_
  clear h hx1 h0 hv_ hm_ ho_ hs_
  have z2 : decide (x.ver < vT) = false := decide_eq_false (fun h => hf (hfe.1 h))
  have z3 : (x.kind != 1) = true := by simpa using hk
  clear hk
  have z4 : decide (0 ≤ mT) = false := decide_eq_false (by omega)
  clear hm
  clear hf
  clear hfe hmk hon hnew hold
  obtain ⟨ep, pid, ver, seq, kind, txn, text⟩ := x
  obtain ⟨qv, qs, qo, qm⟩ := q
  simp only at *
  go_enter Try.func11, Try.ntmps11
  go_wp2_with fail
  have hb1 : Below w.heap.size w (w.alloc (.cells #[.int .i64 ep, .int .i64 pid, .int .i64 ver, .int .i64 seq, .int .i64 kind, .bool txn, .string text] 30)) := (Below.refl _ _).alloc (by first | omega | (simp; done) | (simp; omega)) _
  have hal1 : Below w.heap.size w (w.alloc (.cells #[.int .i64 ep, .int .i64 pid, .int .i64 ver, .int .i64 seq, .int .i64 kind, .bool txn, .string text] 30)) := (Below.refl _ _).alloc (by first | omega | (simp; done) | (simp; omega)) _
  have b_bx1 : Blk (w.alloc (.cells #[.int .i64 ep, .int .i64 pid, .int .i64 ver, .int .i64 seq, .int .i64 kind, .bool txn, .string text] 30)) (w.heap.size) 30 #[.int .i64 ep, .int .i64 pid, .int .i64 ver, .int .i64 seq, .int .i64 kind, .bool txn, .string text] := Blk.new_ _ 30 #[.int .i64 ep, .int .i64 pid, .int .i64 ver, .int .i64 seq, .int .i64 kind, .bool txn, .string text] (by first | rfl | (simp; done) | (simp; omega))
  have hz1 : w.heap.size + 1 ≤ (w.alloc (.cells #[.int .i64 ep, .int .i64 pid, .int .i64 ver, .int .i64 seq, .int .i64 kind, .bool txn, .string text] 30)).heap.size := by first | omega | (simp; done) | (simp; omega)
  generalize w.alloc (.cells #[.int .i64 ep, .int .i64 pid, .int .i64 ver, .int .i64 seq, .int .i64 kind, .bool txn, .string text] 30) = W1 at *
  have HB1 := Lib.hid hb1
  have B1_bx := Lib.hid b_bx1
  clear hb1 b_bx1
  have c_bx0 := B1_bx.out.cell 0
  have c_bx1 := B1_bx.out.cell 1
  have c_bx2 := B1_bx.out.cell 2
  have c_bx3 := B1_bx.out.cell 3
  have c_bx4 := B1_bx.out.cell 4
  have c_bx5 := B1_bx.out.cell 5
  have c_bx6 := B1_bx.out.cell 6
  have l_bx := B1_bx.out.lt
  go_wp2_with fail
  refine (verOf_any _ es pid _ (H.out.below HB1.out) hl).mono ?_
  rintro e w9 ⟨rfl, he9⟩
  obtain rfl := he9.symm
  clear he9
  rw [HVT.out]
  go_wp2_with fail
  refine (markOf_any _ es pid _ (H.out.below HB1.out) hl).mono ?_
  rintro e w9 ⟨rfl, he9⟩
  obtain rfl := he9.symm
  clear he9
  rw [HMT.out]
  go_wp2_with fail
  go_quiet (fail)
  clear c_bx0 c_bx1 c_bx2 c_bx3 c_bx4 c_bx5 c_bx6 l_bx
  generalize hd : World.drewN W1 _ = W2 at *
  have hb : Below W1.heap.size W1 W2 := by rw [← hd]; exact below_dn _ _
  have hb2 : Below w.heap.size w W2 := below_then HB1.out hb
  have b_bx2 := B1_bx.out.below hb B1_bx.out.lt
  have hz2 := hb.size
  have HB2 := Lib.hid hb2
  have B2_bx := Lib.hid b_bx2
  clear hb2 b_bx2
  clear B1_bx HB1
  clear hd hb
  go_wp2
  go_ret2
  exact ⟨rfl, HB2.out⟩
set_option maxRecDepth 100000 in
set_option maxHeartbeats 4000000 in
theorem checkedOf_mkind (v : Value) (es : List Ent) (x : Ent) (w : World) (h : Es w v es) (hl : es.length ≤ 9223372036854775806) (hx : 0 ≤ x.ver ∧ x.ver ≤ 1073741824 ∧ 0 ≤ x.seq ∧ x.seq ≤ 1073741824 ∧ 0 ≤ x.pid ∧ x.pid ≤ 1073741824) (h0 : x.pid ≠ 0) (q : PrD) {vT mT oT sT : Int} (hr : RefQ es x q vT mT oT sT) (hf : ¬ x.ver < q.ver) (hk : x.kind ≠ 1) (ho : q.opn < 0) (m : Nat) (hm : q.mark = m ∧ m < es.length) (h1 : ∀ hm : m < es.length, es[m].kind ≠ x.kind) :
    Calls Try.prog 11 #[v, .agg #[.int .i64 x.ep, .int .i64 x.pid, .int .i64 x.ver, .int .i64 x.seq, .int .i64 x.kind, .bool x.txn, .string x.text]] w fun e w' => e = .returned (.tuple #[.int .i64 (-1), .int .i64 0]) ∧ Below w.heap.size w w' := by
  obtain ⟨A, c, rfl, hc, hx1⟩ := h.at_
  have HX := Lib.hid hx1
  have H := Lib.hid h
  obtain ⟨x0, x1, x2, x3, x4, x5⟩ := hx
  obtain ⟨hv_, hm_, ho_, hs_, hfe, hmk, hon, ⟨b1_, b2_, b3_, b4_⟩, hnew, hold⟩ := hr
  have z1 : (x.pid == 0) = false := beq_eq_false_iff_ne.2 h0
  have HVT := Lib.hid hv_
  have HMT := Lib.hid hm_
  have HOT := Lib.hid ho_
  have HST := Lib.hid hs_
  clear h hx1 h0 hv_ hm_ ho_ hs_
  have z2 : decide (x.ver < vT) = false := decide_eq_false (fun h => hf (hfe.1 h))
  have z3 : (x.kind != 1) = true := by simpa using hk
  clear hk
  have z5 : decide (oT < 0) = true := decide_eq_true (by omega)
  clear ho
  obtain ⟨hm1, hml⟩ := hm
  have m0 : (0 : Int) ≤ (m : Int) := by omega
  have m1 : (m : Int) < (es.length : Int) := by omega
  have hmT : mT = (m : Int) := by omega
  obtain ⟨b1, o1, rfl, hb1, hcell⟩ := HX.out (by omega)
  obtain ⟨-, -, y2, -, y4, -, -⟩ := hcell m hml
  have XC := Lib.hid (And.intro y2 y4)
  clear hcell y2 y4 HX
  have z4 : decide (0 ≤ mT) = true := decide_eq_true (by omega)
  have z6 : (es[m].kind == x.kind) = false := beq_eq_false_iff_ne.2 (h1 hml)
  clear h1
  clear hf
  clear hfe hmk hon hnew hold
  obtain ⟨ep, pid, ver, seq, kind, txn, text⟩ := x
  obtain ⟨qv, qs, qo, qm⟩ := q
  simp only at *
  subst hmT
  clear hm1
  generalize es[m].kind = mk at *
  generalize es[m].ver = mv at *
  go_enter Try.func11, Try.ntmps11
  go_wp2_with fail
  have hb1 : Below w.heap.size w (w.alloc (.cells #[.int .i64 ep, .int .i64 pid, .int .i64 ver, .int .i64 seq, .int .i64 kind, .bool txn, .string text] 30)) := (Below.refl _ _).alloc (by first | omega | (simp; done) | (simp; omega)) _
  have hal1 : Below w.heap.size w (w.alloc (.cells #[.int .i64 ep, .int .i64 pid, .int .i64 ver, .int .i64 seq, .int .i64 kind, .bool txn, .string text] 30)) := (Below.refl _ _).alloc (by first | omega | (simp; done) | (simp; omega)) _
  have b_bx1 : Blk (w.alloc (.cells #[.int .i64 ep, .int .i64 pid, .int .i64 ver, .int .i64 seq, .int .i64 kind, .bool txn, .string text] 30)) (w.heap.size) 30 #[.int .i64 ep, .int .i64 pid, .int .i64 ver, .int .i64 seq, .int .i64 kind, .bool txn, .string text] := Blk.new_ _ 30 #[.int .i64 ep, .int .i64 pid, .int .i64 ver, .int .i64 seq, .int .i64 kind, .bool txn, .string text] (by first | rfl | (simp; done) | (simp; omega))
  have hz1 : w.heap.size + 1 ≤ (w.alloc (.cells #[.int .i64 ep, .int .i64 pid, .int .i64 ver, .int .i64 seq, .int .i64 kind, .bool txn, .string text] 30)).heap.size := by first | omega | (simp; done) | (simp; omega)
  generalize w.alloc (.cells #[.int .i64 ep, .int .i64 pid, .int .i64 ver, .int .i64 seq, .int .i64 kind, .bool txn, .string text] 30) = W1 at *
  have HB1 := Lib.hid hb1
  have B1_bx := Lib.hid b_bx1
  clear hb1 b_bx1
  have c_bx0 := B1_bx.out.cell 0
  have c_bx1 := B1_bx.out.cell 1
  have c_bx2 := B1_bx.out.cell 2
  have c_bx3 := B1_bx.out.cell 3
  have c_bx4 := B1_bx.out.cell 4
  have c_bx5 := B1_bx.out.cell 5
  have c_bx6 := B1_bx.out.cell 6
  have l_bx := B1_bx.out.lt
  go_wp2_with fail
  refine (verOf_any _ es pid _ (H.out.below HB1.out) hl).mono ?_
  rintro e w9 ⟨rfl, he9⟩
  obtain rfl := he9.symm
  clear he9
  rw [HVT.out]
  go_wp2_with fail
  refine (markOf_any _ es pid _ (H.out.below HB1.out) hl).mono ?_
  rintro e w9 ⟨rfl, he9⟩
  obtain rfl := he9.symm
  clear he9
  rw [HMT.out]
  have hq : ∀ m, Calls Try.prog 18 #[.slice (some ⟨b1, o1, none⟩) es.length c, .int .i64 pid] (W1.drewN m) fun e w'' => e = .returned (.int .i64 oT) ∧ ∃ m', w'' = W1.drewN m' := fun m => Calls.quiet_of_same (by
    have h := openOf_any _ es pid (W1.drewN m) (H.out.below (below_then HB1.out (below_dn _ _))) hl
    rw [HOT.out] at h
    exact h)
  have HQ := Lib.hid hq
  clear hq
  have y2 := (HB1.out.cell (p := ⟨b1, o1 + m * 7 + 2, none⟩) hb1).trans XC.out.1
  have y4 := (HB1.out.cell (p := ⟨b1, o1 + m * 7 + 4, none⟩) hb1).trans XC.out.2
  have yl := Nat.lt_of_lt_of_le hb1 HB1.out.size
  go_wp2_with fail
  go_quiet ((go_at_call 18; exact HQ.out _))
  clear c_bx0 c_bx1 c_bx2 c_bx3 c_bx4 c_bx5 c_bx6 l_bx y2 y4 yl
  generalize hd : World.drewN W1 _ = W2 at *
  have hb : Below W1.heap.size W1 W2 := by rw [← hd]; exact below_dn _ _
  have hb2 : Below w.heap.size w W2 := below_then HB1.out hb
  have b_bx2 := B1_bx.out.below hb B1_bx.out.lt
  have hz2 := hb.size
  have HB2 := Lib.hid hb2
  have B2_bx := Lib.hid b_bx2
  clear hb2 b_bx2
  clear B1_bx HB1
  clear hd hb
  go_wp2
  go_ret2
  exact ⟨rfl, HB2.out⟩
set_option maxRecDepth 100000 in
set_option maxHeartbeats 4000000 in
theorem checkedOf_mver (v : Value) (es : List Ent) (x : Ent) (w : World) (h : Es w v es) (hl : es.length ≤ 9223372036854775806) (hx : 0 ≤ x.ver ∧ x.ver ≤ 1073741824 ∧ 0 ≤ x.seq ∧ x.seq ≤ 1073741824 ∧ 0 ≤ x.pid ∧ x.pid ≤ 1073741824) (h0 : x.pid ≠ 0) (q : PrD) {vT mT oT sT : Int} (hr : RefQ es x q vT mT oT sT) (hf : ¬ x.ver < q.ver) (hk : x.kind ≠ 1) (ho : q.opn < 0) (m : Nat) (hm : q.mark = m ∧ m < es.length) (h1 : ∀ hm : m < es.length, es[m].kind = x.kind) (h2 : ∀ hm : m < es.length, es[m].ver ≠ x.ver) :
    Calls Try.prog 11 #[v, .agg #[.int .i64 x.ep, .int .i64 x.pid, .int .i64 x.ver, .int .i64 x.seq, .int .i64 x.kind, .bool x.txn, .string x.text]] w fun e w' => e = .returned (.tuple #[.int .i64 (-1), .int .i64 0]) ∧ Below w.heap.size w w' := by
  obtain ⟨A, c, rfl, hc, hx1⟩ := h.at_
  have HX := Lib.hid hx1
  have H := Lib.hid h
  obtain ⟨x0, x1, x2, x3, x4, x5⟩ := hx
  obtain ⟨hv_, hm_, ho_, hs_, hfe, hmk, hon, ⟨b1_, b2_, b3_, b4_⟩, hnew, hold⟩ := hr
  have z1 : (x.pid == 0) = false := beq_eq_false_iff_ne.2 h0
  have HVT := Lib.hid hv_
  have HMT := Lib.hid hm_
  have HOT := Lib.hid ho_
  have HST := Lib.hid hs_
  clear h hx1 h0 hv_ hm_ ho_ hs_
  have z2 : decide (x.ver < vT) = false := decide_eq_false (fun h => hf (hfe.1 h))
  have z3 : (x.kind != 1) = true := by simpa using hk
  clear hk
  have z5 : decide (oT < 0) = true := decide_eq_true (by omega)
  clear ho
  obtain ⟨hm1, hml⟩ := hm
  have m0 : (0 : Int) ≤ (m : Int) := by omega
  have m1 : (m : Int) < (es.length : Int) := by omega
  have hmT : mT = (m : Int) := by omega
  obtain ⟨b1, o1, rfl, hb1, hcell⟩ := HX.out (by omega)
  obtain ⟨-, -, y2, -, y4, -, -⟩ := hcell m hml
  have XC := Lib.hid (And.intro y2 y4)
  clear hcell y2 y4 HX
  have z4 : decide (0 ≤ mT) = true := decide_eq_true (by omega)
  have z6 : (es[m].kind == x.kind) = true := beq_iff_eq.2 (h1 hml)
  have z7 : (es[m].ver == x.ver) = false := beq_eq_false_iff_ne.2 (h2 hml)
  clear h1 h2
  clear hf
  clear hfe hmk hon hnew hold
  obtain ⟨ep, pid, ver, seq, kind, txn, text⟩ := x
  obtain ⟨qv, qs, qo, qm⟩ := q
  simp only at *
  subst hmT
  clear hm1
  generalize es[m].kind = mk at *
  generalize es[m].ver = mv at *
  go_enter Try.func11, Try.ntmps11
  go_wp2_with fail
  have hb1 : Below w.heap.size w (w.alloc (.cells #[.int .i64 ep, .int .i64 pid, .int .i64 ver, .int .i64 seq, .int .i64 kind, .bool txn, .string text] 30)) := (Below.refl _ _).alloc (by first | omega | (simp; done) | (simp; omega)) _
  have hal1 : Below w.heap.size w (w.alloc (.cells #[.int .i64 ep, .int .i64 pid, .int .i64 ver, .int .i64 seq, .int .i64 kind, .bool txn, .string text] 30)) := (Below.refl _ _).alloc (by first | omega | (simp; done) | (simp; omega)) _
  have b_bx1 : Blk (w.alloc (.cells #[.int .i64 ep, .int .i64 pid, .int .i64 ver, .int .i64 seq, .int .i64 kind, .bool txn, .string text] 30)) (w.heap.size) 30 #[.int .i64 ep, .int .i64 pid, .int .i64 ver, .int .i64 seq, .int .i64 kind, .bool txn, .string text] := Blk.new_ _ 30 #[.int .i64 ep, .int .i64 pid, .int .i64 ver, .int .i64 seq, .int .i64 kind, .bool txn, .string text] (by first | rfl | (simp; done) | (simp; omega))
  have hz1 : w.heap.size + 1 ≤ (w.alloc (.cells #[.int .i64 ep, .int .i64 pid, .int .i64 ver, .int .i64 seq, .int .i64 kind, .bool txn, .string text] 30)).heap.size := by first | omega | (simp; done) | (simp; omega)
  generalize w.alloc (.cells #[.int .i64 ep, .int .i64 pid, .int .i64 ver, .int .i64 seq, .int .i64 kind, .bool txn, .string text] 30) = W1 at *
  have HB1 := Lib.hid hb1
  have B1_bx := Lib.hid b_bx1
  clear hb1 b_bx1
  have c_bx0 := B1_bx.out.cell 0
  have c_bx1 := B1_bx.out.cell 1
  have c_bx2 := B1_bx.out.cell 2
  have c_bx3 := B1_bx.out.cell 3
  have c_bx4 := B1_bx.out.cell 4
  have c_bx5 := B1_bx.out.cell 5
  have c_bx6 := B1_bx.out.cell 6
  have l_bx := B1_bx.out.lt
  go_wp2_with fail
  refine (verOf_any _ es pid _ (H.out.below HB1.out) hl).mono ?_
  rintro e w9 ⟨rfl, he9⟩
  obtain rfl := he9.symm
  clear he9
  rw [HVT.out]
  go_wp2_with fail
  refine (markOf_any _ es pid _ (H.out.below HB1.out) hl).mono ?_
  rintro e w9 ⟨rfl, he9⟩
  obtain rfl := he9.symm
  clear he9
  rw [HMT.out]
  have hq : ∀ m, Calls Try.prog 18 #[.slice (some ⟨b1, o1, none⟩) es.length c, .int .i64 pid] (W1.drewN m) fun e w'' => e = .returned (.int .i64 oT) ∧ ∃ m', w'' = W1.drewN m' := fun m => Calls.quiet_of_same (by
    have h := openOf_any _ es pid (W1.drewN m) (H.out.below (below_then HB1.out (below_dn _ _))) hl
    rw [HOT.out] at h
    exact h)
  have HQ := Lib.hid hq
  clear hq
  have y2 := (HB1.out.cell (p := ⟨b1, o1 + m * 7 + 2, none⟩) hb1).trans XC.out.1
  have y4 := (HB1.out.cell (p := ⟨b1, o1 + m * 7 + 4, none⟩) hb1).trans XC.out.2
  have yl := Nat.lt_of_lt_of_le hb1 HB1.out.size
  go_wp2_with fail
  go_quiet ((go_at_call 18; exact HQ.out _))
  clear c_bx0 c_bx1 c_bx2 c_bx3 c_bx4 c_bx5 c_bx6 l_bx y2 y4 yl
  generalize hd : World.drewN W1 _ = W2 at *
  have hb : Below W1.heap.size W1 W2 := by rw [← hd]; exact below_dn _ _
  have hb2 : Below w.heap.size w W2 := below_then HB1.out hb
  have b_bx2 := B1_bx.out.below hb B1_bx.out.lt
  have hz2 := hb.size
  have HB2 := Lib.hid hb2
  have B2_bx := Lib.hid b_bx2
  clear hb2 b_bx2
  clear B1_bx HB1
  clear hd hb
  go_wp2
  go_ret2
  exact ⟨rfl, HB2.out⟩
set_option maxRecDepth 100000 in
set_option maxHeartbeats 4000000 in
theorem checkedOf_mark (v : Value) (es : List Ent) (x : Ent) (w : World) (h : Es w v es) (hl : es.length ≤ 9223372036854775806) (hx : 0 ≤ x.ver ∧ x.ver ≤ 1073741824 ∧ 0 ≤ x.seq ∧ x.seq ≤ 1073741824 ∧ 0 ≤ x.pid ∧ x.pid ≤ 1073741824) (h0 : x.pid ≠ 0) (q : PrD) {vT mT oT sT : Int} (hr : RefQ es x q vT mT oT sT) (hf : ¬ x.ver < q.ver) (hk : x.kind ≠ 1) (ho : q.opn < 0) (m : Nat) (hm : q.mark = m ∧ m < es.length) (h1 : ∀ hm : m < es.length, es[m].kind = x.kind) (h2 : ∀ hm : m < es.length, es[m].ver = x.ver) :
    Calls Try.prog 11 #[v, .agg #[.int .i64 x.ep, .int .i64 x.pid, .int .i64 x.ver, .int .i64 x.seq, .int .i64 x.kind, .bool x.txn, .string x.text]] w fun e w' => e = .returned (.tuple #[.int .i64 m, .int .i64 0]) ∧ Below w.heap.size w w' := by
  obtain ⟨A, c, rfl, hc, hx1⟩ := h.at_
  have HX := Lib.hid hx1
  have H := Lib.hid h
  obtain ⟨x0, x1, x2, x3, x4, x5⟩ := hx
  obtain ⟨hv_, hm_, ho_, hs_, hfe, hmk, hon, ⟨b1_, b2_, b3_, b4_⟩, hnew, hold⟩ := hr
  have z1 : (x.pid == 0) = false := beq_eq_false_iff_ne.2 h0
  have HVT := Lib.hid hv_
  have HMT := Lib.hid hm_
  have HOT := Lib.hid ho_
  have HST := Lib.hid hs_
  clear h hx1 h0 hv_ hm_ ho_ hs_
  have z2 : decide (x.ver < vT) = false := decide_eq_false (fun h => hf (hfe.1 h))
  have z3 : (x.kind != 1) = true := by simpa using hk
  clear hk
  have z5 : decide (oT < 0) = true := decide_eq_true (by omega)
  clear ho
  obtain ⟨hm1, hml⟩ := hm
  have m0 : (0 : Int) ≤ (m : Int) := by omega
  have m1 : (m : Int) < (es.length : Int) := by omega
  have hmT : mT = (m : Int) := by omega
  obtain ⟨b1, o1, rfl, hb1, hcell⟩ := HX.out (by omega)
  obtain ⟨-, -, y2, -, y4, -, -⟩ := hcell m hml
  have XC := Lib.hid (And.intro y2 y4)
  clear hcell y2 y4 HX
  have z4 : decide (0 ≤ mT) = true := decide_eq_true (by omega)
  have z6 : (es[m].kind == x.kind) = true := beq_iff_eq.2 (h1 hml)
  have z7 : (es[m].ver == x.ver) = true := beq_iff_eq.2 (h2 hml)
  clear h1 h2
  clear hf
  clear hfe hmk hon hnew hold
  obtain ⟨ep, pid, ver, seq, kind, txn, text⟩ := x
  obtain ⟨qv, qs, qo, qm⟩ := q
  simp only at *
  subst hmT
  clear hm1
  generalize es[m].kind = mk at *
  generalize es[m].ver = mv at *
  go_enter Try.func11, Try.ntmps11
  go_wp2_with fail
  have hb1 : Below w.heap.size w (w.alloc (.cells #[.int .i64 ep, .int .i64 pid, .int .i64 ver, .int .i64 seq, .int .i64 kind, .bool txn, .string text] 30)) := (Below.refl _ _).alloc (by first | omega | (simp; done) | (simp; omega)) _
  have hal1 : Below w.heap.size w (w.alloc (.cells #[.int .i64 ep, .int .i64 pid, .int .i64 ver, .int .i64 seq, .int .i64 kind, .bool txn, .string text] 30)) := (Below.refl _ _).alloc (by first | omega | (simp; done) | (simp; omega)) _
  have b_bx1 : Blk (w.alloc (.cells #[.int .i64 ep, .int .i64 pid, .int .i64 ver, .int .i64 seq, .int .i64 kind, .bool txn, .string text] 30)) (w.heap.size) 30 #[.int .i64 ep, .int .i64 pid, .int .i64 ver, .int .i64 seq, .int .i64 kind, .bool txn, .string text] := Blk.new_ _ 30 #[.int .i64 ep, .int .i64 pid, .int .i64 ver, .int .i64 seq, .int .i64 kind, .bool txn, .string text] (by first | rfl | (simp; done) | (simp; omega))
  have hz1 : w.heap.size + 1 ≤ (w.alloc (.cells #[.int .i64 ep, .int .i64 pid, .int .i64 ver, .int .i64 seq, .int .i64 kind, .bool txn, .string text] 30)).heap.size := by first | omega | (simp; done) | (simp; omega)
  generalize w.alloc (.cells #[.int .i64 ep, .int .i64 pid, .int .i64 ver, .int .i64 seq, .int .i64 kind, .bool txn, .string text] 30) = W1 at *
  have HB1 := Lib.hid hb1
  have B1_bx := Lib.hid b_bx1
  clear hb1 b_bx1
  have c_bx0 := B1_bx.out.cell 0
  have c_bx1 := B1_bx.out.cell 1
  have c_bx2 := B1_bx.out.cell 2
  have c_bx3 := B1_bx.out.cell 3
  have c_bx4 := B1_bx.out.cell 4
  have c_bx5 := B1_bx.out.cell 5
  have c_bx6 := B1_bx.out.cell 6
  have l_bx := B1_bx.out.lt
  go_wp2_with fail
  refine (verOf_any _ es pid _ (H.out.below HB1.out) hl).mono ?_
  rintro e w9 ⟨rfl, he9⟩
  obtain rfl := he9.symm
  clear he9
  rw [HVT.out]
  go_wp2_with fail
  refine (markOf_any _ es pid _ (H.out.below HB1.out) hl).mono ?_
  rintro e w9 ⟨rfl, he9⟩
  obtain rfl := he9.symm
  clear he9
  rw [HMT.out]
  have hq : ∀ m, Calls Try.prog 18 #[.slice (some ⟨b1, o1, none⟩) es.length c, .int .i64 pid] (W1.drewN m) fun e w'' => e = .returned (.int .i64 oT) ∧ ∃ m', w'' = W1.drewN m' := fun m => Calls.quiet_of_same (by
    have h := openOf_any _ es pid (W1.drewN m) (H.out.below (below_then HB1.out (below_dn _ _))) hl
    rw [HOT.out] at h
    exact h)
  have HQ := Lib.hid hq
  clear hq
  have y2 := (HB1.out.cell (p := ⟨b1, o1 + m * 7 + 2, none⟩) hb1).trans XC.out.1
  have y4 := (HB1.out.cell (p := ⟨b1, o1 + m * 7 + 4, none⟩) hb1).trans XC.out.2
  have yl := Nat.lt_of_lt_of_le hb1 HB1.out.size
  go_wp2_with fail
  go_quiet ((go_at_call 18; exact HQ.out _))
  clear c_bx0 c_bx1 c_bx2 c_bx3 c_bx4 c_bx5 c_bx6 l_bx y2 y4 yl
  generalize hd : World.drewN W1 _ = W2 at *
  have hb : Below W1.heap.size W1 W2 := by rw [← hd]; exact below_dn _ _
  have hb2 : Below w.heap.size w W2 := below_then HB1.out hb
  have b_bx2 := B1_bx.out.below hb B1_bx.out.lt
  have hz2 := hb.size
  have HB2 := Lib.hid hb2
  have B2_bx := Lib.hid b_bx2
  clear hb2 b_bx2
  clear B1_bx HB1
  clear hd hb
  go_wp2
  go_ret2
  exact ⟨rfl, HB2.out⟩
set_option maxRecDepth 100000 in
set_option maxHeartbeats 4000000 in
theorem checkedOf_gap_old (v : Value) (es : List Ent) (x : Ent) (w : World) (h : Es w v es) (hl : es.length ≤ 9223372036854775806) (hx : 0 ≤ x.ver ∧ x.ver ≤ 1073741824 ∧ 0 ≤ x.seq ∧ x.seq ≤ 1073741824 ∧ 0 ≤ x.pid ∧ x.pid ≤ 1073741824) (h0 : x.pid ≠ 0) (q : PrD) {vT mT oT sT : Int} (hr : RefQ es x q vT mT oT sT) (hf : ¬ x.ver < q.ver) (hk : x.kind = 1) (hv : x.ver = vT) (hg : sT + 1 < x.seq) :
    Calls Try.prog 11 #[v, .agg #[.int .i64 x.ep, .int .i64 x.pid, .int .i64 x.ver, .int .i64 x.seq, .int .i64 x.kind, .bool x.txn, .string x.text]] w fun e w' => e = .returned (.tuple #[.int .i64 0, .int .i64 11]) ∧ Below w.heap.size w w' := by
  obtain ⟨A, c, rfl, hc, hx1⟩ := h.at_
  have HX := Lib.hid hx1
  have H := Lib.hid h
  obtain ⟨x0, x1, x2, x3, x4, x5⟩ := hx
  obtain ⟨hv_, hm_, ho_, hs_, hfe, hmk, hon, ⟨b1_, b2_, b3_, b4_⟩, hnew, hold⟩ := hr
  have z1 : (x.pid == 0) = false := beq_eq_false_iff_ne.2 h0
  have HVT := Lib.hid hv_
  have HMT := Lib.hid hm_
  have HOT := Lib.hid ho_
  have HST := Lib.hid hs_
  clear h hx1 h0 hv_ hm_ ho_ hs_
  have z2 : decide (x.ver < vT) = false := decide_eq_false (fun h => hf (hfe.1 h))
  have z3 : (x.kind != 1) = false := by simpa using hk
  clear hk
  have z4 : (x.ver == vT) = true := beq_iff_eq.2 hv
  clear hf hv
  have z5 : decide ((sT + 1) < x.seq) = true := decide_eq_true (by omega)
  have z6 : (x.seq == (sT + 1)) = false := beq_eq_false_iff_ne.2 (by omega)
  clear hg
  clear hfe hmk hon hnew hold
  obtain ⟨ep, pid, ver, seq, kind, txn, text⟩ := x
  obtain ⟨qv, qs, qo, qm⟩ := q
  simp only at *
  go_enter Try.func11, Try.ntmps11
  go_wp2_with fail
  have hb1 : Below w.heap.size w (w.alloc (.cells #[.int .i64 ep, .int .i64 pid, .int .i64 ver, .int .i64 seq, .int .i64 kind, .bool txn, .string text] 30)) := (Below.refl _ _).alloc (by first | omega | (simp; done) | (simp; omega)) _
  have hal1 : Below w.heap.size w (w.alloc (.cells #[.int .i64 ep, .int .i64 pid, .int .i64 ver, .int .i64 seq, .int .i64 kind, .bool txn, .string text] 30)) := (Below.refl _ _).alloc (by first | omega | (simp; done) | (simp; omega)) _
  have b_bx1 : Blk (w.alloc (.cells #[.int .i64 ep, .int .i64 pid, .int .i64 ver, .int .i64 seq, .int .i64 kind, .bool txn, .string text] 30)) (w.heap.size) 30 #[.int .i64 ep, .int .i64 pid, .int .i64 ver, .int .i64 seq, .int .i64 kind, .bool txn, .string text] := Blk.new_ _ 30 #[.int .i64 ep, .int .i64 pid, .int .i64 ver, .int .i64 seq, .int .i64 kind, .bool txn, .string text] (by first | rfl | (simp; done) | (simp; omega))
  have hz1 : w.heap.size + 1 ≤ (w.alloc (.cells #[.int .i64 ep, .int .i64 pid, .int .i64 ver, .int .i64 seq, .int .i64 kind, .bool txn, .string text] 30)).heap.size := by first | omega | (simp; done) | (simp; omega)
  generalize w.alloc (.cells #[.int .i64 ep, .int .i64 pid, .int .i64 ver, .int .i64 seq, .int .i64 kind, .bool txn, .string text] 30) = W1 at *
  have HB1 := Lib.hid hb1
  have B1_bx := Lib.hid b_bx1
  clear hb1 b_bx1
  have c_bx0 := B1_bx.out.cell 0
  have c_bx1 := B1_bx.out.cell 1
  have c_bx2 := B1_bx.out.cell 2
  have c_bx3 := B1_bx.out.cell 3
  have c_bx4 := B1_bx.out.cell 4
  have c_bx5 := B1_bx.out.cell 5
  have c_bx6 := B1_bx.out.cell 6
  have l_bx := B1_bx.out.lt
  go_wp2_with fail
  refine (verOf_any _ es pid _ (H.out.below HB1.out) hl).mono ?_
  rintro e w9 ⟨rfl, he9⟩
  obtain rfl := he9.symm
  clear he9
  rw [HVT.out]
  go_wp2_with fail
  refine (seqOf_any _ es pid _ (H.out.below HB1.out) hl).mono ?_
  rintro e w9 ⟨rfl, he9⟩
  obtain rfl := he9.symm
  clear he9
  rw [HST.out]
  go_wp2
  go_ret2
  exact ⟨rfl, HB1.out⟩
set_option maxRecDepth 100000 in
set_option maxHeartbeats 4000000 in
theorem checkedOf_next_old (v : Value) (es : List Ent) (x : Ent) (w : World) (h : Es w v es) (hl : es.length ≤ 9223372036854775806) (hx : 0 ≤ x.ver ∧ x.ver ≤ 1073741824 ∧ 0 ≤ x.seq ∧ x.seq ≤ 1073741824 ∧ 0 ≤ x.pid ∧ x.pid ≤ 1073741824) (h0 : x.pid ≠ 0) (q : PrD) {vT mT oT sT : Int} (hr : RefQ es x q vT mT oT sT) (hf : ¬ x.ver < q.ver) (hk : x.kind = 1) (hv : x.ver = vT) (hg : x.seq = sT + 1) :
    Calls Try.prog 11 #[v, .agg #[.int .i64 x.ep, .int .i64 x.pid, .int .i64 x.ver, .int .i64 x.seq, .int .i64 x.kind, .bool x.txn, .string x.text]] w fun e w' => e = .returned (.tuple #[.int .i64 (-1), .int .i64 0]) ∧ Below w.heap.size w w' := by
  obtain ⟨A, c, rfl, hc, hx1⟩ := h.at_
  have HX := Lib.hid hx1
  have H := Lib.hid h
  obtain ⟨x0, x1, x2, x3, x4, x5⟩ := hx
  obtain ⟨hv_, hm_, ho_, hs_, hfe, hmk, hon, ⟨b1_, b2_, b3_, b4_⟩, hnew, hold⟩ := hr
  have z1 : (x.pid == 0) = false := beq_eq_false_iff_ne.2 h0
  have HVT := Lib.hid hv_
  have HMT := Lib.hid hm_
  have HOT := Lib.hid ho_
  have HST := Lib.hid hs_
  clear h hx1 h0 hv_ hm_ ho_ hs_
  have z2 : decide (x.ver < vT) = false := decide_eq_false (fun h => hf (hfe.1 h))
  have z3 : (x.kind != 1) = false := by simpa using hk
  clear hk
  have z4 : (x.ver == vT) = true := beq_iff_eq.2 hv
  clear hf hv
  have z6 : (x.seq == (sT + 1)) = true := beq_iff_eq.2 (by omega)
  clear hg
  clear hfe hmk hon hnew hold
  obtain ⟨ep, pid, ver, seq, kind, txn, text⟩ := x
  obtain ⟨qv, qs, qo, qm⟩ := q
  simp only at *
  go_enter Try.func11, Try.ntmps11
  go_wp2_with fail
  have hb1 : Below w.heap.size w (w.alloc (.cells #[.int .i64 ep, .int .i64 pid, .int .i64 ver, .int .i64 seq, .int .i64 kind, .bool txn, .string text] 30)) := (Below.refl _ _).alloc (by first | omega | (simp; done) | (simp; omega)) _
  have hal1 : Below w.heap.size w (w.alloc (.cells #[.int .i64 ep, .int .i64 pid, .int .i64 ver, .int .i64 seq, .int .i64 kind, .bool txn, .string text] 30)) := (Below.refl _ _).alloc (by first | omega | (simp; done) | (simp; omega)) _
  have b_bx1 : Blk (w.alloc (.cells #[.int .i64 ep, .int .i64 pid, .int .i64 ver, .int .i64 seq, .int .i64 kind, .bool txn, .string text] 30)) (w.heap.size) 30 #[.int .i64 ep, .int .i64 pid, .int .i64 ver, .int .i64 seq, .int .i64 kind, .bool txn, .string text] := Blk.new_ _ 30 #[.int .i64 ep, .int .i64 pid, .int .i64 ver, .int .i64 seq, .int .i64 kind, .bool txn, .string text] (by first | rfl | (simp; done) | (simp; omega))
  have hz1 : w.heap.size + 1 ≤ (w.alloc (.cells #[.int .i64 ep, .int .i64 pid, .int .i64 ver, .int .i64 seq, .int .i64 kind, .bool txn, .string text] 30)).heap.size := by first | omega | (simp; done) | (simp; omega)
  generalize w.alloc (.cells #[.int .i64 ep, .int .i64 pid, .int .i64 ver, .int .i64 seq, .int .i64 kind, .bool txn, .string text] 30) = W1 at *
  have HB1 := Lib.hid hb1
  have B1_bx := Lib.hid b_bx1
  clear hb1 b_bx1
  have c_bx0 := B1_bx.out.cell 0
  have c_bx1 := B1_bx.out.cell 1
  have c_bx2 := B1_bx.out.cell 2
  have c_bx3 := B1_bx.out.cell 3
  have c_bx4 := B1_bx.out.cell 4
  have c_bx5 := B1_bx.out.cell 5
  have c_bx6 := B1_bx.out.cell 6
  have l_bx := B1_bx.out.lt
  go_wp2_with fail
  refine (verOf_any _ es pid _ (H.out.below HB1.out) hl).mono ?_
  rintro e w9 ⟨rfl, he9⟩
  obtain rfl := he9.symm
  clear he9
  rw [HVT.out]
  go_wp2_with fail
  refine (seqOf_any _ es pid _ (H.out.below HB1.out) hl).mono ?_
  rintro e w9 ⟨rfl, he9⟩
  obtain rfl := he9.symm
  clear he9
  rw [HST.out]
  go_wp2
  go_ret2
  exact ⟨rfl, HB1.out⟩
set_option maxRecDepth 100000 in
set_option maxHeartbeats 4000000 in
theorem checkedOf_find_old (v : Value) (es : List Ent) (x : Ent) (w : World) (h : Es w v es) (hl : es.length ≤ 9223372036854775806) (hx : 0 ≤ x.ver ∧ x.ver ≤ 1073741824 ∧ 0 ≤ x.seq ∧ x.seq ≤ 1073741824 ∧ 0 ≤ x.pid ∧ x.pid ≤ 1073741824) (h0 : x.pid ≠ 0) (q : PrD) {vT mT oT sT : Int} (hr : RefQ es x q vT mT oT sT) (hf : ¬ x.ver < q.ver) (hk : x.kind = 1) (hv : x.ver = vT) (hg : x.seq < sT + 1) {n cd : Int} (hfi : FindTo es x n cd) :
    Calls Try.prog 11 #[v, .agg #[.int .i64 x.ep, .int .i64 x.pid, .int .i64 x.ver, .int .i64 x.seq, .int .i64 x.kind, .bool x.txn, .string x.text]] w fun e w' => e = .returned (.tuple #[.int .i64 n, .int .i64 cd]) ∧ Below w.heap.size w w' := by
  obtain ⟨A, c, rfl, hc, hx1⟩ := h.at_
  have HX := Lib.hid hx1
  have H := Lib.hid h
  obtain ⟨x0, x1, x2, x3, x4, x5⟩ := hx
  obtain ⟨hv_, hm_, ho_, hs_, hfe, hmk, hon, ⟨b1_, b2_, b3_, b4_⟩, hnew, hold⟩ := hr
  have z1 : (x.pid == 0) = false := beq_eq_false_iff_ne.2 h0
  have HVT := Lib.hid hv_
  have HMT := Lib.hid hm_
  have HOT := Lib.hid ho_
  have HST := Lib.hid hs_
  clear h hx1 h0 hv_ hm_ ho_ hs_
  have z2 : decide (x.ver < vT) = false := decide_eq_false (fun h => hf (hfe.1 h))
  have z3 : (x.kind != 1) = false := by simpa using hk
  clear hk
  have z4 : (x.ver == vT) = true := beq_iff_eq.2 hv
  clear hf hv
  have z5 : decide ((sT + 1) < x.seq) = false := decide_eq_false (by omega)
  have z6 : (x.seq == (sT + 1)) = false := beq_eq_false_iff_ne.2 (by omega)
  have HFT := Lib.hid hfi
  clear hg hfi
  clear hfe hmk hon hnew hold
  obtain ⟨ep, pid, ver, seq, kind, txn, text⟩ := x
  obtain ⟨qv, qs, qo, qm⟩ := q
  simp only at *
  go_enter Try.func11, Try.ntmps11
  go_wp2_with fail
  have hb1 : Below w.heap.size w (w.alloc (.cells #[.int .i64 ep, .int .i64 pid, .int .i64 ver, .int .i64 seq, .int .i64 kind, .bool txn, .string text] 30)) := (Below.refl _ _).alloc (by first | omega | (simp; done) | (simp; omega)) _
  have hal1 : Below w.heap.size w (w.alloc (.cells #[.int .i64 ep, .int .i64 pid, .int .i64 ver, .int .i64 seq, .int .i64 kind, .bool txn, .string text] 30)) := (Below.refl _ _).alloc (by first | omega | (simp; done) | (simp; omega)) _
  have b_bx1 : Blk (w.alloc (.cells #[.int .i64 ep, .int .i64 pid, .int .i64 ver, .int .i64 seq, .int .i64 kind, .bool txn, .string text] 30)) (w.heap.size) 30 #[.int .i64 ep, .int .i64 pid, .int .i64 ver, .int .i64 seq, .int .i64 kind, .bool txn, .string text] := Blk.new_ _ 30 #[.int .i64 ep, .int .i64 pid, .int .i64 ver, .int .i64 seq, .int .i64 kind, .bool txn, .string text] (by first | rfl | (simp; done) | (simp; omega))
  have hz1 : w.heap.size + 1 ≤ (w.alloc (.cells #[.int .i64 ep, .int .i64 pid, .int .i64 ver, .int .i64 seq, .int .i64 kind, .bool txn, .string text] 30)).heap.size := by first | omega | (simp; done) | (simp; omega)
  generalize w.alloc (.cells #[.int .i64 ep, .int .i64 pid, .int .i64 ver, .int .i64 seq, .int .i64 kind, .bool txn, .string text] 30) = W1 at *
  have HB1 := Lib.hid hb1
  have B1_bx := Lib.hid b_bx1
  clear hb1 b_bx1
  have c_bx0 := B1_bx.out.cell 0
  have c_bx1 := B1_bx.out.cell 1
  have c_bx2 := B1_bx.out.cell 2
  have c_bx3 := B1_bx.out.cell 3
  have c_bx4 := B1_bx.out.cell 4
  have c_bx5 := B1_bx.out.cell 5
  have c_bx6 := B1_bx.out.cell 6
  have l_bx := B1_bx.out.lt
  go_wp2_with fail
  refine (verOf_any _ es pid _ (H.out.below HB1.out) hl).mono ?_
  rintro e w9 ⟨rfl, he9⟩
  obtain rfl := he9.symm
  clear he9
  rw [HVT.out]
  go_wp2_with fail
  refine (seqOf_any _ es pid _ (H.out.below HB1.out) hl).mono ?_
  rintro e w9 ⟨rfl, he9⟩
  obtain rfl := he9.symm
  clear he9
  rw [HST.out]
  go_wp2_with fail
  clear c_bx0 c_bx1 c_bx2 c_bx3 c_bx4 c_bx5 c_bx6 l_bx
  go_loopw [9] (fun y wr => ∃ k : Nat, k ≤ es.length ∧ y = .int .i64 k ∧ Hid (Blk wr w.heap.size 30 #[.int .i64 ep, .int .i64 pid, .int .i64 ver, .int .i64 seq, .int .i64 kind, .bool txn, .string text]) ∧ Hid (Below w.heap.size w wr) ∧ Hid (∀ j : Nat, j < k → ¬ SameAt es ⟨ep, pid, ver, seq, kind, txn, text⟩ j)) (fun y _ => es.length - (intOf y).toNat)
  case atStart => exact ⟨0, Nat.zero_le _, rfl, B1_bx, HB1, Lib.hid (fun j h => by omega)⟩
  case round =>
    obtain ⟨k, hk, rfl, HBX2, HB2, HN⟩ := hrel
    have c1 := HBX2.out.cell 1
    have c2 := HBX2.out.cell 2
    have c3 := HBX2.out.cell 3
    have cl := HBX2.out.lt
    by_cases hlt : k < es.length
    · obtain ⟨b1, o1, rfl, hb1, hcell⟩ := HX.out (Nat.lt_of_le_of_lt (Nat.zero_le _) hlt)
      obtain ⟨-, y1, y2, y3, y4, -, -⟩ := hcell k hlt
      have hnext : ¬ SameAt es ⟨ep, pid, ver, seq, kind, txn, text⟩ k → ∀ j : Nat, j < k + 1 → ¬ SameAt es ⟨ep, pid, ver, seq, kind, txn, text⟩ j := fun hn j h2 => by
        rcases Nat.lt_succ_iff_lt_or_eq.1 h2 with h' | rfl
        · exact HN.out j h'
        · exact hn
      have HNX := Lib.hid hnext
      have HAT := Lib.hid (show SameAt es ⟨ep, pid, ver, seq, kind, txn, text⟩ k ↔ es[k].kind = 1 ∧ es[k].pid = pid ∧ es[k].ver = ver ∧ es[k].seq = seq from ⟨fun ⟨_, h⟩ => h, fun h => ⟨hlt, h⟩⟩)
      clear hnext hcell
      generalize es[k] = y at *
      obtain ⟨e0, e1, e2, e3, e4, e5, e6⟩ := y
      simp only at *
      have Y1 := (HB2.out.cell (p := ⟨b1, o1 + k * 7 + 1, none⟩) hb1).trans y1
      have Y2 := (HB2.out.cell (p := ⟨b1, o1 + k * 7 + 2, none⟩) hb1).trans y2
      have Y3 := (HB2.out.cell (p := ⟨b1, o1 + k * 7 + 3, none⟩) hb1).trans y3
      have Y4 := (HB2.out.cell (p := ⟨b1, o1 + k * 7 + 4, none⟩) hb1).trans y4
      have yl := Nat.lt_of_lt_of_le hb1 HB2.out.size
      have kk0 : (0 : Int) ≤ (k : Int) := by omega
      have kk1 : (k : Int) < (es.length : Int) := by omega
      clear y1 y2 y3 y4
      by_cases g0 : e4 = 1
      · have u0 : (e4 == 1) = true := beq_iff_eq.2 g0
        by_cases g1 : e1 = pid
        · have u1 : (e1 == pid) = true := beq_iff_eq.2 g1
          by_cases g2 : e2 = ver
          · have u2 : (e2 == ver) = true := beq_iff_eq.2 g2
            by_cases g3 : e3 = seq
            · have u3 : (e3 == seq) = true := beq_iff_eq.2 g3
              have hat := HAT.out.2 ⟨g0, g1, g2, g3⟩
              have hu := HFT.out.unique (.at_ k hat HN.out)
              have HU := Lib.hid hu
              clear g0 g1 g2 g3 hat hu
              go_wp2
              go_quiet (fail)
              go_wp2
              go_ret2
              exact ⟨by rw [HU.out.1, HU.out.2]; rfl, below_then HB2.out (below_dn _ _)⟩
            · have u3 : (e3 == seq) = false := beq_eq_false_iff_ne.2 g3
              have H2 := Lib.hid (HNX.out (fun h => g3 (HAT.out.1 h).2.2.2))
              clear HNX HAT g0 g1 g2 g3
              go_wp2
              go_quiet (fail)
              go_wp2
              go_light
              exact ⟨⟨k + 1, by omega, by go_num, Lib.hid (HBX2.out.below (below_dn _ _) HBX2.out.lt), Lib.hid (below_then HB2.out (below_dn _ _)), H2⟩, by simp [intOf]; omega⟩
          · have u2 : (e2 == ver) = false := beq_eq_false_iff_ne.2 g2
            have H2 := Lib.hid (HNX.out (fun h => g2 (HAT.out.1 h).2.2.1))
            clear HNX HAT g0 g1 g2
            go_wp2
            go_quiet (fail)
            go_wp2
            go_light
            exact ⟨⟨k + 1, by omega, by go_num, Lib.hid (HBX2.out.below (below_dn _ _) HBX2.out.lt), Lib.hid (below_then HB2.out (below_dn _ _)), H2⟩, by simp [intOf]; omega⟩
        · have u1 : (e1 == pid) = false := beq_eq_false_iff_ne.2 g1
          have H2 := Lib.hid (HNX.out (fun h => g1 (HAT.out.1 h).2.1))
          clear HNX HAT g0 g1
          go_wp2
          go_quiet (fail)
          go_wp2
          go_light
          exact ⟨⟨k + 1, by omega, by go_num, Lib.hid (HBX2.out.below (below_dn _ _) HBX2.out.lt), Lib.hid (below_then HB2.out (below_dn _ _)), H2⟩, by simp [intOf]; omega⟩
      · have u0 : (e4 == 1) = false := beq_eq_false_iff_ne.2 g0
        have H2 := Lib.hid (HNX.out (fun h => g0 (HAT.out.1 h).1))
        clear HNX HAT g0
        go_wp2
        go_quiet (fail)
        go_wp2
        go_light
        exact ⟨⟨k + 1, by omega, by go_num, Lib.hid (HBX2.out.below (below_dn _ _) HBX2.out.lt), Lib.hid (below_then HB2.out (below_dn _ _)), H2⟩, by simp [intOf]; omega⟩
    · obtain rfl : k = es.length := by omega
      have hu := HFT.out.unique (.no (fun j hj => HN.out j hj.1 hj))
      have HU := Lib.hid hu
      clear hu
      go_wp2
      go_ret2
      exact ⟨by rw [HU.out.1, HU.out.2]; rfl, HB2.out⟩
set_option maxRecDepth 100000 in
set_option maxHeartbeats 4000000 in
theorem checkedOf_gap_new (v : Value) (es : List Ent) (x : Ent) (w : World) (h : Es w v es) (hl : es.length ≤ 9223372036854775806) (hx : 0 ≤ x.ver ∧ x.ver ≤ 1073741824 ∧ 0 ≤ x.seq ∧ x.seq ≤ 1073741824 ∧ 0 ≤ x.pid ∧ x.pid ≤ 1073741824) (h0 : x.pid ≠ 0) (q : PrD) {vT mT oT sT : Int} (hr : RefQ es x q vT mT oT sT) (hf : ¬ x.ver < q.ver) (hk : x.kind = 1) (hv : x.ver ≠ vT) (hg : -1 + 1 < x.seq) :
    Calls Try.prog 11 #[v, .agg #[.int .i64 x.ep, .int .i64 x.pid, .int .i64 x.ver, .int .i64 x.seq, .int .i64 x.kind, .bool x.txn, .string x.text]] w fun e w' => e = .returned (.tuple #[.int .i64 0, .int .i64 11]) ∧ Below w.heap.size w w' := by
  obtain ⟨A, c, rfl, hc, hx1⟩ := h.at_
  have HX := Lib.hid hx1
  have H := Lib.hid h
  obtain ⟨x0, x1, x2, x3, x4, x5⟩ := hx
  obtain ⟨hv_, hm_, ho_, hs_, hfe, hmk, hon, ⟨b1_, b2_, b3_, b4_⟩, hnew, hold⟩ := hr
  have z1 : (x.pid == 0) = false := beq_eq_false_iff_ne.2 h0
  have HVT := Lib.hid hv_
  have HMT := Lib.hid hm_
  have HOT := Lib.hid ho_
  have HST := Lib.hid hs_
  clear h hx1 h0 hv_ hm_ ho_ hs_
  have z2 : decide (x.ver < vT) = false := decide_eq_false (fun h => hf (hfe.1 h))
  have z3 : (x.kind != 1) = false := by simpa using hk
  clear hk
  have z4 : (x.ver == vT) = false := beq_eq_false_iff_ne.2 hv
  clear hf hv
  have z5 : decide (0 < x.seq) = true := decide_eq_true (by omega)
  have z6 : (x.seq == 0) = false := beq_eq_false_iff_ne.2 (by omega)
  clear hg
  clear hfe hmk hon hnew hold
  obtain ⟨ep, pid, ver, seq, kind, txn, text⟩ := x
  obtain ⟨qv, qs, qo, qm⟩ := q
  simp only at *
  go_enter Try.func11, Try.ntmps11
  go_wp2_with fail
  have hb1 : Below w.heap.size w (w.alloc (.cells #[.int .i64 ep, .int .i64 pid, .int .i64 ver, .int .i64 seq, .int .i64 kind, .bool txn, .string text] 30)) := (Below.refl _ _).alloc (by first | omega | (simp; done) | (simp; omega)) _
  have hal1 : Below w.heap.size w (w.alloc (.cells #[.int .i64 ep, .int .i64 pid, .int .i64 ver, .int .i64 seq, .int .i64 kind, .bool txn, .string text] 30)) := (Below.refl _ _).alloc (by first | omega | (simp; done) | (simp; omega)) _
  have b_bx1 : Blk (w.alloc (.cells #[.int .i64 ep, .int .i64 pid, .int .i64 ver, .int .i64 seq, .int .i64 kind, .bool txn, .string text] 30)) (w.heap.size) 30 #[.int .i64 ep, .int .i64 pid, .int .i64 ver, .int .i64 seq, .int .i64 kind, .bool txn, .string text] := Blk.new_ _ 30 #[.int .i64 ep, .int .i64 pid, .int .i64 ver, .int .i64 seq, .int .i64 kind, .bool txn, .string text] (by first | rfl | (simp; done) | (simp; omega))
  have hz1 : w.heap.size + 1 ≤ (w.alloc (.cells #[.int .i64 ep, .int .i64 pid, .int .i64 ver, .int .i64 seq, .int .i64 kind, .bool txn, .string text] 30)).heap.size := by first | omega | (simp; done) | (simp; omega)
  generalize w.alloc (.cells #[.int .i64 ep, .int .i64 pid, .int .i64 ver, .int .i64 seq, .int .i64 kind, .bool txn, .string text] 30) = W1 at *
  have HB1 := Lib.hid hb1
  have B1_bx := Lib.hid b_bx1
  clear hb1 b_bx1
  have c_bx0 := B1_bx.out.cell 0
  have c_bx1 := B1_bx.out.cell 1
  have c_bx2 := B1_bx.out.cell 2
  have c_bx3 := B1_bx.out.cell 3
  have c_bx4 := B1_bx.out.cell 4
  have c_bx5 := B1_bx.out.cell 5
  have c_bx6 := B1_bx.out.cell 6
  have l_bx := B1_bx.out.lt
  go_wp2_with fail
  refine (verOf_any _ es pid _ (H.out.below HB1.out) hl).mono ?_
  rintro e w9 ⟨rfl, he9⟩
  obtain rfl := he9.symm
  clear he9
  rw [HVT.out]
  go_wp2_with fail
  go_wp2
  go_ret2
  exact ⟨rfl, HB1.out⟩
set_option maxRecDepth 100000 in
set_option maxHeartbeats 4000000 in
theorem checkedOf_next_new (v : Value) (es : List Ent) (x : Ent) (w : World) (h : Es w v es) (hl : es.length ≤ 9223372036854775806) (hx : 0 ≤ x.ver ∧ x.ver ≤ 1073741824 ∧ 0 ≤ x.seq ∧ x.seq ≤ 1073741824 ∧ 0 ≤ x.pid ∧ x.pid ≤ 1073741824) (h0 : x.pid ≠ 0) (q : PrD) {vT mT oT sT : Int} (hr : RefQ es x q vT mT oT sT) (hf : ¬ x.ver < q.ver) (hk : x.kind = 1) (hv : x.ver ≠ vT) (hg : x.seq = -1 + 1) :
    Calls Try.prog 11 #[v, .agg #[.int .i64 x.ep, .int .i64 x.pid, .int .i64 x.ver, .int .i64 x.seq, .int .i64 x.kind, .bool x.txn, .string x.text]] w fun e w' => e = .returned (.tuple #[.int .i64 (-1), .int .i64 0]) ∧ Below w.heap.size w w' := by
  obtain ⟨A, c, rfl, hc, hx1⟩ := h.at_
  have HX := Lib.hid hx1
  have H := Lib.hid h
  obtain ⟨x0, x1, x2, x3, x4, x5⟩ := hx
  obtain ⟨hv_, hm_, ho_, hs_, hfe, hmk, hon, ⟨b1_, b2_, b3_, b4_⟩, hnew, hold⟩ := hr
  have z1 : (x.pid == 0) = false := beq_eq_false_iff_ne.2 h0
  have HVT := Lib.hid hv_
  have HMT := Lib.hid hm_
  have HOT := Lib.hid ho_
  have HST := Lib.hid hs_
  clear h hx1 h0 hv_ hm_ ho_ hs_
  have z2 : decide (x.ver < vT) = false := decide_eq_false (fun h => hf (hfe.1 h))
  have z3 : (x.kind != 1) = false := by simpa using hk
  clear hk
  have z4 : (x.ver == vT) = false := beq_eq_false_iff_ne.2 hv
  clear hf hv
  have z6 : (x.seq == 0) = true := beq_iff_eq.2 (by omega)
  clear hg
  clear hfe hmk hon hnew hold
  obtain ⟨ep, pid, ver, seq, kind, txn, text⟩ := x
  obtain ⟨qv, qs, qo, qm⟩ := q
  simp only at *
  go_enter Try.func11, Try.ntmps11
  go_wp2_with fail
  have hb1 : Below w.heap.size w (w.alloc (.cells #[.int .i64 ep, .int .i64 pid, .int .i64 ver, .int .i64 seq, .int .i64 kind, .bool txn, .string text] 30)) := (Below.refl _ _).alloc (by first | omega | (simp; done) | (simp; omega)) _
  have hal1 : Below w.heap.size w (w.alloc (.cells #[.int .i64 ep, .int .i64 pid, .int .i64 ver, .int .i64 seq, .int .i64 kind, .bool txn, .string text] 30)) := (Below.refl _ _).alloc (by first | omega | (simp; done) | (simp; omega)) _
  have b_bx1 : Blk (w.alloc (.cells #[.int .i64 ep, .int .i64 pid, .int .i64 ver, .int .i64 seq, .int .i64 kind, .bool txn, .string text] 30)) (w.heap.size) 30 #[.int .i64 ep, .int .i64 pid, .int .i64 ver, .int .i64 seq, .int .i64 kind, .bool txn, .string text] := Blk.new_ _ 30 #[.int .i64 ep, .int .i64 pid, .int .i64 ver, .int .i64 seq, .int .i64 kind, .bool txn, .string text] (by first | rfl | (simp; done) | (simp; omega))
  have hz1 : w.heap.size + 1 ≤ (w.alloc (.cells #[.int .i64 ep, .int .i64 pid, .int .i64 ver, .int .i64 seq, .int .i64 kind, .bool txn, .string text] 30)).heap.size := by first | omega | (simp; done) | (simp; omega)
  generalize w.alloc (.cells #[.int .i64 ep, .int .i64 pid, .int .i64 ver, .int .i64 seq, .int .i64 kind, .bool txn, .string text] 30) = W1 at *
  have HB1 := Lib.hid hb1
  have B1_bx := Lib.hid b_bx1
  clear hb1 b_bx1
  have c_bx0 := B1_bx.out.cell 0
  have c_bx1 := B1_bx.out.cell 1
  have c_bx2 := B1_bx.out.cell 2
  have c_bx3 := B1_bx.out.cell 3
  have c_bx4 := B1_bx.out.cell 4
  have c_bx5 := B1_bx.out.cell 5
  have c_bx6 := B1_bx.out.cell 6
  have l_bx := B1_bx.out.lt
  go_wp2_with fail
  refine (verOf_any _ es pid _ (H.out.below HB1.out) hl).mono ?_
  rintro e w9 ⟨rfl, he9⟩
  obtain rfl := he9.symm
  clear he9
  rw [HVT.out]
  go_wp2_with fail
  go_wp2
  go_ret2
  exact ⟨rfl, HB1.out⟩
end Go.Proofs.Ythefakbhaaponaa
