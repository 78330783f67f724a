/- Parts of a proof, merged: DecB, SegF, SegA, SegB, SegC, SegD, PartE, Ans, PartF, PartG. No condition. -/
import Derived.Test.YtpjjfnpdopdnkaaPf3
import Derived.Test.YtpjjfnpdopdnkaaPf1
import Derived.Test.YtpjjfnpdopdnkaaPf2
namespace Go.Proofs.Ytpjjfnpdopdnkaa
open Go.RowKit

set_option maxRecDepth 100000 in
set_option maxHeartbeats 4000000 in
theorem entriesIn_any (v : Value) (l : List UInt8) (w : World) (hv : By w v l) (hl : l.length ≤ 1099511627776) :
    Calls Try.prog 29 #[v] w (DecPost l w) := by
  obtain ⟨j0, hj0, hy0, hy1, hy2⟩ := info_parts ent_info
  obtain ⟨A, c, rfl, hc, hcell⟩ := hv.at_
  have HC := Lib.hid hcell
  have hvB := Lib.hid hv
  clear hv hcell
  go_enter Try.func29, Try.ntmps29
  go_wp2
  go_loopw [4, 5] (fun o a wr => DecLp w l o a wr) (fun _ a _ => l.length - (intOf a).toNat)
  case atStart => exact decLp_start w l
  case round =>
    obtain ⟨i, es, o, hi, rfl, rfl, h4, ho, hd, hb⟩ := hrel
    by_cases hlt : i < l.length
    · obtain ⟨b, off, rfl, hbl, hcs⟩ := HC.out (by omega)
      obtain ⟨n, hn, hn256, hbad, hgood⟩ := dec_at hlt
      have X0 := (hb.cell (p := ⟨b, off + i, none⟩) hbl).trans (hcs i hlt)
      rw [hn] at X0
      have HBAD := Lib.hid hbad
      have HGOOD := Lib.hid hgood
      have HCS := Lib.hid hcs
      have HB := Lib.hid hb
      have hsz := hb.size
      have i0 : (0 : Int) ≤ (i : Int) := by omega
      have i1 : (i : Int) < (l.length : Int) := by omega
      clear hbad hgood hcs hb hn
      by_cases h0 : n = 0
      · have z0 : decide ((n : Int) < 1) = true := decide_eq_true (by omega)
        go_wp2
        exact bodyPost_ret (v := .tuple #[u4, .int .i64 i]) (by simp [results, Try.results29, go_sem]) rfl (decLp_end ho hd HB.out (HBAD.out (Or.inl h0)))
      · have z0 : decide ((n : Int) < 1) = false := decide_eq_false (by omega)
        by_cases hg : l.length < i + n + 3
        · have z1 : decide ((l.length : Int) ≤ (i : Int) + (n : Int) + 2) = true := decide_eq_true (by omega)
          go_wp2
          exact bodyPost_ret (v := .tuple #[u4, .int .i64 i]) (by simp [results, Try.results29, go_sem]) rfl (decLp_end ho hd HB.out (HBAD.out (Or.inr hg)))
        · have z1 : decide ((l.length : Int) ≤ (i : Int) + (n : Int) + 2) = false := decide_eq_false (by omega)
          have hng : ¬ (n = 0 ∨ l.length < i + n + 3) := by omega
          obtain ⟨q1, q2, q1lt, q2lt, ⟨h1, e1⟩, ⟨h2, e2⟩, hsum, hbody, hstep⟩ := HGOOD.out hng
          have X1 := (HB.out.cell (p := ⟨b, off + (i + n + 1), none⟩) hbl).trans (HCS.out (i + n + 1) h1)
          have X2 := (HB.out.cell (p := ⟨b, off + (i + n + 2), none⟩) hbl).trans (HCS.out (i + n + 2) h2)
          rw [e1] at X1
          rw [e2] at X2
          have HSUM := Lib.hid hsum
          have HSTEP := Lib.hid hstep
          have HBODY := Lib.hid hbody
          clear hsum hbody hstep e1 e2 h1 h2
          have hx := By.take_ (n := n) (By.drop_ (hvB.out.below HB.out) (i := i + 1) (by omega)) (by rw [List.length_drop]; omega)
          have hxl : ((l.drop (i + 1)).take n).length = n := by rw [List.length_take, List.length_drop]; omega
          rw [hxl] at hx
          generalize hxe : (l.drop (i + 1)).take n = x at *
          have HXE := Lib.hid hxe
          have i2 : i + 1 < c := by omega
          have i3 : (i : Int) + 1 + (n : Int) ≤ (c : Int) := by omega
          have hor := or_byte q1 q2 q1lt q2lt
          clear hxe
          have hs256 : wsum x n % 65521 < 65521 := Nat.mod_lt _ (by omega)
          generalize hse : wsum x n % 65521 = s at *
          have HSE := Lib.hid hse
          clear hse HGOOD hor
          obtain ⟨k0, r0, rfl⟩ : ∃ k0 r0, x = k0 :: r0 := by
            rcases x with _ | ⟨k0, r0⟩
            · simp at hxl; omega
            · exact ⟨k0, r0, rfl⟩
          simp only [List.length_cons] at hxl
          have hni : i + 1 + n - (i + 1) = n := by omega
          go_wp2_with fail
          try simp only [hni]
          refine (entryIn_any _ k0 r0 wr hx (by omega)).mono ?_
          rintro e W2 ⟨y, bb, rfl, hyy1, hyy2, hb2⟩
          simp only [entV]
          have HY1 := Lib.hid hyy1
          have HY2 := Lib.hid hyy2
          clear hyy1 hyy2
          have hoW2 := own_keep ho hb2 (fun b hb => (ho.lt b hb).2)
          have hbW2 := HB.out.trans (hb2.mono hsz)
          have hx2 := (hx.below hb2).below ((Below.refl W2.heap.size W2).alloc (Nat.le_refl _) (.cells #[.int .i64 y.ep, .int .i64 y.pid, .int .i64 y.ver, .int .i64 y.seq, .int .i64 y.kind, .bool y.txn, .string y.text] 55))
          have Y1 := (World.cell?_alloc_lt W2 (.cells #[.int .i64 y.ep, .int .i64 y.pid, .int .i64 y.ver, .int .i64 y.seq, .int .i64 y.kind, .bool y.txn, .string y.text] 55) _ (cell_lt ((hb2.cell (p := ⟨b, off + (i + n + 1), none⟩) (cell_lt X1)).trans X1))).trans ((hb2.cell (p := ⟨b, off + (i + n + 1), none⟩) (cell_lt X1)).trans X1)
          have Y2 := (World.cell?_alloc_lt W2 (.cells #[.int .i64 y.ep, .int .i64 y.pid, .int .i64 y.ver, .int .i64 y.seq, .int .i64 y.kind, .bool y.txn, .string y.text] 55) _ (cell_lt ((hb2.cell (p := ⟨b, off + (i + n + 2), none⟩) (cell_lt X2)).trans X2))).trans ((hb2.cell (p := ⟨b, off + (i + n + 2), none⟩) (cell_lt X2)).trans X2)
          have hbe := Blk.new W2 55 #[.int .i64 y.ep, .int .i64 y.pid, .int .i64 y.ver, .int .i64 y.seq, .int .i64 y.kind, .bool y.txn, .string y.text]
          have hoW3 := hoW2.alloc (.cells #[.int .i64 y.ep, .int .i64 y.pid, .int .i64 y.ver, .int .i64 y.seq, .int .i64 y.kind, .bool y.txn, .string y.text] 55)
          have hbW3 := hbW2.alloc hbW2.size (.cells #[.int .i64 y.ep, .int .i64 y.pid, .int .i64 y.ver, .int .i64 y.seq, .int .i64 y.kind, .bool y.txn, .string y.text] 55)
          cases bb
          · have HBW := Lib.hid hbW3
            go_wp2
            go_quiet (fail)
            go_wp2
            exact bodyPost_ret (v := .tuple #[u4, .int .i64 i]) (by simp [results, Try.results29, go_sem]) rfl (decLp_end hoW3 hd (below_then HBW.out (below_drewN_ _ nq)) (HBODY.out (HY2.out (by first | rfl | trivial))))
          · have hq : ∀ m, Calls Try.prog 78 #[.slice (some ⟨b, off + (i + 1), none⟩) n (c - (i + 1))] ((W2.alloc (.cells #[.int .i64 y.ep, .int .i64 y.pid, .int .i64 y.ver, .int .i64 y.seq, .int .i64 y.kind, .bool y.txn, .string y.text] 55)).drewN m) fun e w'' => e = .returned (.int .i64 ((s : Nat) : Int)) ∧ ∃ m', w'' = (W2.alloc (.cells #[.int .i64 y.ep, .int .i64 y.pid, .int .i64 y.ver, .int .i64 y.seq, .int .i64 y.kind, .bool y.txn, .string y.text] 55)).drewN m' := fun m => by
              have h := quiet_sumOf (n := m) hx2 (by simp only [List.length_cons]; omega)
              rw [List.length_cons, hxl, HSE.out] at h
              exact h
            have HQ := Lib.hid hq
            clear hq
            by_cases hs : s = q1 * 256 + q2
            · have z2 : ((s : Int) != 256 * (q1 : Int) + (q2 : Int)) = false := by simp only [bne_eq_false_iff_eq]; omega
              have HBW := Lib.hid hbW3
              have hsz2 := hbW2.size
              have HI := Lib.hid (show i + n + 3 ≤ l.length from by omega)
              have HDD := hd
              clear hbW3 hbW2 hb2 hd
              go_wp2
              go_quiet ((go_at_call 78; exact HQ.out _))
              have hbq := below_drewN_ (W2.alloc (.cells #[.int .i64 y.ep, .int .i64 y.pid, .int .i64 y.ver, .int .i64 y.seq, .int .i64 y.kind, .bool y.txn, .string y.text] 55)) nq
              have hsz5 : w.heap.size ≤ ((W2.alloc (.cells #[.int .i64 y.ep, .int .i64 y.pid, .int .i64 y.ver, .int .i64 y.seq, .int .i64 y.kind, .bool y.txn, .string y.text] 55)).drewN nq).heap.size := by show w.heap.size ≤ (W2.alloc (.cells #[.int .i64 y.ep, .int .i64 y.pid, .int .i64 y.ver, .int .i64 y.seq, .int .i64 y.kind, .bool y.txn, .string y.text] 55)).heap.size; simp; omega
              have hoW5 : ((W2.alloc (.cells #[.int .i64 y.ep, .int .i64 y.pid, .int .i64 y.ver, .int .i64 y.seq, .int .i64 y.kind, .bool y.txn, .string y.text] 55)).drewN nq).ownsRow w.heap.size 55 7 u4 es.length (ecs es) := hoW3
              have hbe5 : Blk ((W2.alloc (.cells #[.int .i64 y.ep, .int .i64 y.pid, .int .i64 y.ver, .int .i64 y.seq, .int .i64 y.kind, .bool y.txn, .string y.text] 55)).drewN nq) W2.heap.size 55 #[.int .i64 y.ep, .int .i64 y.pid, .int .i64 y.ver, .int .i64 y.seq, .int .i64 y.kind, .bool y.txn, .string y.text] := hbe
              have HB5 := Lib.hid (below_then HBW.out hbq)
              generalize (W2.alloc (.cells #[.int .i64 y.ep, .int .i64 y.pid, .int .i64 y.ver, .int .i64 y.seq, .int .i64 y.kind, .bool y.txn, .string y.text] 55)).drewN nq = W5 at *
              have e0 := hbe5.cell 0
              have e1 := hbe5.cell 1
              have e2 := hbe5.cell 2
              have e3 := hbe5.cell 3
              have e4 := hbe5.cell 4
              have e5 := hbe5.cell 5
              have e6 := hbe5.cell 6
              have el := hbe5.lt
              clear hoW2 hoW3
              go_wp2_with (at_builtin; go_must (refine wpList_append_sl _ rfl (.tmp 72) (.tmp 74) 35 rfl w.heap.size 55 j0 (.agg #[.int .i64 0, .int .i64 0, .int .i64 0, .int .i64 0, .int .i64 0, .bool false, .string .empty]) 7 64 Try.underlying35 hj0 hy0 hy1 hy2 rfl (by decide) _ _ _ (by rfl) (hoW5.alloc _) _ 1 _ (by rfl) (Sl.lit' _ _ _ 7 1 _ rfl (by simp)) (by intro x hx; simp at hx; rcases hx with rfl | rfl | rfl | rfl | rfl | rfl | rfl <;> rfl) (by simp only [maxLen]; omega) (by omega) (by simp; omega) ?_; intro v4 w4 ho4 hg4 ha4))
              go_light
              exact ⟨decLp_next HI.out h4 h0 ho4 HDD (HSTEP.out y hs (HY1.out (by first | rfl | trivial))) (own_below HB5.out (Nat.le_refl _) hoW5 _ hg4) (by go_num), by simp [intOf]; omega⟩
            · have z2 : ((s : Int) != 256 * (q1 : Int) + (q2 : Int)) = true := by simp only [bne_iff_ne]; omega
              have HBW := Lib.hid hbW3
              go_wp2
              go_quiet ((go_at_call 78; exact HQ.out _))
              go_wp2
              exact bodyPost_ret (v := .tuple #[u4, .int .i64 i]) (by simp [results, Try.results29, go_sem]) rfl (decLp_end hoW3 hd (below_then HBW.out (below_drewN_ _ nq)) (HSUM.out hs))
    · obtain rfl : i = l.length := by omega
      go_wp2
      exact bodyPost_ret (v := .tuple #[u4, .int .i64 l.length]) (by simp [results, Try.results29, go_sem]) rfl (decLp_end ho hd hb (dec_at_end (Nat.le_refl _)))
end Go.Proofs.Ytpjjfnpdopdnkaa
namespace Go.Proofs.Ytpjjfnpdopdnkaa
open Go.RowKit

theorem flat_long (es : List Ent) : es.length ≤ (flat es).length := by
  induction es with
  | nil => simp
  | cons e es ih => simp only [flat_cons, List.length_append, List.length_cons, Ent.enc_len]; omega
theorem dec_len (l : List UInt8) : (dec l).1.length ≤ l.length := by
  have h1 := dec_le l
  obtain ⟨-, r, h2, h3⟩ := dec_inv _ l (Nat.le_refl _)
  have := flat_long (dec l).1
  omega
theorem flat_take_mono (es : List Ent) {i j : Nat} (h : i ≤ j) : (flat (es.take i)).length ≤ (flat (es.take j)).length := by
  have e : es.take i = (es.take j).take i := by rw [List.take_take]; congr 1; omega
  rw [e]
  exact flat_take_le _ _
theorem frame_at {es : List Ent} (hok : ∀ e ∈ es, e.ok) {k : Nat} (h : k < es.length) :
    ∃ n, (∃ hlt : (flat (es.take k)).length < (flat es).length, ((flat es)[(flat (es.take k)).length]).toNat = n) ∧ n < 256 ∧ (flat (es.take (k + 1))).length = (flat (es.take k)).length + n + 3 := by
  have e1 : flat es = flat (es.take k) ++ (es[k].enc ++ flat (es.drop (k + 1))) := by
    rw [← flat_cons, ← List.drop_eq_getElem_cons h, ← flat_append, List.take_append_drop]
  have hb := Ent.body_len_ (hok es[k] (List.getElem_mem _))
  have e2 : (flat es)[(flat (es.take k)).length]? = some es[k].body.length.toUInt8 := by
    rw [e1, List.getElem?_append_right (Nat.le_refl _), Nat.sub_self, Ent.enc_eq]; rfl
  obtain ⟨hlt, e3⟩ := List.getElem?_eq_some_iff.1 e2
  refine ⟨es[k].body.length, ⟨hlt, ?_⟩, by omega, ?_⟩
  · rw [e3]; simp; omega
  · rw [flat_take_succ es k h, List.length_append, Ent.enc_len]; omega
/-- walking over frames up to s -/
def FrLp (es : List Ent) (s at_ : Nat) : Prop := ∃ k, k ≤ es.length ∧ at_ = (flat (es.take k)).length ∧ ∀ j, j < k → (flat (es.take j)).length < s
theorem frLp_start (es : List Ent) (s : Nat) : FrLp es s 0 := ⟨0, Nat.zero_le _, rfl, fun j hj => by omega⟩
theorem frLp_next {es : List Ent} {s at_ : Nat} (h : FrLp es s at_) (hok : ∀ e ∈ es, e.ok) (hs : s ≤ (flat es).length) (hlt : at_ < s) :
    ∃ n, (∃ hl : at_ < (flat es).length, ((flat es)[at_]).toNat = n) ∧ n < 256 ∧ FrLp es s (at_ + n + 3) := by
  obtain ⟨k, hk, rfl, hj⟩ := h
  have hk' : k < es.length := by
    rcases Nat.lt_or_ge k es.length with h' | h'
    · exact h'
    · rw [List.take_of_length_le h'] at hlt; omega
  obtain ⟨n, h1, h2, h3⟩ := frame_at hok hk'
  refine ⟨n, h1, h2, k + 1, hk', h3.symm, fun j hjk => ?_⟩
  rcases Nat.lt_succ_iff_lt_or_eq.1 hjk with h' | rfl
  · exact hj j h'
  · exact hlt
theorem frLp_end {es : List Ent} {s at_ : Nat} (h : FrLp es s at_) (hok : ∀ e ∈ es, e.ok) (hs : s ≤ (flat es).length) (hge : ¬ at_ < s) : (dec ((flat es).take s)).2 = s ↔ at_ = s := by
  obtain ⟨k, hk, rfl, hj⟩ := h
  constructor
  · intro hd
    obtain ⟨j, hjl, he, -⟩ := dec_prefix hok hs hd
    rcases Nat.lt_or_ge j k with h' | h'
    · have := hj j h'; omega
    · have := flat_take_mono es h'; omega
  · intro he
    rw [← he, flat_take, dec_all fun x hx => hok x (List.mem_of_mem_take hx)]
theorem logFault_dec {l : List UInt8} {s : Int} {es : List Ent} {n : Nat} (hd : dec l = (es, n)) : logFault ⟨l, s⟩ =
    if 40000 < l.length then 1 else if n ≠ l.length ∨ 400 < es.length then 4 else if s < 0 ∨ (l.length : Int) < s then 2 else if (dec (l.take s.toNat)).2 ≠ s.toNat then 4 else 0 := by
  unfold logFault
  simp only [hd]
theorem dec_parts {l : List UInt8} {es : List Ent} {n : Nat} (hd : dec l = (es, n)) : n ≤ l.length ∧ es.length ≤ l.length ∧ (∀ e ∈ es, e.ok) ∧ (n = l.length → l = flat es) := by
  have h1 := dec_le l
  have h2 := dec_len l
  have h3 := dec_ok l
  have h4 := dec_full (l := l)
  rw [hd] at h1 h2 h3 h4
  exact ⟨h1, h2, h3, h4⟩
end Go.Proofs.Ytpjjfnpdopdnkaa
namespace Go.Proofs.Ytpjjfnpdopdnkaa
open Go.RowKit

theorem decode_eq {v : Value} {l : List UInt8} {es : List Ent} {n : Nat} {w : World} (hv : By w v l) (hl : l.length ≤ 1099511627776) (hd : dec l = (es, n)) :
    Calls Try.prog 27 #[v] w fun e w' => ∃ v', e = .returned (.tuple #[v', .int .i64 (n : Int)]) ∧ w'.ownsRow w.heap.size 55 7 v' es.length (ecs es) ∧ Below w.heap.size w w' :=
  (decode_any v l w hv hl).mono fun e w' h => by unfold DecPost at h; rw [hd] at h; exact h
theorem entriesIn_eq {v : Value} {l : List UInt8} {es : List Ent} {n : Nat} {w : World} (hv : By w v l) (hl : l.length ≤ 1099511627776) (hd : dec l = (es, n)) :
    Calls Try.prog 29 #[v] w fun e w' => ∃ v', e = .returned (.tuple #[v', .int .i64 (n : Int)]) ∧ w'.ownsRow w.heap.size 55 7 v' es.length (ecs es) ∧ Below w.heap.size w w' :=
  (entriesIn_any v l w hv hl).mono fun e w' h => by unfold DecPost at h; rw [hd] at h; exact h
/-- a log that lies in a block of its own is read as it was -/
theorem log_cells {w w' : World} {g : Nat} {v : Value} {s : Int} (h : Blk w g 42 #[v, .int .i64 s]) (hb : Below w.heap.size w w') : w'.cell? ⟨g, 0, none⟩ = some v ∧ w'.cell? ⟨g, 1, none⟩ = some (.int .i64 s) :=
  ⟨(h.below hb h.lt).cell 0, (h.below hb h.lt).cell 1⟩

set_option maxRecDepth 100000 in
set_option maxHeartbeats 2000000 in
theorem segCheck_any (v : Value) (l : List UInt8) (s : Int) (w : World) (hv : By w v l) (hl : l.length ≤ 9223372036854775807) :
    Calls Try.prog 31 #[.agg #[v, .int .i64 s]] w fun e w' => e = .returned (.int .i64 (logFault ⟨l, s⟩)) ∧ Below w.heap.size w w' := by
  obtain ⟨A, c, rfl, hc, -⟩ := hv.at_
  have HV := Lib.hid hv
  have hb0 := Blk.new w 42 #[.slice A l.length c, .int .i64 s]
  have hbl0 : Below w.heap.size w (w.alloc (.cells #[.slice A l.length c, .int .i64 s] 42)) := (Below.refl _ _).alloc (Nat.le_refl _) _
  have hv0 := hv.below hbl0
  obtain ⟨es, n, hd⟩ : ∃ es n, dec l = (es, n) := ⟨_, _, rfl⟩
  have HD := Lib.hid hd
  obtain ⟨hn, hel, hok, hfl⟩ := dec_parts hd
  have HF := Lib.hid (logFault_dec (s := s) hd)
  clear hv hd hok hfl
  by_cases h1 : 40000 < l.length
  · have z1 : decide ((40000 : Int) < (l.length : Int)) = true := decide_eq_true (by omega)
    go_enter Try.func31, Try.ntmps31
    go_wp2
    go_ret
    exact ⟨ret_int (by rw [HF.out, if_pos h1]), hbl0⟩
  · have z1 : decide ((40000 : Int) < (l.length : Int)) = false := decide_eq_false (by omega)
    go_enter Try.func31, Try.ntmps31
    go_wp2_with fail
    refine (decode_eq hv0 (by omega) HD.out).mono ?_
    rintro e w1 ⟨v1, rfl, ho1, hb1⟩
    obtain ⟨A1, c1, rfl, hc1⟩ := (Sl.of_own ho1).form
    obtain ⟨x0, x1⟩ := log_cells hb0 hb1
    have hbl1 := hbl0.trans (hb1.mono hbl0.size)
    have HB0 := Lib.hid hb0
    have HB1 := Lib.hid hb1
    have HBL := Lib.hid hbl1
    clear ho1 hb0 hb1 hbl0 hbl1 hv0
    by_cases h2 : n = l.length
    · have z2 : ((n : Int) != (l.length : Int)) = false := by simp only [bne_eq_false_iff_eq]; omega
      by_cases h3 : 400 < es.length
      · have z3 : decide ((400 : Int) < (es.length : Int)) = true := decide_eq_true (by omega)
        go_wp2
        go_ret
        exact ⟨ret_int (by rw [HF.out, if_neg h1, if_pos (Or.inr h3)]), HBL.out⟩
      · have z3 : decide ((400 : Int) < (es.length : Int)) = false := decide_eq_false (by omega)
        have h23 : ¬ (n ≠ l.length ∨ 400 < es.length) := by omega
        by_cases h4 : s < 0
        · have z4 : decide (s < (0 : Int)) = true := decide_eq_true h4
          go_wp2
          go_ret
          exact ⟨ret_int (by rw [HF.out, if_neg h1, if_neg h23, if_pos (Or.inl h4)]), HBL.out⟩
        · have z4 : decide (s < (0 : Int)) = false := decide_eq_false h4
          by_cases h5 : (n : Int) < s
          · have z5 : decide ((n : Int) < s) = true := decide_eq_true h5
            go_wp2
            go_ret
            exact ⟨ret_int (by rw [HF.out, if_neg h1, if_neg h23, if_pos (Or.inr (by omega))]), HBL.out⟩
          · have z5 : decide ((n : Int) < s) = false := decide_eq_false h5
            obtain ⟨k, rfl⟩ : ∃ k : Nat, s = k := ⟨s.toNat, by omega⟩
            have h45 : ¬ ((k : Int) < 0 ∨ (l.length : Int) < (k : Int)) := by omega
            have hk : k ≤ l.length := by omega
            obtain ⟨es2, m, hd2⟩ : ∃ es2 m, dec (l.take k) = (es2, m) := ⟨_, _, rfl⟩
            have HD2 := Lib.hid hd2
            have hx := By.take_ (n := k) (HV.out.below HBL.out) hk
            have hxl : (l.take k).length = k := by rw [List.length_take]; omega
            have hm := (dec_parts hd2).1
            rw [hxl] at hx hm
            have i0 : (0 : Int) ≤ (k : Int) := by omega
            have i1 : (k : Int) ≤ (c : Int) := by omega
            clear hd2
            go_wp2_with fail
            refine (decode_eq hx (by rw [hxl]; omega) HD2.out).mono ?_
            rintro e w2 ⟨v2, rfl, ho2, hb2⟩
            have y1 := (HBL.out.trans (hb2.mono HBL.out.size))
            obtain ⟨y2, y3⟩ := log_cells HB0.out (HB1.out.trans (hb2.mono HB1.out.size))
            have HY := Lib.hid y1
            clear ho2 hb2 y1
            by_cases h6 : m = k
            · have z6 : ((m : Int) != (k : Int)) = false := by simp only [bne_eq_false_iff_eq]; omega
              go_wp2
              go_ret
              refine ⟨ret_int ?_, HY.out⟩
              rw [HF.out, if_neg h1, if_neg h23, if_neg h45, Int.toNat_natCast, HD2.out, if_neg (by simpa using h6)]
            · have z6 : ((m : Int) != (k : Int)) = true := by simp only [bne_iff_ne]; omega
              go_wp2
              go_ret
              refine ⟨ret_int ?_, HY.out⟩
              rw [HF.out, if_neg h1, if_neg h23, if_neg h45, Int.toNat_natCast, HD2.out, if_pos (by simpa using h6)]
    · have z2 : ((n : Int) != (l.length : Int)) = true := by simp only [bne_iff_ne]; omega
      go_wp2
      go_ret
      exact ⟨ret_int (by rw [HF.out, if_neg h1, if_pos (Or.inl h2)]), HBL.out⟩

end Go.Proofs.Ytpjjfnpdopdnkaa
namespace Go.Proofs.Ytpjjfnpdopdnkaa
open Go.RowKit

set_option maxRecDepth 100000 in
set_option maxHeartbeats 2000000 in
theorem logFault_any (v : Value) (l : List UInt8) (s : Int) (w : World) (hv : By w v l) (hl : l.length ≤ 9223372036854775807) :
    Calls Try.prog 33 #[.agg #[v, .int .i64 s]] w fun e w' => e = .returned (.int .i64 (logFault ⟨l, s⟩)) ∧ Below w.heap.size w w' := by
  obtain ⟨A, c, rfl, hc, hcell⟩ := hv.at_
  have HC := Lib.hid hcell
  clear hcell
  have hb0 := Blk.new w 42 #[.slice A l.length c, .int .i64 s]
  have hbl0 : Below w.heap.size w (w.alloc (.cells #[.slice A l.length c, .int .i64 s] 42)) := (Below.refl _ _).alloc (Nat.le_refl _) _
  have hv0 := hv.below hbl0
  obtain ⟨es, n, hd⟩ : ∃ es n, dec l = (es, n) := ⟨_, _, rfl⟩
  have HD := Lib.hid hd
  obtain ⟨hn, hel, hok, hfl⟩ := dec_parts hd
  have HF := Lib.hid (logFault_dec (s := s) hd)
  have HOK := Lib.hid hok
  have HFL := Lib.hid hfl
  clear hv hd hok hfl
  by_cases h1 : 40000 < l.length
  · have z1 : decide ((40000 : Int) < (l.length : Int)) = true := decide_eq_true (by omega)
    go_enter Try.func33, Try.ntmps33
    go_wp2
    go_ret
    exact ⟨ret_int (by rw [HF.out, if_pos h1]), hbl0⟩
  · have z1 : decide ((40000 : Int) < (l.length : Int)) = false := decide_eq_false (by omega)
    go_enter Try.func33, Try.ntmps33
    go_wp2_with fail
    refine (entriesIn_eq hv0 (by omega) HD.out).mono ?_
    rintro e w1 ⟨v1, rfl, ho1, hb1⟩
    obtain ⟨A1, c1, rfl, hc1⟩ := (Sl.of_own ho1).form
    obtain ⟨x0, x1⟩ := log_cells hb0 hb1
    have hbl1 := hbl0.trans (hb1.mono hbl0.size)
    have HB1 := Lib.hid (hb0.below hb1 hb0.lt)
    have HBL := Lib.hid hbl1
    clear ho1 hb0 hb1 hbl0 hbl1 hv0
    by_cases h2 : n = l.length
    · have z2 : decide ((n : Int) < (l.length : Int)) = false := decide_eq_false (by omega)
      by_cases h3 : 400 < es.length
      · have z3 : decide ((400 : Int) < (es.length : Int)) = true := decide_eq_true (by omega)
        go_wp2
        go_ret
        exact ⟨ret_int (by rw [HF.out, if_neg h1, if_pos (Or.inr h3)]), HBL.out⟩
      · have z3 : decide ((400 : Int) < (es.length : Int)) = false := decide_eq_false (by omega)
        have h23 : ¬ (n ≠ l.length ∨ 400 < es.length) := by omega
        have hle := HFL.out h2
        subst hle
        go_wp2_with fail
        refine (In_any _ _ _ _).mono ?_
        rintro e w2 ⟨rfl, rfl⟩
        rcases hi : inB s 0 ((flat es).length : Int) with _ | _
        · have h4 : s < 0 ∨ ((flat es).length : Int) < s := by simp [inB] at hi; omega
          have HI := Lib.hid h4
          clear h4
          go_wp2
          go_ret
          exact ⟨ret_int (by rw [HF.out, if_neg h1, if_neg h23, if_pos HI.out]), HBL.out⟩
        · have h4 : ¬ (s < 0 ∨ ((flat es).length : Int) < s) := by simp [inB] at hi; omega
          have hs0 : 0 ≤ s := by omega
          obtain ⟨k, rfl⟩ : ∃ k : Nat, s = k := ⟨s.toNat, by omega⟩
          have hk : k ≤ (flat es).length := by omega
          have HI := Lib.hid h4
          clear hi h4
          go_wp2
          go_loopw [5] (fun a wr => ∃ i : Nat, a = .int .i64 i ∧ Hid (FrLp es k i) ∧ wr = w1) (fun a _ => k - (intOf a).toNat)
          case atStart => exact ⟨0, rfl, frLp_start _ _, rfl⟩
          case round =>
            obtain ⟨i, rfl, hfr, rfl⟩ := hrel
            by_cases hlt : i < k
            · obtain ⟨n1, ⟨hl1, hn1⟩, hn2, hnx⟩ := frLp_next hfr.out HOK.out hk hlt
              have HNX := Lib.hid hnx
              obtain ⟨b, off, rfl, hbl, hcs⟩ := HC.out (by omega)
              have X0 := (HBL.out.cell (p := ⟨b, off + i, none⟩) hbl).trans (hcs i hl1)
              rw [hn1] at X0
              have i0 : (0 : Int) ≤ (i : Int) := by omega
              have i1 : (i : Int) < ((flat es).length : Int) := by omega
              have i2 : decide ((i : Int) < (k : Int)) = true := decide_eq_true (by omega)
              clear hnx hcs hn1
              go_wp2
              go_light
              exact ⟨⟨i + n1 + 3, by go_num, HNX.out, by trivial⟩, by simp [intOf]; omega⟩
            · have he := frLp_end hfr.out HOK.out hk hlt
              have HE := Lib.hid he
              have i2 : decide ((i : Int) < (k : Int)) = false := decide_eq_false (by omega)
              clear he
              by_cases h6 : i = k
              · have z6 : ((i : Int) != (k : Int)) = false := by simp only [bne_eq_false_iff_eq]; omega
                go_wp2
                go_ret
                refine ⟨ret_int ?_, HBL.out⟩
                rw [HF.out, if_neg h1, if_neg h23, if_neg HI.out, Int.toNat_natCast, if_neg (by simpa using HE.out.2 h6)]
              · have z6 : ((i : Int) != (k : Int)) = true := by simp only [bne_iff_ne]; omega
                go_wp2
                go_ret
                refine ⟨ret_int ?_, HBL.out⟩
                rw [HF.out, if_neg h1, if_neg h23, if_neg HI.out, Int.toNat_natCast, if_pos (fun h => h6 (HE.out.1 h))]
    · have z2 : decide ((n : Int) < (l.length : Int)) = true := decide_eq_true (by omega)
      go_wp2
      go_ret
      exact ⟨ret_int (by rw [HF.out, if_neg h1, if_pos (Or.inl h2)]), HBL.out⟩

end Go.Proofs.Ytpjjfnpdopdnkaa
namespace Go.Proofs.Ytpjjfnpdopdnkaa
open Go.RowKit

/-- what both answer of a log that may be -/
def EntsPost (es : List Ent) (j : Nat) (w : World) (e : Ending) (w' : World) : Prop := ∃ v', e = .returned (.tuple #[v', .int .i64 (j : Int), .int .i64 0]) ∧ w'.ownsRow w.heap.size 55 7 v' es.length (ecs es) ∧ Below w.heap.size w w'
theorem log_long {l : List UInt8} {s : Int} {es : List Ent} {j : Nat} (h : LogIs ⟨l, s⟩ es j) : l.length ≤ 40000 ∧ ∃ k : Nat, s = (k : Int) ∧ k ≤ l.length ∧ dec (l.take k) = (es.take j, k) ∧ (es.take j).length = j ∧ dec l = (es, l.length) := by
  have h1 := h.long
  have h2 := h.bytes
  have h3 := h.safe
  have h4 := h.le
  have h5 := h.nonneg
  have h6 := h.jle
  have h7 := h.dec_
  simp only at h2 h3 h4 h5 h7
  rw [← h2] at h1
  exact ⟨h1, s.toNat, by omega, by omega, h3, by simp; omega, h7⟩

set_option maxRecDepth 100000 in
set_option maxHeartbeats 1000000 in
theorem segEntries_bad (v : Value) (l : List UInt8) (s : Int) (w : World) (hv : By w v l) (hl : l.length ≤ 9223372036854775807) (hf : logFault ⟨l, s⟩ ≠ 0) :
    Calls Try.prog 34 #[.agg #[v, .int .i64 s]] w fun e w' => e = .returned (.tuple #[.slice none 0 0, .int .i64 0, .int .i64 (logFault ⟨l, s⟩)]) ∧ Below w.heap.size w w' := by
  obtain ⟨A, c, rfl, hc, -⟩ := hv.at_
  have hbl0 : Below w.heap.size w (w.alloc (.cells #[.slice A l.length c, .int .i64 s] 42)) := (Below.refl _ _).alloc (Nat.le_refl _) _
  have hv0 := hv.below hbl0
  have hq := segCheck_any _ l s _ hv0 hl
  generalize logFault ⟨l, s⟩ = x at *
  have zx : (x != 0) = true := by simp only [bne_iff_ne]; exact hf
  clear hv hf
  go_enter Try.func34, Try.ntmps34
  go_wp2_with fail
  refine hq.mono ?_
  rintro e w1 ⟨rfl, hb1⟩
  go_wp2
  exact bodyPost_ret (v := .tuple #[.slice none 0 0, .int .i64 0, .int .i64 x]) (by simp [results, Try.results34, go_sem]) rfl ⟨rfl, hbl0.trans (hb1.mono hbl0.size)⟩

set_option maxRecDepth 100000 in
set_option maxHeartbeats 1000000 in
theorem segEntries_ok (v : Value) (l : List UInt8) (s : Int) (w : World) (hv : By w v l) {es : List Ent} {j : Nat} (h : LogIs ⟨l, s⟩ es j) :
    Calls Try.prog 34 #[.agg #[v, .int .i64 s]] w (EntsPost es j w) := by
  obtain ⟨A, c, rfl, hc, -⟩ := hv.at_
  have HV := Lib.hid hv
  have hb0 := Blk.new w 42 #[.slice A l.length c, .int .i64 s]
  have hbl0 : Below w.heap.size w (w.alloc (.cells #[.slice A l.length c, .int .i64 s] 42)) := (Below.refl _ _).alloc (Nat.le_refl _) _
  have hv0 := hv.below hbl0
  have HX := Lib.hid h.fault
  obtain ⟨hlen, k, rfl, hk, d2, hj, d1⟩ := log_long h
  have D1 := Lib.hid d1
  have D2 := Lib.hid d2
  have HJ := Lib.hid hj
  clear hv h d1 d2 hj
  go_enter Try.func34, Try.ntmps34
  go_wp2_with fail
  refine (segCheck_any _ l k _ hv0 (by omega)).mono ?_
  rintro e w1 ⟨rfl, hb1⟩
  rw [HX.out]
  have hbl1 := hbl0.trans (hb1.mono hbl0.size)
  have hb1' := hb0.below hb1 hb0.lt
  have x0 := hb1'.cell 0
  have x1 := hb1'.cell 1
  clear hb1 hb0 hbl0 hv0
  go_wp2_with fail
  refine (decode_eq (HV.out.below hbl1) (by omega) D1.out).mono ?_
  rintro e w2 ⟨v2, rfl, ho2, hb2⟩
  obtain ⟨A2, c2, rfl, hc2⟩ := (Sl.of_own ho2).form
  have hbl2 := hbl1.trans (hb2.mono hbl1.size)
  have hb2' := hb1'.below hb2 hb1'.lt
  have y0 := hb2'.cell 0
  have y1 := hb2'.cell 1
  have hx := By.take_ (n := k) (HV.out.below hbl2) hk
  have hxl : (l.take k).length = k := by rw [List.length_take]; omega
  rw [hxl] at hx
  have i0 : (0 : Int) ≤ (k : Int) := by omega
  have i1 : (k : Int) ≤ (c : Int) := by omega
  have HB2 := Lib.hid hbl2
  have HO2 := Lib.hid ho2
  have HS1 := hbl1.size
  clear hb2 hb1' hb2' hbl2 ho2 hbl1 x0 x1
  go_wp2_with fail
  refine (decode_eq hx (by rw [hxl]; omega) D2.out).mono ?_
  rintro e w3 ⟨v3, rfl, ho3, hb3⟩
  rw [HJ.out] at ho3
  obtain ⟨A3, c3, rfl, hc3⟩ := (Sl.of_own ho3).form
  go_wp2
  exact bodyPost_ret (v := .tuple #[.slice A2 es.length c2, .int .i64 j, .int .i64 0]) (by simp [results, Try.results34, go_sem]) rfl ⟨_, rfl, own_base (own_keep HO2.out hb3 (fun b hb => (HO2.out.lt b hb).2)) HS1, below_then HB2.out hb3⟩

set_option maxRecDepth 100000 in
set_option maxHeartbeats 1000000 in
theorem entriesOf_ok (v : Value) (l : List UInt8) (s : Int) (w : World) (hv : By w v l) {es : List Ent} {j : Nat} (h : LogIs ⟨l, s⟩ es j) :
    Calls Try.prog 35 #[.agg #[v, .int .i64 s]] w (EntsPost es j w) := by
  obtain ⟨A, c, rfl, hc, -⟩ := hv.at_
  have HV := Lib.hid hv
  have hb0 := Blk.new w 42 #[.slice A l.length c, .int .i64 s]
  have hbl0 : Below w.heap.size w (w.alloc (.cells #[.slice A l.length c, .int .i64 s] 42)) := (Below.refl _ _).alloc (Nat.le_refl _) _
  have hv0 := hv.below hbl0
  have HX := Lib.hid h.fault
  obtain ⟨hlen, k, rfl, hk, d2, hj, d1⟩ := log_long h
  have D1 := Lib.hid d1
  have D2 := Lib.hid d2
  have HJ := Lib.hid hj
  clear hv h d1 d2 hj
  go_enter Try.func35, Try.ntmps35
  go_wp2_with fail
  refine (logFault_any _ l k _ hv0 (by omega)).mono ?_
  rintro e w1 ⟨rfl, hb1⟩
  rw [HX.out]
  have hbl1 := hbl0.trans (hb1.mono hbl0.size)
  have hb1' := hb0.below hb1 hb0.lt
  have x0 := hb1'.cell 0
  have x1 := hb1'.cell 1
  clear hb1 hb0 hbl0 hv0
  go_wp2_with fail
  refine (entriesIn_eq (HV.out.below hbl1) (by omega) D1.out).mono ?_
  rintro e w2 ⟨v2, rfl, ho2, hb2⟩
  obtain ⟨A2, c2, rfl, hc2⟩ := (Sl.of_own ho2).form
  have hbl2 := hbl1.trans (hb2.mono hbl1.size)
  have hb2' := hb1'.below hb2 hb1'.lt
  have y0 := hb2'.cell 0
  have y1 := hb2'.cell 1
  have hx := By.take_ (n := k) (HV.out.below hbl2) hk
  have hxl : (l.take k).length = k := by rw [List.length_take]; omega
  rw [hxl] at hx
  have i0 : (0 : Int) ≤ (k : Int) := by omega
  have i1 : (k : Int) ≤ (c : Int) := by omega
  have HB2 := Lib.hid hbl2
  have HO2 := Lib.hid ho2
  have HS1 := hbl1.size
  clear hb2 hb1' hb2' hbl2 ho2 hbl1 x0 x1
  go_wp2_with fail
  refine (entriesIn_eq hx (by rw [hxl]; omega) D2.out).mono ?_
  rintro e w3 ⟨v3, rfl, ho3, hb3⟩
  rw [HJ.out] at ho3
  obtain ⟨A3, c3, rfl, hc3⟩ := (Sl.of_own ho3).form
  go_wp2
  exact bodyPost_ret (v := .tuple #[.slice A2 es.length c2, .int .i64 j, .int .i64 0]) (by simp [results, Try.results35, go_sem]) rfl ⟨_, rfl, own_base (own_keep HO2.out hb3 (fun b hb => (HO2.out.lt b hb).2)) HS1, below_then HB2.out hb3⟩

end Go.Proofs.Ytpjjfnpdopdnkaa
namespace Go.Proofs.Ytpjjfnpdopdnkaa
open Go.RowKit

/-- a log as an answer, with a code -/
def LogPost (l' : LogD) (code : Int) (w : World) (e : Ending) (w' : World) : Prop := ∃ v', e = .returned (.tuple #[.agg #[v', .int .i64 l'.synced], .int .i64 code]) ∧ w'.ownsRow w.heap.size 5 1 v' l'.bytes.length (bvs l'.bytes) ∧ Below w.heap.size w w'
theorem log_stored {w W : World} {g : Nat} {a b v : Value} {s : Int} (hz : Blk w g 42 #[a, b]) (hW : W = (w.setCell ⟨g, 0, none⟩ v).setCell ⟨g, 1, none⟩ (.int .i64 s)) :
    W.cell? ⟨g, 0, none⟩ = some v ∧ W.cell? ⟨g, 1, none⟩ = some (.int .i64 s) ∧ (∀ base n x xs, w.ownsRow base 5 1 x n xs → W.ownsRow base 5 1 x n xs) ∧ (∀ B w0, B ≤ g → Below B w0 w → Below B w0 W) := by
  subst hW
  have h := (hz.set_ 0 v).set_ 1 (.int .i64 s)
  simp only [List.setIfInBounds_toArray, List.set_cons_succ, List.set_cons_zero] at h
  exact ⟨h.cell 0, h.cell 1, fun base n x xs ho => own_far (own_far ho hz (by decide) 0 v) (hz.set_ 0 v) (by decide) 1 _, fun B w0 hB hb => (hb.setCell (p := ⟨g, 0, none⟩) hB v).setCell (p := ⟨g, 1, none⟩) hB _⟩
theorem flat_bvs (rows : List (List UInt8)) (k : Nat) (h : k < rows.length) : bvs (rows.take (k + 1)).flatten = bvs (rows.take k).flatten ++ bvs rows[k] := by
  rw [List.take_succ_eq_append_getElem h, List.flatten_append, bvs_append]
  simp
theorem flat_le (rows : List (List UInt8)) (k : Nat) : (rows.take k).flatten.length ≤ rows.flatten.length := by
  have h : rows.flatten.length = (rows.take k).flatten.length + (rows.drop k).flatten.length := by
    rw [← List.length_append, ← List.flatten_append, List.take_append_drop]
  omega
theorem flat_le' (rows : List (List UInt8)) (k : Nat) (h : k < rows.length) : (rows.take k).flatten.length + rows[k].length ≤ rows.flatten.length := by
  have h1 := flat_le rows (k + 1)
  rw [List.take_succ_eq_append_getElem h, List.flatten_append, List.length_append] at h1
  simp at h1 ⊢
  omega

set_option maxRecDepth 100000 in
set_option maxHeartbeats 1000000 in
theorem bytesCopy_any (v : Value) (rows : List (List UInt8)) (vs : List Value) (w : World) (hvl : vs.length = rows.length) (h : Sl w 1 v rows.length vs) (hr : ∀ k (h1 : k < rows.length) (h2 : k < vs.length), By w vs[k] rows[k]) (hm : rows.flatten.length ≤ 140737488355328) (hn : rows.length ≤ 9223372036854775807) :
    Calls Try.prog 79 #[v] w fun e w' => ∃ v', e = .returned v' ∧ w'.ownsRow w.heap.size 5 1 v' rows.flatten.length (bvs rows.flatten) ∧ Below w.heap.size w w' := by
  obtain ⟨i0, hi0, hz0, hz1, hz2⟩ := info_parts CloneByte_info
  obtain ⟨hl, A, c, rfl, hc, hcell⟩ := h
  have HC := Lib.hid hcell
  have HR := Lib.hid hr
  clear hcell hr hl
  go_enter Try.func79, Try.ntmps79
  go_wp2
  go_loopw [3, 4] (fun o i wr => ∃ (k : Nat) (x : Value), k ≤ rows.length ∧ o = x ∧ i = .int .i64 k ∧ wr.ownsRow w.heap.size 5 1 x (rows.take k).flatten.length (bvs (rows.take k).flatten) ∧ Below w.heap.size w wr) (fun _ i _ => rows.length - (intOf i).toNat)
  case atStart => exact ⟨0, _, Nat.zero_le _, rfl, rfl, World.ownsRow_nil _ _ _ _, Below.refl _ _⟩
  case round =>
    obtain ⟨k, x, hk, rfl, rfl, ho, hb⟩ := hrel
    by_cases hlt : k < rows.length
    · obtain ⟨b, off, rfl, hbl, hcs⟩ := HC.out (by omega)
      have hlt' : k < vs.length := by omega
      have X0 := (hb.cell (p := ⟨b, off + k, none⟩) hbl).trans (hcs k vs[k] (by simp [List.getElem?_eq_getElem hlt']))
      have hy := (HR.out k hlt hlt').below hb
      obtain ⟨A2, c2, e2, hc2, -⟩ := hy.at_
      rw [e2] at X0 hy
      have i0' : (0 : Int) ≤ (k : Int) := by omega
      have i1 : (k : Int) < (rows.length : Int) := by omega
      have hfl := flat_le' rows k hlt
      have HE := Lib.hid (flat_bvs rows k hlt)
      have HL := Lib.hid (show (rows.take (k + 1)).flatten.length = (rows.take k).flatten.length + rows[k].length by
        have := congrArg List.length (flat_bvs rows k hlt)
        simpa only [List.length_append, bvs_length] using this)
      have HB := Lib.hid hb
      have hsz := hb.size
      clear hcs e2 hb
      generalize rows[k] = r at *
      go_wp2_with (at_builtin; go_must (refine wpList_append_sl _ rfl (.tmp 11) (.tmp 15) 34 rfl w.heap.size 5 i0 (.int .u8 0) 1 1 Try.underlying34 hi0 hz0 hz1 hz2 rfl (by decide) _ _ _ (by rfl) ho _ r.length (bvs r) (by rfl) hy (bvs_one r) (by simp only [maxLen]; omega) (by omega) hsz ?_; intro v4 w4 ho4 hg4 ha4))
      go_light
      exact ⟨⟨k + 1, v4, by omega, rfl, by go_num, own_eq ho4 HL.out.symm HE.out.symm, own_below' HB.out (Nat.le_refl _) ho hg4⟩, by simp [intOf]; omega⟩
    · obtain rfl : k = rows.length := by omega
      rw [List.take_length] at ho
      go_wp2
      go_ret
      exact ⟨_, rfl, ho, hb⟩
theorem By.take_n {w : World} {A : Option Addr} {c n : Nat} {l : List UInt8} (h : By w (.slice A l.length c) l) (hn : n ≤ l.length) : Sl w 1 (.slice A n c) n (bvs (l.take n)) := by
  have hx := By.take_ h hn
  have e : (l.take n).length = n := by rw [List.length_take]; omega
  unfold By at hx
  rw [e] at hx
  exact hx
theorem By.take_b {w : World} {A : Option Addr} {c n : Nat} {l : List UInt8} (h : By w (.slice A l.length c) l) (hn : n ≤ l.length) : By w (.slice A n c) (l.take n) := by
  have hx := By.take_n h hn
  have e : (l.take n).length = n := by rw [List.length_take]; omega
  unfold By
  rw [e]
  exact hx
theorem bytesCopy_two {A B : Option Addr} {l r : List UInt8} {c d : Nat} {w0 w : World} (h : By w0 (.slice A l.length c) l) (k : By w0 (.slice B r.length d) r) (hw : Below w0.heap.size w0 w) (hm : l.length + r.length ≤ 140737488355328) :
    Calls Try.prog 79 #[.slice (some ⟨w.heap.size, 0, none⟩) 2 2] (w.alloc (.cells #[.slice A l.length c, .slice B r.length d] 34)) fun e w' => ∃ v', e = .returned v' ∧ w'.ownsRow w.heap.size 5 1 v' (l.length + r.length) (bvs (l ++ r)) ∧ Below w.heap.size w w' := by
  have hbl : Below w.heap.size w (w.alloc (.cells #[.slice A l.length c, .slice B r.length d] 34)) := (Below.refl _ _).alloc (Nat.le_refl _) _
  refine (bytesCopy_any _ [l, r] [.slice A l.length c, .slice B r.length d] _ rfl (Sl.lit' w 34 #[.slice A l.length c, .slice B r.length d] 1 2 _ rfl rfl) (fun i h1 h2 => ?_) (by simpa using hm) (by simp)).mono ?_
  · rcases i with _ | _ | i
    · exact (h.below hw).below hbl
    · exact (k.below hw).below hbl
    · exact absurd h1 (by simp)
  · rintro e w' ⟨v', rfl, ho, hb⟩
    exact ⟨v', rfl, own_base (own_eq ho (by simp) (by simp)) hbl.size, hbl.trans (hb.mono hbl.size)⟩
end Go.Proofs.Ytpjjfnpdopdnkaa
namespace Go.Proofs.Ytpjjfnpdopdnkaa
open Go.RowKit

def RepD.log (t : RepD) : LogD := ⟨t.bytes, t.synced⟩
/-- so many entries, so many that are safe -/
def RepD.all (t : RepD) : Nat := (dec t.bytes).1.length
def RepD.safe (t : RepD) : Nat := (dec (t.bytes.take t.synced.toNat)).1.length
def RepOk (t : RepD) (k : Int) : Prop := logFault t.log = 0 ∧ 0 ≤ t.high ∧ t.high ≤ (t.all : Int) ∧ 0 ≤ k ∧ k ≤ 400
def RepsTo (c : PartD) (n : Nat) : Prop := ∀ i, i < n → ∀ (h : i < c.reps.length) (h' : i < c.known.length), RepOk c.reps[i] c.known[i]
def LedOk (c : PartD) : Prop := ∀ i : Nat, c.leader = i → ∀ (h : i < c.isr.length) (h' : i < c.reps.length), c.isr[i] = true ∧ c.reps[i].up = true
structure PartOk (c : PartD) : Prop where
  many : 1 ≤ c.reps.length ∧ c.reps.length ≤ 5
  isr : c.isr.length = c.reps.length
  known : c.known.length = c.reps.length
  few : 1 ≤ c.few ∧ c.few ≤ c.reps.length
  epoch : 0 ≤ c.epoch ∧ c.epoch ≤ 1073741824
  leader : -1 ≤ c.leader ∧ c.leader < c.reps.length
  base : 0 ≤ c.base ∧ c.base ≤ 400
  some_ : true ∈ c.isr
  led : LedOk c
  reps : RepsTo c c.reps.length
theorem logIs_parts {l : LogD} {es : List Ent} {j : Nat} (h : LogIs l es j) : (dec l.bytes).1 = es ∧ (dec (l.bytes.take l.synced.toNat)).1.length = j := by
  rw [h.dec_, h.safe]
  have := h.jle
  exact ⟨rfl, by simp; omega⟩
theorem RepD.ents {t : RepD} {es : List Ent} {j : Nat} (h : LogIs t.log es j) : t.all = es.length ∧ t.safe = j := by
  obtain ⟨h1, h2⟩ := logIs_parts h
  exact ⟨congrArg List.length h1, h2⟩
theorem PartOk.log {c : PartD} (h : PartOk c) (i : Nat) (hi : i < c.reps.length) : ∃ es j, LogIs c.reps[i].log es j :=
  ⟨_, _, logIs_of (h.reps i hi hi (by rw [h.known]; exact hi)).1⟩

set_option maxRecDepth 100000 in
set_option maxHeartbeats 1000000 in
theorem ends_bad (v : Value) (c : PartD) (i : Nat) (w : World) (h : Pv w v c) (hi : i < c.reps.length) (hf : logFault c.reps[i].log ≠ 0) :
    Calls Try.prog 81 #[v, .int .i64 i] w fun e w' => e = .returned (.tuple #[.int .i64 0, .int .i64 0]) ∧ Below w.heap.size w w' := by
  obtain ⟨xi, xk, xr, rfl, ix, kx, rx, hli, hlk, hlr⟩ := h
  obtain ⟨A5, c5, rfl, hc5, hx2⟩ := rx.at_
  obtain ⟨A1, c1, rfl, hc1, -⟩ := ix.at_
  obtain ⟨A3, c3, rfl, hc3, -⟩ := kx.at_
  obtain ⟨b, off, rfl, hb, hcell⟩ := hx2 (by omega)
  obtain ⟨pv, x0, x1, x2, x3, xb, xl⟩ := hcell i hi
  unfold partV
  obtain ⟨ep, ld, is, ks, rs, fw, ba⟩ := c
  simp only at *
  have hbl : Below w.heap.size w (w.alloc (.cells #[.int .i64 ep, .int .i64 ld, .slice A1 is.length c1, .slice A3 ks.length c3, .slice (some ⟨b, off, none⟩) rs.length c5, .int .i64 fw, .int .i64 ba] 26)) := (Below.refl _ _).alloc (Nat.le_refl _) _
  have hq := segEntries_bad pv rs[i].bytes rs[i].synced _ (xb.below hbl) xl hf
  obtain ⟨A7, c7, rfl, hc7, -⟩ := xb.at_
  have i0 : (0 : Int) ≤ (i : Int) := by omega
  have i1 : (i : Int) < (rs.length : Int) := Int.ofNat_lt.2 hi
  have HLR := Lib.hid hlr
  clear hcell hx2 xb ix kx rx hf hlr
  generalize logFault ⟨rs[i].bytes, rs[i].synced⟩ = x at *
  generalize rs[i] = t at *
  go_enter Try.func81, Try.ntmps81
  go_wp2_with fail
  refine hq.mono ?_
  rintro e w1 ⟨rfl, hb1⟩
  go_wp2
  go_ret2
  exact ⟨rfl, hbl.trans (hb1.mono hbl.size)⟩

set_option maxRecDepth 100000 in
set_option maxHeartbeats 1000000 in
theorem ends_ok (v : Value) (c : PartD) (i : Nat) (w : World) (h : Pv w v c) (hi : i < c.reps.length) {es : List Ent} {j : Nat} (hl : LogIs c.reps[i].log es j) :
    Calls Try.prog 81 #[v, .int .i64 i] w fun e w' => e = .returned (.tuple #[.int .i64 (es.length : Int), .int .i64 (j : Int)]) ∧ Below w.heap.size w w' := by
  obtain ⟨xi, xk, xr, rfl, ix, kx, rx, hli, hlk, hlr⟩ := h
  obtain ⟨A5, c5, rfl, hc5, hx2⟩ := rx.at_
  obtain ⟨A1, c1, rfl, hc1, -⟩ := ix.at_
  obtain ⟨A3, c3, rfl, hc3, -⟩ := kx.at_
  obtain ⟨b, off, rfl, hb, hcell⟩ := hx2 (by omega)
  obtain ⟨pv, x0, x1, x2, x3, xb, xl⟩ := hcell i hi
  unfold partV
  obtain ⟨ep, ld, is, ks, rs, fw, ba⟩ := c
  simp only at *
  have hbl : Below w.heap.size w (w.alloc (.cells #[.int .i64 ep, .int .i64 ld, .slice A1 is.length c1, .slice A3 ks.length c3, .slice (some ⟨b, off, none⟩) rs.length c5, .int .i64 fw, .int .i64 ba] 26)) := (Below.refl _ _).alloc (Nat.le_refl _) _
  have hq := segEntries_ok pv rs[i].bytes rs[i].synced _ (xb.below hbl) hl
  obtain ⟨A7, c7, rfl, hc7, -⟩ := xb.at_
  have i0 : (0 : Int) ≤ (i : Int) := by omega
  have i1 : (i : Int) < (rs.length : Int) := Int.ofNat_lt.2 hi
  have HLR := Lib.hid hlr
  clear hcell hx2 xb ix kx rx hl hlr
  generalize rs[i] = t at *
  go_enter Try.func81, Try.ntmps81
  go_wp2_with fail
  refine hq.mono ?_
  rintro e w1 ⟨v1, rfl, ho1, hb1⟩
  obtain ⟨A2, c2, rfl, hc2⟩ := (Sl.of_own ho1).form
  go_wp2
  go_ret2
  exact ⟨rfl, hbl.trans (hb1.mono hbl.size)⟩

set_option maxRecDepth 100000 in
set_option maxHeartbeats 1000000 in
theorem logOf_any (v : Value) (c : PartD) (i : Nat) (w : World) (h : Pv w v c) (hi : i < c.reps.length) {es : List Ent} {j : Nat} (hl : LogIs c.reps[i].log es j) :
    Calls Try.prog 82 #[v, .int .i64 i] w fun e w' => ∃ v', e = .returned v' ∧ w'.ownsRow w.heap.size 55 7 v' es.length (ecs es) ∧ Below w.heap.size w w' := by
  obtain ⟨xi, xk, xr, rfl, ix, kx, rx, hli, hlk, hlr⟩ := h
  obtain ⟨A5, c5, rfl, hc5, hx2⟩ := rx.at_
  obtain ⟨A1, c1, rfl, hc1, -⟩ := ix.at_
  obtain ⟨A3, c3, rfl, hc3, -⟩ := kx.at_
  obtain ⟨b, off, rfl, hb, hcell⟩ := hx2 (by omega)
  obtain ⟨pv, x0, x1, x2, x3, xb, xl⟩ := hcell i hi
  unfold partV
  obtain ⟨ep, ld, is, ks, rs, fw, ba⟩ := c
  simp only at *
  have hbl : Below w.heap.size w (w.alloc (.cells #[.int .i64 ep, .int .i64 ld, .slice A1 is.length c1, .slice A3 ks.length c3, .slice (some ⟨b, off, none⟩) rs.length c5, .int .i64 fw, .int .i64 ba] 26)) := (Below.refl _ _).alloc (Nat.le_refl _) _
  have hlong : rs[i].bytes.length ≤ 1099511627776 := by have h1 := hl.long; rw [← hl.bytes] at h1; exact Nat.le_trans h1 (by decide)
  have hq := entriesIn_eq (xb.below hbl) hlong hl.dec_
  obtain ⟨A7, c7, rfl, hc7, -⟩ := xb.at_
  have i0 : (0 : Int) ≤ (i : Int) := by omega
  have i1 : (i : Int) < (rs.length : Int) := Int.ofNat_lt.2 hi
  have HLR := Lib.hid hlr
  clear hcell hx2 xb ix kx rx hl hlr
  unfold RepD.log at hq
  simp only at hq
  generalize rs[i] = t at *
  go_enter Try.func82, Try.ntmps82
  go_wp2_with fail
  refine hq.mono ?_
  rintro e w1 ⟨v1, rfl, ho1, hb1⟩
  obtain ⟨A2, c2, rfl, hc2⟩ := (Sl.of_own ho1).form
  go_wp2
  go_ret
  exact ⟨_, rfl, own_base ho1 hbl.size, hbl.trans (hb1.mono hbl.size)⟩

set_option maxRecDepth 100000 in
set_option maxHeartbeats 1000000 in
theorem safeOf_any (v : Value) (c : PartD) (i : Nat) (w : World) (h : Pv w v c) (hi : i < c.reps.length) {es : List Ent} {j : Nat} (hl : LogIs c.reps[i].log es j) :
    Calls Try.prog 92 #[v, .int .i64 i] w fun e w' => e = .returned (.int .i64 (j : Int)) ∧ Below w.heap.size w w' := by
  obtain ⟨xi, xk, xr, rfl, ix, kx, rx, hli, hlk, hlr⟩ := h
  obtain ⟨A5, c5, rfl, hc5, hx2⟩ := rx.at_
  obtain ⟨A1, c1, rfl, hc1, -⟩ := ix.at_
  obtain ⟨A3, c3, rfl, hc3, -⟩ := kx.at_
  obtain ⟨b, off, rfl, hb, hcell⟩ := hx2 (by omega)
  obtain ⟨pv, x0, x1, x2, x3, xb, xl⟩ := hcell i hi
  unfold partV
  obtain ⟨ep, ld, is, ks, rs, fw, ba⟩ := c
  simp only at *
  have hbl : Below w.heap.size w (w.alloc (.cells #[.int .i64 ep, .int .i64 ld, .slice A1 is.length c1, .slice A3 ks.length c3, .slice (some ⟨b, off, none⟩) rs.length c5, .int .i64 fw, .int .i64 ba] 26)) := (Below.refl _ _).alloc (Nat.le_refl _) _
  have hl' : LogIs ⟨rs[i].bytes, rs[i].synced⟩ es j := hl
  clear hl
  generalize rs[i] = t at *
  obtain ⟨up, bs, sy, hg⟩ := t
  simp only at *
  obtain ⟨hlen, k, rfl, hk, d2, hj, d1⟩ := log_long hl'
  have hbl2 := hbl.alloc hbl.size (.cells #[pv, .int .i64 (k : Int)] 42)
  obtain ⟨A7, c7, rfl, hc7, -⟩ := xb.at_
  have hx := By.take_ (n := k) (xb.below hbl2) hk
  have hxl : (bs.take k).length = k := by rw [List.length_take]; omega
  rw [hxl] at hx
  have hq := entriesIn_eq hx (by omega) d2
  rw [hj] at hq
  have i0 : (0 : Int) ≤ (i : Int) := by omega
  have i1 : (i : Int) < (rs.length : Int) := Int.ofNat_lt.2 hi
  have i2 : (0 : Int) ≤ (k : Int) := by omega
  have i3 : (k : Int) ≤ (c7 : Int) := by omega
  have HLR := Lib.hid hlr
  clear hcell hx2 xb ix kx rx hl' hlr hxl d1 d2 hj
  go_enter Try.func92, Try.ntmps92
  go_wp2_with fail
  refine hq.mono ?_
  rintro e w1 ⟨v1, rfl, ho1, hb1⟩
  obtain ⟨A2, c2, rfl, hc2⟩ := (Sl.of_own ho1).form
  go_wp2
  go_ret
  exact ⟨rfl, hbl2.trans (hb1.mono hbl2.size)⟩
end Go.Proofs.Ytpjjfnpdopdnkaa
namespace Go.Proofs.Ytpjjfnpdopdnkaa
open Go.RowKit

/-- the call answers an error number: 0 where P holds, else 12; memory only grows -/
def Answers (P : Prop) (w : World) (e : Ending) (w' : World) : Prop := ∃ n : Int, e = .returned (.int .i64 n) ∧ (P ∧ n = 0 ∨ ¬ P ∧ n = 12) ∧ Below w.heap.size w w'
theorem Answers.yes {P : Prop} {w w' : World} {e : Ending} (h : Answers P w e w') (hp : P) : e = .returned (.int .i64 0) ∧ Below w.heap.size w w' := by
  obtain ⟨b, rfl, hb, hw⟩ := h
  rcases hb with ⟨_, rfl⟩ | ⟨hn, _⟩
  · exact ⟨rfl, hw⟩
  · exact absurd hp hn
theorem Answers.no {P : Prop} {w w' : World} {e : Ending} (h : Answers P w e w') (hp : ¬ P) : e = .returned (.int .i64 12) ∧ Below w.heap.size w w' := by
  obtain ⟨b, rfl, hb, hw⟩ := h
  rcases hb with ⟨hn, _⟩ | ⟨_, rfl⟩
  · exact absurd hn hp
  · exact ⟨rfl, hw⟩
theorem Answers.below {P : Prop} {w w' : World} {e : Ending} (h : Answers P w e w') : Below w.heap.size w w' := by
  obtain ⟨_, _, _, h⟩ := h
  exact h
theorem Answers.mk_no {P : Prop} {w w' : World} (hp : ¬ P) (hw : Below w.heap.size w w') : Answers P w (.returned (.int .i64 12)) w' := ⟨12, rfl, Or.inr ⟨hp, rfl⟩, hw⟩
theorem Answers.mk_yes {P : Prop} {w w' : World} (hp : P) (hw : Below w.heap.size w w') : Answers P w (.returned (.int .i64 0)) w' := ⟨0, rfl, Or.inl ⟨hp, rfl⟩, hw⟩

end Go.Proofs.Ytpjjfnpdopdnkaa
namespace Go.Proofs.Ytpjjfnpdopdnkaa
open Go.RowKit

set_option maxRecDepth 100000 in
set_option maxHeartbeats 4000000 in
theorem IndexBool_any (v : Value) (l : List Bool) (w : World) (h : Bs w v l) (hl : l.length ≤ 9223372036854775807) :
    Calls Try.prog 101 #[v, .bool true] w fun e w' => (∃ n : Int, e = .returned (.int .i64 n) ∧ (true ∈ l ↔ 0 ≤ n)) ∧ w = w' := by
  obtain ⟨A, c, rfl, hc, hcell⟩ := h.at_
  have HC := Lib.hid hcell
  clear hcell h
  go_enter Try.func101, Try.ntmps101
  go_wp2
  go_loop [5, 8] (fun _ i => ∃ k : Nat, k ≤ l.length ∧ i = .int .i64 k ∧ Hid (∀ j (hj : j < l.length), j < k → l[j] = false)) (fun _ i => l.length - (intOf i).toNat)
  case atStart => exact ⟨0, by omega, rfl, fun j _ hj => by omega⟩
  case round =>
    obtain ⟨k, hk, rfl, HN⟩ := hrel
    by_cases hlt : k < l.length
    · obtain ⟨b, off, rfl, hb, hq⟩ := HC.out (by omega)
      have X0 := hq k hlt
      have i0 : (0 : Int) ≤ (k : Int) := by omega
      have i1 : (k : Int) < (l.length : Int) := by omega
      clear hq
      rcases hv : l[k] with _ | _
      · rw [hv] at X0
        have HV := Lib.hid hv
        clear hv
        go_wp2
        go_round
        case rel => exact ⟨k + 1, by omega, by go_num, fun j hj hjk => by
          rcases Nat.lt_succ_iff_lt_or_eq.1 hjk with h' | rfl
          · exact HN.out j hj h'
          · exact HV.out⟩
        case measure => simp [intOf]; omega
      · rw [hv] at X0
        have HV := Lib.hid (show true ∈ l from hv ▸ List.getElem_mem hlt)
        clear hv
        go_wp2
        go_ret
        exact ⟨⟨k, rfl, by simp [HV.out]⟩, rfl⟩
    · obtain rfl : k = l.length := by omega
      have HV := Lib.hid (show ¬ true ∈ l from fun hm => by
        obtain ⟨i, hi, he⟩ := List.mem_iff_getElem.1 hm
        have := HN.out i hi hi
        rw [he] at this
        cases this)
      clear hlt
      go_wp2
      go_ret
      exact ⟨⟨-1, rfl, by simp [HV.out]⟩, rfl⟩
def HasTrue (l : List Bool) (w : World) (e : Ending) (w' : World) : Prop := ∃ b : Bool, e = .returned (.bool b) ∧ (b = true ↔ true ∈ l) ∧ w = w'
set_option maxRecDepth 100000 in
set_option maxHeartbeats 4000000 in
theorem ContainsBool_any (v : Value) (l : List Bool) (w : World) (h : Bs w v l) (hl : l.length ≤ 9223372036854775807) :
    Calls Try.prog 80 #[v, .bool true] w (HasTrue l w) := by
  obtain ⟨A, c, rfl, hc, -⟩ := h.at_
  have H := Lib.hid h
  clear h
  go_enter Try.func80, Try.ntmps80
  go_wp2_with fail
  refine (IndexBool_any _ l _ H.out hl).mono ?_
  rintro e w' ⟨⟨n, rfl, hn⟩, rfl⟩
  have HN := Lib.hid hn
  clear hn
  go_wp2
  go_ret
  exact ⟨_, rfl, by rw [HN.out]; simp, rfl⟩
theorem contains_yes {v : Value} {l : List Bool} {w : World} (h : Bs w v l) (hl : l.length ≤ 9223372036854775807) (hm : true ∈ l) : Calls Try.prog 80 #[v, .bool true] w fun e w' => e = .returned (.bool true) ∧ w = w' :=
  (ContainsBool_any v l w h hl).mono fun e w' ⟨b, he, hb, hw⟩ => ⟨by rw [he, hb.2 hm], hw⟩
theorem contains_no {v : Value} {l : List Bool} {w : World} (h : Bs w v l) (hl : l.length ≤ 9223372036854775807) (hm : ¬ true ∈ l) : Calls Try.prog 80 #[v, .bool true] w fun e w' => e = .returned (.bool false) ∧ w = w' :=
  (ContainsBool_any v l w h hl).mono fun e w' ⟨b, he, hb, hw⟩ => ⟨by
    rcases b with _ | _
    · exact he
    · exact absurd (hb.1 rfl) hm, hw⟩
/-- the first tests -/
structure PartHead (c : PartD) : Prop where
  many : 1 ≤ c.reps.length ∧ c.reps.length ≤ 5
  isr : c.isr.length = c.reps.length
  known : c.known.length = c.reps.length
  few : 1 ≤ c.few ∧ c.few ≤ c.reps.length
  epoch : 0 ≤ c.epoch ∧ c.epoch ≤ 1073741824
  leader : -1 ≤ c.leader ∧ c.leader < c.reps.length
  base : 0 ≤ c.base ∧ c.base ≤ 400
theorem PartOk.head {c : PartD} (h : PartOk c) : PartHead c := ⟨h.many, h.isr, h.known, h.few, h.epoch, h.leader, h.base⟩
theorem PartHead.ok {c : PartD} (h : PartHead c) (h1 : true ∈ c.isr) (h2 : LedOk c) (h3 : RepsTo c c.reps.length) : PartOk c := ⟨h.many, h.isr, h.known, h.few, h.epoch, h.leader, h.base, h1, h2, h3⟩
theorem first_true (b0 b1 b2 b3 b4 b5 b6 b7 b8 b9 b10 b11 : Bool) : (b0 = false ∧ b1 = false ∧ b2 = false ∧ b3 = false ∧ b4 = false ∧ b5 = false ∧ b6 = false ∧ b7 = false ∧ b8 = false ∧ b9 = false ∧ b10 = false ∧ b11 = false) ∨ (b0 = true) ∨ (b0 = false ∧ b1 = true) ∨ (b0 = false ∧ b1 = false ∧ b2 = true) ∨ (b0 = false ∧ b1 = false ∧ b2 = false ∧ b3 = true) ∨ (b0 = false ∧ b1 = false ∧ b2 = false ∧ b3 = false ∧ b4 = true) ∨ (b0 = false ∧ b1 = false ∧ b2 = false ∧ b3 = false ∧ b4 = false ∧ b5 = true) ∨ (b0 = false ∧ b1 = false ∧ b2 = false ∧ b3 = false ∧ b4 = false ∧ b5 = false ∧ b6 = true) ∨ (b0 = false ∧ b1 = false ∧ b2 = false ∧ b3 = false ∧ b4 = false ∧ b5 = false ∧ b6 = false ∧ b7 = true) ∨ (b0 = false ∧ b1 = false ∧ b2 = false ∧ b3 = false ∧ b4 = false ∧ b5 = false ∧ b6 = false ∧ b7 = false ∧ b8 = true) ∨ (b0 = false ∧ b1 = false ∧ b2 = false ∧ b3 = false ∧ b4 = false ∧ b5 = false ∧ b6 = false ∧ b7 = false ∧ b8 = false ∧ b9 = true) ∨ (b0 = false ∧ b1 = false ∧ b2 = false ∧ b3 = false ∧ b4 = false ∧ b5 = false ∧ b6 = false ∧ b7 = false ∧ b8 = false ∧ b9 = false ∧ b10 = true) ∨ (b0 = false ∧ b1 = false ∧ b2 = false ∧ b3 = false ∧ b4 = false ∧ b5 = false ∧ b6 = false ∧ b7 = false ∧ b8 = false ∧ b9 = false ∧ b10 = false ∧ b11 = true) := by
  cases b0 <;> simp
  cases b1 <;> simp
  cases b2 <;> simp
  cases b3 <;> simp
  cases b4 <;> simp
  cases b5 <;> simp
  cases b6 <;> simp
  cases b7 <;> simp
  cases b8 <;> simp
  cases b9 <;> simp
  cases b10 <;> simp
theorem head_cases (c : PartD) : PartHead c ∨ ¬ PartHead c ∧ ((decide ((c.reps.length : Int) < 1) = true) ∨
    (decide ((c.reps.length : Int) < 1) = false ∧ decide ((5 : Int) < (c.reps.length : Int)) = true) ∨
    (decide ((c.reps.length : Int) < 1) = false ∧ decide ((5 : Int) < (c.reps.length : Int)) = false ∧ ((c.isr.length : Int) != (c.reps.length : Int)) = true) ∨
    (decide ((c.reps.length : Int) < 1) = false ∧ decide ((5 : Int) < (c.reps.length : Int)) = false ∧ ((c.isr.length : Int) != (c.reps.length : Int)) = false ∧ ((c.known.length : Int) != (c.reps.length : Int)) = true) ∨
    (decide ((c.reps.length : Int) < 1) = false ∧ decide ((5 : Int) < (c.reps.length : Int)) = false ∧ ((c.isr.length : Int) != (c.reps.length : Int)) = false ∧ ((c.known.length : Int) != (c.reps.length : Int)) = false ∧ decide (c.few < 1) = true) ∨
    (decide ((c.reps.length : Int) < 1) = false ∧ decide ((5 : Int) < (c.reps.length : Int)) = false ∧ ((c.isr.length : Int) != (c.reps.length : Int)) = false ∧ ((c.known.length : Int) != (c.reps.length : Int)) = false ∧ decide (c.few < 1) = false ∧ decide ((c.reps.length : Int) < c.few) = true) ∨
    (decide ((c.reps.length : Int) < 1) = false ∧ decide ((5 : Int) < (c.reps.length : Int)) = false ∧ ((c.isr.length : Int) != (c.reps.length : Int)) = false ∧ ((c.known.length : Int) != (c.reps.length : Int)) = false ∧ decide (c.few < 1) = false ∧ decide ((c.reps.length : Int) < c.few) = false ∧ decide (c.epoch < 0) = true) ∨
    (decide ((c.reps.length : Int) < 1) = false ∧ decide ((5 : Int) < (c.reps.length : Int)) = false ∧ ((c.isr.length : Int) != (c.reps.length : Int)) = false ∧ ((c.known.length : Int) != (c.reps.length : Int)) = false ∧ decide (c.few < 1) = false ∧ decide ((c.reps.length : Int) < c.few) = false ∧ decide (c.epoch < 0) = false ∧ decide (1073741824 < c.epoch) = true) ∨
    (decide ((c.reps.length : Int) < 1) = false ∧ decide ((5 : Int) < (c.reps.length : Int)) = false ∧ ((c.isr.length : Int) != (c.reps.length : Int)) = false ∧ ((c.known.length : Int) != (c.reps.length : Int)) = false ∧ decide (c.few < 1) = false ∧ decide ((c.reps.length : Int) < c.few) = false ∧ decide (c.epoch < 0) = false ∧ decide (1073741824 < c.epoch) = false ∧ decide (c.leader < -1) = true) ∨
    (decide ((c.reps.length : Int) < 1) = false ∧ decide ((5 : Int) < (c.reps.length : Int)) = false ∧ ((c.isr.length : Int) != (c.reps.length : Int)) = false ∧ ((c.known.length : Int) != (c.reps.length : Int)) = false ∧ decide (c.few < 1) = false ∧ decide ((c.reps.length : Int) < c.few) = false ∧ decide (c.epoch < 0) = false ∧ decide (1073741824 < c.epoch) = false ∧ decide (c.leader < -1) = false ∧ decide ((c.reps.length : Int) ≤ c.leader) = true) ∨
    (decide ((c.reps.length : Int) < 1) = false ∧ decide ((5 : Int) < (c.reps.length : Int)) = false ∧ ((c.isr.length : Int) != (c.reps.length : Int)) = false ∧ ((c.known.length : Int) != (c.reps.length : Int)) = false ∧ decide (c.few < 1) = false ∧ decide ((c.reps.length : Int) < c.few) = false ∧ decide (c.epoch < 0) = false ∧ decide (1073741824 < c.epoch) = false ∧ decide (c.leader < -1) = false ∧ decide ((c.reps.length : Int) ≤ c.leader) = false ∧ decide (c.base < 0) = true) ∨
    (decide ((c.reps.length : Int) < 1) = false ∧ decide ((5 : Int) < (c.reps.length : Int)) = false ∧ ((c.isr.length : Int) != (c.reps.length : Int)) = false ∧ ((c.known.length : Int) != (c.reps.length : Int)) = false ∧ decide (c.few < 1) = false ∧ decide ((c.reps.length : Int) < c.few) = false ∧ decide (c.epoch < 0) = false ∧ decide (1073741824 < c.epoch) = false ∧ decide (c.leader < -1) = false ∧ decide ((c.reps.length : Int) ≤ c.leader) = false ∧ decide (c.base < 0) = false ∧ decide (400 < c.base) = true)) := by
  by_cases h : PartHead c
  · exact Or.inl h
  · refine Or.inr ⟨h, ?_⟩
    rcases first_true (decide ((c.reps.length : Int) < 1)) (decide ((5 : Int) < (c.reps.length : Int))) (((c.isr.length : Int) != (c.reps.length : Int))) (((c.known.length : Int) != (c.reps.length : Int))) (decide (c.few < 1)) (decide ((c.reps.length : Int) < c.few)) (decide (c.epoch < 0)) (decide (1073741824 < c.epoch)) (decide (c.leader < -1)) (decide ((c.reps.length : Int) ≤ c.leader)) (decide (c.base < 0)) (decide (400 < c.base)) with ⟨h0, h1, h2, h3, h4, h5, h6, h7, h8, h9, h10, h11⟩ | h'
    · simp only [decide_eq_false_iff_not, bne_eq_false_iff_eq] at h0 h1 h2 h3 h4 h5 h6 h7 h8 h9 h10 h11
      exact absurd ⟨⟨by omega, by omega⟩, by omega, by omega, ⟨by omega, by omega⟩, ⟨by omega, by omega⟩, ⟨by omega, by omega⟩, ⟨by omega, by omega⟩⟩ h
    · exact h'
set_option maxRecDepth 100000 in
set_option maxHeartbeats 4000000 in
theorem partCheck_head (v : Value) (c : PartD) (w : World) (h : Pv w v c) (hn : ¬ PartHead c) (hcs : (decide ((c.reps.length : Int) < 1) = true) ∨ (decide ((c.reps.length : Int) < 1) = false ∧ decide ((5 : Int) < (c.reps.length : Int)) = true) ∨ (decide ((c.reps.length : Int) < 1) = false ∧ decide ((5 : Int) < (c.reps.length : Int)) = false ∧ ((c.isr.length : Int) != (c.reps.length : Int)) = true) ∨ (decide ((c.reps.length : Int) < 1) = false ∧ decide ((5 : Int) < (c.reps.length : Int)) = false ∧ ((c.isr.length : Int) != (c.reps.length : Int)) = false ∧ ((c.known.length : Int) != (c.reps.length : Int)) = true) ∨ (decide ((c.reps.length : Int) < 1) = false ∧ decide ((5 : Int) < (c.reps.length : Int)) = false ∧ ((c.isr.length : Int) != (c.reps.length : Int)) = false ∧ ((c.known.length : Int) != (c.reps.length : Int)) = false ∧ decide (c.few < 1) = true) ∨ (decide ((c.reps.length : Int) < 1) = false ∧ decide ((5 : Int) < (c.reps.length : Int)) = false ∧ ((c.isr.length : Int) != (c.reps.length : Int)) = false ∧ ((c.known.length : Int) != (c.reps.length : Int)) = false ∧ decide (c.few < 1) = false ∧ decide ((c.reps.length : Int) < c.few) = true) ∨ (decide ((c.reps.length : Int) < 1) = false ∧ decide ((5 : Int) < (c.reps.length : Int)) = false ∧ ((c.isr.length : Int) != (c.reps.length : Int)) = false ∧ ((c.known.length : Int) != (c.reps.length : Int)) = false ∧ decide (c.few < 1) = false ∧ decide ((c.reps.length : Int) < c.few) = false ∧ decide (c.epoch < 0) = true) ∨ (decide ((c.reps.length : Int) < 1) = false ∧ decide ((5 : Int) < (c.reps.length : Int)) = false ∧ ((c.isr.length : Int) != (c.reps.length : Int)) = false ∧ ((c.known.length : Int) != (c.reps.length : Int)) = false ∧ decide (c.few < 1) = false ∧ decide ((c.reps.length : Int) < c.few) = false ∧ decide (c.epoch < 0) = false ∧ decide (1073741824 < c.epoch) = true) ∨ (decide ((c.reps.length : Int) < 1) = false ∧ decide ((5 : Int) < (c.reps.length : Int)) = false ∧ ((c.isr.length : Int) != (c.reps.length : Int)) = false ∧ ((c.known.length : Int) != (c.reps.length : Int)) = false ∧ decide (c.few < 1) = false ∧ decide ((c.reps.length : Int) < c.few) = false ∧ decide (c.epoch < 0) = false ∧ decide (1073741824 < c.epoch) = false ∧ decide (c.leader < -1) = true) ∨ (decide ((c.reps.length : Int) < 1) = false ∧ decide ((5 : Int) < (c.reps.length : Int)) = false ∧ ((c.isr.length : Int) != (c.reps.length : Int)) = false ∧ ((c.known.length : Int) != (c.reps.length : Int)) = false ∧ decide (c.few < 1) = false ∧ decide ((c.reps.length : Int) < c.few) = false ∧ decide (c.epoch < 0) = false ∧ decide (1073741824 < c.epoch) = false ∧ decide (c.leader < -1) = false ∧ decide ((c.reps.length : Int) ≤ c.leader) = true) ∨ (decide ((c.reps.length : Int) < 1) = false ∧ decide ((5 : Int) < (c.reps.length : Int)) = false ∧ ((c.isr.length : Int) != (c.reps.length : Int)) = false ∧ ((c.known.length : Int) != (c.reps.length : Int)) = false ∧ decide (c.few < 1) = false ∧ decide ((c.reps.length : Int) < c.few) = false ∧ decide (c.epoch < 0) = false ∧ decide (1073741824 < c.epoch) = false ∧ decide (c.leader < -1) = false ∧ decide ((c.reps.length : Int) ≤ c.leader) = false ∧ decide (c.base < 0) = true) ∨ (decide ((c.reps.length : Int) < 1) = false ∧ decide ((5 : Int) < (c.reps.length : Int)) = false ∧ ((c.isr.length : Int) != (c.reps.length : Int)) = false ∧ ((c.known.length : Int) != (c.reps.length : Int)) = false ∧ decide (c.few < 1) = false ∧ decide ((c.reps.length : Int) < c.few) = false ∧ decide (c.epoch < 0) = false ∧ decide (1073741824 < c.epoch) = false ∧ decide (c.leader < -1) = false ∧ decide ((c.reps.length : Int) ≤ c.leader) = false ∧ decide (c.base < 0) = false ∧ decide (400 < c.base) = true)) :
    Calls Try.prog 41 #[v] w (Answers (PartOk c) w) := by
  have HN := Lib.hid (show ¬ PartOk c from fun h => hn h.head)
  clear hn
  obtain ⟨xi, xk, xr, rfl, ix, kx, rx, hli, hlk, hlr⟩ := id h
  obtain ⟨A5, c5, rfl, hc5, -⟩ := rx.at_
  obtain ⟨A1, c1, rfl, hc1, -⟩ := ix.at_
  obtain ⟨A3, c3, rfl, hc3, -⟩ := kx.at_
  unfold partV at *
  clear h ix kx rx
  obtain ⟨ep, ld, is, ks, rs, fw, ba⟩ := c
  simp only at *
  rcases hcs with z0 | ⟨z0, z1⟩ | ⟨z0, z1, z2⟩ | ⟨z0, z1, z2, z3⟩ | ⟨z0, z1, z2, z3, z4⟩ | ⟨z0, z1, z2, z3, z4, z5⟩ | ⟨z0, z1, z2, z3, z4, z5, z6⟩ | ⟨z0, z1, z2, z3, z4, z5, z6, z7⟩ | ⟨z0, z1, z2, z3, z4, z5, z6, z7, z8⟩ | ⟨z0, z1, z2, z3, z4, z5, z6, z7, z8, z9⟩ | ⟨z0, z1, z2, z3, z4, z5, z6, z7, z8, z9, z10⟩ | ⟨z0, z1, z2, z3, z4, z5, z6, z7, z8, z9, z10, z11⟩
  all_goals
    go_enter Try.func41, Try.ntmps41
    go_wp2
    go_ret
    exact Answers.mk_no HN.out ((Below.refl _ _).alloc (Nat.le_refl _) _)
end Go.Proofs.Ytpjjfnpdopdnkaa
namespace Go.Proofs.Ytpjjfnpdopdnkaa
open Go.RowKit

theorem RepsTo.step {c : PartD} {k : Nat} (h : RepsTo c k) (hk : ∀ (h : k < c.reps.length) (h' : k < c.known.length), RepOk c.reps[k] c.known[k]) : RepsTo c (k + 1) := by
  intro i hi h1 h2
  rcases Nat.lt_succ_iff_lt_or_eq.1 hi with h' | rfl
  · exact h i h' h1 h2
  · exact hk h1 h2
theorem not_ok_rep {c : PartD} {k : Nat} (hk : k < c.reps.length) (hk' : k < c.known.length) (h : ¬ RepOk c.reps[k] c.known[k]) : ¬ PartOk c := fun hc => h (hc.reps k hk hk hk')
set_option maxRecDepth 100000 in
set_option maxHeartbeats 16000000 in
theorem partCheck_loop (v : Value) (c : PartD) (w : World) (h : Pv w v c) (hh : PartHead c) (hm : true ∈ c.isr) (hl : LedOk c) :
    Calls Try.prog 41 #[v] w (Answers (PartOk c) w) := by
  have HOK := Lib.hid (fun h3 => hh.ok hm hl h3)
  obtain ⟨xi, xk, xr, rfl, ix, kx, rx, hli, hlk, hlr⟩ := id h
  obtain ⟨A5, c5, rfl, hc5, hx2⟩ := rx.at_
  obtain ⟨A1, c1, rfl, hc1, hx1⟩ := ix.at_
  obtain ⟨A3, c3, rfl, hc3, hx3⟩ := kx.at_
  unfold partV at *
  have H := Lib.hid h
  have IX := Lib.hid ix
  have HM := Lib.hid hm
  have HC := Lib.hid hx2
  have HI := Lib.hid hx1
  have HK := Lib.hid hx3
  obtain ⟨g1, g2, g3, g4, g5, g6, g7⟩ := hh
  have HL := Lib.hid hl
  clear h ix hm hx1 hx2 hx3 hl kx rx
  obtain ⟨ep, ld, is, ks, rs, fw, ba⟩ := c
  simp only at *
  have z0 : decide ((rs.length : Int) < 1) = false := decide_eq_false (by omega)
  have z1 : decide ((5 : Int) < (rs.length : Int)) = false := decide_eq_false (by omega)
  have z2 : ((is.length : Int) != (rs.length : Int)) = false := by simp only [bne_eq_false_iff_eq]; omega
  have z3 : ((ks.length : Int) != (rs.length : Int)) = false := by simp only [bne_eq_false_iff_eq]; omega
  have z4 : decide (fw < 1) = false := decide_eq_false (by omega)
  have z5 : decide ((rs.length : Int) < fw) = false := decide_eq_false (by omega)
  have z6 : decide (ep < 0) = false := decide_eq_false (by omega)
  have z7 : decide (1073741824 < ep) = false := decide_eq_false (by omega)
  have z8 : decide (ld < -1) = false := decide_eq_false (by omega)
  have z9 : decide ((rs.length : Int) ≤ ld) = false := decide_eq_false (by omega)
  have z10 : decide (ba < 0) = false := decide_eq_false (by omega)
  have z11 : decide (400 < ba) = false := decide_eq_false (by omega)
  have G1 := Lib.hid g1
  have G2 := Lib.hid g2
  have G3 := Lib.hid g3
  have G6 := Lib.hid g6
  clear g1 g2 g3 g4 g5 g6 g7
  have hbl := (Below.refl w.heap.size w).alloc (Nat.le_refl _) (.cells #[.int .i64 ep, .int .i64 ld, .slice A1 is.length c1, .slice A3 ks.length c3, .slice A5 rs.length c5, .int .i64 fw, .int .i64 ba] 26)
  have bx := Blk.new w 26 #[.int .i64 ep, .int .i64 ld, .slice A1 is.length c1, .slice A3 ks.length c3, .slice A5 rs.length c5, .int .i64 fw, .int .i64 ba]
  have hcs : (decide (0 ≤ ld) = false ∧ ld < 0) ∨ ∃ i : Nat, ld = i ∧ i < rs.length ∧ i < is.length := by
    rcases Int.lt_or_le ld 0 with h0 | h0
    · exact Or.inl ⟨decide_eq_false (by omega), h0⟩
    · have := G6.out; have := G2.out
      exact Or.inr ⟨ld.toNat, by omega, by omega, by omega⟩
  have HNR := Lib.hid (fun (k : Nat) (h1 : k < rs.length) (h2 : k < ks.length) (hn : ¬ RepOk rs[k] ks[k]) => not_ok_rep (c := ⟨ep, ld, is, ks, rs, fw, ba⟩) h1 h2 hn)
  rcases hcs with ⟨y0, y1⟩ | ⟨i, rfl, hi, hi'⟩
  case' inl =>
    have e0 : 0 = 0 := rfl
    clear y1
    go_enter Try.func41, Try.ntmps41
    go_wp2_with fail
    refine (contains_yes (IX.out.below hbl) hli HM.out).mono ?_
    rintro e w' ⟨rfl, rfl⟩
    go_wp2_with fail
    clear y0 e0
  case' inr =>
    obtain ⟨y2, y3⟩ := HL.out i rfl hi' hi
    obtain ⟨b1, o1, rfl, hb1, q1⟩ := HI.out (Nat.lt_of_le_of_lt (Nat.zero_le _) hi')
    have X1 := q1 i hi'
    simp only at y2
    rw [y2] at X1
    obtain ⟨b, off, rfl, hb, q5⟩ := HC.out (Nat.lt_of_le_of_lt (Nat.zero_le _) hi)
    obtain ⟨pv, x0, x1, x2, x3, xb, xl⟩ := q5 i hi
    simp only at y3
    rw [y3] at x0
    have i0 : (0 : Int) ≤ (i : Int) := by omega
    have i1 : (i : Int) < (is.length : Int) := Int.ofNat_lt.2 hi'
    have i2 : (i : Int) < (rs.length : Int) := Int.ofNat_lt.2 hi
    have y0 : decide (0 ≤ (i : Int)) = true := decide_eq_true i0
    clear q1 q5 xb xl x1 x2 x3 y2 y3
    go_enter Try.func41, Try.ntmps41
    go_wp2_with fail
    refine (contains_yes (IX.out.below hbl) hli HM.out).mono ?_
    rintro e w' ⟨rfl, rfl⟩
    go_wp2_with fail
    clear X1 x0 i0 i1 i2 y0
  all_goals
    clear z0 z1 z2 z3 z4 z5 z6 z7 z8 z9 z10 z11
    generalize w.alloc (.cells #[.int .i64 ep, _, .slice _ is.length c1, .slice A3 ks.length c3, .slice _ rs.length c5, .int .i64 fw, .int .i64 ba] 26) = W0 at *
    have HBL := Lib.hid hbl
    have HB := Lib.hid bx
    clear hbl bx
    go_loopw [104] (fun i wr => ∃ k : Nat, k ≤ rs.length ∧ i = .int .i64 k ∧ Hid (RepsTo ⟨ep, 0, is, ks, rs, fw, ba⟩ k) ∧ Hid (Below W0.heap.size W0 wr)) (fun i _ => rs.length - (intOf i).toNat)
    case atStart => exact ⟨0, by omega, rfl, fun j hj => by omega, Below.refl _ _⟩
    case round =>
      obtain ⟨k, hk, rfl, HR, HW⟩ := hrel
      have hbw := below_then HBL.out HW.out
      have bw := HB.out.below HW.out HB.out.lt
      have q0 := bw.cell 0
      have q1 := bw.cell 1
      have q2 := bw.cell 2
      have q3 := bw.cell 3
      have q4 := bw.cell 4
      have q5 := bw.cell 5
      have q6 := bw.cell 6
      have ql := bw.lt
      have HBW := Lib.hid hbw
      have BW := Lib.hid bw
      clear bw hbw
      by_cases hlt : k < rs.length
      · have hltk : k < ks.length := by have := G3.out; omega
        obtain ⟨b, off, he5, hb, hcell⟩ := HC.out (Nat.lt_of_le_of_lt (Nat.zero_le _) hlt)
        cases he5
        obtain ⟨pv, x0, x1, x2, x3, xb, xl⟩ := hcell k hlt
        obtain ⟨b3, o3, rfl, hb3, hcell3⟩ := HK.out (Nat.lt_of_le_of_lt (Nat.zero_le _) hltk)
        have k0 := hcell3 k hltk
        obtain ⟨A7, c7, rfl, hc7, -⟩ := xb.at_
        have X0 := (HBW.out.cell (p := ⟨b, off + k * 4, none⟩) hb).trans x0
        have X1 := (HBW.out.cell (p := ⟨b, off + k * 4 + 1, none⟩) hb).trans x1
        have X2 := (HBW.out.cell (p := ⟨b, off + k * 4 + 2, none⟩) hb).trans x2
        have X3 := (HBW.out.cell (p := ⟨b, off + k * 4 + 3, none⟩) hb).trans x3
        have i0 : (0 : Int) ≤ (k : Int) := by omega
        have i1 : (k : Int) < (rs.length : Int) := Int.ofNat_lt.2 hlt
        have i2 : (k : Int) < (ks.length : Int) := Int.ofNat_lt.2 hltk
        have XB := Lib.hid xb
        have XL := Lib.hid xl
        have K0 := Lib.hid k0
        clear x0 x1 x2 x3 hcell hcell3 xb xl k0
        go_wp2_with fail
        have hal := (Below.refl wr.heap.size wr).alloc (Nat.le_refl _) (.cells #[.bool rs[k].up, .slice A7 rs[k].bytes.length c7, .int .i64 rs[k].synced, .int .i64 rs[k].high] 71)
        have bt := Blk.new wr 71 #[.bool rs[k].up, .slice A7 rs[k].bytes.length c7, .int .i64 rs[k].synced, .int .i64 rs[k].high]
        have bw2 := BW.out.below hal BW.out.lt
        generalize wr.alloc (.cells #[.bool rs[k].up, .slice A7 rs[k].bytes.length c7, .int .i64 rs[k].synced, .int .i64 rs[k].high] 71) = w2 at *
        have hbw2 := below_then HBW.out hal
        have HW2 := Lib.hid (below_then HW.out hal)
        have BW2 := Lib.hid bw2
        have BT := Lib.hid bt
        have HBW2 := Lib.hid hbw2
        clear q0 q1 q2 q3 q4 q5 q6 ql X0 X1 X2 X3 BW bw2 bt hbw2 hal
        rcases logFault_cases rs[k].log with hf | ⟨es, j, hlog⟩
        · have HNO := Lib.hid (HNR.out k hlt hltk (fun h => hf h.1))
          refine (ends_bad _ _ k _ (H.out.below HBW2.out) hlt hf).mono ?_
          rintro e w3 ⟨rfl, hb3'⟩
          have hbw3 := below_then HBW2.out hb3'
          have bt3 := BT.out.below hb3' BT.out.lt
          have t1 := bt3.cell 1
          have t2 := bt3.cell 2
          have tl := bt3.lt
          have hq := segCheck_any _ rs[k].bytes rs[k].synced _ (XB.out.below hbw3) XL.out
          have HBW3 := Lib.hid hbw3
          unfold RepD.log at hf
          generalize logFault ⟨rs[k].bytes, rs[k].synced⟩ = x at *
          have zx : (x != 0) = true := by simp only [bne_iff_ne]; exact hf
          have HQ := Lib.hid hq
          clear hb3' bt3 hbw3 hf hq
          go_wp2_with fail
          refine HQ.out.mono ?_
          rintro e w4 ⟨rfl, hb4⟩
          have hbw4 := below_then HBW3.out hb4
          clear t1 t2 tl
          go_wp2
          go_ret
          exact Answers.mk_no HNO.out hbw4
        · refine (ends_ok _ _ k _ (H.out.below HBW2.out) hlt hlog).mono ?_
          rintro e w3 ⟨rfl, hb3'⟩
          have hbw3 := below_then HBW2.out hb3'
          have HW3 := Lib.hid (below_then HW2.out hb3')
          have bt3 := BT.out.below hb3' BT.out.lt
          have bw3 := BW2.out.below hb3' BW2.out.lt
          have t1 := bt3.cell 1
          have t2 := bt3.cell 2
          have tl := bt3.lt
          have hq := segCheck_any _ rs[k].bytes rs[k].synced _ (XB.out.below hbw3) XL.out
          have HBW3 := Lib.hid hbw3
          have BT3 := Lib.hid bt3
          have BW3 := Lib.hid bw3
          have hf := hlog.fault
          have HA := Lib.hid (RepD.ents hlog).1
          have HF := Lib.hid hf
          unfold RepD.log at hf
          rw [hf] at hq
          have HQ := Lib.hid hq
          clear hb3' bt3 bw3 hbw3 hq hf hlog
          go_wp2_with fail
          refine HQ.out.mono ?_
          rintro e w4 ⟨rfl, hb4⟩
          have hbw4 := below_then HBW3.out hb4
          have HW4 := Lib.hid (below_then HW3.out hb4)
          have bt4 := BT3.out.below hb4 BT3.out.lt
          have bw4 := BW3.out.below hb4 BW3.out.lt
          clear t1 t2 tl
          have t2 := bt4.cell 2
          have t3 := bt4.cell 3
          have tl := bt4.lt
          have q3 := bw4.cell 3
          have ql := bw4.lt
          have K4 := (hbw4.cell (p := ⟨b3, o3 + k, none⟩) hb3).trans K0.out
          have HBW4 := Lib.hid hbw4
          clear bt4 bw4 hb4 hbw4
          by_cases a1 : rs[k].high < 0
          · have HNO := Lib.hid (HNR.out k hlt hltk (fun h => by have := h.2.1; omega))
            have d1 : decide (rs[k].high < 0) = true := decide_eq_true a1
            clear a1
            go_wp2
            go_ret
            exact Answers.mk_no HNO.out HBW4.out
          · have d1 : decide (rs[k].high < 0) = false := decide_eq_false a1
            by_cases a2 : (es.length : Int) < rs[k].high
            · have HNO := Lib.hid (HNR.out k hlt hltk (fun h => by have := h.2.2.1; rw [HA.out] at this; omega))
              have d2 : decide ((es.length : Int) < rs[k].high) = true := decide_eq_true a2
              clear a1 a2
              go_wp2
              go_ret
              exact Answers.mk_no HNO.out HBW4.out
            · have d2 : decide ((es.length : Int) < rs[k].high) = false := decide_eq_false a2
              by_cases a3 : ks[k] < 0
              · have HNO := Lib.hid (HNR.out k hlt hltk (fun h => by have := h.2.2.2.1; omega))
                have d3 : decide (ks[k] < 0) = true := decide_eq_true a3
                clear a1 a2 a3
                go_wp2
                go_ret
                exact Answers.mk_no HNO.out HBW4.out
              · have d3 : decide (ks[k] < 0) = false := decide_eq_false a3
                by_cases a4 : 400 < ks[k]
                · have HNO := Lib.hid (HNR.out k hlt hltk (fun h => by have := h.2.2.2.2; omega))
                  have d4 : decide (400 < ks[k]) = true := decide_eq_true a4
                  clear a1 a2 a3 a4
                  go_wp2
                  go_ret
                  exact Answers.mk_no HNO.out HBW4.out
                · have d4 : decide (400 < ks[k]) = false := decide_eq_false a4
                  have HR' := Lib.hid (HR.out.step (fun _ _ => ⟨HF.out, by simp only; omega, by simp only; rw [HA.out]; omega, by simp only; omega, by simp only; omega⟩))
                  clear a1 a2 a3 a4
                  go_wp2
                  go_light
                  refine ⟨⟨k + 1, by omega, by go_num, HR'.out, HW4.out⟩, by simp [intOf]; omega⟩
      · obtain rfl : k = rs.length := by omega
        have HRO := Lib.hid (HOK.out HR.out)
        clear hlt
        go_wp2
        go_ret
        exact Answers.mk_yes HRO.out HBW.out

set_option maxRecDepth 100000 in
set_option maxHeartbeats 4000000 in
theorem partCheck_mid (v : Value) (c : PartD) (w : World) (h : Pv w v c) (hh : PartHead c) (hm : ¬ (true ∈ c.isr ∧ LedOk c)) :
    Calls Try.prog 41 #[v] w (Answers (PartOk c) w) := by
  have HNO := Lib.hid (show ¬ PartOk c from fun h => hm ⟨h.some_, h.led⟩)
  obtain ⟨xi, xk, xr, rfl, ix, kx, rx, hli, hlk, hlr⟩ := id h
  obtain ⟨A5, c5, rfl, hc5, hx2⟩ := rx.at_
  obtain ⟨A1, c1, rfl, hc1, hx1⟩ := ix.at_
  obtain ⟨A3, c3, rfl, hc3, hx3⟩ := kx.at_
  unfold partV at *
  have IX := Lib.hid ix
  have HM := Lib.hid hm
  have HC := Lib.hid hx2
  have HI := Lib.hid hx1
  obtain ⟨g1, g2, g3, g4, g5, g6, g7⟩ := hh
  clear h ix hm hx1 hx2 hx3 kx rx
  obtain ⟨ep, ld, is, ks, rs, fw, ba⟩ := c
  simp only at *
  have z0 : decide ((rs.length : Int) < 1) = false := decide_eq_false (by omega)
  have z1 : decide ((5 : Int) < (rs.length : Int)) = false := decide_eq_false (by omega)
  have z2 : ((is.length : Int) != (rs.length : Int)) = false := by simp only [bne_eq_false_iff_eq]; omega
  have z3 : ((ks.length : Int) != (rs.length : Int)) = false := by simp only [bne_eq_false_iff_eq]; omega
  have z4 : decide (fw < 1) = false := decide_eq_false (by omega)
  have z5 : decide ((rs.length : Int) < fw) = false := decide_eq_false (by omega)
  have z6 : decide (ep < 0) = false := decide_eq_false (by omega)
  have z7 : decide (1073741824 < ep) = false := decide_eq_false (by omega)
  have z8 : decide (ld < -1) = false := decide_eq_false (by omega)
  have z9 : decide ((rs.length : Int) ≤ ld) = false := decide_eq_false (by omega)
  have z10 : decide (ba < 0) = false := decide_eq_false (by omega)
  have z11 : decide (400 < ba) = false := decide_eq_false (by omega)
  have hbl := (Below.refl w.heap.size w).alloc (Nat.le_refl _) (.cells #[.int .i64 ep, .int .i64 ld, .slice A1 is.length c1, .slice A3 ks.length c3, .slice A5 rs.length c5, .int .i64 fw, .int .i64 ba] 26)
  have hcs : ¬ true ∈ is ∨ true ∈ is ∧ ∃ i : Nat, ld = i ∧ ∃ (hi : i < rs.length) (hi' : i < is.length), is[i] = false ∨ is[i] = true ∧ rs[i].up = false := by
    by_cases hm : true ∈ is
    · refine Or.inr ⟨hm, Classical.byContradiction fun hn => HM.out ⟨hm, fun i he h1 h2 => Classical.byContradiction fun hn' => hn ⟨i, he, h2, h1, ?_⟩⟩⟩
      simp only at hn' ⊢
      rcases h3 : is[i] with _ | _
      · exact Or.inl rfl
      · refine Or.inr ⟨rfl, ?_⟩
        rcases h4 : rs[i].up with _ | _
        · rfl
        · exact absurd ⟨h3, h4⟩ hn'
    · exact Or.inl hm
  clear g1 g2 g3 g4 g5 g6 g7 HM
  rcases hcs with hm | ⟨hm, i, rfl, hi, hi', hcs⟩
  · have HM := Lib.hid hm
    clear hm
    go_enter Try.func41, Try.ntmps41
    go_wp2_with fail
    refine (contains_no (IX.out.below hbl) hli HM.out).mono ?_
    rintro e w' ⟨rfl, rfl⟩
    go_wp2
    go_ret
    exact Answers.mk_no HNO.out hbl
  · obtain ⟨b1, o1, rfl, hb1, q1⟩ := HI.out (Nat.lt_of_le_of_lt (Nat.zero_le _) hi')
    have X1 := q1 i hi'
    have i0 : (0 : Int) ≤ (i : Int) := by omega
    have i1 : (i : Int) < (is.length : Int) := Int.ofNat_lt.2 hi'
    have i2 : (i : Int) < (rs.length : Int) := Int.ofNat_lt.2 hi
    have y0 : decide (0 ≤ (i : Int)) = true := decide_eq_true i0
    have HM := Lib.hid hm
    clear q1 hm
    rcases hcs with y2 | ⟨y2, y3⟩
    · rw [y2] at X1
      clear y2
      go_enter Try.func41, Try.ntmps41
      go_wp2_with fail
      refine (contains_yes (IX.out.below hbl) hli HM.out).mono ?_
      rintro e w' ⟨rfl, rfl⟩
      go_wp2
      go_ret
      exact Answers.mk_no HNO.out hbl
    · rw [y2] at X1
      obtain ⟨b, off, rfl, hb, q5⟩ := HC.out (Nat.lt_of_le_of_lt (Nat.zero_le _) hi)
      obtain ⟨pv, x0, x1, x2, x3, xb, xl⟩ := q5 i hi
      rw [y3] at x0
      clear q5 xb xl x1 x2 x3 y2 y3
      go_enter Try.func41, Try.ntmps41
      go_wp2_with fail
      refine (contains_yes (IX.out.below hbl) hli HM.out).mono ?_
      rintro e w' ⟨rfl, rfl⟩
      go_wp2
      go_ret
      exact Answers.mk_no HNO.out hbl

theorem partCheck_any (v : Value) (c : PartD) (w : World) (h : Pv w v c) : Calls Try.prog 41 #[v] w (Answers (PartOk c) w) := by
  rcases head_cases c with hh | ⟨hn, hcs⟩
  · by_cases hm : true ∈ c.isr ∧ LedOk c
    · exact partCheck_loop v c w h hh hm.1 hm.2
    · exact partCheck_mid v c w h hh hm
  · exact partCheck_head v c w h hn hcs
end Go.Proofs.Ytpjjfnpdopdnkaa
