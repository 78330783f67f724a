/- view.Stable, tailraceref.StableOf. -/
import Derived.Test.YtpjjfnpdopdnkaaViewD
import Derived.Test.YtpjjfnpdopdnkaaInB
import Derived.Lib.MinMax
namespace Go.Proofs.Ytpjjfnpdopdnkaa
open Go.RowKit

theorem ecs_take : ∀ (l : List Ent) (n : Nat), ecs (l.take n) = (ecs l).take (n * 7)
  | [], n => by simp [ecs]
  | e :: l, 0 => by simp [ecs]
  | e :: l, n + 1 => by
    have e1 : ecs (e :: l) = e.cells ++ ecs l := rfl
    have e2 : ecs ((e :: l).take (n + 1)) = e.cells ++ ecs (l.take n) := rfl
    have hl : e.cells.length = 7 := rfl
    have h3 : e.cells.take ((n + 1) * 7) = e.cells := List.take_of_length_le (by rw [hl]; omega)
    rw [e1, e2, ecs_take l n, List.take_append, hl, h3, show (n + 1) * 7 - 7 = n * 7 from by omega]
theorem Es.take_ {w : World} {A : Option Addr} {c n : Nat} {l : List Ent} (h : Es w (.slice A l.length c) l) (hn : n ≤ l.length) : Es w (.slice A n c) (l.take n) := by
  obtain ⟨h1, A', c', he, hc, h2⟩ := h
  injection he with e1 e2 e3
  subst e1 e3
  have hl : (l.take n).length = n := by rw [List.length_take]; omega
  unfold Es
  rw [hl]
  refine ⟨by rw [ecs_length, hl], A, c, rfl, by omega, fun h0 => ?_⟩
  obtain ⟨b, off, r1, r2, r3⟩ := h2 (by omega)
  refine ⟨b, off, r1, r2, fun j u hu => r3 j u ?_⟩
  rw [ecs_take] at hu
  by_cases hj : j < n * 7
  · rw [List.getElem?_take_of_lt hj] at hu; exact hu
  · rw [List.getElem?_eq_none (by rw [List.length_take]; omega)] at hu; cases hu
theorem PlainE.take {l : List Ent} (h : PlainE l) (n : Nat) : PlainE (l.take n) := fun k hk => by
  rw [List.getElem_take]
  exact h k (by rw [List.length_take] at hk; omega)
theorem prG_take {es : List Ent} {n : Nat} (hn : n ≤ es.length) : prG (es.take n) n = prG es n := by
  funext pid
  unfold prG
  rw [prTo_take hn n (Nat.le_refl _)]
/-- so many entries stand ahead of all open transactions -/
def StabIs (es : List Ent) (h : Nat) (r : Int) : Prop := r ≤ h ∧ (∀ (pid : Int) (j : Nat), pid ≠ 0 → openTo es pid h = j → r ≤ j) ∧ (r = h ∨ ∃ pid : Int, pid ≠ 0 ∧ openTo es pid h = r ∧ 0 ≤ r)
theorem StabIs.unique {es : List Ent} {h : Nat} {r s : Int} (h1 : StabIs es h r) (h2 : StabIs es h s) : r = s := by
  have key : ∀ {r s : Int}, StabIs es h r → StabIs es h s → s ≤ r := by
    rintro r s ⟨a1, a2, a3⟩ ⟨b1, b2, b3⟩
    rcases a3 with rfl | ⟨pid, p0, p1, p2⟩
    · exact b1
    · have := b2 pid r.toNat p0 (by omega)
      omega
  have k1 := key h1 h2
  have k2 := key h2 h1
  omega
def StabPost (es : List Ent) (h : Nat) (w : World) (e : Ending) (w' : World) : Prop := ∃ r : Int, e = .returned (.tuple #[.int .i64 r, .int .i64 0]) ∧ StabIs es h r ∧ Below w.heap.size w w'
def StabBad (w : World) (e : Ending) (w' : World) : Prop := e = .returned (.tuple #[.int .i64 0, .int .i64 2]) ∧ Below w.heap.size w w'
/-- of the producers that have come none is open ahead of out -/
def StabLp (es : List Ent) (h : Nat) (left : Lit → Bool) (out : Int) : Prop := out ≤ h ∧ (∀ (pid : Int) (q : PrD), prG es h pid = some q → 0 ≤ q.opn → left (pkey pid) = false → out ≤ q.opn) ∧ (out = h ∨ ∃ (pid : Int) (q : PrD), prG es h pid = some q ∧ 0 ≤ q.opn ∧ out = q.opn)
theorem prG_open {es : List Ent} (hv : VerOk es) {h : Nat} (hh : h ≤ es.length) {pid : Int} {q : PrD} (hq : prG es h pid = some q) : pid ≠ 0 ∧ openTo es pid h = q.opn := by
  unfold prG at hq
  by_cases h0 : pid = 0
  · rw [if_pos h0] at hq; cases hq
  · rw [if_neg h0] at hq
    have := prTo_says (pid := pid) hv h hh
    rw [hq] at this
    exact ⟨h0, this.2.2.2.1⟩
theorem prG_some {es : List Ent} (hv : VerOk es) {h : Nat} (hh : h ≤ es.length) {pid : Int} (h0 : pid ≠ 0) {j : Nat} (hj : openTo es pid h = j) : ∃ q, prG es h pid = some q ∧ q.opn = j := by
  unfold prG
  rw [if_neg h0]
  have := prTo_says (pid := pid) hv h hh
  cases hq : prTo es pid h with
  | none => rw [hq] at this; have := this.2.2.2; omega
  | some q => rw [hq] at this; exact ⟨q, rfl, by rw [← this.2.2.2.1, hj]⟩
theorem StabLp.done {es : List Ent} (hv : VerOk es) {h : Nat} (hh : h ≤ es.length) {left : Lit → Bool} {out : Int} (hl : StabLp es h left out) (hn : ∀ kl, left kl = false) : StabIs es h out := by
  obtain ⟨h1, h2, h3⟩ := hl
  refine ⟨h1, fun pid j p0 hj => ?_, ?_⟩
  · obtain ⟨q, q1, q2⟩ := prG_some hv hh p0 hj
    have := h2 pid q q1 (by omega) (hn _)
    omega
  · rcases h3 with h3 | ⟨pid, q, q1, q2, q3⟩
    · exact Or.inl h3
    · obtain ⟨p0, p1⟩ := prG_open hv hh q1
      exact Or.inr ⟨pid, p0, by omega, by omega⟩
theorem StabLp.start {es : List Ent} {h : Nat} {f : Int → Option Nat} {D : DataW Unit} (ha : ∀ pid zd, D.atKey (pkey pid) zd = ptrD (f pid) zd) (hn : ∀ pid, f pid = none → prG es h pid = none) : StabLp es h (Maps.has D) h := by
  refine ⟨Int.le_refl _, fun pid q hq _ hl => ?_, Or.inl rfl⟩
  rw [prMap_has ha] at hl
  cases hf : f pid with
  | none => rw [hn pid hf] at hq; cases hq
  | some b => rw [hf] at hl; cases hl
theorem StabLp.next {es : List Ent} {h : Nat} {left : Lit → Bool} {out : Int} (hl : StabLp es h left out) {pid : Int} {q : PrD} (hq : prG es h pid = some q) {out' : Int} (ho : (q.opn < 0 ∧ out' = out) ∨ (0 ≤ q.opn ∧ out' = min out q.opn)) : StabLp es h (fun z => left z && !z.sameKey (pkey pid)) out' := by
  obtain ⟨h1, h2, h3⟩ := hl
  have hle : out' ≤ out := by rcases ho with ⟨_, rfl⟩ | ⟨_, rfl⟩ <;> omega
  refine ⟨by omega, fun p q' hq' ho' hl' => ?_, ?_⟩
  · by_cases hp : p = pid
    · subst hp
      rw [hq] at hq'
      cases hq'
      rcases ho with ⟨h4, rfl⟩ | ⟨h4, rfl⟩ <;> omega
    · have hk : (pkey p).sameKey (pkey pid) = false := Maps.sameKey_ne (fun e => hp (by simpa [pkey] using e))
      simp only [hk, Bool.not_false, Bool.and_true] at hl'
      have := h2 p q' hq' ho' hl'
      omega
  · rcases ho with ⟨h4, rfl⟩ | ⟨h4, rfl⟩
    · exact h3
    · by_cases hm : q.opn < out
      · exact Or.inr ⟨pid, q, hq, h4, by omega⟩
      · rw [show min out q.opn = out by omega]; exact h3
theorem PrMap.grown {base n M r : Nat} {w w' : World} {f : Int → Option Nat} {g : Int → Option PrD} (h : PrMap base w M n f g) (hg : w.grownBy w' (some r)) (hM : M ≠ r) (hb : ∀ pid b, f pid = some b → b ≠ r) : PrMap base w' M n f g := by
  obtain ⟨⟨D, h1, h2⟩, h3, h4, h5⟩ := h
  refine ⟨⟨D, h1.kept hg (fun e => by injection e with e; exact hM e), h2⟩, fun pid b hf => ?_, h4, h5⟩
  obtain ⟨h6, q, h7, h8⟩ := h3 pid b hf
  exact ⟨h6, q, h7, h8.grown hg (fun e => by injection e with e; exact hb pid b hf e)⟩
/-- what the range hands over -/
theorem prEntry {f : Int → Option Nat} {D : DataW Unit} (ha : ∀ pid zd, D.atKey (pkey pid) zd = ptrD (f pid) zd) {x : Int} {c : Option Nat} {kl : Lit} {y : DataW Unit × List MemPlace} (hkey : keyOf Try.prog 3 (.int .i64 x) = some kl) (hR : ptrR (ptrV c) = some y) (hat : ∀ zd, D.atKey kl zd = y.1) : kl = pkey x ∧ ∃ b, c = some b ∧ f x = some b := by
  obtain ⟨x', ex, rfl, hwx⟩ := Maps.keyOf_int_inv Try.underlying3 hkey
  cases ex
  obtain ⟨s, hs, hy⟩ := ptrR_inv hR
  have hcs : c = s := by
    cases c <;> cases s <;> simp [ptrV] at hs
    · rfl
    · rw [hs]
  subst hcs
  have h1 : ∀ zd, ptrD (f x) zd = ptrD c .nil := fun zd => by rw [← ha, ← hy]; exact hat zd
  refine ⟨rfl, ?_⟩
  cases hf : f x with
  | none =>
    rw [hf] at h1
    have h2 := h1 .nil
    have h3 := h1 (.lit (.bool true))
    rw [← h2] at h3
    cases h3
  | some b =>
    rw [hf] at h1
    exact ⟨b, (ptrD_inj (h1 .nil)).symm, rfl⟩
theorem below_of_grown {w w' : World} (h : w.grownBy w' none) : Below w.heap.size w w' := ⟨h.os, h.tape, h.output, h.size, fun i hi => h.block i hi (by simp)⟩

set_option maxRecDepth 100000 in
set_option maxHeartbeats 4000000 in
theorem stable_bad (v : Value) (es : List Ent) (hi : Int) (w : World) (h : Es w v es) (hr : hi < 0 ∨ (es.length : Int) < hi) (_hl : es.length ≤ 9223372036854775806) :
    Calls Try.prog 105 #[v, .int .i64 hi] w (StabBad w) := by
  obtain ⟨A, c, rfl, hc, hx⟩ := h.at_
  clear h hx
  by_cases h0 : hi < 0
  · have z1 : decide (hi < 0) = true := decide_eq_true h0
    clear hr h0
    go_enter Try.func105, Try.ntmps105
    go_wp2
    go_ret2
    exact ⟨rfl, Below.refl _ _⟩
  · have z1 : decide (hi < 0) = false := decide_eq_false h0
    have z2 : decide ((es.length : Int) < hi) = true := decide_eq_true (by omega)
    clear hr h0
    go_enter Try.func105, Try.ntmps105
    go_wp2
    go_ret2
    exact ⟨rfl, Below.refl _ _⟩
set_option maxRecDepth 100000 in
set_option maxHeartbeats 4000000 in
theorem stable_ok (v : Value) (es : List Ent) (hi : Int) (w : World) (h : Es w v es) (n : Nat) (hn : hi = n) (hle : n ≤ es.length) (hp : PlainE es) (hl : es.length ≤ 9223372036854775806) :
    Calls Try.prog 105 #[v, .int .i64 hi] w (StabPost es n w) := by
  obtain ⟨A, c, rfl, hc, hx⟩ := h.at_
  subst hn
  have z1 : decide ((n : Int) < 0) = false := decide_eq_false (by omega)
  have z2 : decide ((es.length : Int) < (n : Int)) = false := decide_eq_false (by omega)
  have n0 : (0 : Int) ≤ (n : Int) := by omega
  have n1 : (n : Int) ≤ (c : Int) := by omega
  have hrep := replay_any _ (es.take n) w (h.take_ hle) (hp.take n) (by rw [List.length_take]; omega)
  have htl : (es.take n).length = n := by rw [List.length_take]; omega
  unfold ReplayPost at hrep
  rw [htl, prG_take hle] at hrep
  have HREP := Lib.hid hrep
  have HV := Lib.hid hp.ver
  clear h hx hrep htl hp
  go_enter Try.func105, Try.ntmps105
  go_wp2_with fail
  refine HREP.out.mono ?_
  rintro e W1 ⟨M, f, rfl, hm, hb, hM⟩
  obtain ⟨D, hown, hat⟩ := hm.map
  have hst := StabLp.start (es := es) (h := n) hat hm.none_
  have HM := Lib.hid hm
  have HB := Lib.hid hb
  have HOWN := Lib.hid hown
  have HAT := Lib.hid hat
  have HST := Lib.hid hst
  clear hm hb hown hat hst z1 z2
  go_wp2_with (first | (at_range; refine wpList_range_own _ rfl _ 107 rfl 3 106 (Maps.int_keyed Try.underlying3) Try.underlying107 ptrR M n D rfl HOWN.out ?_; intro W2 hrg hg2 hs2) | fail)
  go_frame
  have hbl2 := below_of_grown hg2
  have HM2 := Lib.hid (HM.out.keep hbl2)
  have HB2 := Lib.hid (below_then HB.out hbl2)
  have HRG := Lib.hid hrg
  have hr0 : w.heap.size ≤ W1.heap.size := HB.out.size
  have hbr : ∀ pid b, f pid = some b → b < W1.heap.size := fun pid b h => by
    obtain ⟨_, q, _, h2⟩ := HM.out.blk pid b h
    exact h2.lt
  obtain ⟨r, hr⟩ : ∃ r, r = W1.heap.size := ⟨_, rfl⟩
  rw [← hr] at HRG hbr
  have HBR := Lib.hid hbr
  rw [← hr]
  have hr1 : w.heap.size ≤ r := by omega
  have hMr : M < r := by have := HM.out.lt; omega
  clear hr hbr hbl2 hrg hg2 hs2 HM HOWN HB hr0
  go_loopw [6] (fun x wr => ∃ (out : Int) (left : Lit → Bool) (cnt : Nat), x = .int .i64 out ∧ wr.ranges Try.prog 3 ptrR M r n D left cnt ∧ Hid (StabLp es n left out) ∧ Hid (PrMap w.heap.size wr M n f (prG es n)) ∧ Hid (Below w.heap.size w wr)) (fun _ wr => wr.rangeLeft M r)
  case atStart => exact ⟨_, _, _, rfl, HRG.out, HST, HM2, HB2⟩
  case round =>
    clear HRG HST HM2 HB2
    obtain ⟨out, left, cnt, rfl, hrg, HL, HM, HB⟩ := hrel
    go_wp2_with (first
      | (at_next; refine wpList_next_ranges _ rfl _ rfl 3 (Maps.int_keyed Try.underlying3) ptrR (Value.int .i64) ptrV (fun key kl h => by obtain ⟨x, rfl, _⟩ := Maps.keyOf_int_inv Try.underlying3 h; exact ⟨x, rfl⟩) (fun v y h => by obtain ⟨s, rfl, _⟩ := ptrR_inv h; exact ⟨s, rfl⟩) M r n D left cnt rfl hrg ?_ ?_)
      | fail)
    · intro _ hl0
      have hs := HL.out.done HV.out hle hl0
      have HS := Lib.hid hs
      clear hs hl0
      go_wp2
      go_ret2
      exact ⟨out, rfl, HS.out, HB.out⟩
    · intro x c kl y1 y2 w' cnt' hkey hlx hRv hat' hrg1 hlt hg1 hs1 hen
      obtain ⟨rfl, b, rfl, hfx⟩ := prEntry (y := (y1, y2)) HAT.out hkey hRv hat'
      have hm1 := HM.out.grown hg1 (by omega) (fun p b' h => by have := HBR.out p b' h; omega)
      obtain ⟨-, q, hq, hbq⟩ := hm1.blk x b hfx
      have hb1 := HB.out.grown hg1 HB.out.size (fun j hj => by injection hj with hj; omega)
      have HM1 := Lib.hid hm1
      have HB1 := Lib.hid hb1
      have HQ := Lib.hid hq
      have HRG1 := Lib.hid hrg1
      have HRG := Lib.hid hrg
      have c2 := hbq.cell 2
      have cl := hbq.lt
      obtain ⟨qv, qs, qo, qm⟩ := q
      simp only [prCells] at c2
      have c2' : w'.cell? ⟨b, 2, none⟩ = some (.int .i64 qo) := c2
      simp only [ptrV] at hen ⊢
      clear hm1 hb1 hq hbq hrg1 hrg hkey hRv hat' hg1 hs1 hfx hlx c2
      by_cases ho : 0 ≤ qo
      · have z3 : decide (0 ≤ qo) = true := decide_eq_true ho
        have HN := Lib.hid (HL.out.next HQ.out (Or.inr ⟨ho, rfl⟩))
        clear ho
        go_wp2_with fail
        go_roundw
        case rel => exact ⟨_, _, cnt', rfl, HRG1.out, HN, HM1, HB1⟩
        case measure => rw [HRG1.out.left_eq, HRG.out.left_eq]; omega
      · have z3 : decide (0 ≤ qo) = false := decide_eq_false ho
        have HN := Lib.hid (HL.out.next HQ.out (Or.inl ⟨by show qo < 0; omega, rfl⟩))
        clear ho
        go_wp2_with fail
        go_roundw
        case rel => exact ⟨_, _, cnt', rfl, HRG1.out, HN, HM1, HB1⟩
        case measure => rw [HRG1.out.left_eq, HRG.out.left_eq]; omega
set_option maxRecDepth 100000 in
set_option maxHeartbeats 4000000 in
theorem stableOf_bad (v : Value) (es : List Ent) (hi : Int) (w : World) (h : Es w v es) (hr : hi < 0 ∨ (es.length : Int) < hi) (_hl : es.length ≤ 9223372036854775806) :
    Calls Try.prog 107 #[v, .int .i64 hi] w (StabBad w) := by
  obtain ⟨A, c, rfl, hc, hx⟩ := h.at_
  clear h hx
  have z1 : inB hi 0 (es.length : Int) = false := by
    unfold inB
    simp only [Bool.and_eq_false_iff, decide_eq_false_iff_not]
    omega
  have Z1 := Lib.hid z1
  clear hr z1
  go_enter Try.func107, Try.ntmps107
  go_wp2_with (go_at_call 69; refine (In_any _ _ _ _).mono ?_; rintro e w9 ⟨rfl, rfl⟩; rw [Z1.out])
  go_ret2
  exact ⟨rfl, Below.refl _ _⟩
/-- the entry i begins the open transaction of its producer -/
def OpenAt (es : List Ent) (n i : Nat) : Prop := ∃ h : i < es.length, 0 < es[i].pid ∧ es[i].kind = 1 ∧ es[i].txn = true ∧ openTo es es[i].pid n = i
theorem stab_at {es : List Ent} (hp : PlainE es) {n k : Nat} (hn : n ≤ es.length) (hk : k < n) (h : OpenAt es n k) (hno : ∀ i : Nat, i < k → ¬ OpenAt es n i) : StabIs es n k := by
  obtain ⟨h0, h1, h2, h3, h4⟩ := h
  refine ⟨by omega, fun pid j p0 hj => ?_, Or.inr ⟨es[k].pid, by omega, h4, by omega⟩⟩
  obtain ⟨hjn, hjl, q1, q2, q3⟩ := openTo_at (es := es) (pid := pid) n hn j hj
  by_cases hlt : j < k
  · have := hp j hjl
    exact absurd ⟨hjl, by omega, q3, q2, by rw [q1]; exact hj⟩ (hno j hlt)
  · omega
theorem stab_none {es : List Ent} (hp : PlainE es) {n : Nat} (hn : n ≤ es.length) (hno : ∀ i : Nat, i < n → ¬ OpenAt es n i) : StabIs es n n := by
  refine ⟨Int.le_refl _, fun pid j p0 hj => ?_, Or.inl rfl⟩
  obtain ⟨hjn, hjl, q1, q2, q3⟩ := openTo_at (es := es) (pid := pid) n hn j hj
  have := hp j hjl
  exact absurd ⟨hjl, by omega, q3, q2, by rw [q1]; exact hj⟩ (hno j hjn)
set_option maxRecDepth 100000 in
set_option maxHeartbeats 4000000 in
theorem stableOf_ok (v : Value) (es : List Ent) (hi : Int) (w : World) (h : Es w v es) (n : Nat) (hn : hi = n) (hle : n ≤ es.length) (hp : PlainE es) (hl : es.length ≤ 9223372036854775806) :
    Calls Try.prog 107 #[v, .int .i64 hi] w (StabPost es n w) := by
  obtain ⟨A, c, rfl, hc, hx⟩ := h.at_
  subst hn
  have HX := Lib.hid hx
  have HE0 := Lib.hid h
  have HP := Lib.hid hp
  have htl : (es.take n).length = n := by rw [List.length_take]; omega
  have HTL := Lib.hid htl
  have z1 : inB (n : Int) 0 (es.length : Int) = true := by
    unfold inB
    simp only [Bool.and_eq_true, decide_eq_true_eq]
    omega
  have Z1 := Lib.hid z1
  have n0 : (0 : Int) ≤ (n : Int) := by omega
  have n1 : (n : Int) ≤ (c : Int) := by omega
  clear h hx hp z1 htl
  go_enter Try.func107, Try.ntmps107
  go_wp2_with (go_at_call 69; refine (In_any _ _ _ _).mono ?_; rintro e w9 ⟨rfl, rfl⟩; rw [Z1.out])
  clear Z1
  go_loopw [6] (fun x wr => ∃ k : Nat, k ≤ n ∧ x = .int .i64 k ∧ Hid (Below w.heap.size w wr) ∧ Hid (∀ i : Nat, i < k → ¬ OpenAt es n i)) (fun x _ => n - (intOf x).toNat)
  case atStart => exact ⟨0, Nat.zero_le _, rfl, Lib.hid (Below.refl _ _), Lib.hid (fun i h => by omega)⟩
  case round =>
    obtain ⟨k, hk, rfl, HB, HN⟩ := hrel
    by_cases hlt : k < n
    · have hlt' : k < es.length := by omega
      obtain ⟨b1, o1, rfl, hb1, hcell⟩ := HX.out (by omega)
      obtain ⟨-, x1, -, -, x4, x5, -⟩ := hcell k hlt'
      have X1 := (HB.out.cell (p := ⟨b1, o1 + k * 7 + 1, none⟩) hb1).trans x1
      have X4 := (HB.out.cell (p := ⟨b1, o1 + k * 7 + 4, none⟩) hb1).trans x4
      have X5 := (HB.out.cell (p := ⟨b1, o1 + k * 7 + 5, none⟩) hb1).trans x5
      have k0 : (0 : Int) ≤ (k : Int) := by omega
      have k1 : (k : Int) < (es.length : Int) := by omega
      have k2 : (k : Int) < (n : Int) := by omega
      have hnext : ¬ OpenAt es n k → ∀ i : Nat, i < k + 1 → ¬ OpenAt es n i := fun hn i h2 => by
        rcases Nat.lt_succ_iff_lt_or_eq.1 h2 with h' | rfl
        · exact HN.out i h'
        · exact hn
      have HNN := Lib.hid hnext
      have HAT := Lib.hid (show OpenAt es n k ↔ 0 < es[k].pid ∧ es[k].kind = 1 ∧ es[k].txn = true ∧ openTo es es[k].pid n = k from ⟨fun ⟨_, h⟩ => h, fun h => ⟨hlt', h⟩⟩)
      have HOT := Lib.hid (show openTo (es.take n) es[k].pid (es.take n).length = openTo es es[k].pid n by rw [HTL.out]; exact openTo_take hle n (Nat.le_refl _))
      clear hcell x1 x4 x5 hnext
      generalize es[k] = y at *
      obtain ⟨ep, ypid, ver, seq, kind, txn, text⟩ := y
      simp only at *
      by_cases hp : 0 < ypid
      · have HPP := Lib.hid hp
        have z1 : decide (0 < ypid) = true := decide_eq_true hp
        by_cases hkd : kind = 1
        · have HKD := Lib.hid hkd
          have z2 : (kind == 1) = true := beq_iff_eq.2 hkd
          clear hp hkd
          rcases txn with _ | _
          · skip
            have HNX := Lib.hid (HNN.out (fun h => by have := (HAT.out.1 h).2.2.1; simp at this))
            clear HNN HAT
            go_wp2
            go_quiet (fail)
            go_wp2
            go_light
            exact ⟨⟨k + 1, by omega, by go_num, Lib.hid (below_then HB.out (below_dn _ _)), HNX⟩, by simp [intOf]; omega⟩
          · have hq : ∀ m, Calls Try.prog 111 #[.slice (some ⟨b1, o1, none⟩) n c, .int .i64 ypid] (wr.drewN m) fun e w'' => e = .returned (.int .i64 (openTo es ypid n)) ∧ ∃ m', w'' = wr.drewN m' := fun m => Calls.quiet_of_same (by
              have h := openOf_any _ (es.take n) ypid (wr.drewN m) ((HE0.out.below (below_then HB.out (below_dn _ _))).take_ hle) (by rw [List.length_take]; omega)
              rw [HOT.out] at h
              exact h)
            by_cases ho : openTo es ypid n = k
            · have HO := Lib.hid ho
              have hat := HAT.out.2 ⟨HPP.out, HKD.out, rfl, ho⟩
              have HST := Lib.hid (stab_at HP.out hle hlt hat HN.out)
              rw [ho] at hq
              have HQ := Lib.hid hq
              have z3 : ((k : Int) == (k : Int)) = true := beq_self_eq_true _
              clear ho hat hq HNN HAT
              go_wp2
              go_quiet ((go_at_call 111; exact HQ.out _))
              go_wp2
              go_ret2
              exact ⟨k, rfl, HST.out, below_then HB.out (below_dn _ _)⟩
            · have z3 : (openTo es ypid n == (k : Int)) = false := beq_eq_false_iff_ne.2 ho
              have HO := Lib.hid ho
              have HQ := Lib.hid hq
              clear ho hq
              generalize openTo es ypid n = on at *
              have HNX := Lib.hid (HNN.out (fun h => HO.out (HAT.out.1 h).2.2.2))
              clear HNN HAT
              go_wp2
              go_quiet ((go_at_call 111; exact HQ.out _))
              go_wp2
              go_light
              exact ⟨⟨k + 1, by omega, by go_num, Lib.hid (below_then HB.out (below_dn _ _)), HNX⟩, by simp [intOf]; omega⟩
        · have HKD := Lib.hid hkd
          have z2 : (kind == 1) = false := beq_eq_false_iff_ne.2 hkd
          clear hp hkd
          have HNX := Lib.hid (HNN.out (fun h => HKD.out (HAT.out.1 h).2.1))
          clear HNN HAT
          go_wp2
          go_quiet (fail)
          go_wp2
          go_light
          exact ⟨⟨k + 1, by omega, by go_num, Lib.hid (below_then HB.out (below_dn _ _)), HNX⟩, by simp [intOf]; omega⟩
      · have HPP := Lib.hid hp
        have z1 : decide (0 < ypid) = false := decide_eq_false hp
        clear hp
        have HNX := Lib.hid (HNN.out (fun h => HPP.out (HAT.out.1 h).1))
        clear HNN HAT
        go_wp2
        go_quiet (fail)
        go_wp2
        go_light
        exact ⟨⟨k + 1, by omega, by go_num, Lib.hid (below_then HB.out (below_dn _ _)), HNX⟩, by simp [intOf]; omega⟩
    · obtain rfl : k = n := by omega
      have HST := Lib.hid (stab_none HP.out hle HN.out)
      go_wp2
      go_ret2
      exact ⟨k, rfl, HST.out, HB.out⟩
end Go.Proofs.Ytpjjfnpdopdnkaa
