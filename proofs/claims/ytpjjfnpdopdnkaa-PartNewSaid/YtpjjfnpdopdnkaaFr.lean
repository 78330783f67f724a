/- Frames: what is written is read back, and what is read was written so; logs as lists of entries. No program here. -/
import Derived.Test.YtpjjfnpdopdnkaaEnt
import Derived.Test.YtpjjfnpdopdnkaaWire4
namespace Go.Proofs.Ytpjjfnpdopdnkaa
open Go.RowKit

theorem numGo_sv : ∀ (f i n m : Nat) (r : List UInt8), m < 128 ^ (f + 1) → (0 < i → 0 < m) → numGo (f + 1) i n (sv m ++ r) = some (n + m * 128 ^ i, r)
  | f, i, n, m, r, hm, h0 => by
    by_cases h1 : m < 128
    · have hc : m.toUInt8.toNat = m := by simp; omega
      rw [sv_small h1]
      show numGo (f + 1) i n (m.toUInt8 :: r) = _
      rw [numGo_last (by omega) (by rw [hc]; omega), hc, Nat.mod_eq_of_lt h1]
    · match f, hm with
      | 0, hm => simp at hm; omega
      | f + 1, hm =>
        have hc : ((128 + m % 128).toUInt8).toNat = 128 + m % 128 := by simp; omega
        rw [sv_big (by omega)]
        show numGo (f + 2) i n ((128 + m % 128).toUInt8 :: (sv (m / 128) ++ r)) = _
        rw [numGo_more (by omega), numGo_sv f (i + 1) _ (m / 128) r (by rw [Nat.div_lt_iff_lt_mul (by omega)]; rw [Nat.pow_succ] at hm; exact hm) (by omega), hc]
        have e1 : (128 + m % 128) % 128 = m % 128 := by omega
        have e2 : m / 128 * 128 ^ (i + 1) = (m / 128 * 128) * 128 ^ i := by rw [Nat.pow_succ, Nat.mul_assoc, Nat.mul_comm (128 ^ i)]
        have e3 : m * 128 ^ i = (m % 128 + m / 128 * 128) * 128 ^ i := by congr 1; omega
        rw [e1, e2, e3, Nat.add_mul, Nat.add_assoc]
theorem numGo_inv : ∀ (f i n : Nat) (l : List UInt8) (m : Nat) (r : List UInt8), numGo f i n l = some (m, r) → ∃ k, m = n + k * 128 ^ i ∧ l = sv k ++ r ∧ (0 < i → 0 < k)
  | 0, _, _, _, _, _, h => by simp [numGo] at h
  | f + 1, i, n, [], m, r, h => by simp [numGo] at h
  | f + 1, i, n, c :: l, m, r, h => by
    by_cases hc : c.toNat < 128
    · by_cases h0 : c.toNat = 0 ∧ 0 < i
      · rw [numGo_zero h0.1 h0.2] at h; cases h
      · rw [numGo_last hc h0] at h
        simp only [Option.some.injEq, Prod.mk.injEq] at h
        refine ⟨c.toNat, by rw [← h.1, Nat.mod_eq_of_lt hc], ?_, by omega⟩
        rw [sv_small hc, h.2]
        simp
    · rw [numGo_more hc] at h
      obtain ⟨k, h1, h2, h3⟩ := numGo_inv f (i + 1) _ l m r h
      have hk := h3 (by omega)
      have hlt := c.toNat_lt
      refine ⟨c.toNat % 128 + k * 128, ?_, ?_, by omega⟩
      · have e2 : k * 128 ^ (i + 1) = (k * 128) * 128 ^ i := by rw [Nat.pow_succ, Nat.mul_assoc, Nat.mul_comm (128 ^ i)]
        rw [h1, e2, Nat.add_mul, Nat.add_assoc]
      · have e1 : (c.toNat % 128 + k * 128) % 128 = c.toNat % 128 := by omega
        have e2 : (c.toNat % 128 + k * 128) / 128 = k := by omega
        have e3 : (128 + c.toNat % 128).toUInt8 = c := by
          apply UInt8.toNat_inj.1
          simp
          omega
        rw [sv_big (by omega), e1, e2, e3, h2]
        rfl
theorem numP_sv {m : Nat} (r : List UInt8) (hm : m ≤ 1073741824) : numP (sv m ++ r) = some (m, r) := by
  have := numGo_sv 4 0 0 m r (by omega) (by omega)
  simpa [numP] using this
theorem numP_inv {l : List UInt8} {m : Nat} {r : List UInt8} (h : numP l = some (m, r)) : l = sv m ++ r := by
  obtain ⟨k, h1, h2, -⟩ := numGo_inv 5 0 0 l m r h
  simp at h1
  subst h1
  exact h2

/-! bodies -/
def Ent.ok (e : Ent) : Prop := entryFault e.ep e.pid e.ver e.seq e.kind e.txn e.text.size = 0
def Ent.body (e : Ent) : List UInt8 := bodyB e.ep.toNat e.pid.toNat e.ver.toNat e.seq.toNat e.kind.toNat e.txn e.text
def Ent.enc (e : Ent) : List UInt8 := encB e.ep.toNat e.pid.toNat e.ver.toNat e.seq.toNat e.kind.toNat e.txn e.text
theorem Ent.body_len_ {e : Ent} (h : e.ok) : 1 ≤ e.body.length ∧ e.body.length ≤ 61 := by
  obtain ⟨f1, f2, f3, f4, f5, f6, f7, f8, f9, f10, f11⟩ := fault_kind h
  exact body_len _ _ _ _ _ _ _ (by omega) (by omega) (by omega) (by omega) f11
theorem Ent.enc_eq (e : Ent) : e.enc = e.body.length.toUInt8 :: (e.body ++ [(wsum e.body e.body.length % 65521 / 256).toUInt8, (wsum e.body e.body.length % 65521 % 256).toUInt8]) := by
  simp [Ent.enc, encB, Ent.body]
theorem Ent.enc_len (e : Ent) : e.enc.length = e.body.length + 3 := by
  rw [Ent.enc_eq]; simp
theorem bodyB_eq (ep pid ver seq kind : Nat) (txn : Bool) (text : ByteArray) : bodyB ep pid ver seq kind txn text = kindByte kind txn :: (sv ep ++ (sv pid ++ (sv ver ++ (sv seq ++ text.data.toList)))) := by
  simp [bodyB, svs]
theorem entP_body {e : Ent} (h : e.ok) : entP e.body = some e := by
  obtain ⟨f1, f2, f3, f4, f5, f6, f7, f8, f9, f10, f11⟩ := fault_kind h
  obtain ⟨ep, pid, ver, seq, kind, txn, text⟩ := e
  simp only at *
  obtain ⟨a, rfl⟩ := Int.eq_ofNat_of_zero_le f3
  obtain ⟨b, rfl⟩ := Int.eq_ofNat_of_zero_le f5
  obtain ⟨c, rfl⟩ := Int.eq_ofNat_of_zero_le f7
  obtain ⟨d, rfl⟩ := Int.eq_ofNat_of_zero_le f9
  obtain ⟨k, rfl⟩ := Int.eq_ofNat_of_zero_le (show 0 ≤ kind by omega)
  have hkn : (kindByte k txn).toNat = k + if txn then 16 else 0 := kindByte_nat (by omega)
  have h32 : ¬ 32 ≤ (kindByte k txn).toNat := by rw [hkn]; split <;> omega
  have hm : (kindByte k txn).toNat % 16 = k := by rw [hkn]; split <;> omega
  have hd : decide ((kindByte k txn).toNat / 16 = 1) = txn := by
    rw [hkn]
    cases txn
    · simp; omega
    · simp; omega
  simp only [Ent.body, Int.toNat_natCast, bodyB_eq, entP, if_neg h32]
  rw [numP_sv _ (by omega)]
  simp only []
  rw [numP_sv _ (by omega)]
  simp only []
  rw [numP_sv _ (by omega)]
  simp only []
  rw [numP_sv _ (by omega)]
  simp only [hm, hd, Array.toArray_toList]
  exact if_pos h
theorem entP_inv {l : List UInt8} {e : Ent} (h : entP l = some e) : e.ok ∧ l = e.body := by
  rcases l with _ | ⟨k, r0⟩
  · simp [entP] at h
  · by_cases h32 : 32 ≤ k.toNat
    · simp [entP, if_pos h32] at h
    · rcases h1 : numP r0 with _ | ⟨a, r1⟩
      · simp [entP, h1] at h
      · rcases h2 : numP r1 with _ | ⟨b, r2⟩
        · simp [entP, h1, h2] at h
        · rcases h3 : numP r2 with _ | ⟨c, r3⟩
          · simp [entP, h1, h2, h3] at h
          · rcases h4 : numP r3 with _ | ⟨d, r4⟩
            · simp [entP, h1, h2, h3, h4] at h
            · simp only [entP, if_neg h32, h1, h2, h3, h4] at h
              split at h
              · rename_i hf
                injection h with h
                subst h
                refine ⟨hf, ?_⟩
                have e0 := numP_inv h1
                have e1 := numP_inv h2
                have e2 := numP_inv h3
                have e3 := numP_inv h4
                have ek : kindByte (k.toNat % 16) (decide (k.toNat / 16 = 1)) = k := by
                  apply UInt8.toNat_inj.1
                  unfold kindByte
                  by_cases hq : k.toNat / 16 = 1
                  · simp [hq]; omega
                  · simp [hq]; omega
                simp only [Ent.body, Int.toNat_natCast, bodyB_eq, ek]
                rw [e0, e1, e2, e3]
              · cases h

/-! frames -/
def flat (es : List Ent) : List UInt8 := es.flatMap Ent.enc
theorem flat_nil : flat [] = [] := rfl
theorem flat_cons (e : Ent) (es : List Ent) : flat (e :: es) = e.enc ++ flat es := rfl
theorem flat_append (a b : List Ent) : flat (a ++ b) = flat a ++ flat b := by simp [flat]
theorem dec_enc {e : Ent} (h : e.ok) (r : List UInt8) : dec (e.enc ++ r) = (e :: (dec r).1, e.enc.length + (dec r).2) := by
  obtain ⟨l1, l2⟩ := Ent.body_len_ h
  have hk : e.body.length.toUInt8.toNat = e.body.length := by simp; omega
  generalize hs : wsum e.body e.body.length % 65521 = s
  have hs2 : s < 65521 := by omega
  have e0 : e.enc ++ r = e.body.length.toUInt8 :: (e.body ++ ((s / 256).toUInt8 :: (s % 256).toUInt8 :: r)) := by
    rw [Ent.enc_eq, hs]; simp
  have t1 : (e.body ++ ((s / 256).toUInt8 :: (s % 256).toUInt8 :: r)).take e.body.length = e.body := by simp
  have t2 : (e.body ++ ((s / 256).toUInt8 :: (s % 256).toUInt8 :: r)).getD e.body.length 0 = (s / 256).toUInt8 := by simp
  have t3 : (e.body ++ ((s / 256).toUInt8 :: (s % 256).toUInt8 :: r)).getD (e.body.length + 1) 0 = (s % 256).toUInt8 := by simp
  have t4 : (e.body ++ ((s / 256).toUInt8 :: (s % 256).toUInt8 :: r)).drop (e.body.length + 2) = r := by
    rw [List.drop_append]; simp
  have n1 : ((s / 256).toUInt8).toNat = s / 256 := by simp; omega
  have n2 : ((s % 256).toUInt8).toNat = s % 256 := by simp
  rw [e0, dec_step (e := e) (by rw [hk]; simp only [List.length_append, List.length_cons]; omega) (by rw [hk, t1, t2, t3, n1, n2, hs]; exact (Nat.div_add_mod' s 256).symm) (by rw [hk, t1]; exact entP_body h), hk, t4, Ent.enc_len]
theorem dec_flat {es : List Ent} (h : ∀ e ∈ es, e.ok) (r : List UInt8) : dec (flat es ++ r) = (es ++ (dec r).1, (flat es).length + (dec r).2) := by
  induction es with
  | nil => simp [flat_nil]
  | cons e es ih =>
    rw [flat_cons, List.append_assoc, dec_enc (h e (by simp)), ih fun x hx => h x (by simp [hx])]
    simp [Nat.add_assoc]
theorem dec_all {es : List Ent} (h : ∀ e ∈ es, e.ok) : dec (flat es) = (es, (flat es).length) := by
  have := dec_flat h []
  simpa [dec_nil] using this
theorem hi_byte (a b : UInt8) : ((a.toNat * 256 + b.toNat) / 256).toUInt8 = a := by
  have := a.toNat_lt
  have := b.toNat_lt
  apply UInt8.toNat_inj.1
  simp
  omega
theorem lo_byte (a b : UInt8) : ((a.toNat * 256 + b.toNat) % 256).toUInt8 = b := by
  have := b.toNat_lt
  apply UInt8.toNat_inj.1
  simp
theorem split2 (R : List UInt8) (n : Nat) (h : n + 2 ≤ R.length) : R = R.take n ++ (R.getD n 0 :: R.getD (n + 1) 0 :: R.drop (n + 2)) := by
  have h1 : R.drop n = R[n] :: R.drop (n + 1) := List.drop_eq_getElem_cons (by omega)
  have h2 : R.drop (n + 1) = R[n + 1] :: R.drop (n + 2) := List.drop_eq_getElem_cons (by omega)
  have g1 : R.getD n 0 = R[n] := by simp [List.getD, List.getElem?_eq_getElem (show n < R.length by omega)]
  have g2 : R.getD (n + 1) 0 = R[n + 1] := by simp [List.getD, List.getElem?_eq_getElem (show n + 1 < R.length by omega)]
  rw [g1, g2, ← h2, ← h1, List.take_append_drop]
theorem dec_inv : ∀ (f : Nat) (l : List UInt8), l.length ≤ f → (∀ e ∈ (dec l).1, e.ok) ∧ ∃ r, l = flat (dec l).1 ++ r ∧ (dec l).2 = (flat (dec l).1).length
  | _, [], _ => ⟨by simp [dec_nil], [], by simp [dec_nil, flat_nil], by simp [dec_nil, flat_nil]⟩
  | 0, k :: R, h => by simp at h
  | f + 1, k :: R, h => by
    by_cases h1 : k.toNat = 0 ∨ R.length < k.toNat + 2
    · rw [dec_bad h1]; exact ⟨by simp, k :: R, by simp [flat_nil], by simp [flat_nil]⟩
    · by_cases h2 : wsum (R.take k.toNat) k.toNat % 65521 = (R.getD k.toNat 0).toNat * 256 + (R.getD (k.toNat + 1) 0).toNat
      · rcases h3 : entP (R.take k.toNat) with _ | e
        · rw [dec_body h1 h3]; exact ⟨by simp, k :: R, by simp [flat_nil], by simp [flat_nil]⟩
        · rw [dec_step h1 h2 h3]
          obtain ⟨i1, r, i2, i3⟩ := dec_inv f (R.drop (k.toNat + 2)) (by simp only [List.length_drop, List.length_cons] at *; omega)
          obtain ⟨o1, o2⟩ := entP_inv h3
          have hl : (R.take k.toNat).length = k.toNat := by simp; omega
          have hbl : e.body.length = k.toNat := by rw [← o2, hl]
          have hkk : k.toNat.toUInt8 = k := by simp
          have g1 := (R.getD k.toNat 0).toNat_lt
          have g2 := (R.getD (k.toNat + 1) 0).toNat_lt
          have henc : e.enc = k :: (R.take k.toNat ++ [R.getD k.toNat 0, R.getD (k.toNat + 1) 0]) := by
            rw [Ent.enc_eq, hbl, ← o2, h2, hkk]
            have q1 : (((R.getD k.toNat 0).toNat * 256 + (R.getD (k.toNat + 1) 0).toNat) / 256).toUInt8 = R.getD k.toNat 0 := hi_byte _ _
            have q2 : (((R.getD k.toNat 0).toNat * 256 + (R.getD (k.toNat + 1) 0).toNat) % 256).toUInt8 = R.getD (k.toNat + 1) 0 := lo_byte _ _
            rw [q1, q2]
          refine ⟨?_, r, ?_, ?_⟩
          · intro x hx
            simp only [List.mem_cons] at hx
            rcases hx with rfl | hx
            · exact o1
            · exact i1 x hx
          · simp only [flat_cons, List.append_assoc]
            rw [← i2, henc]
            have := split2 R k.toNat (by omega)
            simp only [List.cons_append, List.append_assoc, List.nil_append]
            rw [← this]
          · simp only [flat_cons, List.length_append]
            rw [← i3, Ent.enc_len, hbl]
      · rw [dec_sum h1 h2]; exact ⟨by simp, k :: R, by simp [flat_nil], by simp [flat_nil]⟩
theorem dec_ok (l : List UInt8) : ∀ e ∈ (dec l).1, e.ok := (dec_inv _ l (Nat.le_refl _)).1
theorem dec_le (l : List UInt8) : (dec l).2 ≤ l.length := by
  obtain ⟨-, r, h1, h2⟩ := dec_inv _ l (Nat.le_refl _)
  rw [h2]
  conv => rhs; rw [h1]
  simp
theorem dec_take (l : List UInt8) : l.take (dec l).2 = flat (dec l).1 := by
  obtain ⟨-, r, h1, h2⟩ := dec_inv _ l (Nat.le_refl _)
  have h3 : l.take (flat (dec l).1).length = (flat (dec l).1 ++ r).take (flat (dec l).1).length := by rw [← h1]
  rw [h2, h3, List.take_left]
theorem dec_full {l : List UInt8} (h : (dec l).2 = l.length) : l = flat (dec l).1 := by
  have := dec_take l
  rw [h, List.take_length] at this
  exact this
/-- a beginning of frames that is whole -/
theorem dec_prefix {es : List Ent} (hok : ∀ e ∈ es, e.ok) {s : Nat} (hs : s ≤ (flat es).length) (h : (dec ((flat es).take s)).2 = s) : ∃ j, j ≤ es.length ∧ s = (flat (es.take j)).length ∧ (dec ((flat es).take s)).1 = es.take j := by
  generalize hE : (dec ((flat es).take s)).1 = es'
  have hf : (flat es).take s = flat es' := by
    have := dec_full (l := (flat es).take s) (by rw [h]; simp; omega)
    rw [hE] at this
    exact this
  have h1 : flat es = flat es' ++ (flat es).drop s := by rw [← hf, List.take_append_drop]
  have hok' : ∀ e ∈ es', e.ok := hE ▸ dec_ok _
  have h2 := dec_flat hok' ((flat es).drop s)
  rw [← h1, dec_all hok] at h2
  injection h2 with h2 _
  have h3 : es' = es.take es'.length := by rw [h2]; simp
  refine ⟨es'.length, by rw [h2]; simp, ?_, h3⟩
  rw [← h3, ← hf, List.length_take]
  omega
theorem flat_take (es : List Ent) (j : Nat) : (flat es).take (flat (es.take j)).length = flat (es.take j) := by
  have h : flat es = flat (es.take j) ++ flat (es.drop j) := by rw [← flat_append, List.take_append_drop]
  rw [h, List.take_left]
theorem flat_take_le (es : List Ent) (j : Nat) : (flat (es.take j)).length ≤ (flat es).length := by
  have : flat es = flat (es.take j) ++ flat (es.drop j) := by rw [← flat_append, List.take_append_drop]
  rw [this]; simp
theorem flat_take_succ (es : List Ent) (j : Nat) (h : j < es.length) : flat (es.take (j + 1)) = flat (es.take j) ++ es[j].enc := by
  rw [List.take_succ_eq_append_getElem h, flat_append]
  simp [flat]

/-! logs -/
structure LogD where
  bytes : List UInt8
  synced : Int
def logFault (l : LogD) : Int :=
  if 40000 < l.bytes.length then 1 else
  if (dec l.bytes).2 ≠ l.bytes.length ∨ 400 < (dec l.bytes).1.length then 4 else
  if l.synced < 0 ∨ (l.bytes.length : Int) < l.synced then 2 else
  if (dec (l.bytes.take l.synced.toNat)).2 ≠ l.synced.toNat then 4 else 0
/-- a log that may be: its entries; so many are safe -/
structure LogIs (l : LogD) (es : List Ent) (j : Nat) : Prop where
  ok : ∀ e ∈ es, e.ok
  bytes : l.bytes = flat es
  many : es.length ≤ 400
  long : (flat es).length ≤ 40000
  jle : j ≤ es.length
  synced : l.synced = ((flat (es.take j)).length : Int)
section
variable {l : LogD} {es : List Ent} {j : Nat}
theorem LogIs.dec_ (h : LogIs l es j) : dec l.bytes = (es, l.bytes.length) := by rw [h.bytes]; exact dec_all h.ok
theorem LogIs.safe (h : LogIs l es j) : dec (l.bytes.take l.synced.toNat) = (es.take j, l.synced.toNat) := by
  have e : l.synced.toNat = (flat (es.take j)).length := by rw [h.synced]; simp
  rw [e, h.bytes, flat_take]
  exact dec_all fun x hx => h.ok x (List.mem_of_mem_take hx)
theorem LogIs.le (h : LogIs l es j) : l.synced ≤ (l.bytes.length : Int) := by
  rw [h.synced, h.bytes]
  exact Int.ofNat_le.2 (flat_take_le es j)
theorem LogIs.nonneg (h : LogIs l es j) : 0 ≤ l.synced := by rw [h.synced]; omega
theorem LogIs.fault (h : LogIs l es j) : logFault l = 0 := by
  have h1 := h.dec_
  have h2 := h.safe
  have h3 := h.le
  have h4 := h.nonneg
  have h5 := h.many
  have h6 := h.long
  rw [← h.bytes] at h6
  unfold logFault
  rw [h1, h2]
  simp only [ne_eq, not_true_eq_false, false_or, if_false]
  rw [if_neg (by omega), if_neg (by omega), if_neg (by omega)]
end
theorem logIs_of {l : LogD} (h : logFault l = 0) : LogIs l (dec l.bytes).1 (dec (l.bytes.take l.synced.toNat)).1.length := by
  unfold logFault at h
  split at h
  · omega
  · rename_i h1
    split at h
    · omega
    · rename_i h2
      split at h
      · omega
      · rename_i h3
        split at h
        · omega
        · rename_i h4
          have h5 : (dec l.bytes).2 = l.bytes.length := Classical.byContradiction fun hn => h2 (Or.inl hn)
          have h6 : (dec l.bytes).1.length ≤ 400 := by omega
          have h7 : (dec (l.bytes.take l.synced.toNat)).2 = l.synced.toNat := Classical.byContradiction fun hn => h4 hn
          have hf := dec_full h5
          have ho := dec_ok l.bytes
          generalize (dec l.bytes).1 = es at *
          obtain ⟨j, hj, hs, he⟩ := dec_prefix ho (s := l.synced.toNat) (by rw [← hf]; omega) (by rw [← hf]; exact h7)
          rw [← hf] at he
          rw [he]
          have hjl : (es.take j).length = j := by simp; omega
          rw [hjl]
          exact ⟨ho, hf, h6, by rw [← hf]; omega, hj, by omega⟩
theorem logFault_cases (l : LogD) : logFault l ≠ 0 ∨ ∃ es j, LogIs l es j := by
  by_cases h : logFault l = 0
  · exact Or.inr ⟨_, _, logIs_of h⟩
  · exact Or.inl h

end Go.Proofs.Ytpjjfnpdopdnkaa
