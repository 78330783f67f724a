/- Parts of a proof, merged: Fr, BodyX, EntI, DecF, DecA. No condition. -/
import Derived.Test.YtpjjfnpdopdnkaaPf2
import Derived.BigRegion
namespace Go.Proofs.Ytpjjfnpdopdnkaa
open Go.RowKit

theorem numGo_sv : ∀ (f i n m : Nat) (r : List UInt8), m < 128 ^ (f + 1) → (0 < i → 0 < m) → numGo (f + 1) i n (sv m ++ r) = some (n + m * 128 ^ i, r)
  | f, i, n, m, r, hm, h0 => by
    by_cases h1 : m < 128
    · have hc : m.toUInt8.toNat = m := by simp; omega
      rw [sv_small h1]
      show numGo (f + 1) i n (m.toUInt8 :: r) = _
      rw [numGo_last (by omega) (by rw [hc]; omega), hc, Nat.mod_eq_of_lt h1]
    · match f, hm with
      | 0, hm => simp at hm; omega
      | f + 1, hm =>
        have hc : ((128 + m % 128).toUInt8).toNat = 128 + m % 128 := by simp; omega
        rw [sv_big (by omega)]
        show numGo (f + 2) i n ((128 + m % 128).toUInt8 :: (sv (m / 128) ++ r)) = _
        rw [numGo_more (by omega), numGo_sv f (i + 1) _ (m / 128) r (by rw [Nat.div_lt_iff_lt_mul (by omega)]; rw [Nat.pow_succ] at hm; exact hm) (by omega), hc]
        have e1 : (128 + m % 128) % 128 = m % 128 := by omega
        have e2 : m / 128 * 128 ^ (i + 1) = (m / 128 * 128) * 128 ^ i := by rw [Nat.pow_succ, Nat.mul_assoc, Nat.mul_comm (128 ^ i)]
        have e3 : m * 128 ^ i = (m % 128 + m / 128 * 128) * 128 ^ i := by congr 1; omega
        rw [e1, e2, e3, Nat.add_mul, Nat.add_assoc]
theorem numGo_inv : ∀ (f i n : Nat) (l : List UInt8) (m : Nat) (r : List UInt8), numGo f i n l = some (m, r) → ∃ k, m = n + k * 128 ^ i ∧ l = sv k ++ r ∧ (0 < i → 0 < k)
  | 0, _, _, _, _, _, h => by simp [numGo] at h
  | f + 1, i, n, [], m, r, h => by simp [numGo] at h
  | f + 1, i, n, c :: l, m, r, h => by
    by_cases hc : c.toNat < 128
    · by_cases h0 : c.toNat = 0 ∧ 0 < i
      · rw [numGo_zero h0.1 h0.2] at h; cases h
      · rw [numGo_last hc h0] at h
        simp only [Option.some.injEq, Prod.mk.injEq] at h
        refine ⟨c.toNat, by rw [← h.1, Nat.mod_eq_of_lt hc], ?_, by omega⟩
        rw [sv_small hc, h.2]
        simp
    · rw [numGo_more hc] at h
      obtain ⟨k, h1, h2, h3⟩ := numGo_inv f (i + 1) _ l m r h
      have hk := h3 (by omega)
      have hlt := c.toNat_lt
      refine ⟨c.toNat % 128 + k * 128, ?_, ?_, by omega⟩
      · have e2 : k * 128 ^ (i + 1) = (k * 128) * 128 ^ i := by rw [Nat.pow_succ, Nat.mul_assoc, Nat.mul_comm (128 ^ i)]
        rw [h1, e2, Nat.add_mul, Nat.add_assoc]
      · have e1 : (c.toNat % 128 + k * 128) % 128 = c.toNat % 128 := by omega
        have e2 : (c.toNat % 128 + k * 128) / 128 = k := by omega
        have e3 : (128 + c.toNat % 128).toUInt8 = c := by
          apply UInt8.toNat_inj.1
          simp
          omega
        rw [sv_big (by omega), e1, e2, e3, h2]
        rfl
theorem numP_sv {m : Nat} (r : List UInt8) (hm : m ≤ 1073741824) : numP (sv m ++ r) = some (m, r) := by
  have := numGo_sv 4 0 0 m r (by omega) (by omega)
  simpa [numP] using this
theorem numP_inv {l : List UInt8} {m : Nat} {r : List UInt8} (h : numP l = some (m, r)) : l = sv m ++ r := by
  obtain ⟨k, h1, h2, -⟩ := numGo_inv 5 0 0 l m r h
  simp at h1
  subst h1
  exact h2

def Ent.ok (e : Ent) : Prop := entryFault e.ep e.pid e.ver e.seq e.kind e.txn e.text.size = 0
def Ent.body (e : Ent) : List UInt8 := bodyB e.ep.toNat e.pid.toNat e.ver.toNat e.seq.toNat e.kind.toNat e.txn e.text
def Ent.enc (e : Ent) : List UInt8 := encB e.ep.toNat e.pid.toNat e.ver.toNat e.seq.toNat e.kind.toNat e.txn e.text
theorem Ent.body_len_ {e : Ent} (h : e.ok) : 1 ≤ e.body.length ∧ e.body.length ≤ 61 := by
  obtain ⟨f1, f2, f3, f4, f5, f6, f7, f8, f9, f10, f11⟩ := fault_kind h
  exact body_len _ _ _ _ _ _ _ (by omega) (by omega) (by omega) (by omega) f11
theorem Ent.enc_eq (e : Ent) : e.enc = e.body.length.toUInt8 :: (e.body ++ [(wsum e.body e.body.length % 65521 / 256).toUInt8, (wsum e.body e.body.length % 65521 % 256).toUInt8]) := by
  simp [Ent.enc, encB, Ent.body]
theorem Ent.enc_len (e : Ent) : e.enc.length = e.body.length + 3 := by
  rw [Ent.enc_eq]; simp
theorem bodyB_eq (ep pid ver seq kind : Nat) (txn : Bool) (text : ByteArray) : bodyB ep pid ver seq kind txn text = kindByte kind txn :: (sv ep ++ (sv pid ++ (sv ver ++ (sv seq ++ text.data.toList)))) := by
  simp [bodyB, svs]
theorem entP_body {e : Ent} (h : e.ok) : entP e.body = some e := by
  obtain ⟨f1, f2, f3, f4, f5, f6, f7, f8, f9, f10, f11⟩ := fault_kind h
  obtain ⟨ep, pid, ver, seq, kind, txn, text⟩ := e
  simp only at *
  obtain ⟨a, rfl⟩ := Int.eq_ofNat_of_zero_le f3
  obtain ⟨b, rfl⟩ := Int.eq_ofNat_of_zero_le f5
  obtain ⟨c, rfl⟩ := Int.eq_ofNat_of_zero_le f7
  obtain ⟨d, rfl⟩ := Int.eq_ofNat_of_zero_le f9
  obtain ⟨k, rfl⟩ := Int.eq_ofNat_of_zero_le (show 0 ≤ kind by omega)
  have hkn : (kindByte k txn).toNat = k + if txn then 16 else 0 := kindByte_nat (by omega)
  have h32 : ¬ 32 ≤ (kindByte k txn).toNat := by rw [hkn]; split <;> omega
  have hm : (kindByte k txn).toNat % 16 = k := by rw [hkn]; split <;> omega
  have hd : decide ((kindByte k txn).toNat / 16 = 1) = txn := by
    rw [hkn]
    cases txn
    · simp; omega
    · simp; omega
  simp only [Ent.body, Int.toNat_natCast, bodyB_eq, entP, if_neg h32]
  rw [numP_sv _ (by omega)]
  simp only []
  rw [numP_sv _ (by omega)]
  simp only []
  rw [numP_sv _ (by omega)]
  simp only []
  rw [numP_sv _ (by omega)]
  simp only [hm, hd, Array.toArray_toList]
  exact if_pos h
theorem entP_inv {l : List UInt8} {e : Ent} (h : entP l = some e) : e.ok ∧ l = e.body := by
  rcases l with _ | ⟨k, r0⟩
  · simp [entP] at h
  · by_cases h32 : 32 ≤ k.toNat
    · simp [entP, if_pos h32] at h
    · rcases h1 : numP r0 with _ | ⟨a, r1⟩
      · simp [entP, h1] at h
      · rcases h2 : numP r1 with _ | ⟨b, r2⟩
        · simp [entP, h1, h2] at h
        · rcases h3 : numP r2 with _ | ⟨c, r3⟩
          · simp [entP, h1, h2, h3] at h
          · rcases h4 : numP r3 with _ | ⟨d, r4⟩
            · simp [entP, h1, h2, h3, h4] at h
            · simp only [entP, if_neg h32, h1, h2, h3, h4] at h
              split at h
              · rename_i hf
                injection h with h
                subst h
                refine ⟨hf, ?_⟩
                have e0 := numP_inv h1
                have e1 := numP_inv h2
                have e2 := numP_inv h3
                have e3 := numP_inv h4
                have ek : kindByte (k.toNat % 16) (decide (k.toNat / 16 = 1)) = k := by
                  apply UInt8.toNat_inj.1
                  unfold kindByte
                  by_cases hq : k.toNat / 16 = 1
                  · simp [hq]; omega
                  · simp [hq]; omega
                simp only [Ent.body, Int.toNat_natCast, bodyB_eq, ek]
                rw [e0, e1, e2, e3]
              · cases h

def flat (es : List Ent) : List UInt8 := es.flatMap Ent.enc
theorem flat_nil : flat [] = [] := rfl
theorem flat_cons (e : Ent) (es : List Ent) : flat (e :: es) = e.enc ++ flat es := rfl
theorem flat_append (a b : List Ent) : flat (a ++ b) = flat a ++ flat b := by simp [flat]
theorem dec_enc {e : Ent} (h : e.ok) (r : List UInt8) : dec (e.enc ++ r) = (e :: (dec r).1, e.enc.length + (dec r).2) := by
  obtain ⟨l1, l2⟩ := Ent.body_len_ h
  have hk : e.body.length.toUInt8.toNat = e.body.length := by simp; omega
  generalize hs : wsum e.body e.body.length % 65521 = s
  have hs2 : s < 65521 := by omega
  have e0 : e.enc ++ r = e.body.length.toUInt8 :: (e.body ++ ((s / 256).toUInt8 :: (s % 256).toUInt8 :: r)) := by
    rw [Ent.enc_eq, hs]; simp
  have t1 : (e.body ++ ((s / 256).toUInt8 :: (s % 256).toUInt8 :: r)).take e.body.length = e.body := by simp
  have t2 : (e.body ++ ((s / 256).toUInt8 :: (s % 256).toUInt8 :: r)).getD e.body.length 0 = (s / 256).toUInt8 := by simp
  have t3 : (e.body ++ ((s / 256).toUInt8 :: (s % 256).toUInt8 :: r)).getD (e.body.length + 1) 0 = (s % 256).toUInt8 := by simp
  have t4 : (e.body ++ ((s / 256).toUInt8 :: (s % 256).toUInt8 :: r)).drop (e.body.length + 2) = r := by
    rw [List.drop_append]; simp
  have n1 : ((s / 256).toUInt8).toNat = s / 256 := by simp; omega
  have n2 : ((s % 256).toUInt8).toNat = s % 256 := by simp
  rw [e0, dec_step (e := e) (by rw [hk]; simp only [List.length_append, List.length_cons]; omega) (by rw [hk, t1, t2, t3, n1, n2, hs]; exact (Nat.div_add_mod' s 256).symm) (by rw [hk, t1]; exact entP_body h), hk, t4, Ent.enc_len]
theorem dec_flat {es : List Ent} (h : ∀ e ∈ es, e.ok) (r : List UInt8) : dec (flat es ++ r) = (es ++ (dec r).1, (flat es).length + (dec r).2) := by
  induction es with
  | nil => simp [flat_nil]
  | cons e es ih =>
    rw [flat_cons, List.append_assoc, dec_enc (h e (by simp)), ih fun x hx => h x (by simp [hx])]
    simp [Nat.add_assoc]
theorem dec_all {es : List Ent} (h : ∀ e ∈ es, e.ok) : dec (flat es) = (es, (flat es).length) := by
  have := dec_flat h []
  simpa [dec_nil] using this
theorem hi_byte (a b : UInt8) : ((a.toNat * 256 + b.toNat) / 256).toUInt8 = a := by
  have := a.toNat_lt
  have := b.toNat_lt
  apply UInt8.toNat_inj.1
  simp
  omega
theorem lo_byte (a b : UInt8) : ((a.toNat * 256 + b.toNat) % 256).toUInt8 = b := by
  have := b.toNat_lt
  apply UInt8.toNat_inj.1
  simp
theorem split2 (R : List UInt8) (n : Nat) (h : n + 2 ≤ R.length) : R = R.take n ++ (R.getD n 0 :: R.getD (n + 1) 0 :: R.drop (n + 2)) := by
  have h1 : R.drop n = R[n] :: R.drop (n + 1) := List.drop_eq_getElem_cons (by omega)
  have h2 : R.drop (n + 1) = R[n + 1] :: R.drop (n + 2) := List.drop_eq_getElem_cons (by omega)
  have g1 : R.getD n 0 = R[n] := by simp [List.getD, List.getElem?_eq_getElem (show n < R.length by omega)]
  have g2 : R.getD (n + 1) 0 = R[n + 1] := by simp [List.getD, List.getElem?_eq_getElem (show n + 1 < R.length by omega)]
  rw [g1, g2, ← h2, ← h1, List.take_append_drop]
theorem dec_inv : ∀ (f : Nat) (l : List UInt8), l.length ≤ f → (∀ e ∈ (dec l).1, e.ok) ∧ ∃ r, l = flat (dec l).1 ++ r ∧ (dec l).2 = (flat (dec l).1).length
  | _, [], _ => ⟨by simp [dec_nil], [], by simp [dec_nil, flat_nil], by simp [dec_nil, flat_nil]⟩
  | 0, k :: R, h => by simp at h
  | f + 1, k :: R, h => by
    by_cases h1 : k.toNat = 0 ∨ R.length < k.toNat + 2
    · rw [dec_bad h1]; exact ⟨by simp, k :: R, by simp [flat_nil], by simp [flat_nil]⟩
    · by_cases h2 : wsum (R.take k.toNat) k.toNat % 65521 = (R.getD k.toNat 0).toNat * 256 + (R.getD (k.toNat + 1) 0).toNat
      · rcases h3 : entP (R.take k.toNat) with _ | e
        · rw [dec_body h1 h3]; exact ⟨by simp, k :: R, by simp [flat_nil], by simp [flat_nil]⟩
        · rw [dec_step h1 h2 h3]
          obtain ⟨i1, r, i2, i3⟩ := dec_inv f (R.drop (k.toNat + 2)) (by simp only [List.length_drop, List.length_cons] at *; omega)
          obtain ⟨o1, o2⟩ := entP_inv h3
          have hl : (R.take k.toNat).length = k.toNat := by simp; omega
          have hbl : e.body.length = k.toNat := by rw [← o2, hl]
          have hkk : k.toNat.toUInt8 = k := by simp
          have g1 := (R.getD k.toNat 0).toNat_lt
          have g2 := (R.getD (k.toNat + 1) 0).toNat_lt
          have henc : e.enc = k :: (R.take k.toNat ++ [R.getD k.toNat 0, R.getD (k.toNat + 1) 0]) := by
            rw [Ent.enc_eq, hbl, ← o2, h2, hkk]
            have q1 : (((R.getD k.toNat 0).toNat * 256 + (R.getD (k.toNat + 1) 0).toNat) / 256).toUInt8 = R.getD k.toNat 0 := hi_byte _ _
            have q2 : (((R.getD k.toNat 0).toNat * 256 + (R.getD (k.toNat + 1) 0).toNat) % 256).toUInt8 = R.getD (k.toNat + 1) 0 := lo_byte _ _
            rw [q1, q2]
          refine ⟨?_, r, ?_, ?_⟩
          · intro x hx
            simp only [List.mem_cons] at hx
            rcases hx with rfl | hx
            · exact o1
            · exact i1 x hx
          · simp only [flat_cons, List.append_assoc]
            rw [← i2, henc]
            have := split2 R k.toNat (by omega)
            simp only [List.cons_append, List.append_assoc, List.nil_append]
            rw [← this]
          · simp only [flat_cons, List.length_append]
            rw [← i3, Ent.enc_len, hbl]
      · rw [dec_sum h1 h2]; exact ⟨by simp, k :: R, by simp [flat_nil], by simp [flat_nil]⟩
theorem dec_ok (l : List UInt8) : ∀ e ∈ (dec l).1, e.ok := (dec_inv _ l (Nat.le_refl _)).1
theorem dec_le (l : List UInt8) : (dec l).2 ≤ l.length := by
  obtain ⟨-, r, h1, h2⟩ := dec_inv _ l (Nat.le_refl _)
  rw [h2]
  conv => rhs; rw [h1]
  simp
theorem dec_take (l : List UInt8) : l.take (dec l).2 = flat (dec l).1 := by
  obtain ⟨-, r, h1, h2⟩ := dec_inv _ l (Nat.le_refl _)
  have h3 : l.take (flat (dec l).1).length = (flat (dec l).1 ++ r).take (flat (dec l).1).length := by rw [← h1]
  rw [h2, h3, List.take_left]
theorem dec_full {l : List UInt8} (h : (dec l).2 = l.length) : l = flat (dec l).1 := by
  have := dec_take l
  rw [h, List.take_length] at this
  exact this
/-- a beginning of frames that is whole -/
theorem dec_prefix {es : List Ent} (hok : ∀ e ∈ es, e.ok) {s : Nat} (hs : s ≤ (flat es).length) (h : (dec ((flat es).take s)).2 = s) : ∃ j, j ≤ es.length ∧ s = (flat (es.take j)).length ∧ (dec ((flat es).take s)).1 = es.take j := by
  generalize hE : (dec ((flat es).take s)).1 = es'
  have hf : (flat es).take s = flat es' := by
    have := dec_full (l := (flat es).take s) (by rw [h]; simp; omega)
    rw [hE] at this
    exact this
  have h1 : flat es = flat es' ++ (flat es).drop s := by rw [← hf, List.take_append_drop]
  have hok' : ∀ e ∈ es', e.ok := hE ▸ dec_ok _
  have h2 := dec_flat hok' ((flat es).drop s)
  rw [← h1, dec_all hok] at h2
  injection h2 with h2 _
  have h3 : es' = es.take es'.length := by rw [h2]; simp
  refine ⟨es'.length, by rw [h2]; simp, ?_, h3⟩
  rw [← h3, ← hf, List.length_take]
  omega
theorem flat_take (es : List Ent) (j : Nat) : (flat es).take (flat (es.take j)).length = flat (es.take j) := by
  have h : flat es = flat (es.take j) ++ flat (es.drop j) := by rw [← flat_append, List.take_append_drop]
  rw [h, List.take_left]
theorem flat_take_le (es : List Ent) (j : Nat) : (flat (es.take j)).length ≤ (flat es).length := by
  have : flat es = flat (es.take j) ++ flat (es.drop j) := by rw [← flat_append, List.take_append_drop]
  rw [this]; simp
theorem flat_take_succ (es : List Ent) (j : Nat) (h : j < es.length) : flat (es.take (j + 1)) = flat (es.take j) ++ es[j].enc := by
  rw [List.take_succ_eq_append_getElem h, flat_append]
  simp [flat]

structure LogD where
  bytes : List UInt8
  synced : Int
def logFault (l : LogD) : Int :=
  if 40000 < l.bytes.length then 1 else
  if (dec l.bytes).2 ≠ l.bytes.length ∨ 400 < (dec l.bytes).1.length then 4 else
  if l.synced < 0 ∨ (l.bytes.length : Int) < l.synced then 2 else
  if (dec (l.bytes.take l.synced.toNat)).2 ≠ l.synced.toNat then 4 else 0
/-- a log that may be: its entries; so many are safe -/
structure LogIs (l : LogD) (es : List Ent) (j : Nat) : Prop where
  ok : ∀ e ∈ es, e.ok
  bytes : l.bytes = flat es
  many : es.length ≤ 400
  long : (flat es).length ≤ 40000
  jle : j ≤ es.length
  synced : l.synced = ((flat (es.take j)).length : Int)
section
variable {l : LogD} {es : List Ent} {j : Nat}
theorem LogIs.dec_ (h : LogIs l es j) : dec l.bytes = (es, l.bytes.length) := by rw [h.bytes]; exact dec_all h.ok
theorem LogIs.safe (h : LogIs l es j) : dec (l.bytes.take l.synced.toNat) = (es.take j, l.synced.toNat) := by
  have e : l.synced.toNat = (flat (es.take j)).length := by rw [h.synced]; simp
  rw [e, h.bytes, flat_take]
  exact dec_all fun x hx => h.ok x (List.mem_of_mem_take hx)
theorem LogIs.le (h : LogIs l es j) : l.synced ≤ (l.bytes.length : Int) := by
  rw [h.synced, h.bytes]
  exact Int.ofNat_le.2 (flat_take_le es j)
theorem LogIs.nonneg (h : LogIs l es j) : 0 ≤ l.synced := by rw [h.synced]; omega
theorem LogIs.fault (h : LogIs l es j) : logFault l = 0 := by
  have h1 := h.dec_
  have h2 := h.safe
  have h3 := h.le
  have h4 := h.nonneg
  have h5 := h.many
  have h6 := h.long
  rw [← h.bytes] at h6
  unfold logFault
  rw [h1, h2]
  simp only [ne_eq, not_true_eq_false, false_or, if_false]
  rw [if_neg (by omega), if_neg (by omega), if_neg (by omega)]
end
theorem logIs_of {l : LogD} (h : logFault l = 0) : LogIs l (dec l.bytes).1 (dec (l.bytes.take l.synced.toNat)).1.length := by
  unfold logFault at h
  split at h
  · omega
  · rename_i h1
    split at h
    · omega
    · rename_i h2
      split at h
      · omega
      · rename_i h3
        split at h
        · omega
        · rename_i h4
          have h5 : (dec l.bytes).2 = l.bytes.length := Classical.byContradiction fun hn => h2 (Or.inl hn)
          have h6 : (dec l.bytes).1.length ≤ 400 := by omega
          have h7 : (dec (l.bytes.take l.synced.toNat)).2 = l.synced.toNat := Classical.byContradiction fun hn => h4 hn
          have hf := dec_full h5
          have ho := dec_ok l.bytes
          generalize (dec l.bytes).1 = es at *
          obtain ⟨j, hj, hs, he⟩ := dec_prefix ho (s := l.synced.toNat) (by rw [← hf]; omega) (by rw [← hf]; exact h7)
          rw [← hf] at he
          rw [he]
          have hjl : (es.take j).length = j := by simp; omega
          rw [hjl]
          exact ⟨ho, hf, h6, by rw [← hf]; omega, hj, by omega⟩
theorem logFault_cases (l : LogD) : logFault l ≠ 0 ∨ ∃ es j, LogIs l es j := by
  by_cases h : logFault l = 0
  · exact Or.inr ⟨_, _, logIs_of h⟩
  · exact Or.inl h

end Go.Proofs.Ytpjjfnpdopdnkaa
namespace Go.Proofs.Ytpjjfnpdopdnkaa
open Go.RowKit

/-- the reader lies at g; it stands at l; nothing else has turned since w1 -/
structure RSt (w1 W : World) (g : Nat) (v0 : Value) (bad : Bool) (l : List UInt8) (v : Value) : Prop where
  blk : Blk W g 97 #[v, .bool bad]
  by_ : By W v l
  ob : v.ownBlock = v0.ownBlock
  gr : w1.grownBy W (some g)
  sz : W.heap.size = w1.heap.size
theorem grown_trans {a b c : World} {row : Option Nat} (h : a.grownBy b row) (k : b.grownBy c row) : a.grownBy c row :=
  ⟨k.os.trans h.os, k.tape.trans h.tape, k.output.trans h.output, Nat.le_trans h.size k.size, fun i hi hne => (k.block i (Nat.lt_of_lt_of_le hi h.size) hne).trans (h.block i hi hne)⟩
theorem rnum_step {w1 W : World} {g : Nat} {v0 v : Value} {bad : Bool} {l : List UInt8} (h : RSt w1 W g v0 bad l v) (hne : v0.ownBlock ≠ some g) :
    Calls Try.prog 99 #[.pointer (some ⟨g, 0, none⟩)] W fun e W' => ∃ (n : Int) (v' : Value) (bad' : Bool) (l' : List UInt8), e = .returned (.int .i64 n) ∧ RSt w1 W' g v0 bad' l' v' ∧ NumPost bad l n bad' l' := by
  have hn : v.ownBlock ≠ some g := by rw [h.ob]; exact hne
  have key : Calls Try.prog 99 #[.pointer (some ⟨g, 0, none⟩)] W (RPost g v W bad l) := by
    cases bad
    · exact rnum_good g v l W h.blk h.by_ hn
    · exact rnum_bad g v l W h.blk h.by_ hn
  refine key.mono ?_
  rintro e W' ⟨n, v', bad', l', rfl, h1, h2, h3, h4, h5, h6⟩
  exact ⟨n, v', bad', l', rfl, ⟨h1, h2, h3.trans h.ob, grown_trans h.gr h4, h5.trans h.sz⟩, h6⟩

theorem np_chain {r l1 l2 l3 l4 : List UInt8} {n1 n2 n3 n4 : Int} {b1 b2 b3 b4 : Bool} (h1 : NumPost false r n1 b1 l1) (h2 : NumPost b1 l1 n2 b2 l2) (h3 : NumPost b2 l2 n3 b3 l3) (h4 : NumPost b3 l3 n4 b4 l4) :
    (b4 = true ∧ ∀ k, entP (k :: r) = none) ∨ (b4 = false ∧ ∃ a b c d : Nat, n1 = a ∧ n2 = b ∧ n3 = c ∧ n4 = d ∧ numP r = some (a, l1) ∧ numP l1 = some (b, l2) ∧ numP l2 = some (c, l3) ∧ numP l3 = some (d, l4)) := by
  rcases h1.2 rfl with ⟨a, r1, p1, rfl, rfl, rfl⟩ | ⟨p1, rfl⟩
  · rcases h2.2 rfl with ⟨b, r2, p2, rfl, rfl, rfl⟩ | ⟨p2, rfl⟩
    · rcases h3.2 rfl with ⟨c, r3, p3, rfl, rfl, rfl⟩ | ⟨p3, rfl⟩
      · rcases h4.2 rfl with ⟨d, r4, p4, rfl, rfl, rfl⟩ | ⟨p4, rfl⟩
        · exact Or.inr ⟨rfl, a, b, c, d, rfl, rfl, rfl, rfl, p1, p2, p3, p4⟩
        · exact Or.inl ⟨rfl, fun k => by simp [entP, p1, p2, p3, p4]⟩
      · have e4 := h4.1 rfl
        exact Or.inl ⟨e4, fun k => by simp [entP, p1, p2, p3]⟩
    · have e4 := h4.1 (h3.1 rfl)
      exact Or.inl ⟨e4, fun k => by simp [entP, p1, p2]⟩
  · have e4 := h4.1 (h3.1 (h2.1 rfl))
    exact Or.inl ⟨e4, fun k => by simp [entP, p1]⟩

def entV (e : Ent) : Value := .agg #[.int .i64 e.ep, .int .i64 e.pid, .int .i64 e.ver, .int .i64 e.seq, .int .i64 e.kind, .bool e.txn, .string e.text]
/-- what a reading of a body leaves -/
def BodyPost (l : List UInt8) (w : World) (e : Ending) (w' : World) : Prop :=
  ∃ (y : Ent) (b : Bool), e = .returned (.tuple #[entV y, .bool b]) ∧ (b = true → entP l = some y) ∧ (b = false → entP l = none) ∧ Below w.heap.size w w'

theorem entP_val {k : UInt8} {r l1 l2 l3 l4 : List UInt8} {a b c d : Nat} (h32 : ¬ 32 ≤ k.toNat) (p1 : numP r = some (a, l1)) (p2 : numP l1 = some (b, l2)) (p3 : numP l2 = some (c, l3)) (p4 : numP l3 = some (d, l4)) :
    entP (k :: r) = if entryFault a b c d ((k.toNat : Int) % 16) (decide (k.toNat / 16 = 1)) (⟨l4.toArray⟩ : ByteArray).size = 0 then some ⟨a, b, c, d, (k.toNat : Int) % 16, decide (k.toNat / 16 = 1), ⟨l4.toArray⟩⟩ else none := by
  simp only [entP, if_neg h32, p1, p2, p3, p4]
  rfl
theorem entP_big {k : UInt8} {r : List UInt8} (h32 : 32 ≤ k.toNat) : entP (k :: r) = none := by simp [entP, h32]

theorem and15 (k : UInt8) : bits .and .u8 (k.toNat : Int) 15 = ((k.toNat % 16 : Nat) : Int) := by
  have h := k.toNat_lt
  generalize k.toNat = n at *
  have key : ∀ n : Nat, n < 256 → bits .and .u8 (n : Int) 15 = ((n % 16 : Nat) : Int) := by decide +kernel
  exact key n h
theorem and16 (k : UInt8) (h : k.toNat < 32) : (bits .and .u8 (k.toNat : Int) 16 != 0) = decide (k.toNat / 16 = 1) := by
  generalize k.toNat = n at *
  have key : ∀ n : Nat, n < 32 → (bits .and .u8 (n : Int) 16 != 0) = decide (n / 16 = 1) := by decide +kernel
  exact key n h

set_option maxRecDepth 100000 in
set_option maxHeartbeats 4000000 in
theorem body_any (v : Value) (k : UInt8) (r : List UInt8) (w : World) (hv : By w v (k :: r)) (hl : r.length ≤ 65536) :
    Calls Try.prog 76 #[v] w (BodyPost (k :: r) w) := by
  obtain ⟨b, off, c, u', r', rfl, hc, hur, hbl, hcell, hcut⟩ := byte_cons hv (by simp)
  injection hur with hu' hr'
  subst hu' hr'
  simp only [List.length_cons] at hc
  have h15 := and15 k
  have hk256 := k.toNat_lt
  have HA := Lib.hid hcut
  have HC := Lib.hid hc
  clear hcut
  by_cases hc1 : c = 1
  · obtain rfl : r = [] := List.eq_nil_of_length_eq_zero (by omega)
    subst hc1
    go_enter Try.func76, Try.ntmps76
    go_wp2
    have bE := (Blk.new w 55 #[.int .i64 0, .int .i64 0, .int .i64 0, .int .i64 0, .int .i64 0, .bool false, .string ⟨#[]⟩]).alloc (.cells #[(.slice (some ⟨b, off, none⟩) 0 0), .bool false] 97)
    have bR := Blk.new (w.alloc (.cells #[.int .i64 0, .int .i64 0, .int .i64 0, .int .i64 0, .int .i64 0, .bool false, .string ⟨#[]⟩] 55)) 97 #[(.slice (some ⟨b, off, none⟩) 0 0), .bool false]
    have hbw : Below w.heap.size w ((w.alloc (.cells #[.int .i64 0, .int .i64 0, .int .i64 0, .int .i64 0, .int .i64 0, .bool false, .string ⟨#[]⟩] 55)).alloc (.cells #[(.slice (some ⟨b, off, none⟩) 0 0), .bool false] 97)) := ((Below.refl _ _).alloc (Nat.le_refl _) _).alloc (by simp) _
    have hsz : ((w.alloc (.cells #[.int .i64 0, .int .i64 0, .int .i64 0, .int .i64 0, .int .i64 0, .bool false, .string ⟨#[]⟩] 55)).alloc (.cells #[(.slice (some ⟨b, off, none⟩) 0 0), .bool false] 97)).heap.size = w.heap.size + 2 := by simp
    simp only [World.size_alloc] at bR
    change Code.wp _ _ _ _ ((w.alloc (.cells #[.int .i64 0, .int .i64 0, .int .i64 0, .int .i64 0, .int .i64 0, .bool false, .string ⟨#[]⟩] 55)).alloc (.cells #[(.slice (some ⟨b, off, none⟩) 0 0), .bool false] 97))
    generalize (w.alloc (.cells #[.int .i64 0, .int .i64 0, .int .i64 0, .int .i64 0, .int .i64 0, .bool false, .string ⟨#[]⟩] 55)).alloc (.cells #[(.slice (some ⟨b, off, none⟩) 0 0), .bool false] 97) = W0 at *
    have X := (hbw.cell (p := ⟨b, off, none⟩) hbl).trans hcell
    have hlt : b < W0.heap.size := by omega
    have X2 : (W0.alloc (.cells #[.int .i64 0, .int .i64 0, .int .i64 0, .int .i64 0, .int .i64 0, .bool false, .string ⟨#[]⟩] 55)).cell? ⟨b, off, none⟩ = some (.int .u8 k.toNat) := (World.cell?_alloc_lt W0 _ _ hlt).trans X
    go_region
    go_wp2_with fail
    have bX : Blk (W0.alloc (.cells #[.int .i64 0, .int .i64 0, .int .i64 0, .int .i64 0, .int .i64 ((k.toNat : Int) % 16), .bool (bits .and .u8 (k.toNat : Int) 16 != 0), .string ⟨#[]⟩] 55)).drew (w.heap.size + 2) 55 #[.int .i64 0, .int .i64 0, .int .i64 0, .int .i64 0, .int .i64 ((k.toNat : Int) % 16), .bool (bits .and .u8 (k.toNat : Int) 16 != 0), .string ⟨#[]⟩] := by rw [← hsz]; exact Blk.new W0 _ _
    have bE1 : Blk (W0.alloc (.cells #[.int .i64 0, .int .i64 0, .int .i64 0, .int .i64 0, .int .i64 ((k.toNat : Int) % 16), .bool (bits .and .u8 (k.toNat : Int) 16 != 0), .string ⟨#[]⟩] 55)).drew w.heap.size 55 #[.int .i64 0, .int .i64 0, .int .i64 0, .int .i64 0, .int .i64 0, .bool false, .string ⟨#[]⟩] := bE.alloc _
    have bR1 : Blk (W0.alloc (.cells #[.int .i64 0, .int .i64 0, .int .i64 0, .int .i64 0, .int .i64 ((k.toNat : Int) % 16), .bool (bits .and .u8 (k.toNat : Int) 16 != 0), .string ⟨#[]⟩] 55)).drew (w.heap.size + 1) 97 #[(.slice (some ⟨b, off, none⟩) 0 0), .bool false] := bR.alloc _
    have hb1 : Below w.heap.size w (W0.alloc (.cells #[.int .i64 0, .int .i64 0, .int .i64 0, .int .i64 0, .int .i64 ((k.toNat : Int) % 16), .bool (bits .and .u8 (k.toNat : Int) 16 != 0), .string ⟨#[]⟩] 55)).drew := (hbw.alloc (by omega) _).drew
    have hs1 : (W0.alloc (.cells #[.int .i64 0, .int .i64 0, .int .i64 0, .int .i64 0, .int .i64 ((k.toNat : Int) % 16), .bool (bits .and .u8 (k.toNat : Int) 16 != 0), .string ⟨#[]⟩] 55)).drew.heap.size = w.heap.size + 3 := by simp [hsz]
    generalize (W0.alloc (.cells #[.int .i64 0, .int .i64 0, .int .i64 0, .int .i64 0, .int .i64 ((k.toNat : Int) % 16), .bool (bits .and .u8 (k.toNat : Int) 16 != 0), .string ⟨#[]⟩] 55)).drew = W1 at *
    generalize hT : (bits .and .u8 (k.toNat : Int) 16 != 0) = T at *
    have HT := Lib.hid hT
    clear hT
    have hy := (HA.out W1 (fun p hp => hb1.cell (p := p) (by rw [hp]; exact hbl)) hb1.size).1 (by trivial)
    have st0 : RSt W1 W1 (w.heap.size + 1) (.slice (some ⟨b, off, none⟩) 0 0) false [] (.slice (some ⟨b, off, none⟩) 0 0) := ⟨bR1, hy, rfl, World.grownBy.refl _ _, rfl⟩
    have hne : Value.ownBlock (.slice (some ⟨b, off, none⟩) 0 0) ≠ some (w.heap.size + 1) := by simp [Value.ownBlock]; omega
    clear bE bR hbw hsz X X2 hlt bR1 hy
    refine (rnum_step st0 hne).mono ?_
    rintro e W2 ⟨n1, v1, b1, l1, rfl, st1, np1⟩
    go_wp2_with fail
    refine (rnum_step st1 hne).mono ?_
    rintro e W3 ⟨n2, v2, b2, l2, rfl, st2, np2⟩
    go_wp2_with fail
    refine (rnum_step st2 hne).mono ?_
    rintro e W4 ⟨n3, v3, b3, l3, rfl, st3, np3⟩
    go_wp2_with fail
    refine (rnum_step st3 hne).mono ?_
    rintro e W5 ⟨n4, v4, b4, l4, rfl, st4, np4⟩
    have bE5 := bE1.grown st4.gr (by simp)
    have bX5 := bX.grown st4.gr (by simp)
    have bR5 := st4.blk
    have hb5 : Below w.heap.size w W5 := hb1.grown st4.gr hb1.size (fun k hk => by injection hk with hk; omega)
    have X5 : W5.cell? ⟨b, off, none⟩ = some (.int .u8 k.toNat) := (hb5.cell (p := ⟨b, off, none⟩) hbl).trans hcell
    have hs5 : W5.heap.size = w.heap.size + 3 := st4.sz.trans hs1
    have hch := np_chain np1 np2 np3 np4
    have hy5 := st4.by_
    have hob := st4.ob
    clear st0 st1 st2 st3 st4 np1 np2 np3 np4 bE1 bX hb1 hs1 hne
    have hbne : b ≠ w.heap.size + 2 := by omega
    have hyS : By ((((W5.setCell ⟨w.heap.size + 2, 0, none⟩ (.int .i64 n1)).setCell ⟨w.heap.size + 2, 1, none⟩ (.int .i64 n2)).setCell ⟨w.heap.size + 2, 2, none⟩ (.int .i64 n3)).setCell ⟨w.heap.size + 2, 3, none⟩ (.int .i64 n4)) v4 l4 := by
      have hn2 : v4.ownBlock ≠ some (w.heap.size + 2) := by rw [hob]; simp [Value.ownBlock]; omega
      exact By.grown hy5 (grown_set (grown_set (grown_set (grown_set (World.grownBy.refl _ _) 0 _) 1 _) 2 _) 3 _) hn2
    have hcv := By.convert_ hyS
    obtain ⟨A4, c4, rfl, hc4, -⟩ := hyS.at_
    have bX6 := (((((bX5.set_ 0 (.int .i64 n1)).set_ 1 (.int .i64 n2)).set_ 2 (.int .i64 n3)).set_ 3 (.int .i64 n4)).set_ 6 (.string ⟨l4.toArray⟩))
    have bE6 := (((((bE5.far (p := ⟨w.heap.size + 2, 0, none⟩) (by simp) (.int .i64 n1)).far (p := ⟨w.heap.size + 2, 1, none⟩) (by simp) (.int .i64 n2)).far (p := ⟨w.heap.size + 2, 2, none⟩) (by simp) (.int .i64 n3)).far (p := ⟨w.heap.size + 2, 3, none⟩) (by simp) (.int .i64 n4)).far (p := ⟨w.heap.size + 2, 6, none⟩) (by simp) (.string ⟨l4.toArray⟩))
    have x0 := bX5.cell 0
    have x1 := bX5.cell 1
    have x2 := bX5.cell 2
    have x3 := bX5.cell 3
    have x6 := bX5.cell 6
    have f0 := bX5.frozen 0
    have f1 := bX5.frozen 1
    have f2 := bX5.frozen 2
    have f3 := bX5.frozen 3
    have f6 := bX5.frozen 6
    have r0 := bR5.cell 0
    have HY5 := Lib.hid hy5
    have HCH := Lib.hid hch
    clear hy5 hch hob hyS
    have bR6 := (((((bR5.far (p := ⟨w.heap.size + 2, 0, none⟩) (by simp) (.int .i64 n1)).far (p := ⟨w.heap.size + 2, 1, none⟩) (by simp) (.int .i64 n2)).far (p := ⟨w.heap.size + 2, 2, none⟩) (by simp) (.int .i64 n3)).far (p := ⟨w.heap.size + 2, 3, none⟩) (by simp) (.int .i64 n4)).far (p := ⟨w.heap.size + 2, 6, none⟩) (by simp) (.string ⟨l4.toArray⟩))
    have hb6 : Below w.heap.size w (((((W5.setCell ⟨w.heap.size + 2, 0, none⟩ (.int .i64 n1)).setCell ⟨w.heap.size + 2, 1, none⟩ (.int .i64 n2)).setCell ⟨w.heap.size + 2, 2, none⟩ (.int .i64 n3)).setCell ⟨w.heap.size + 2, 3, none⟩ (.int .i64 n4)).setCell ⟨w.heap.size + 2, 6, none⟩ (.string ⟨l4.toArray⟩)) := ((((hb5.setCell (by simp) _).setCell (by simp) _).setCell (by simp) _).setCell (by simp) _).setCell (by simp) _
    have hs6 : ((((((W5.setCell ⟨w.heap.size + 2, 0, none⟩ (.int .i64 n1)).setCell ⟨w.heap.size + 2, 1, none⟩ (.int .i64 n2)).setCell ⟨w.heap.size + 2, 2, none⟩ (.int .i64 n3)).setCell ⟨w.heap.size + 2, 3, none⟩ (.int .i64 n4)).setCell ⟨w.heap.size + 2, 6, none⟩ (.string ⟨l4.toArray⟩))).heap.size = w.heap.size + 3 := by simp only [size_setCell]; exact hs5
    simp only [List.setIfInBounds_toArray, List.set_cons_succ, List.set_cons_zero] at bX6
    go_wp2
    clear x0 x1 x2 x3 x6 f0 f1 f2 f3 f6 r0 bX5 bR5 bE5 hcv X5
    generalize (((((W5.setCell ⟨w.heap.size + 2, 0, none⟩ (.int .i64 n1)).setCell ⟨w.heap.size + 2, 1, none⟩ (.int .i64 n2)).setCell ⟨w.heap.size + 2, 2, none⟩ (.int .i64 n3)).setCell ⟨w.heap.size + 2, 3, none⟩ (.int .i64 n4)).setCell ⟨w.heap.size + 2, 6, none⟩ (.string ⟨l4.toArray⟩)) = W6 at *
    have X := (hb6.cell (p := ⟨b, off, none⟩) hbl).trans hcell
    have x0 := bX6.cell 0
    have x1 := bX6.cell 1
    have x2 := bX6.cell 2
    have x3 := bX6.cell 3
    have x4 := bX6.cell 4
    have x5 := bX6.cell 5
    have x6 := bX6.cell 6
    have r1 := bR6.cell 1
    have e0 := bE6.cell 0
    have e1 := bE6.cell 1
    have e2 := bE6.cell 2
    have e3 := bE6.cell 3
    have e4 := bE6.cell 4
    have e5 := bE6.cell 5
    have e6 := bE6.cell 6
    have f0 := bE6.frozen 0
    have f1 := bE6.frozen 1
    have f2 := bE6.frozen 2
    have f3 := bE6.frozen 3
    have f4 := bE6.frozen 4
    have f5 := bE6.frozen 5
    have f6 := bE6.frozen 6
    have hlt2 : w.heap.size + 2 < W6.heap.size := by omega
    have hlt0 : w.heap.size < W6.heap.size := by omega
    have hltb : b < W6.heap.size := by omega
    rcases HCH.out with ⟨rfl, hno⟩ | ⟨rfl, a, b', c', d, rfl, rfl, rfl, rfl, p1, p2, p3, p4⟩
    · have HNO := Lib.hid hno
      clear hno
      go_region
      go_wp2
      have B7 := (((((((bE6.set_ 0 (.int .i64 n1)).set_ 1 (.int .i64 n2)).set_ 2 (.int .i64 n3)).set_ 3 (.int .i64 n4)).set_ 4 (.int .i64 ((k.toNat : Int) % 16))).set_ 5 (.bool T)).set_ 6 (.string ⟨l4.toArray⟩))
      have L7 := (((((((hb6.setCell (p := ⟨w.heap.size, 0, none⟩) (Nat.le_refl _) (.int .i64 n1)).setCell (p := ⟨w.heap.size, 1, none⟩) (Nat.le_refl _) (.int .i64 n2)).setCell (p := ⟨w.heap.size, 2, none⟩) (Nat.le_refl _) (.int .i64 n3)).setCell (p := ⟨w.heap.size, 3, none⟩) (Nat.le_refl _) (.int .i64 n4)).setCell (p := ⟨w.heap.size, 4, none⟩) (Nat.le_refl _) (.int .i64 ((k.toNat : Int) % 16))).setCell (p := ⟨w.heap.size, 5, none⟩) (Nat.le_refl _) (.bool T)).setCell (p := ⟨w.heap.size, 6, none⟩) (Nat.le_refl _) (.string ⟨l4.toArray⟩))
      simp only [List.setIfInBounds_toArray, List.set_cons_succ, List.set_cons_zero] at B7
      have y0 := B7.cell 0
      have y1 := B7.cell 1
      have y2 := B7.cell 2
      have y3 := B7.cell 3
      have y4 := B7.cell 4
      have y5 := B7.cell 5
      have y6 := B7.cell 6
      exact bodyPost_ret (v := .tuple #[entV ⟨n1, n2, n3, n4, (k.toNat : Int) % 16, T, ⟨l4.toArray⟩⟩, .bool false]) (by simp [results, Try.results76, go_sem, entV, y0, y1, y2, y3, y4, y5, y6]) rfl ⟨⟨n1, n2, n3, n4, (k.toNat : Int) % 16, T, ⟨l4.toArray⟩⟩, false, rfl, fun e => by simp at e, fun _ => HNO.out k, L7.drew⟩
    · simp [numP, numGo] at p1
  · have hc2 : 2 ≤ c := by omega
    go_enter Try.func76, Try.ntmps76
    go_wp2
    have bE := (Blk.new w 55 #[.int .i64 0, .int .i64 0, .int .i64 0, .int .i64 0, .int .i64 0, .bool false, .string ⟨#[]⟩]).alloc (.cells #[(.slice (some ⟨b, off + 1, none⟩) r.length (c - 1)), .bool false] 97)
    have bR := Blk.new (w.alloc (.cells #[.int .i64 0, .int .i64 0, .int .i64 0, .int .i64 0, .int .i64 0, .bool false, .string ⟨#[]⟩] 55)) 97 #[(.slice (some ⟨b, off + 1, none⟩) r.length (c - 1)), .bool false]
    have hbw : Below w.heap.size w ((w.alloc (.cells #[.int .i64 0, .int .i64 0, .int .i64 0, .int .i64 0, .int .i64 0, .bool false, .string ⟨#[]⟩] 55)).alloc (.cells #[(.slice (some ⟨b, off + 1, none⟩) r.length (c - 1)), .bool false] 97)) := ((Below.refl _ _).alloc (Nat.le_refl _) _).alloc (by simp) _
    have hsz : ((w.alloc (.cells #[.int .i64 0, .int .i64 0, .int .i64 0, .int .i64 0, .int .i64 0, .bool false, .string ⟨#[]⟩] 55)).alloc (.cells #[(.slice (some ⟨b, off + 1, none⟩) r.length (c - 1)), .bool false] 97)).heap.size = w.heap.size + 2 := by simp
    simp only [World.size_alloc] at bR
    change Code.wp _ _ _ _ ((w.alloc (.cells #[.int .i64 0, .int .i64 0, .int .i64 0, .int .i64 0, .int .i64 0, .bool false, .string ⟨#[]⟩] 55)).alloc (.cells #[(.slice (some ⟨b, off + 1, none⟩) r.length (c - 1)), .bool false] 97))
    generalize (w.alloc (.cells #[.int .i64 0, .int .i64 0, .int .i64 0, .int .i64 0, .int .i64 0, .bool false, .string ⟨#[]⟩] 55)).alloc (.cells #[(.slice (some ⟨b, off + 1, none⟩) r.length (c - 1)), .bool false] 97) = W0 at *
    have X := (hbw.cell (p := ⟨b, off, none⟩) hbl).trans hcell
    have hlt : b < W0.heap.size := by omega
    have X2 : (W0.alloc (.cells #[.int .i64 0, .int .i64 0, .int .i64 0, .int .i64 0, .int .i64 0, .bool false, .string ⟨#[]⟩] 55)).cell? ⟨b, off, none⟩ = some (.int .u8 k.toNat) := (World.cell?_alloc_lt W0 _ _ hlt).trans X
    go_region
    go_wp2_with fail
    have bX : Blk (W0.alloc (.cells #[.int .i64 0, .int .i64 0, .int .i64 0, .int .i64 0, .int .i64 ((k.toNat : Int) % 16), .bool (bits .and .u8 (k.toNat : Int) 16 != 0), .string ⟨#[]⟩] 55)).drew (w.heap.size + 2) 55 #[.int .i64 0, .int .i64 0, .int .i64 0, .int .i64 0, .int .i64 ((k.toNat : Int) % 16), .bool (bits .and .u8 (k.toNat : Int) 16 != 0), .string ⟨#[]⟩] := by rw [← hsz]; exact Blk.new W0 _ _
    have bE1 : Blk (W0.alloc (.cells #[.int .i64 0, .int .i64 0, .int .i64 0, .int .i64 0, .int .i64 ((k.toNat : Int) % 16), .bool (bits .and .u8 (k.toNat : Int) 16 != 0), .string ⟨#[]⟩] 55)).drew w.heap.size 55 #[.int .i64 0, .int .i64 0, .int .i64 0, .int .i64 0, .int .i64 0, .bool false, .string ⟨#[]⟩] := bE.alloc _
    have bR1 : Blk (W0.alloc (.cells #[.int .i64 0, .int .i64 0, .int .i64 0, .int .i64 0, .int .i64 ((k.toNat : Int) % 16), .bool (bits .and .u8 (k.toNat : Int) 16 != 0), .string ⟨#[]⟩] 55)).drew (w.heap.size + 1) 97 #[(.slice (some ⟨b, off + 1, none⟩) r.length (c - 1)), .bool false] := bR.alloc _
    have hb1 : Below w.heap.size w (W0.alloc (.cells #[.int .i64 0, .int .i64 0, .int .i64 0, .int .i64 0, .int .i64 ((k.toNat : Int) % 16), .bool (bits .and .u8 (k.toNat : Int) 16 != 0), .string ⟨#[]⟩] 55)).drew := (hbw.alloc (by omega) _).drew
    have hs1 : (W0.alloc (.cells #[.int .i64 0, .int .i64 0, .int .i64 0, .int .i64 0, .int .i64 ((k.toNat : Int) % 16), .bool (bits .and .u8 (k.toNat : Int) 16 != 0), .string ⟨#[]⟩] 55)).drew.heap.size = w.heap.size + 3 := by simp [hsz]
    generalize (W0.alloc (.cells #[.int .i64 0, .int .i64 0, .int .i64 0, .int .i64 0, .int .i64 ((k.toNat : Int) % 16), .bool (bits .and .u8 (k.toNat : Int) 16 != 0), .string ⟨#[]⟩] 55)).drew = W1 at *
    generalize hT : (bits .and .u8 (k.toNat : Int) 16 != 0) = T at *
    have HT := Lib.hid hT
    clear hT
    have hy := (HA.out W1 (fun p hp => hb1.cell (p := p) (by rw [hp]; exact hbl)) hb1.size).2 hc1
    have st0 : RSt W1 W1 (w.heap.size + 1) (.slice (some ⟨b, off + 1, none⟩) r.length (c - 1)) false r (.slice (some ⟨b, off + 1, none⟩) r.length (c - 1)) := ⟨bR1, hy, rfl, World.grownBy.refl _ _, rfl⟩
    have hne : Value.ownBlock (.slice (some ⟨b, off + 1, none⟩) r.length (c - 1)) ≠ some (w.heap.size + 1) := by simp [Value.ownBlock]; omega
    clear bE bR hbw hsz X X2 hlt bR1 hy
    refine (rnum_step st0 hne).mono ?_
    rintro e W2 ⟨n1, v1, b1, l1, rfl, st1, np1⟩
    go_wp2_with fail
    refine (rnum_step st1 hne).mono ?_
    rintro e W3 ⟨n2, v2, b2, l2, rfl, st2, np2⟩
    go_wp2_with fail
    refine (rnum_step st2 hne).mono ?_
    rintro e W4 ⟨n3, v3, b3, l3, rfl, st3, np3⟩
    go_wp2_with fail
    refine (rnum_step st3 hne).mono ?_
    rintro e W5 ⟨n4, v4, b4, l4, rfl, st4, np4⟩
    have bE5 := bE1.grown st4.gr (by simp)
    have bX5 := bX.grown st4.gr (by simp)
    have bR5 := st4.blk
    have hb5 : Below w.heap.size w W5 := hb1.grown st4.gr hb1.size (fun k hk => by injection hk with hk; omega)
    have X5 : W5.cell? ⟨b, off, none⟩ = some (.int .u8 k.toNat) := (hb5.cell (p := ⟨b, off, none⟩) hbl).trans hcell
    have hs5 : W5.heap.size = w.heap.size + 3 := st4.sz.trans hs1
    have hch := np_chain np1 np2 np3 np4
    have hy5 := st4.by_
    have hob := st4.ob
    clear st0 st1 st2 st3 st4 np1 np2 np3 np4 bE1 bX hb1 hs1 hne
    have hbne : b ≠ w.heap.size + 2 := by omega
    have hyS : By ((((W5.setCell ⟨w.heap.size + 2, 0, none⟩ (.int .i64 n1)).setCell ⟨w.heap.size + 2, 1, none⟩ (.int .i64 n2)).setCell ⟨w.heap.size + 2, 2, none⟩ (.int .i64 n3)).setCell ⟨w.heap.size + 2, 3, none⟩ (.int .i64 n4)) v4 l4 := by
      have hn2 : v4.ownBlock ≠ some (w.heap.size + 2) := by rw [hob]; simp [Value.ownBlock]; omega
      exact By.grown hy5 (grown_set (grown_set (grown_set (grown_set (World.grownBy.refl _ _) 0 _) 1 _) 2 _) 3 _) hn2
    have hcv := By.convert_ hyS
    obtain ⟨A4, c4, rfl, hc4, -⟩ := hyS.at_
    have bX6 := (((((bX5.set_ 0 (.int .i64 n1)).set_ 1 (.int .i64 n2)).set_ 2 (.int .i64 n3)).set_ 3 (.int .i64 n4)).set_ 6 (.string ⟨l4.toArray⟩))
    have bE6 := (((((bE5.far (p := ⟨w.heap.size + 2, 0, none⟩) (by simp) (.int .i64 n1)).far (p := ⟨w.heap.size + 2, 1, none⟩) (by simp) (.int .i64 n2)).far (p := ⟨w.heap.size + 2, 2, none⟩) (by simp) (.int .i64 n3)).far (p := ⟨w.heap.size + 2, 3, none⟩) (by simp) (.int .i64 n4)).far (p := ⟨w.heap.size + 2, 6, none⟩) (by simp) (.string ⟨l4.toArray⟩))
    have x0 := bX5.cell 0
    have x1 := bX5.cell 1
    have x2 := bX5.cell 2
    have x3 := bX5.cell 3
    have x6 := bX5.cell 6
    have f0 := bX5.frozen 0
    have f1 := bX5.frozen 1
    have f2 := bX5.frozen 2
    have f3 := bX5.frozen 3
    have f6 := bX5.frozen 6
    have r0 := bR5.cell 0
    have HY5 := Lib.hid hy5
    have HCH := Lib.hid hch
    clear hy5 hch hob hyS
    have bR6 := (((((bR5.far (p := ⟨w.heap.size + 2, 0, none⟩) (by simp) (.int .i64 n1)).far (p := ⟨w.heap.size + 2, 1, none⟩) (by simp) (.int .i64 n2)).far (p := ⟨w.heap.size + 2, 2, none⟩) (by simp) (.int .i64 n3)).far (p := ⟨w.heap.size + 2, 3, none⟩) (by simp) (.int .i64 n4)).far (p := ⟨w.heap.size + 2, 6, none⟩) (by simp) (.string ⟨l4.toArray⟩))
    have hb6 : Below w.heap.size w (((((W5.setCell ⟨w.heap.size + 2, 0, none⟩ (.int .i64 n1)).setCell ⟨w.heap.size + 2, 1, none⟩ (.int .i64 n2)).setCell ⟨w.heap.size + 2, 2, none⟩ (.int .i64 n3)).setCell ⟨w.heap.size + 2, 3, none⟩ (.int .i64 n4)).setCell ⟨w.heap.size + 2, 6, none⟩ (.string ⟨l4.toArray⟩)) := ((((hb5.setCell (by simp) _).setCell (by simp) _).setCell (by simp) _).setCell (by simp) _).setCell (by simp) _
    have hs6 : ((((((W5.setCell ⟨w.heap.size + 2, 0, none⟩ (.int .i64 n1)).setCell ⟨w.heap.size + 2, 1, none⟩ (.int .i64 n2)).setCell ⟨w.heap.size + 2, 2, none⟩ (.int .i64 n3)).setCell ⟨w.heap.size + 2, 3, none⟩ (.int .i64 n4)).setCell ⟨w.heap.size + 2, 6, none⟩ (.string ⟨l4.toArray⟩))).heap.size = w.heap.size + 3 := by simp only [size_setCell]; exact hs5
    simp only [List.setIfInBounds_toArray, List.set_cons_succ, List.set_cons_zero] at bX6
    go_wp2
    clear x0 x1 x2 x3 x6 f0 f1 f2 f3 f6 r0 bX5 bR5 bE5 hcv X5
    generalize (((((W5.setCell ⟨w.heap.size + 2, 0, none⟩ (.int .i64 n1)).setCell ⟨w.heap.size + 2, 1, none⟩ (.int .i64 n2)).setCell ⟨w.heap.size + 2, 2, none⟩ (.int .i64 n3)).setCell ⟨w.heap.size + 2, 3, none⟩ (.int .i64 n4)).setCell ⟨w.heap.size + 2, 6, none⟩ (.string ⟨l4.toArray⟩)) = W6 at *
    have X := (hb6.cell (p := ⟨b, off, none⟩) hbl).trans hcell
    have x0 := bX6.cell 0
    have x1 := bX6.cell 1
    have x2 := bX6.cell 2
    have x3 := bX6.cell 3
    have x4 := bX6.cell 4
    have x5 := bX6.cell 5
    have x6 := bX6.cell 6
    have r1 := bR6.cell 1
    have e0 := bE6.cell 0
    have e1 := bE6.cell 1
    have e2 := bE6.cell 2
    have e3 := bE6.cell 3
    have e4 := bE6.cell 4
    have e5 := bE6.cell 5
    have e6 := bE6.cell 6
    have f0 := bE6.frozen 0
    have f1 := bE6.frozen 1
    have f2 := bE6.frozen 2
    have f3 := bE6.frozen 3
    have f4 := bE6.frozen 4
    have f5 := bE6.frozen 5
    have f6 := bE6.frozen 6
    have hlt2 : w.heap.size + 2 < W6.heap.size := by omega
    have hlt0 : w.heap.size < W6.heap.size := by omega
    have hltb : b < W6.heap.size := by omega
    rcases HCH.out with ⟨rfl, hno⟩ | ⟨rfl, a, b', c', d, rfl, rfl, rfl, rfl, p1, p2, p3, p4⟩
    · have HNO := Lib.hid hno
      clear hno
      go_region
      go_wp2
      have B7 := (((((((bE6.set_ 0 (.int .i64 n1)).set_ 1 (.int .i64 n2)).set_ 2 (.int .i64 n3)).set_ 3 (.int .i64 n4)).set_ 4 (.int .i64 ((k.toNat : Int) % 16))).set_ 5 (.bool T)).set_ 6 (.string ⟨l4.toArray⟩))
      have L7 := (((((((hb6.setCell (p := ⟨w.heap.size, 0, none⟩) (Nat.le_refl _) (.int .i64 n1)).setCell (p := ⟨w.heap.size, 1, none⟩) (Nat.le_refl _) (.int .i64 n2)).setCell (p := ⟨w.heap.size, 2, none⟩) (Nat.le_refl _) (.int .i64 n3)).setCell (p := ⟨w.heap.size, 3, none⟩) (Nat.le_refl _) (.int .i64 n4)).setCell (p := ⟨w.heap.size, 4, none⟩) (Nat.le_refl _) (.int .i64 ((k.toNat : Int) % 16))).setCell (p := ⟨w.heap.size, 5, none⟩) (Nat.le_refl _) (.bool T)).setCell (p := ⟨w.heap.size, 6, none⟩) (Nat.le_refl _) (.string ⟨l4.toArray⟩))
      simp only [List.setIfInBounds_toArray, List.set_cons_succ, List.set_cons_zero] at B7
      have y0 := B7.cell 0
      have y1 := B7.cell 1
      have y2 := B7.cell 2
      have y3 := B7.cell 3
      have y4 := B7.cell 4
      have y5 := B7.cell 5
      have y6 := B7.cell 6
      exact bodyPost_ret (v := .tuple #[entV ⟨n1, n2, n3, n4, (k.toNat : Int) % 16, T, ⟨l4.toArray⟩⟩, .bool false]) (by simp [results, Try.results76, go_sem, entV, y0, y1, y2, y3, y4, y5, y6]) rfl ⟨⟨n1, n2, n3, n4, (k.toNat : Int) % 16, T, ⟨l4.toArray⟩⟩, false, rfl, fun e => by simp at e, fun _ => HNO.out k, L7.drew⟩
    · have HP := Lib.hid (And.intro p1 (And.intro p2 (And.intro p3 p4)))
      clear p1 p2 p3 p4
      by_cases h32 : 32 ≤ k.toNat
      · have d32 : decide ((k.toNat : Int) < 32) = false := decide_eq_false (by omega)
        go_region
        go_wp2
        have B7 := (((((((bE6.set_ 0 (.int .i64 (a : Int))).set_ 1 (.int .i64 (b' : Int))).set_ 2 (.int .i64 (c' : Int))).set_ 3 (.int .i64 (d : Int))).set_ 4 (.int .i64 ((k.toNat : Int) % 16))).set_ 5 (.bool T)).set_ 6 (.string ⟨l4.toArray⟩))
        have L7 := (((((((hb6.setCell (p := ⟨w.heap.size, 0, none⟩) (Nat.le_refl _) (.int .i64 (a : Int))).setCell (p := ⟨w.heap.size, 1, none⟩) (Nat.le_refl _) (.int .i64 (b' : Int))).setCell (p := ⟨w.heap.size, 2, none⟩) (Nat.le_refl _) (.int .i64 (c' : Int))).setCell (p := ⟨w.heap.size, 3, none⟩) (Nat.le_refl _) (.int .i64 (d : Int))).setCell (p := ⟨w.heap.size, 4, none⟩) (Nat.le_refl _) (.int .i64 ((k.toNat : Int) % 16))).setCell (p := ⟨w.heap.size, 5, none⟩) (Nat.le_refl _) (.bool T)).setCell (p := ⟨w.heap.size, 6, none⟩) (Nat.le_refl _) (.string ⟨l4.toArray⟩))
        simp only [List.setIfInBounds_toArray, List.set_cons_succ, List.set_cons_zero] at B7
        have y0 := B7.cell 0
        have y1 := B7.cell 1
        have y2 := B7.cell 2
        have y3 := B7.cell 3
        have y4 := B7.cell 4
        have y5 := B7.cell 5
        have y6 := B7.cell 6
        exact bodyPost_ret (v := .tuple #[entV ⟨(a : Int), (b' : Int), (c' : Int), (d : Int), (k.toNat : Int) % 16, T, ⟨l4.toArray⟩⟩, .bool false]) (by simp [results, Try.results76, go_sem, entV, y0, y1, y2, y3, y4, y5, y6]) rfl ⟨⟨(a : Int), (b' : Int), (c' : Int), (d : Int), (k.toNat : Int) % 16, T, ⟨l4.toArray⟩⟩, false, rfl, fun e => by simp at e, fun _ => entP_big h32, L7.drew⟩
      · have d32 : decide ((k.toNat : Int) < 32) = true := decide_eq_true (by omega)
        obtain rfl : decide (k.toNat / 16 = 1) = T := (and16 k (by omega)).symm.trans HT.out
        have hval := entP_val h32 HP.out.1 HP.out.2.1 HP.out.2.2.1 HP.out.2.2.2
        have HV := Lib.hid hval
        clear hval
        generalize hF : entryFault (a : Int) (b' : Int) (c' : Int) (d : Int) ((k.toNat : Int) % 16) (decide (k.toNat / 16 = 1)) (⟨l4.toArray⟩ : ByteArray).size = F at *
        have HF := Lib.hid hF
        clear hF
        generalize hTT : decide (k.toNat / 16 = 1) = T at *
        have HTT := Lib.hid hTT
        clear hTT
        have hq1 : (F == 0) = true → entP (k :: r) = some ⟨(a : Int), (b' : Int), (c' : Int), (d : Int), (k.toNat : Int) % 16, T, ⟨l4.toArray⟩⟩ := fun e => by rw [HV.out]; exact if_pos (by simpa using e)
        have hq2 : (F == 0) = false → entP (k :: r) = none := fun e => by rw [HV.out]; exact if_neg (by simpa using e)
        have HQ1 := Lib.hid hq1
        have HQ2 := Lib.hid hq2
        clear hq1 hq2
        have hsz4 : (⟨l4.toArray⟩ : ByteArray).size = l4.length := by simp [ByteArray.size]
        have HF2 := Lib.hid (hsz4 ▸ HF.out)
        clear hsz4
        go_region_with ((go_at_call 95; refine (wireCheck_any _ _ _ _ _ _ _ _).mono ?_; rintro e W7 ⟨rfl, hb7⟩; have hb67 := below_then ((Below.refl W6.heap.size W6).drew) hb7; have bX7 := bX6.below hb67 hlt2; have bE7 := bE6.below hb67 hlt0; have z0 := bX7.cell 0; have z1 := bX7.cell 1; have z2 := bX7.cell 2; have z3 := bX7.cell 3; have z4 := bX7.cell 4; have z5 := bX7.cell 5; have z6 := bX7.cell 6; have g0 := bE7.cell 0; have g1 := bE7.cell 1; have g2 := bE7.cell 2; have g3 := bE7.cell 3; have g4 := bE7.cell 4; have g5 := bE7.cell 5; have g6 := bE7.cell 6; have k0 := bE7.frozen 0; have k1 := bE7.frozen 1; have k2 := bE7.frozen 2; have k3 := bE7.frozen 3; have k4 := bE7.frozen 4; have k5 := bE7.frozen 5; have k6 := bE7.frozen 6; have hb07 := hb6.trans (hb67.mono hb6.size)))
        all_goals go_wp2
        all_goals (
          have B7 := (((((((bE7.set_ 0 (.int .i64 (a : Int))).set_ 1 (.int .i64 (b' : Int))).set_ 2 (.int .i64 (c' : Int))).set_ 3 (.int .i64 (d : Int))).set_ 4 (.int .i64 ((k.toNat : Int) % 16))).set_ 5 (.bool T)).set_ 6 (.string ⟨l4.toArray⟩))
          have L7 := (((((((hb07.setCell (p := ⟨w.heap.size, 0, none⟩) (Nat.le_refl _) (.int .i64 (a : Int))).setCell (p := ⟨w.heap.size, 1, none⟩) (Nat.le_refl _) (.int .i64 (b' : Int))).setCell (p := ⟨w.heap.size, 2, none⟩) (Nat.le_refl _) (.int .i64 (c' : Int))).setCell (p := ⟨w.heap.size, 3, none⟩) (Nat.le_refl _) (.int .i64 (d : Int))).setCell (p := ⟨w.heap.size, 4, none⟩) (Nat.le_refl _) (.int .i64 ((k.toNat : Int) % 16))).setCell (p := ⟨w.heap.size, 5, none⟩) (Nat.le_refl _) (.bool T)).setCell (p := ⟨w.heap.size, 6, none⟩) (Nat.le_refl _) (.string ⟨l4.toArray⟩))
          simp only [List.setIfInBounds_toArray, List.set_cons_succ, List.set_cons_zero] at B7
          have y0 := B7.cell 0
          have y1 := B7.cell 1
          have y2 := B7.cell 2
          have y3 := B7.cell 3
          have y4 := B7.cell 4
          have y5 := B7.cell 5
          have y6 := B7.cell 6
          exact bodyPost_ret (v := .tuple #[entV ⟨(a : Int), (b' : Int), (c' : Int), (d : Int), (k.toNat : Int) % 16, T, ⟨l4.toArray⟩⟩, .bool (F == 0)]) (by simp [results, Try.results76, go_sem, entV, y0, y1, y2, y3, y4, y5, y6, HF2.out]) rfl ⟨⟨(a : Int), (b' : Int), (c' : Int), (d : Int), (k.toNat : Int) % 16, T, ⟨l4.toArray⟩⟩, (F == 0), rfl, HQ1.out, HQ2.out, L7⟩)
end Go.Proofs.Ytpjjfnpdopdnkaa
namespace Go.Proofs.Ytpjjfnpdopdnkaa
open Go.RowKit

/-- the four numbers of a body as far as they are read, and where the reading stands: at the bytes l -/
def numsTo (l : List UInt8) : Nat → List Nat → List UInt8 → Prop
  | 0, ns, r => ns = [] ∧ r = l
  | k + 1, ns, r => ∃ ns' r' m, numsTo l k ns' r' ∧ numP r' = some (m, r) ∧ ns = ns' ++ [m]
theorem numsTo_len {l : List UInt8} : ∀ {k : Nat} {ns : List Nat} {r : List UInt8}, numsTo l k ns r → ns.length = k
  | 0, _, _, ⟨h, _⟩ => by subst h; rfl
  | k + 1, _, _, ⟨ns', r', m, h, _, e⟩ => by subst e; simp [numsTo_len h]
theorem numsTo_none {l r : List UInt8} {k : Nat} {ns : List Nat} (h : numsTo l k ns r) (hk : k < 4) (hn : numP r = none) (c : UInt8) : entP (c :: l) = none := by
  match k, hk with
  | 0, _ =>
    obtain ⟨_, rfl⟩ := h
    simp [entP, hn]
  | 1, _ =>
    obtain ⟨_, _, m0, ⟨_, rfl⟩, p0, _⟩ := h
    simp [entP, p0, hn]
  | 2, _ =>
    obtain ⟨_, _, m1, ⟨_, _, m0, ⟨_, rfl⟩, p0, _⟩, p1, _⟩ := h
    simp [entP, p0, p1, hn]
  | 3, _ =>
    obtain ⟨_, _, m2, ⟨_, _, m1, ⟨_, _, m0, ⟨_, rfl⟩, p0, _⟩, p1, _⟩, p2, _⟩ := h
    simp [entP, p0, p1, p2, hn]
theorem numsTo_four {l r : List UInt8} {ns : List Nat} (h : numsTo l 4 ns r) : ∃ a b c d l1 l2 l3, ns = [a, b, c, d] ∧ numP l = some (a, l1) ∧ numP l1 = some (b, l2) ∧ numP l2 = some (c, l3) ∧ numP l3 = some (d, r) := by
  obtain ⟨_, l3, d, ⟨_, l2, c, ⟨_, l1, b, ⟨_, _, a, ⟨rfl, rfl⟩, p0, rfl⟩, p1, rfl⟩, p2, rfl⟩, p3, rfl⟩ := h
  exact ⟨a, b, c, d, l1, l2, l3, rfl, p0, p1, p2, p3⟩
theorem By.drop_ {w : World} {b off c i : Nat} {l : List UInt8} (h : By w (.slice (some ⟨b, off, none⟩) l.length c) l) (hi : i ≤ l.length) : By w (.slice (some ⟨b, off + i, none⟩) (l.drop i).length (c - i)) (l.drop i) := by
  obtain ⟨h1, A, c', hv, hc, h2⟩ := h
  injection hv with hA _ hcc
  subst hA hcc
  refine ⟨by simp [bvs], _, _, rfl, by rw [List.length_drop]; omega, fun hn => ?_⟩
  obtain ⟨b', off', hA, hb, hcell⟩ := h2 (by rw [List.length_drop] at hn; omega)
  injection hA with hA
  injection hA with hA1 hA2
  subst hA1 hA2
  refine ⟨b, off + i, rfl, hb, fun j x hx => ?_⟩
  rw [Nat.add_assoc]
  refine hcell (i + j) x ?_
  rw [← hx]
  simp [bvs, List.getElem?_drop]
theorem By.take_ {w : World} {A : Option Addr} {c n : Nat} {l : List UInt8} (h : By w (.slice A l.length c) l) (hn : n ≤ l.length) : By w (.slice A (l.take n).length c) (l.take n) := by
  obtain ⟨h1, A', c', hv, hc, h2⟩ := h
  injection hv with hA _ hcc
  subst hA hcc
  refine ⟨by simp [bvs], _, _, rfl, by rw [List.length_take]; omega, fun h0 => ?_⟩
  obtain ⟨b, off, hA, hb, hcell⟩ := h2 (by rw [List.length_take] at h0; omega)
  refine ⟨b, off, hA, hb, fun j x hx => hcell j x ?_⟩
  simp only [bvs, List.map_take, List.getElem?_take] at hx
  split at hx
  · exact hx
  · cases hx
theorem By.keep_ {w : World} {v : Value} {l : List UInt8} {g : Nat} (h : By w v l) (hne : v.ownBlock ≠ some g) {x0 x1 x2 x3 : Value} : By ((((w.setCell ⟨g, 0, none⟩ x0).setCell ⟨g, 1, none⟩ x1).setCell ⟨g, 2, none⟩ x2).setCell ⟨g, 3, none⟩ x3) v l :=
  By.grown h (grown_set (grown_set (grown_set (grown_set (World.grownBy.refl _ _) 0 _) 1 _) 2 _) 3 _) hne
def padN (ns : List Nat) : Array Value := ((ns ++ List.replicate (4 - ns.length) 0).map fun n : Nat => Value.int .i64 (n : Int)).toArray
theorem padN_set {ns : List Nat} {m : Nat} (h : ns.length < 4) : (padN ns).setIfInBounds ns.length (.int .i64 (m : Int)) = padN (ns ++ [m]) := by
  match ns, h with
  | [], _ | [_], _ | [_, _], _ | [_, _, _], _ => rfl
theorem padN_get {ns : List Nat} (h : ns.length < 4) : (padN ns)[ns.length]? = some (.int .i64 (0 : Int)) := by
  match ns, h with
  | [], _ | [_], _ | [_, _], _ | [_, _, _], _ => rfl
theorem div16 (k : UInt8) : ((k.toNat : Int) / 16 == 1) = decide (k.toNat / 16 = 1) := by
  have h := k.toNat_lt
  generalize k.toNat = n at *
  by_cases hn : n / 16 = 1
  · rw [decide_eq_true hn, beq_iff_eq]; omega
  · rw [decide_eq_false hn, beq_eq_false_iff_ne]; omega
/-- the loop of entryIn: the blocks of the result, of the entry and of the numbers -/
def NumsAt (w : World) (r : List UInt8) (n : Nat) (k : UInt8) (T : Bool) (a i : Value) (wr : World) : Prop :=
  ∃ (j at_ : Nat) (ns : List Nat) (rr : List UInt8), j ≤ 4 ∧ i = .int .i64 j ∧ a = .int .i64 at_ ∧ at_ ≤ n ∧ Hid ((k :: r).drop at_ = rr) ∧ Hid (numsTo r j ns rr) ∧ Blk wr w.heap.size 55 #[.int .i64 0, .int .i64 0, .int .i64 0, .int .i64 0, .int .i64 0, .bool false, .string ⟨#[]⟩] ∧ Blk wr (w.heap.size + 1) 55 #[.int .i64 0, .int .i64 0, .int .i64 0, .int .i64 0, .int .i64 ((k.toNat : Int) % 16), .bool T, .string ⟨#[]⟩] ∧
    Blk wr (w.heap.size + 2) 3 (padN ns) ∧ Below w.heap.size w wr

set_option maxRecDepth 100000 in
set_option maxHeartbeats 4000000 in
theorem entryIn_any (v : Value) (k : UInt8) (r : List UInt8) (w : World) (hv : By w v (k :: r)) (hl : r.length ≤ 65535) :
    Calls Try.prog 77 #[v] w (BodyPost (k :: r) w) := by
  obtain ⟨b, off, c, u', r', rfl, hc, hur, hbl, hcell, -⟩ := byte_cons hv (by simp)
  injection hur with hu' hr'
  subst hu' hr'
  have hvB := Lib.hid hv
  clear hv
  simp only [List.length_cons] at hc
  have hk256 := k.toNat_lt
  go_enter Try.func77, Try.ntmps77
  go_wp2
  have bE := Blk.new w 55 #[.int .i64 0, .int .i64 0, .int .i64 0, .int .i64 0, .int .i64 0, .bool false, .string ⟨#[]⟩]
  have hbw : Below w.heap.size w (w.alloc (.cells #[.int .i64 0, .int .i64 0, .int .i64 0, .int .i64 0, .int .i64 0, .bool false, .string ⟨#[]⟩] 55)) := (Below.refl _ _).alloc (Nat.le_refl _) _
  have hsz : (w.alloc (.cells #[.int .i64 0, .int .i64 0, .int .i64 0, .int .i64 0, .int .i64 0, .bool false, .string ⟨#[]⟩] 55)).heap.size = w.heap.size + 1 := by simp
  change Code.wp _ _ _ _ (w.alloc (.cells #[.int .i64 0, .int .i64 0, .int .i64 0, .int .i64 0, .int .i64 0, .bool false, .string ⟨#[]⟩] 55))
  generalize (w.alloc (.cells #[.int .i64 0, .int .i64 0, .int .i64 0, .int .i64 0, .int .i64 0, .bool false, .string ⟨#[]⟩] 55)) = W0 at *
  have X := (hbw.cell (p := ⟨b, off, none⟩) hbl).trans hcell
  have hlt : b < W0.heap.size := by omega
  have X2 : (W0.alloc (.cells #[.int .i64 0, .int .i64 0, .int .i64 0, .int .i64 0, .int .i64 0, .bool false, .string ⟨#[]⟩] 55)).cell? ⟨b, off, none⟩ = some (.int .u8 k.toNat) := (World.cell?_alloc_lt W0 _ _ hlt).trans X
  go_region
  have bX : Blk (W0.alloc (.cells #[.int .i64 0, .int .i64 0, .int .i64 0, .int .i64 0, .int .i64 ((k.toNat : Int) % 16), .bool ((k.toNat : Int) / 16 == 1), .string ⟨#[]⟩] 55)).drew (w.heap.size + 1) 55 #[.int .i64 0, .int .i64 0, .int .i64 0, .int .i64 0, .int .i64 ((k.toNat : Int) % 16), .bool ((k.toNat : Int) / 16 == 1), .string ⟨#[]⟩] := by rw [← hsz]; exact Blk.new W0 _ _
  have bE1 : Blk (W0.alloc (.cells #[.int .i64 0, .int .i64 0, .int .i64 0, .int .i64 0, .int .i64 ((k.toNat : Int) % 16), .bool ((k.toNat : Int) / 16 == 1), .string ⟨#[]⟩] 55)).drew w.heap.size 55 #[.int .i64 0, .int .i64 0, .int .i64 0, .int .i64 0, .int .i64 0, .bool false, .string ⟨#[]⟩] := bE.alloc _
  have hb1 : Below w.heap.size w (W0.alloc (.cells #[.int .i64 0, .int .i64 0, .int .i64 0, .int .i64 0, .int .i64 ((k.toNat : Int) % 16), .bool ((k.toNat : Int) / 16 == 1), .string ⟨#[]⟩] 55)).drew := (hbw.alloc (by omega) _).drew
  have hs1 : (W0.alloc (.cells #[.int .i64 0, .int .i64 0, .int .i64 0, .int .i64 0, .int .i64 ((k.toNat : Int) % 16), .bool ((k.toNat : Int) / 16 == 1), .string ⟨#[]⟩] 55)).drew.heap.size = w.heap.size + 2 := by simp [hsz]
  generalize (W0.alloc (.cells #[.int .i64 0, .int .i64 0, .int .i64 0, .int .i64 0, .int .i64 ((k.toNat : Int) % 16), .bool ((k.toNat : Int) / 16 == 1), .string ⟨#[]⟩] 55)).drew = W1 at *
  have hdv := div16 k
  generalize hT : ((k.toNat : Int) / 16 == 1) = T at *
  have HDV := Lib.hid hdv
  clear hT X X2 hlt bE hbw hsz hdv
  have X := (hb1.cell (p := ⟨b, off, none⟩) hbl).trans hcell
  have x0 := bX.cell 0
  have x1 := bX.cell 1
  have x2 := bX.cell 2
  have x3 := bX.cell 3
  have x4 := bX.cell 4
  have x5 := bX.cell 5
  have x6 := bX.cell 6
  have e0 := bE1.cell 0
  have e1 := bE1.cell 1
  have e2 := bE1.cell 2
  have e3 := bE1.cell 3
  have e4 := bE1.cell 4
  have e5 := bE1.cell 5
  have e6 := bE1.cell 6
  have f0 := bE1.frozen 0
  have f1 := bE1.frozen 1
  have f2 := bE1.frozen 2
  have f3 := bE1.frozen 3
  have f4 := bE1.frozen 4
  have f5 := bE1.frozen 5
  have f6 := bE1.frozen 6
  have hlt0 : w.heap.size < W1.heap.size := by omega
  have hlt1 : w.heap.size + 1 < W1.heap.size := by omega
  by_cases h32 : 32 ≤ k.toNat
  · have d32 : decide ((32 : Int) ≤ (k.toNat : Int)) = true := decide_eq_true (by omega)
    go_wp2
    have B7 := (((((((bE1.set_ 0 (.int .i64 (0 : Int))).set_ 1 (.int .i64 (0 : Int))).set_ 2 (.int .i64 (0 : Int))).set_ 3 (.int .i64 (0 : Int))).set_ 4 (.int .i64 ((k.toNat : Int) % 16))).set_ 5 (.bool T)).set_ 6 (.string ⟨#[]⟩))
    have L7 := (((((((hb1.setCell (p := ⟨w.heap.size, 0, none⟩) (Nat.le_refl _) (.int .i64 (0 : Int))).setCell (p := ⟨w.heap.size, 1, none⟩) (Nat.le_refl _) (.int .i64 (0 : Int))).setCell (p := ⟨w.heap.size, 2, none⟩) (Nat.le_refl _) (.int .i64 (0 : Int))).setCell (p := ⟨w.heap.size, 3, none⟩) (Nat.le_refl _) (.int .i64 (0 : Int))).setCell (p := ⟨w.heap.size, 4, none⟩) (Nat.le_refl _) (.int .i64 ((k.toNat : Int) % 16))).setCell (p := ⟨w.heap.size, 5, none⟩) (Nat.le_refl _) (.bool T)).setCell (p := ⟨w.heap.size, 6, none⟩) (Nat.le_refl _) (.string ⟨#[]⟩))
    simp only [List.setIfInBounds_toArray, List.set_cons_succ, List.set_cons_zero] at B7
    have y0 := B7.cell 0
    have y1 := B7.cell 1
    have y2 := B7.cell 2
    have y3 := B7.cell 3
    have y4 := B7.cell 4
    have y5 := B7.cell 5
    have y6 := B7.cell 6
    exact bodyPost_ret (v := .tuple #[entV ⟨(0 : Int), (0 : Int), (0 : Int), (0 : Int), ((k.toNat : Int) % 16), T, ⟨#[]⟩⟩, .bool false]) (by simp [results, Try.results77, go_sem, entV, y0, y1, y2, y3, y4, y5, y6]) rfl ⟨⟨(0 : Int), (0 : Int), (0 : Int), (0 : Int), ((k.toNat : Int) % 16), T, ⟨#[]⟩⟩, false, rfl, fun e => by simp at e, fun _ => entP_big h32, L7⟩
  · have d32 : decide ((32 : Int) ≤ (k.toNat : Int)) = false := decide_eq_false (by omega)
    have bX2 := bX.alloc (.cells #[.int .i64 0, .int .i64 0, .int .i64 0, .int .i64 0] 3)
    have bE2 := bE1.alloc (.cells #[.int .i64 0, .int .i64 0, .int .i64 0, .int .i64 0] 3)
    have bN2 : Blk (W1.alloc (.cells #[.int .i64 0, .int .i64 0, .int .i64 0, .int .i64 0] 3)) (w.heap.size + 2) 3 (padN []) := by rw [← hs1]; exact Blk.new W1 _ _
    have hb2 : Below w.heap.size w (W1.alloc (.cells #[.int .i64 0, .int .i64 0, .int .i64 0, .int .i64 0] 3)) := hb1.alloc (by omega) _
    have hmk : ∀ w, (Instr.makeSlice 23 (.int .i64 4) (.int .i64 4)).run Try.prog w = .ok (.slice (some ⟨w.heap.size, 0, none⟩) 4 4) (w.alloc (.cells #[.int .i64 0, .int .i64 0, .int .i64 0, .int .i64 0] 3)) := fun _ => by kernel_rfl
    clear bX bE1 hb1
    go_wp2
    generalize (W1.alloc (.cells #[.int .i64 0, .int .i64 0, .int .i64 0, .int .i64 0] 3)) = W2 at *
    go_loopw [5, 7] (fun a i wr => NumsAt w r (r.length + 1) k T a i wr) (fun _ i _ => 4 - (intOf i).toNat)
    case atStart => exact ⟨0, 1, [], r, by omega, rfl, rfl, by omega, rfl, ⟨rfl, rfl⟩, bE2, bX2, bN2, hb2⟩
    case round =>
      obtain ⟨j, at_, ns, rr, hj, rfl, rfl, hat, hdr, hns, cE, cX, cN, hbl'⟩ := hrel
      clear bX2 bE2 bN2 hb2 X
      clear x0 e0 f0 x1 e1 f1 x2 e2 f2 x3 e3 f3 x4 e4 f4 x5 e5 f5 x6 e6 f6
      have hnl := numsTo_len hns.out
      have hvw := hvB.out.below hbl'
      have x0 := cX.cell 0
      have x1 := cX.cell 1
      have x2 := cX.cell 2
      have x3 := cX.cell 3
      have x4 := cX.cell 4
      have x5 := cX.cell 5
      have x6 := cX.cell 6
      have e0 := cE.cell 0
      have e1 := cE.cell 1
      have e2 := cE.cell 2
      have e3 := cE.cell 3
      have e4 := cE.cell 4
      have e5 := cE.cell 5
      have e6 := cE.cell 6
      have f0 := cE.frozen 0
      have f1 := cE.frozen 1
      have f2 := cE.frozen 2
      have f3 := cE.frozen 3
      have f4 := cE.frozen 4
      have f5 := cE.frozen 5
      have f6 := cE.frozen 6
      have g0 := cX.frozen 0
      have g1 := cX.frozen 1
      have g2 := cX.frozen 2
      have g3 := cX.frozen 3
      have g4 := cX.frozen 4
      have g5 := cX.frozen 5
      have g6 := cX.frozen 6
      by_cases hlt : j < 4
      · have q1 := cN.cell j
        have q2 := cN.frozen j
        have q3 := padN_get (ns := ns) (by omega)
        rw [hnl] at q3
        rw [q3] at q1
        clear q3
        rcases hn : numP rr with _ | ⟨m, r'⟩
        · have hres : natRes (k :: r) at_ = .tuple #[.int .i64 0, .int .i64 (-1)] := by rw [natRes, hdr.out, hn]
          have HN := Lib.hid hn
          clear hn
          have cE3 := cE.far (p := ⟨w.heap.size + 2, j, none⟩) (by simp) (.int .i64 0)
          have hb3 : Below w.heap.size w (wr.setCell ⟨w.heap.size + 2, j, none⟩ (.int .i64 0)) := hbl'.setCell (by simp) _
          go_wp2_with fail
          refine (numberAt_any _ _ at_ wr hvw (by simpa using hat) (by simp; omega)).mono ?_
          rintro e W3 ⟨rfl, rfl⟩
          rw [hres]
          go_wp2
          have B7 := (((((((cE3.set_ 0 (.int .i64 (0 : Int))).set_ 1 (.int .i64 (0 : Int))).set_ 2 (.int .i64 (0 : Int))).set_ 3 (.int .i64 (0 : Int))).set_ 4 (.int .i64 ((k.toNat : Int) % 16))).set_ 5 (.bool T)).set_ 6 (.string ⟨#[]⟩))
          have L7 := (((((((hb3.setCell (p := ⟨w.heap.size, 0, none⟩) (Nat.le_refl _) (.int .i64 (0 : Int))).setCell (p := ⟨w.heap.size, 1, none⟩) (Nat.le_refl _) (.int .i64 (0 : Int))).setCell (p := ⟨w.heap.size, 2, none⟩) (Nat.le_refl _) (.int .i64 (0 : Int))).setCell (p := ⟨w.heap.size, 3, none⟩) (Nat.le_refl _) (.int .i64 (0 : Int))).setCell (p := ⟨w.heap.size, 4, none⟩) (Nat.le_refl _) (.int .i64 ((k.toNat : Int) % 16))).setCell (p := ⟨w.heap.size, 5, none⟩) (Nat.le_refl _) (.bool T)).setCell (p := ⟨w.heap.size, 6, none⟩) (Nat.le_refl _) (.string ⟨#[]⟩))
          simp only [List.setIfInBounds_toArray, List.set_cons_succ, List.set_cons_zero] at B7
          have y0 := B7.cell 0
          have y1 := B7.cell 1
          have y2 := B7.cell 2
          have y3 := B7.cell 3
          have y4 := B7.cell 4
          have y5 := B7.cell 5
          have y6 := B7.cell 6
          exact bodyPost_ret (v := .tuple #[entV ⟨(0 : Int), (0 : Int), (0 : Int), (0 : Int), ((k.toNat : Int) % 16), T, ⟨#[]⟩⟩, .bool false]) (by simp [results, Try.results77, go_sem, entV, y0, y1, y2, y3, y4, y5, y6]) rfl ⟨⟨(0 : Int), (0 : Int), (0 : Int), (0 : Int), ((k.toNat : Int) % 16), T, ⟨#[]⟩⟩, false, rfl, fun e => by simp at e, fun _ => numsTo_none hns.out hlt HN.out k, L7⟩
        · have HN := Lib.hid hn
          clear hn
          have hres : natRes (k :: r) at_ = .tuple #[.int .i64 m, .int .i64 ((r.length + 1 - r'.length : Nat) : Int)] := by rw [natRes, hdr.out, HN.out]; rfl
          obtain ⟨p, hp, hp0⟩ := numGo_suffix 5 0 0 rr m r' HN.out
          have hlr : rr.length = r.length + 1 - at_ := by rw [← hdr.out, List.length_drop]; rfl
          have hlp : rr.length = p.length + r'.length := by rw [hp, List.length_append]
          have hdr2 : (k :: r).drop (r.length + 1 - r'.length) = r' := by
            have e1 : r.length + 1 - r'.length = at_ + p.length := by omega
            rw [e1, ← List.drop_drop, hdr.out, hp, List.drop_left]
          have HD2 := Lib.hid hdr2
          have HRES := Lib.hid hres
          have ha2 : r.length + 1 - r'.length ≤ r.length + 1 := by omega
          have HP := Lib.hid hp
          clear hdr2 hres hp
          generalize r.length + 1 - r'.length = at2 at *
          have cE3 := cE.far (p := ⟨w.heap.size + 2, j, none⟩) (by simp) (.int .i64 (m : Int))
          have cX3 := cX.far (p := ⟨w.heap.size + 2, j, none⟩) (by simp) (.int .i64 (m : Int))
          have hpad := padN_set (ns := ns) (m := m) (by omega)
          have cN3 := cN.set_ ns.length (.int .i64 (m : Int))
          rw [hpad, hnl] at cN3
          have hb3 : Below w.heap.size w (wr.setCell ⟨w.heap.size + 2, j, none⟩ (.int .i64 (m : Int))) := hbl'.setCell (by simp) _
          clear hpad
          go_wp2_with fail
          refine (numberAt_any _ _ at_ wr hvw (by simpa using hat) (by simp; omega)).mono ?_
          rintro e W3 ⟨rfl, rfl⟩
          rw [HRES.out]
          go_wp2
          go_light
          exact ⟨⟨j + 1, at2, ns ++ [m], r', by omega, by go_num, rfl, ha2, HD2, ⟨ns, rr, m, hns.out, HN.out, rfl⟩, cE3, cX3, cN3, hb3⟩, by simp [intOf]; omega⟩
      · obtain rfl : j = 4 := by omega
        obtain ⟨a0, a1, a2, a3, l1, l2, l3, rfl, p0, p1, p2, p3⟩ := numsTo_four hns.out
        have hval := entP_val (k := k) (r := r) (by omega) p0 p1 p2 p3
        have HV := Lib.hid hval
        clear hval p0 p1 p2 p3
        have m0 := cN.cell 0
        have m1 := cN.cell 1
        have m2 := cN.cell 2
        have m3 := cN.cell 3
        simp [padN] at m0 m1 m2 m3
        have cX6 := (((((cX.set_ 0 (.int .i64 (a0 : Int))).set_ 1 (.int .i64 (a1 : Int))).set_ 2 (.int .i64 (a2 : Int))).set_ 3 (.int .i64 (a3 : Int))).set_ 6 (.string ⟨rr.toArray⟩))
        have cE6 := (((((cE.far (p := ⟨w.heap.size + 1, 0, none⟩) (by simp) (.int .i64 (a0 : Int))).far (p := ⟨w.heap.size + 1, 1, none⟩) (by simp) (.int .i64 (a1 : Int))).far (p := ⟨w.heap.size + 1, 2, none⟩) (by simp) (.int .i64 (a2 : Int))).far (p := ⟨w.heap.size + 1, 3, none⟩) (by simp) (.int .i64 (a3 : Int))).far (p := ⟨w.heap.size + 1, 6, none⟩) (by simp) (.string ⟨rr.toArray⟩))
        have hb6 : Below w.heap.size w (((((wr.setCell ⟨w.heap.size + 1, 0, none⟩ (.int .i64 (a0 : Int))).setCell ⟨w.heap.size + 1, 1, none⟩ (.int .i64 (a1 : Int))).setCell ⟨w.heap.size + 1, 2, none⟩ (.int .i64 (a2 : Int))).setCell ⟨w.heap.size + 1, 3, none⟩ (.int .i64 (a3 : Int))).setCell ⟨w.heap.size + 1, 6, none⟩ (.string ⟨rr.toArray⟩)) := (((((hbl'.setCell (by simp) _).setCell (by simp) _).setCell (by simp) _).setCell (by simp) _).setCell (by simp) _)
        have hwr2 : w.heap.size + 2 < wr.heap.size := cN.lt
        have hs6 : w.heap.size + 2 < (((((wr.setCell ⟨w.heap.size + 1, 0, none⟩ (.int .i64 (a0 : Int))).setCell ⟨w.heap.size + 1, 1, none⟩ (.int .i64 (a1 : Int))).setCell ⟨w.heap.size + 1, 2, none⟩ (.int .i64 (a2 : Int))).setCell ⟨w.heap.size + 1, 3, none⟩ (.int .i64 (a3 : Int))).setCell ⟨w.heap.size + 1, 6, none⟩ (.string ⟨rr.toArray⟩)).heap.size := by simp only [size_setCell]; exact hwr2
        simp only [List.setIfInBounds_toArray, List.set_cons_succ, List.set_cons_zero] at cX6
        obtain rfl : decide (k.toNat / 16 = 1) = T := HDV.out.symm
        generalize hF : entryFault (a0 : Int) (a1 : Int) (a2 : Int) (a3 : Int) ((k.toNat : Int) % 16) (decide (k.toNat / 16 = 1)) (⟨rr.toArray⟩ : ByteArray).size = F at *
        have HF := Lib.hid hF
        clear hF
        generalize hTT : decide (k.toNat / 16 = 1) = T at *
        have HTT := Lib.hid hTT
        clear hTT
        have hq1 : (F == 0) = true → entP (k :: r) = some ⟨(a0 : Int), (a1 : Int), (a2 : Int), (a3 : Int), (k.toNat : Int) % 16, T, ⟨rr.toArray⟩⟩ := fun e => by rw [HV.out]; exact if_pos (by simpa using e)
        have hq2 : (F == 0) = false → entP (k :: r) = none := fun e => by rw [HV.out]; exact if_neg (by simpa using e)
        have HQ1 := Lib.hid hq1
        have HQ2 := Lib.hid hq2
        clear hq1 hq2
        have hsz4 : (⟨rr.toArray⟩ : ByteArray).size = rr.length := by simp [ByteArray.size]
        have HF2 := Lib.hid (hsz4 ▸ HF.out)
        clear hsz4 hvw
        by_cases hac : at_ = c
        · subst hac
          have hr0 : rr = [] := List.eq_nil_of_length_eq_zero (by rw [← hdr.out, List.length_drop]; simp only [List.length_cons]; omega)
          have HR0 := Lib.hid hr0
          clear hr0
          have hyS : By ((((wr.setCell ⟨w.heap.size + 1, 0, none⟩ (.int .i64 (a0 : Int))).setCell ⟨w.heap.size + 1, 1, none⟩ (.int .i64 (a1 : Int))).setCell ⟨w.heap.size + 1, 2, none⟩ (.int .i64 (a2 : Int))).setCell ⟨w.heap.size + 1, 3, none⟩ (.int .i64 (a3 : Int))) (.slice (some ⟨b, off, none⟩) 0 0) [] := ⟨by simp [bvs], _, _, rfl, Nat.le_refl _, fun hn => absurd hn (by simp)⟩
          have hcv := By.convert_ hyS
          rw [← HR0.out] at hcv
          have hat2 : at_ = r.length + 1 := by omega
          have HF3 := HF2
          go_wp2
          clear cX cE cN m0 m1 m2 m3 hcv hyS hdr hns x0 e0 f0 g0 x1 e1 f1 g1 x2 e2 f2 g2 x3 e3 f3 g3 x4 e4 f4 g4 x5 e5 f5 g5 x6 e6 f6 g6
          generalize (((((wr.setCell ⟨w.heap.size + 1, 0, none⟩ (.int .i64 (a0 : Int))).setCell ⟨w.heap.size + 1, 1, none⟩ (.int .i64 (a1 : Int))).setCell ⟨w.heap.size + 1, 2, none⟩ (.int .i64 (a2 : Int))).setCell ⟨w.heap.size + 1, 3, none⟩ (.int .i64 (a3 : Int))).setCell ⟨w.heap.size + 1, 6, none⟩ (.string ⟨rr.toArray⟩)) = W6 at *
          have x0 := cX6.cell 0
          have x1 := cX6.cell 1
          have x2 := cX6.cell 2
          have x3 := cX6.cell 3
          have x4 := cX6.cell 4
          have x5 := cX6.cell 5
          have x6 := cX6.cell 6
          have e0 := cE6.cell 0
          have e1 := cE6.cell 1
          have e2 := cE6.cell 2
          have e3 := cE6.cell 3
          have e4 := cE6.cell 4
          have e5 := cE6.cell 5
          have e6 := cE6.cell 6
          have f0 := cE6.frozen 0
          have f1 := cE6.frozen 1
          have f2 := cE6.frozen 2
          have f3 := cE6.frozen 3
          have f4 := cE6.frozen 4
          have f5 := cE6.frozen 5
          have f6 := cE6.frozen 6
          have hlt6 : w.heap.size + 1 < W6.heap.size := by omega
          have hlt7 : w.heap.size < W6.heap.size := by omega
          go_region_with ((go_at_call 97; refine (EntryFault_any _ _ _ _ _ _ _ _).mono ?_; rintro e W7 ⟨rfl, hb7⟩; have hb67 := below_then ((Below.refl W6.heap.size W6).drew) hb7; have bX7 := cX6.below hb67 hlt6; have bE7 := cE6.below hb67 hlt7; have z0 := bX7.cell 0; have z1 := bX7.cell 1; have z2 := bX7.cell 2; have z3 := bX7.cell 3; have z4 := bX7.cell 4; have z5 := bX7.cell 5; have z6 := bX7.cell 6; have y0 := bE7.cell 0; have y1 := bE7.cell 1; have y2 := bE7.cell 2; have y3 := bE7.cell 3; have y4 := bE7.cell 4; have y5 := bE7.cell 5; have y6 := bE7.cell 6; have k0 := bE7.frozen 0; have k1 := bE7.frozen 1; have k2 := bE7.frozen 2; have k3 := bE7.frozen 3; have k4 := bE7.frozen 4; have k5 := bE7.frozen 5; have k6 := bE7.frozen 6; have hb07 := hb6.trans (hb67.mono hb6.size)))
          all_goals go_wp2
          all_goals (
            have B7 := (((((((bE7.set_ 0 (.int .i64 (a0 : Int))).set_ 1 (.int .i64 (a1 : Int))).set_ 2 (.int .i64 (a2 : Int))).set_ 3 (.int .i64 (a3 : Int))).set_ 4 (.int .i64 ((k.toNat : Int) % 16))).set_ 5 (.bool T)).set_ 6 (.string ⟨rr.toArray⟩))
            have L7 := (((((((hb07.setCell (p := ⟨w.heap.size, 0, none⟩) (Nat.le_refl _) (.int .i64 (a0 : Int))).setCell (p := ⟨w.heap.size, 1, none⟩) (Nat.le_refl _) (.int .i64 (a1 : Int))).setCell (p := ⟨w.heap.size, 2, none⟩) (Nat.le_refl _) (.int .i64 (a2 : Int))).setCell (p := ⟨w.heap.size, 3, none⟩) (Nat.le_refl _) (.int .i64 (a3 : Int))).setCell (p := ⟨w.heap.size, 4, none⟩) (Nat.le_refl _) (.int .i64 ((k.toNat : Int) % 16))).setCell (p := ⟨w.heap.size, 5, none⟩) (Nat.le_refl _) (.bool T)).setCell (p := ⟨w.heap.size, 6, none⟩) (Nat.le_refl _) (.string ⟨rr.toArray⟩))
            simp only [List.setIfInBounds_toArray, List.set_cons_succ, List.set_cons_zero] at B7
            have y0 := B7.cell 0
            have y1 := B7.cell 1
            have y2 := B7.cell 2
            have y3 := B7.cell 3
            have y4 := B7.cell 4
            have y5 := B7.cell 5
            have y6 := B7.cell 6
            exact bodyPost_ret (v := .tuple #[entV ⟨(a0 : Int), (a1 : Int), (a2 : Int), (a3 : Int), ((k.toNat : Int) % 16), T, ⟨rr.toArray⟩⟩, .bool (F == 0)]) (by simp [results, Try.results77, go_sem, entV, y0, y1, y2, y3, y4, y5, y6, HF3.out]) rfl ⟨⟨(a0 : Int), (a1 : Int), (a2 : Int), (a3 : Int), ((k.toNat : Int) % 16), T, ⟨rr.toArray⟩⟩, (F == 0), rfl, HQ1.out, HQ2.out, L7⟩)
        · have hi1 : at_ < c := by omega
          have hlr : rr.length = (k :: r).length - at_ := by rw [← hdr.out, List.length_drop]
          have hyS : By ((((wr.setCell ⟨w.heap.size + 1, 0, none⟩ (.int .i64 (a0 : Int))).setCell ⟨w.heap.size + 1, 1, none⟩ (.int .i64 (a1 : Int))).setCell ⟨w.heap.size + 1, 2, none⟩ (.int .i64 (a2 : Int))).setCell ⟨w.heap.size + 1, 3, none⟩ (.int .i64 (a3 : Int))) (.slice (some ⟨b, off + at_, none⟩) rr.length (c - at_)) rr := by
            have h0 := By.drop_ (hvB.out.below hbl') (i := at_) hat
            rw [hdr.out] at h0
            exact By.keep_ h0 (by simp [Value.ownBlock]; omega)
          have hcv := By.convert_ hyS
          have hlt' : at_ < c := by omega
          have hi2 : (at_ : Int) ≤ (r.length : Int) + 1 := by omega
          have hl2 : rr.length = r.length + 1 - at_ := by rw [hlr]; rfl
          rw [hl2] at hcv
          have hf3 := HF2.out
          rw [hl2] at hf3
          have HF3 := Lib.hid hf3
          clear hf3 hl2 HF2
          go_wp2
          clear cX cE cN m0 m1 m2 m3 hcv hyS hdr hns x0 e0 f0 g0 x1 e1 f1 g1 x2 e2 f2 g2 x3 e3 f3 g3 x4 e4 f4 g4 x5 e5 f5 g5 x6 e6 f6 g6
          generalize (((((wr.setCell ⟨w.heap.size + 1, 0, none⟩ (.int .i64 (a0 : Int))).setCell ⟨w.heap.size + 1, 1, none⟩ (.int .i64 (a1 : Int))).setCell ⟨w.heap.size + 1, 2, none⟩ (.int .i64 (a2 : Int))).setCell ⟨w.heap.size + 1, 3, none⟩ (.int .i64 (a3 : Int))).setCell ⟨w.heap.size + 1, 6, none⟩ (.string ⟨rr.toArray⟩)) = W6 at *
          have x0 := cX6.cell 0
          have x1 := cX6.cell 1
          have x2 := cX6.cell 2
          have x3 := cX6.cell 3
          have x4 := cX6.cell 4
          have x5 := cX6.cell 5
          have x6 := cX6.cell 6
          have e0 := cE6.cell 0
          have e1 := cE6.cell 1
          have e2 := cE6.cell 2
          have e3 := cE6.cell 3
          have e4 := cE6.cell 4
          have e5 := cE6.cell 5
          have e6 := cE6.cell 6
          have f0 := cE6.frozen 0
          have f1 := cE6.frozen 1
          have f2 := cE6.frozen 2
          have f3 := cE6.frozen 3
          have f4 := cE6.frozen 4
          have f5 := cE6.frozen 5
          have f6 := cE6.frozen 6
          have hlt6 : w.heap.size + 1 < W6.heap.size := by omega
          have hlt7 : w.heap.size < W6.heap.size := by omega
          go_region_with ((go_at_call 97; refine (EntryFault_any _ _ _ _ _ _ _ _).mono ?_; rintro e W7 ⟨rfl, hb7⟩; have hb67 := below_then ((Below.refl W6.heap.size W6).drew) hb7; have bX7 := cX6.below hb67 hlt6; have bE7 := cE6.below hb67 hlt7; have z0 := bX7.cell 0; have z1 := bX7.cell 1; have z2 := bX7.cell 2; have z3 := bX7.cell 3; have z4 := bX7.cell 4; have z5 := bX7.cell 5; have z6 := bX7.cell 6; have y0 := bE7.cell 0; have y1 := bE7.cell 1; have y2 := bE7.cell 2; have y3 := bE7.cell 3; have y4 := bE7.cell 4; have y5 := bE7.cell 5; have y6 := bE7.cell 6; have k0 := bE7.frozen 0; have k1 := bE7.frozen 1; have k2 := bE7.frozen 2; have k3 := bE7.frozen 3; have k4 := bE7.frozen 4; have k5 := bE7.frozen 5; have k6 := bE7.frozen 6; have hb07 := hb6.trans (hb67.mono hb6.size)))
          all_goals go_wp2
          all_goals (
            have B7 := (((((((bE7.set_ 0 (.int .i64 (a0 : Int))).set_ 1 (.int .i64 (a1 : Int))).set_ 2 (.int .i64 (a2 : Int))).set_ 3 (.int .i64 (a3 : Int))).set_ 4 (.int .i64 ((k.toNat : Int) % 16))).set_ 5 (.bool T)).set_ 6 (.string ⟨rr.toArray⟩))
            have L7 := (((((((hb07.setCell (p := ⟨w.heap.size, 0, none⟩) (Nat.le_refl _) (.int .i64 (a0 : Int))).setCell (p := ⟨w.heap.size, 1, none⟩) (Nat.le_refl _) (.int .i64 (a1 : Int))).setCell (p := ⟨w.heap.size, 2, none⟩) (Nat.le_refl _) (.int .i64 (a2 : Int))).setCell (p := ⟨w.heap.size, 3, none⟩) (Nat.le_refl _) (.int .i64 (a3 : Int))).setCell (p := ⟨w.heap.size, 4, none⟩) (Nat.le_refl _) (.int .i64 ((k.toNat : Int) % 16))).setCell (p := ⟨w.heap.size, 5, none⟩) (Nat.le_refl _) (.bool T)).setCell (p := ⟨w.heap.size, 6, none⟩) (Nat.le_refl _) (.string ⟨rr.toArray⟩))
            simp only [List.setIfInBounds_toArray, List.set_cons_succ, List.set_cons_zero] at B7
            have y0 := B7.cell 0
            have y1 := B7.cell 1
            have y2 := B7.cell 2
            have y3 := B7.cell 3
            have y4 := B7.cell 4
            have y5 := B7.cell 5
            have y6 := B7.cell 6
            exact bodyPost_ret (v := .tuple #[entV ⟨(a0 : Int), (a1 : Int), (a2 : Int), (a3 : Int), ((k.toNat : Int) % 16), T, ⟨rr.toArray⟩⟩, .bool (F == 0)]) (by simp [results, Try.results77, go_sem, entV, y0, y1, y2, y3, y4, y5, y6, HF3.out]) rfl ⟨⟨(a0 : Int), (a1 : Int), (a2 : Int), (a3 : Int), ((k.toNat : Int) % 16), T, ⟨rr.toArray⟩⟩, (F == 0), rfl, HQ1.out, HQ2.out, L7⟩)
end Go.Proofs.Ytpjjfnpdopdnkaa
namespace Go.Proofs.Ytpjjfnpdopdnkaa
open Go.RowKit

section
variable {l : List UInt8} {i : Nat}
theorem dec_at_end (h : l.length ≤ i) : dec (l.drop i) = ([], 0) := by rw [List.drop_of_length_le h]; rfl
theorem dec_at_bad (h : i < l.length) (hb : l[i].toNat = 0 ∨ l.length < i + l[i].toNat + 3) : dec (l.drop i) = ([], 0) := by
  rw [List.drop_eq_getElem_cons h]
  refine dec_bad ?_
  rw [List.length_drop]
  omega
theorem getD_drop (j n : Nat) (h : j + n < l.length) : (l.drop j).getD n 0 = l[j + n] := by
  simp [List.getD, List.getElem?_drop, List.getElem?_eq_getElem h]
theorem dec_at_sum (h : i < l.length) (hg : ¬ (l[i].toNat = 0 ∨ l.length < i + l[i].toNat + 3)) (hs : wsum ((l.drop (i + 1)).take l[i].toNat) l[i].toNat % 65521 ≠ (l[i + l[i].toNat + 1]'(by omega)).toNat * 256 + (l[i + l[i].toNat + 2]'(by omega)).toNat) : dec (l.drop i) = ([], 0) := by
  have hi : i < l.length := h
  rw [List.drop_eq_getElem_cons h]
  refine dec_sum ?_ ?_
  · rw [List.length_drop]; omega
  · rw [getD_drop (i + 1) _ (by omega), getD_drop (i + 1) _ (by omega)]
    have e1 : l[i + 1 + l[i].toNat]'(by omega) = l[i + l[i].toNat + 1]'(by omega) := by congr 1; omega
    have e2 : l[i + 1 + (l[i].toNat + 1)]'(by omega) = l[i + l[i].toNat + 2]'(by omega) := by congr 1; omega
    rw [e1, e2]
    exact hs
theorem dec_at_body (h : i < l.length) (hg : ¬ (l[i].toNat = 0 ∨ l.length < i + l[i].toNat + 3)) (he : entP ((l.drop (i + 1)).take l[i].toNat) = none) : dec (l.drop i) = ([], 0) := by
  rw [List.drop_eq_getElem_cons h]
  refine dec_body ?_ he
  rw [List.length_drop]; omega
theorem dec_at_step {e : Ent} (h : i < l.length) (hg : ¬ (l[i].toNat = 0 ∨ l.length < i + l[i].toNat + 3)) (hs : wsum ((l.drop (i + 1)).take l[i].toNat) l[i].toNat % 65521 = (l[i + l[i].toNat + 1]'(by omega)).toNat * 256 + (l[i + l[i].toNat + 2]'(by omega)).toNat)
    (he : entP ((l.drop (i + 1)).take l[i].toNat) = some e) : dec (l.drop i) = (e :: (dec (l.drop (i + l[i].toNat + 3))).1, l[i].toNat + 3 + (dec (l.drop (i + l[i].toNat + 3))).2) := by
  have e0 : l.drop (i + l[i].toNat + 3) = (l.drop (i + 1)).drop (l[i].toNat + 2) := by rw [List.drop_drop]; congr 1; omega
  rw [e0]
  conv => lhs; rw [List.drop_eq_getElem_cons h]
  refine dec_step ?_ ?_ he
  · rw [List.length_drop]; omega
  · rw [getD_drop (i + 1) _ (by omega), getD_drop (i + 1) _ (by omega)]
    have e1 : l[i + 1 + l[i].toNat]'(by omega) = l[i + l[i].toNat + 1]'(by omega) := by congr 1; omega
    have e2 : l[i + 1 + (l[i].toNat + 1)]'(by omega) = l[i + l[i].toNat + 2]'(by omega) := by congr 1; omega
    rw [e1, e2]
    exact hs
theorem dec_at (h : i < l.length) : ∃ n, l[i].toNat = n ∧ n < 256 ∧ ((n = 0 ∨ l.length < i + n + 3) → dec (l.drop i) = ([], 0)) ∧
    (¬ (n = 0 ∨ l.length < i + n + 3) → ∃ q1 q2, q1 < 256 ∧ q2 < 256 ∧ (∃ h1 : i + n + 1 < l.length, l[i + n + 1].toNat = q1) ∧ (∃ h2 : i + n + 2 < l.length, l[i + n + 2].toNat = q2) ∧
      (wsum ((l.drop (i + 1)).take n) n % 65521 ≠ q1 * 256 + q2 → dec (l.drop i) = ([], 0)) ∧ (entP ((l.drop (i + 1)).take n) = none → dec (l.drop i) = ([], 0)) ∧
      ∀ e, wsum ((l.drop (i + 1)).take n) n % 65521 = q1 * 256 + q2 → entP ((l.drop (i + 1)).take n) = some e → dec (l.drop i) = (e :: (dec (l.drop (i + n + 3))).1, n + 3 + (dec (l.drop (i + n + 3))).2)) :=
  ⟨_, rfl, (l[i]).toNat_lt, dec_at_bad h, fun hg => ⟨_, _, (l[i + l[i].toNat + 1]'(by omega)).toNat_lt, (l[i + l[i].toNat + 2]'(by omega)).toNat_lt, ⟨by omega, rfl⟩, ⟨by omega, rfl⟩, dec_at_sum h hg, dec_at_body h hg, fun _ => dec_at_step h hg⟩⟩
end

def DecPost (l : List UInt8) (w : World) (e : Ending) (w' : World) : Prop := ∃ v', e = .returned (.tuple #[v', .int .i64 (((dec l).2 : Nat) : Int)]) ∧ w'.ownsRow w.heap.size 55 7 v' (dec l).1.length (ecs (dec l).1) ∧ Below w.heap.size w w'
/-- the loops of Decode and EntriesIn -/
def DecLp (w : World) (l : List UInt8) (out a : Value) (wr : World) : Prop :=
  ∃ (i : Nat) (es : List Ent) (o : Value), i ≤ l.length ∧ out = o ∧ a = .int .i64 i ∧ es.length * 4 ≤ i ∧ wr.ownsRow w.heap.size 55 7 o es.length (ecs es) ∧ Hid (dec l = (es ++ (dec (l.drop i)).1, i + (dec (l.drop i)).2)) ∧ Below w.heap.size w wr
theorem decLp_start (w : World) (l : List UInt8) : DecLp w l (.slice none 0 0) (.int .i64 0) w :=
  ⟨0, [], _, Nat.zero_le _, rfl, rfl, Nat.le_refl _, World.ownsRow_nil _ _ _ _, (by show dec l = _; rw [List.drop_zero, Nat.zero_add]; rfl), Below.refl _ _⟩
theorem decLp_end {w wr : World} {l : List UInt8} {i : Nat} {es : List Ent} {o : Value} (ho : wr.ownsRow w.heap.size 55 7 o es.length (ecs es)) (hd : Hid (dec l = (es ++ (dec (l.drop i)).1, i + (dec (l.drop i)).2))) (hb : Below w.heap.size w wr) (h0 : dec (l.drop i) = ([], 0)) :
    DecPost l w (.returned (.tuple #[o, .int .i64 i])) wr := by
  have h := hd.out
  rw [h0] at h
  simp only [List.append_nil, Nat.add_zero] at h
  unfold DecPost
  rw [h]
  exact ⟨o, rfl, ho, hb⟩
theorem decLp_next {w w' : World} {l : List UInt8} {i n : Nat} {es : List Ent} {y : Ent} {o a : Value} (hi : i + n + 3 ≤ l.length) (h4 : es.length * 4 ≤ i) (hn : n ≠ 0) (ho : w'.ownsRow w.heap.size 55 7 o (es.length + 1) (ecs es ++ y.cells))
    (hd : Hid (dec l = (es ++ (dec (l.drop i)).1, i + (dec (l.drop i)).2))) (hs : dec (l.drop i) = (y :: (dec (l.drop (i + n + 3))).1, n + 3 + (dec (l.drop (i + n + 3))).2)) (hb : Below w.heap.size w w') (ha : a = .int .i64 ((i + n + 3 : Nat) : Int)) : DecLp w l o a w' := by
  refine ⟨i + n + 3, es ++ [y], o, hi, rfl, ha, by simp; omega, own_eq ho (by simp) (by rw [ecs_append]; simp [ecs]), ?_, hb⟩
  have h := hd.out
  rw [hs] at h
  show dec l = _
  rw [h]
  refine Prod.ext (by simp) ?_
  show i + (n + 3 + _) = i + n + 3 + _
  omega
theorem ent_info : (Try.prog.info? 55).map (fun i => (i.zero, i.size, i.bytes)) = some (some (.agg #[.int .i64 0, .int .i64 0, .int .i64 0, .int .i64 0, .int .i64 0, .bool false, .string .empty]), 7, 64) := by kernel_rfl
theorem quiet_sum {w : World} {n : Nat} {v : Value} {l : List UInt8} (h : By w v l) (hl : l.length ≤ 65536) : Calls Try.prog 75 #[v] (w.drewN n) fun e w'' => e = .returned (.int .i64 ((wsum l l.length % 65521 : Nat) : Int)) ∧ ∃ m, w'' = w.drewN m :=
  (sum_any v l _ (h.below (below_drewN_ w n)) hl).mono fun _ _ ⟨he, hm⟩ => ⟨he, n, hm.symm⟩
theorem quiet_sumOf {w : World} {n : Nat} {v : Value} {l : List UInt8} (h : By w v l) (hl : l.length ≤ 65536) : Calls Try.prog 78 #[v] (w.drewN n) fun e w'' => e = .returned (.int .i64 ((wsum l l.length % 65521 : Nat) : Int)) ∧ ∃ m, w'' = w.drewN m :=
  (sumOf_any v l _ (h.below (below_drewN_ w n)) hl).mono fun _ _ ⟨he, hm⟩ => ⟨he, n, hm.symm⟩
theorem or_byte (a b : Nat) (_ : a < 256) (_ : b < 256) : bits .or .i64 ((a : Int) * 256) (b : Int) = ((a * 256 + b : Nat) : Int) := by
  rw [show (a : Int) * 256 = ((a * 256 : Nat) : Int) from by omega, bits_or_i64_nat _ _ (by omega) (by omega)]
  congr 1
  have h := Nat.two_pow_add_eq_or_of_lt (i := 8) (b := b) (by omega) a
  rw [show 2 ^ 8 * a = a * 256 from by omega] at h
  exact h.symm
end Go.Proofs.Ytpjjfnpdopdnkaa
namespace Go.Proofs.Ytpjjfnpdopdnkaa
open Go.RowKit

set_option maxRecDepth 100000 in
set_option maxHeartbeats 4000000 in
theorem decode_any (v : Value) (l : List UInt8) (w : World) (hv : By w v l) (hl : l.length ≤ 1099511627776) :
    Calls Try.prog 27 #[v] w (DecPost l w) := by
  obtain ⟨j0, hj0, hy0, hy1, hy2⟩ := info_parts ent_info
  obtain ⟨A, c, rfl, hc, hcell⟩ := hv.at_
  have HC := Lib.hid hcell
  have hvB := Lib.hid hv
  clear hv hcell
  go_enter Try.func27, Try.ntmps27
  go_wp2
  go_loopw [4, 5] (fun o a wr => DecLp w l o a wr) (fun _ a _ => l.length - (intOf a).toNat)
  case atStart => exact decLp_start w l
  case round =>
    obtain ⟨i, es, o, hi, rfl, rfl, h4, ho, hd, hb⟩ := hrel
    by_cases hlt : i < l.length
    · obtain ⟨b, off, rfl, hbl, hcs⟩ := HC.out (by omega)
      obtain ⟨n, hn, hn256, hbad, hgood⟩ := dec_at hlt
      have X0 := (hb.cell (p := ⟨b, off + i, none⟩) hbl).trans (hcs i hlt)
      rw [hn] at X0
      have HBAD := Lib.hid hbad
      have HGOOD := Lib.hid hgood
      have HCS := Lib.hid hcs
      have HB := Lib.hid hb
      have hsz := hb.size
      have i0 : (0 : Int) ≤ (i : Int) := by omega
      have i1 : (i : Int) < (l.length : Int) := by omega
      clear hbad hgood hcs hb hn
      by_cases h0 : n = 0
      · have z0 : ((n : Int) == 0) = true := by rw [beq_iff_eq]; omega
        go_wp2
        exact bodyPost_ret (v := .tuple #[u4, .int .i64 i]) (by simp [results, Try.results27, go_sem]) rfl (decLp_end ho hd HB.out (HBAD.out (Or.inl h0)))
      · have z0 : ((n : Int) == 0) = false := by rw [beq_eq_false_iff_ne]; omega
        by_cases hg : l.length < i + n + 3
        · have z1 : decide ((l.length : Int) < (i : Int) + (n : Int) + 3) = true := decide_eq_true (by omega)
          go_wp2
          exact bodyPost_ret (v := .tuple #[u4, .int .i64 i]) (by simp [results, Try.results27, go_sem]) rfl (decLp_end ho hd HB.out (HBAD.out (Or.inr hg)))
        · have z1 : decide ((l.length : Int) < (i : Int) + (n : Int) + 3) = false := decide_eq_false (by omega)
          have hng : ¬ (n = 0 ∨ l.length < i + n + 3) := by omega
          obtain ⟨q1, q2, q1lt, q2lt, ⟨h1, e1⟩, ⟨h2, e2⟩, hsum, hbody, hstep⟩ := HGOOD.out hng
          have X1 := (HB.out.cell (p := ⟨b, off + (i + n + 1), none⟩) hbl).trans (HCS.out (i + n + 1) h1)
          have X2 := (HB.out.cell (p := ⟨b, off + (i + n + 2), none⟩) hbl).trans (HCS.out (i + n + 2) h2)
          rw [e1] at X1
          rw [e2] at X2
          have HSUM := Lib.hid hsum
          have HSTEP := Lib.hid hstep
          have HBODY := Lib.hid hbody
          clear hsum hbody hstep e1 e2 h1 h2
          have hx := By.take_ (n := n) (By.drop_ (hvB.out.below HB.out) (i := i + 1) (by omega)) (by rw [List.length_drop]; omega)
          have hxl : ((l.drop (i + 1)).take n).length = n := by rw [List.length_take, List.length_drop]; omega
          rw [hxl] at hx
          generalize hxe : (l.drop (i + 1)).take n = x at *
          have HXE := Lib.hid hxe
          have i2 : i + 1 < c := by omega
          have i3 : (i : Int) + 1 + (n : Int) ≤ (c : Int) := by omega
          have hor := or_byte q1 q2 q1lt q2lt
          clear hxe
          have hs256 : wsum x n % 65521 < 65521 := Nat.mod_lt _ (by omega)
          have hq : ∀ m, Calls Try.prog 75 #[.slice (some ⟨b, off + (i + 1), none⟩) n (c - (i + 1))] (wr.drewN m) fun e w'' => e = .returned (.int .i64 ((wsum x n % 65521 : Nat) : Int)) ∧ ∃ m', w'' = wr.drewN m' := fun m => by
            have h := quiet_sum (n := m) hx (by omega)
            rw [hxl] at h
            exact h
          generalize wsum x n % 65521 = s at *
          have HQ := Lib.hid hq
          clear hq HGOOD
          go_wp2
          go_quiet ((go_at_call 75; exact HQ.out _))
          have hni : i + 1 + n - (i + 1) = n := by omega
          simp only [hni]
          have hbq := below_drewN_ wr nq
          have hbW := below_then HB.out hbq
          have hoW : (wr.drewN nq).ownsRow w.heap.size 55 7 u4 es.length (ecs es) := ho
          have hxW := hx.below hbq
          generalize wr.drewN nq = W1 at *
          by_cases hs : s = q1 * 256 + q2
          · have z2 : ((s : Int) != ((q1 * 256 + q2 : Nat) : Int)) = false := by simp only [bne_eq_false_iff_eq]; omega
            obtain ⟨k0, r0, rfl⟩ : ∃ k0 r0, x = k0 :: r0 := by
              rcases x with _ | ⟨k0, r0⟩
              · simp at hxl; omega
              · exact ⟨k0, r0, rfl⟩
            simp only [List.length_cons] at hxl
            go_wp2_with fail
            refine (body_any _ k0 r0 W1 hxW (by omega)).mono ?_
            rintro e W2 ⟨y, bb, rfl, hyy1, hyy2, hb2⟩
            simp only [entV]
            have HY1 := Lib.hid hyy1
            have HY2 := Lib.hid hyy2
            clear hyy1 hyy2
            have hoW2 := own_keep hoW hb2 (fun b hb => (hoW.lt b hb).2)
            have hbW2 := hbW.trans (hb2.mono hbW.size)
            cases bb
            · go_wp2
              exact bodyPost_ret (v := .tuple #[u4, .int .i64 i]) (by simp [results, Try.results27, go_sem]) rfl (decLp_end (hoW2.alloc _) hd (hbW2.alloc hbW2.size _) (HBODY.out (HY2.out (by first | rfl | trivial))))
            · have HBW := Lib.hid (hbW2.alloc hbW2.size (.cells #[.int .i64 y.ep, .int .i64 y.pid, .int .i64 y.ver, .int .i64 y.seq, .int .i64 y.kind, .bool y.txn, .string y.text] 55))
              have hsz2 := hbW2.size
              have HI := Lib.hid (show i + n + 3 ≤ l.length from by omega)
              have HDD := hd
              clear hbW2 hbW hb2 hd
              go_wp2_with (at_builtin; go_must (refine wpList_append_sl _ rfl (.tmp 66) (.tmp 68) 35 rfl w.heap.size 55 j0 (.agg #[.int .i64 0, .int .i64 0, .int .i64 0, .int .i64 0, .int .i64 0, .bool false, .string .empty]) 7 64 Try.underlying35 hj0 hy0 hy1 hy2 rfl (by decide) _ _ _ (by rfl) ((hoW2.alloc _).alloc _) _ 1 _ (by rfl) (Sl.lit' _ _ _ 7 1 _ rfl (by simp)) (by intro x hx; simp at hx; rcases hx with rfl | rfl | rfl | rfl | rfl | rfl | rfl <;> rfl) (by simp only [maxLen]; omega) (by omega) (by simp; omega) ?_; intro v4 w4 ho4 hg4 ha4))
              go_light
              exact ⟨decLp_next HI.out h4 h0 ho4 HDD (HSTEP.out y hs (HY1.out (by first | rfl | trivial))) (own_below HBW.out (Nat.le_refl _) (hoW2.alloc _) _ hg4) (by go_num), by simp [intOf]; omega⟩
          · have z2 : ((s : Int) != ((q1 * 256 + q2 : Nat) : Int)) = true := by simp only [bne_iff_ne]; omega
            go_wp2
            exact bodyPost_ret (v := .tuple #[u4, .int .i64 i]) (by simp [results, Try.results27, go_sem]) rfl (decLp_end hoW hd hbW (HSUM.out hs))
    · obtain rfl : i = l.length := by omega
      go_wp2
      exact bodyPost_ret (v := .tuple #[u4, .int .i64 l.length]) (by simp [results, Try.results27, go_sem]) rfl (decLp_end ho hd hb (dec_at_end (Nat.le_refl _)))
end Go.Proofs.Ytpjjfnpdopdnkaa
