/- What bytes say from a place on. No program here. -/
import Derived.Test.YtpjjfnpdopdnkaaEntI
namespace Go.Proofs.Ytpjjfnpdopdnkaa
open Go.RowKit

section
variable {l : List UInt8} {i : Nat}
theorem dec_at_end (h : l.length ≤ i) : dec (l.drop i) = ([], 0) := by rw [List.drop_of_length_le h]; rfl
theorem dec_at_bad (h : i < l.length) (hb : l[i].toNat = 0 ∨ l.length < i + l[i].toNat + 3) : dec (l.drop i) = ([], 0) := by
  rw [List.drop_eq_getElem_cons h]
  refine dec_bad ?_
  rw [List.length_drop]
  omega
theorem getD_drop (j n : Nat) (h : j + n < l.length) : (l.drop j).getD n 0 = l[j + n] := by
  simp [List.getD, List.getElem?_drop, List.getElem?_eq_getElem h]
theorem dec_at_sum (h : i < l.length) (hg : ¬ (l[i].toNat = 0 ∨ l.length < i + l[i].toNat + 3)) (hs : wsum ((l.drop (i + 1)).take l[i].toNat) l[i].toNat % 65521 ≠ (l[i + l[i].toNat + 1]'(by omega)).toNat * 256 + (l[i + l[i].toNat + 2]'(by omega)).toNat) : dec (l.drop i) = ([], 0) := by
  have hi : i < l.length := h
  rw [List.drop_eq_getElem_cons h]
  refine dec_sum ?_ ?_
  · rw [List.length_drop]; omega
  · rw [getD_drop (i + 1) _ (by omega), getD_drop (i + 1) _ (by omega)]
    have e1 : l[i + 1 + l[i].toNat]'(by omega) = l[i + l[i].toNat + 1]'(by omega) := by congr 1; omega
    have e2 : l[i + 1 + (l[i].toNat + 1)]'(by omega) = l[i + l[i].toNat + 2]'(by omega) := by congr 1; omega
    rw [e1, e2]
    exact hs
theorem dec_at_body (h : i < l.length) (hg : ¬ (l[i].toNat = 0 ∨ l.length < i + l[i].toNat + 3)) (he : entP ((l.drop (i + 1)).take l[i].toNat) = none) : dec (l.drop i) = ([], 0) := by
  rw [List.drop_eq_getElem_cons h]
  refine dec_body ?_ he
  rw [List.length_drop]; omega
theorem dec_at_step {e : Ent} (h : i < l.length) (hg : ¬ (l[i].toNat = 0 ∨ l.length < i + l[i].toNat + 3)) (hs : wsum ((l.drop (i + 1)).take l[i].toNat) l[i].toNat % 65521 = (l[i + l[i].toNat + 1]'(by omega)).toNat * 256 + (l[i + l[i].toNat + 2]'(by omega)).toNat)
    (he : entP ((l.drop (i + 1)).take l[i].toNat) = some e) : dec (l.drop i) = (e :: (dec (l.drop (i + l[i].toNat + 3))).1, l[i].toNat + 3 + (dec (l.drop (i + l[i].toNat + 3))).2) := by
  have e0 : l.drop (i + l[i].toNat + 3) = (l.drop (i + 1)).drop (l[i].toNat + 2) := by rw [List.drop_drop]; congr 1; omega
  rw [e0]
  conv => lhs; rw [List.drop_eq_getElem_cons h]
  refine dec_step ?_ ?_ he
  · rw [List.length_drop]; omega
  · rw [getD_drop (i + 1) _ (by omega), getD_drop (i + 1) _ (by omega)]
    have e1 : l[i + 1 + l[i].toNat]'(by omega) = l[i + l[i].toNat + 1]'(by omega) := by congr 1; omega
    have e2 : l[i + 1 + (l[i].toNat + 1)]'(by omega) = l[i + l[i].toNat + 2]'(by omega) := by congr 1; omega
    rw [e1, e2]
    exact hs
theorem dec_at (h : i < l.length) : ∃ n, l[i].toNat = n ∧ n < 256 ∧ ((n = 0 ∨ l.length < i + n + 3) → dec (l.drop i) = ([], 0)) ∧
    (¬ (n = 0 ∨ l.length < i + n + 3) → ∃ q1 q2, q1 < 256 ∧ q2 < 256 ∧ (∃ h1 : i + n + 1 < l.length, l[i + n + 1].toNat = q1) ∧ (∃ h2 : i + n + 2 < l.length, l[i + n + 2].toNat = q2) ∧
      (wsum ((l.drop (i + 1)).take n) n % 65521 ≠ q1 * 256 + q2 → dec (l.drop i) = ([], 0)) ∧ (entP ((l.drop (i + 1)).take n) = none → dec (l.drop i) = ([], 0)) ∧
      ∀ e, wsum ((l.drop (i + 1)).take n) n % 65521 = q1 * 256 + q2 → entP ((l.drop (i + 1)).take n) = some e → dec (l.drop i) = (e :: (dec (l.drop (i + n + 3))).1, n + 3 + (dec (l.drop (i + n + 3))).2)) :=
  ⟨_, rfl, (l[i]).toNat_lt, dec_at_bad h, fun hg => ⟨_, _, (l[i + l[i].toNat + 1]'(by omega)).toNat_lt, (l[i + l[i].toNat + 2]'(by omega)).toNat_lt, ⟨by omega, rfl⟩, ⟨by omega, rfl⟩, dec_at_sum h hg, dec_at_body h hg, fun _ => dec_at_step h hg⟩⟩
end

def DecPost (l : List UInt8) (w : World) (e : Ending) (w' : World) : Prop := ∃ v', e = .returned (.tuple #[v', .int .i64 (((dec l).2 : Nat) : Int)]) ∧ w'.ownsRow w.heap.size 55 7 v' (dec l).1.length (ecs (dec l).1) ∧ Below w.heap.size w w'
/-- the loops of Decode and EntriesIn -/
def DecLp (w : World) (l : List UInt8) (out a : Value) (wr : World) : Prop :=
  ∃ (i : Nat) (es : List Ent) (o : Value), i ≤ l.length ∧ out = o ∧ a = .int .i64 i ∧ es.length * 4 ≤ i ∧ wr.ownsRow w.heap.size 55 7 o es.length (ecs es) ∧ Hid (dec l = (es ++ (dec (l.drop i)).1, i + (dec (l.drop i)).2)) ∧ Below w.heap.size w wr
theorem decLp_start (w : World) (l : List UInt8) : DecLp w l (.slice none 0 0) (.int .i64 0) w :=
  ⟨0, [], _, Nat.zero_le _, rfl, rfl, Nat.le_refl _, World.ownsRow_nil _ _ _ _, (by show dec l = _; rw [List.drop_zero, Nat.zero_add]; rfl), Below.refl _ _⟩
theorem decLp_end {w wr : World} {l : List UInt8} {i : Nat} {es : List Ent} {o : Value} (ho : wr.ownsRow w.heap.size 55 7 o es.length (ecs es)) (hd : Hid (dec l = (es ++ (dec (l.drop i)).1, i + (dec (l.drop i)).2))) (hb : Below w.heap.size w wr) (h0 : dec (l.drop i) = ([], 0)) :
    DecPost l w (.returned (.tuple #[o, .int .i64 i])) wr := by
  have h := hd.out
  rw [h0] at h
  simp only [List.append_nil, Nat.add_zero] at h
  unfold DecPost
  rw [h]
  exact ⟨o, rfl, ho, hb⟩
theorem decLp_next {w w' : World} {l : List UInt8} {i n : Nat} {es : List Ent} {y : Ent} {o a : Value} (hi : i + n + 3 ≤ l.length) (h4 : es.length * 4 ≤ i) (hn : n ≠ 0) (ho : w'.ownsRow w.heap.size 55 7 o (es.length + 1) (ecs es ++ y.cells))
    (hd : Hid (dec l = (es ++ (dec (l.drop i)).1, i + (dec (l.drop i)).2))) (hs : dec (l.drop i) = (y :: (dec (l.drop (i + n + 3))).1, n + 3 + (dec (l.drop (i + n + 3))).2)) (hb : Below w.heap.size w w') (ha : a = .int .i64 ((i + n + 3 : Nat) : Int)) : DecLp w l o a w' := by
  refine ⟨i + n + 3, es ++ [y], o, hi, rfl, ha, by simp; omega, own_eq ho (by simp) (by rw [ecs_append]; simp [ecs]), ?_, hb⟩
  have h := hd.out
  rw [hs] at h
  show dec l = _
  rw [h]
  refine Prod.ext (by simp) ?_
  show i + (n + 3 + _) = i + n + 3 + _
  omega
theorem ent_info : (Try.prog.info? 55).map (fun i => (i.zero, i.size, i.bytes)) = some (some (.agg #[.int .i64 0, .int .i64 0, .int .i64 0, .int .i64 0, .int .i64 0, .bool false, .string .empty]), 7, 64) := by kernel_rfl
theorem quiet_sum {w : World} {n : Nat} {v : Value} {l : List UInt8} (h : By w v l) (hl : l.length ≤ 65536) : Calls Try.prog 75 #[v] (w.drewN n) fun e w'' => e = .returned (.int .i64 ((wsum l l.length % 65521 : Nat) : Int)) ∧ ∃ m, w'' = w.drewN m :=
  (sum_any v l _ (h.below (below_drewN_ w n)) hl).mono fun _ _ ⟨he, hm⟩ => ⟨he, n, hm.symm⟩
theorem quiet_sumOf {w : World} {n : Nat} {v : Value} {l : List UInt8} (h : By w v l) (hl : l.length ≤ 65536) : Calls Try.prog 78 #[v] (w.drewN n) fun e w'' => e = .returned (.int .i64 ((wsum l l.length % 65521 : Nat) : Int)) ∧ ∃ m, w'' = w.drewN m :=
  (sumOf_any v l _ (h.below (below_drewN_ w n)) hl).mono fun _ _ ⟨he, hm⟩ => ⟨he, n, hm.symm⟩
theorem or_byte (a b : Nat) (_ : a < 256) (_ : b < 256) : bits .or .i64 ((a : Int) * 256) (b : Int) = ((a * 256 + b : Nat) : Int) := by
  rw [show (a : Int) * 256 = ((a * 256 : Nat) : Int) from by omega, bits_or_i64_nat _ _ (by omega) (by omega)]
  congr 1
  have h := Nat.two_pow_add_eq_or_of_lt (i := 8) (b := b) (by omega) a
  rw [show 2 ^ 8 * a = a * 256 from by omega] at h
  exact h.symm
end Go.Proofs.Ytpjjfnpdopdnkaa
