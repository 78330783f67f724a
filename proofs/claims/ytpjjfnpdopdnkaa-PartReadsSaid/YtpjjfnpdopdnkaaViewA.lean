/- What a log's entries tell of a producer: plain data. -/
import Derived.Test.YtpjjfnpdopdnkaaEntD
namespace Go.Proofs.Ytpjjfnpdopdnkaa
open Go.RowKit

structure PrD where
  ver : Int
  seq : Int
  opn : Int
  mark : Int
def prZ : PrD := ⟨0, -1, -1, -1⟩
def prVer (e : Ent) (q : PrD) : PrD := if e.ver = q.ver then q else ⟨e.ver, -1, q.opn, q.mark⟩
def prKind (i : Nat) (e : Ent) (q : PrD) : PrD := if e.kind = 1 then ⟨q.ver, e.seq, if e.txn = true ∧ q.opn < 0 then (i : Int) else q.opn, q.mark⟩ else ⟨q.ver, q.seq, -1, (i : Int)⟩
def prNext (i : Nat) (e : Ent) (q : PrD) : PrD := prKind i e (prVer e q)
/-- what the first k entries tell of the producer pid -/
def prTo (es : List Ent) (pid : Int) : Nat → Option PrD
  | 0 => none
  | k + 1 => match es[k]? with
    | some e => if e.pid = pid then some (prNext k e ((prTo es pid k).getD prZ)) else prTo es pid k
    | none => prTo es pid k
def verTo (es : List Ent) (pid : Int) : Nat → Int
  | 0 => -1
  | k + 1 => match es[k]? with
    | some e => if e.pid = pid then e.ver else verTo es pid k
    | none => verTo es pid k
/-- the last number, and its version -/
def seqTo (es : List Ent) (pid : Int) : Nat → Int × Int
  | 0 => (-1, -1)
  | k + 1 => match es[k]? with
    | some e => if e.pid = pid then (if e.kind = 1 then e.seq else if e.ver = (seqTo es pid k).2 then (seqTo es pid k).1 else -1, e.ver) else seqTo es pid k
    | none => seqTo es pid k
def markTo (es : List Ent) (pid : Int) : Nat → Int
  | 0 => -1
  | k + 1 => match es[k]? with
    | some e => if e.pid = pid ∧ e.kind ≠ 1 then (k : Int) else markTo es pid k
    | none => markTo es pid k
def openTo (es : List Ent) (pid : Int) : Nat → Int
  | 0 => -1
  | k + 1 => match es[k]? with
    | some e => if e.pid = pid then (if e.kind = 1 then (if e.txn = true ∧ openTo es pid k < 0 then (k : Int) else openTo es pid k) else -1) else openTo es pid k
    | none => openTo es pid k
section
variable {es : List Ent} {pid : Int} {k : Nat}
theorem prTo_hit (h : k < es.length) (hp : es[k].pid = pid) : prTo es pid (k + 1) = some (prNext k es[k] ((prTo es pid k).getD prZ)) := by
  rw [prTo, List.getElem?_eq_getElem h]; simp [hp]
theorem prTo_miss (h : k < es.length) (hp : es[k].pid ≠ pid) : prTo es pid (k + 1) = prTo es pid k := by
  rw [prTo, List.getElem?_eq_getElem h]; simp [hp]
theorem verTo_hit (h : k < es.length) (hp : es[k].pid = pid) : verTo es pid (k + 1) = es[k].ver := by
  rw [verTo, List.getElem?_eq_getElem h]; simp [hp]
theorem verTo_miss (h : k < es.length) (hp : es[k].pid ≠ pid) : verTo es pid (k + 1) = verTo es pid k := by
  rw [verTo, List.getElem?_eq_getElem h]; simp [hp]
theorem seqTo_hit (h : k < es.length) (hp : es[k].pid = pid) : seqTo es pid (k + 1) = (if es[k].kind = 1 then es[k].seq else if es[k].ver = (seqTo es pid k).2 then (seqTo es pid k).1 else -1, es[k].ver) := by
  rw [seqTo, List.getElem?_eq_getElem h]; simp [hp]
theorem seqTo_miss (h : k < es.length) (hp : es[k].pid ≠ pid) : seqTo es pid (k + 1) = seqTo es pid k := by
  rw [seqTo, List.getElem?_eq_getElem h]; simp [hp]
theorem markTo_hit (h : k < es.length) (hp : es[k].pid = pid) (hk : es[k].kind ≠ 1) : markTo es pid (k + 1) = k := by
  rw [markTo, List.getElem?_eq_getElem h]; simp [hp, hk]
theorem markTo_miss (h : k < es.length) (hp : ¬ (es[k].pid = pid ∧ es[k].kind ≠ 1)) : markTo es pid (k + 1) = markTo es pid k := by
  rw [markTo, List.getElem?_eq_getElem h]; simp only [if_neg hp]
theorem openTo_hit (h : k < es.length) (hp : es[k].pid = pid) : openTo es pid (k + 1) = if es[k].kind = 1 then (if es[k].txn = true ∧ openTo es pid k < 0 then (k : Int) else openTo es pid k) else -1 := by
  rw [openTo, List.getElem?_eq_getElem h]; simp [hp]
theorem openTo_miss (h : k < es.length) (hp : es[k].pid ≠ pid) : openTo es pid (k + 1) = openTo es pid k := by
  rw [openTo, List.getElem?_eq_getElem h]; simp [hp]
/-- no entry of a version below 0 -/
def VerOk (es : List Ent) : Prop := ∀ (k : Nat) (h : k < es.length), 0 ≤ es[k].ver
/-- what the four loops say of the producer -/
def PrSays (es : List Ent) (pid : Int) (k : Nat) : Option PrD → Prop
  | none => verTo es pid k = -1 ∧ seqTo es pid k = (-1, -1) ∧ markTo es pid k = -1 ∧ openTo es pid k = -1
  | some q => verTo es pid k = q.ver ∧ seqTo es pid k = (q.seq, q.ver) ∧ markTo es pid k = q.mark ∧ openTo es pid k = q.opn ∧ 0 ≤ q.ver
theorem prTo_says (hv : VerOk es) : ∀ k : Nat, k ≤ es.length → PrSays es pid k (prTo es pid k)
  | 0, _ => ⟨rfl, rfl, rfl, rfl⟩
  | k + 1, h => by
    have ih := prTo_says hv k (by omega)
    have hlt : k < es.length := by omega
    by_cases hp : es[k].pid = pid
    · rw [prTo_hit hlt hp]
      have v0 := hv k hlt
      have e1 := verTo_hit hlt hp
      have e2 := seqTo_hit hlt hp
      have e4 := openTo_hit hlt hp
      have e3 : markTo es pid (k + 1) = if es[k].kind = 1 then markTo es pid k else (k : Int) := by
        by_cases hk : es[k].kind = 1
        · rw [if_pos hk]; exact markTo_miss hlt (fun h => h.2 hk)
        · rw [if_neg hk]; exact markTo_hit hlt hp hk
      cases hq : prTo es pid k with
      | none =>
        rw [hq] at ih
        obtain ⟨h1, h2, h3, h4⟩ := ih
        rw [h2] at e2
        rw [h3] at e3
        rw [h4] at e4
        simp only [PrSays, Option.getD_none, prNext, prVer, prKind, prZ, e1, e2, e3, e4]
        by_cases hk : es[k].kind = 1 <;> by_cases hz : es[k].ver = 0 <;> simp [hk, hz, v0]
        all_goals omega
      | some q =>
        rw [hq] at ih
        obtain ⟨h1, h2, h3, h4, h5⟩ := ih
        rw [h2] at e2
        rw [h3] at e3
        rw [h4] at e4
        simp only [PrSays, Option.getD_some, prNext, prVer, prKind, e1, e2, e3, e4]
        by_cases hk : es[k].kind = 1 <;> by_cases hz : es[k].ver = q.ver <;> simp [hk, hz, v0, h5]
    · rw [prTo_miss hlt hp]
      have e1 := verTo_miss hlt hp
      have e2 := seqTo_miss hlt hp
      have e3 := markTo_miss (es := es) (pid := pid) hlt (fun h => hp h.1)
      have e4 := openTo_miss hlt hp
      unfold PrSays at ih ⊢
      rw [e1, e2, e3, e4]
      exact ih
theorem markTo_bound : ∀ k : Nat, k ≤ es.length → -1 ≤ markTo es pid k ∧ markTo es pid k < k
  | 0, _ => by simp [markTo]
  | k + 1, h => by
    have ih := markTo_bound k (by omega)
    have hlt : k < es.length := by omega
    by_cases hp : es[k].pid = pid ∧ es[k].kind ≠ 1
    · rw [markTo_hit hlt hp.1 hp.2]; omega
    · rw [markTo_miss hlt hp]; omega
theorem openTo_bound : ∀ k : Nat, k ≤ es.length → -1 ≤ openTo es pid k ∧ openTo es pid k < k
  | 0, _ => by simp [openTo]
  | k + 1, h => by
    have ih := openTo_bound k (by omega)
    have hlt : k < es.length := by omega
    by_cases hp : es[k].pid = pid
    · rw [openTo_hit hlt hp]
      split
      · split <;> omega
      · omega
    · rw [openTo_miss hlt hp]; omega
/-- an entry that opens a transaction of pid's -/
def Hit (es : List Ent) (pid : Int) (i : Nat) : Prop := ∃ h : i < es.length, es[i].pid = pid ∧ es[i].txn = true ∧ es[i].kind = 1
/-- r: the first behind m that does; -1: none -/
def First (es : List Ent) (pid m : Int) (n : Nat) (r : Int) : Prop := r = -1 ∧ (∀ i : Nat, m < i → i < n → ¬ Hit es pid i) ∨ ∃ j : Nat, r = j ∧ m < j ∧ j < n ∧ Hit es pid j ∧ ∀ i : Nat, m < i → i < j → ¬ Hit es pid i
theorem First.unique {m : Int} {n : Nat} {r s : Int} (h1 : First es pid m n r) (h2 : First es pid m n s) : r = s := by
  rcases h1 with ⟨rfl, h1⟩ | ⟨j, rfl, a1, a2, a3, a4⟩ <;> rcases h2 with ⟨rfl, h2⟩ | ⟨j', rfl, b1, b2, b3, b4⟩
  · rfl
  · exact absurd b3 (h1 j' b1 b2)
  · exact absurd a3 (h2 j a1 a2)
  · rcases Nat.lt_trichotomy j j' with h | h | h
    · exact absurd a3 (b4 j a1 h)
    · rw [h]
    · exact absurd b3 (a4 j' b1 h)
theorem openTo_first : ∀ k : Nat, k ≤ es.length → First es pid (markTo es pid k) k (openTo es pid k)
  | 0, _ => Or.inl ⟨rfl, fun i _ h => by omega⟩
  | k + 1, h => by
    have ih := openTo_first k (by omega)
    have mb := markTo_bound (es := es) (pid := pid) k (by omega)
    have hlt : k < es.length := by omega
    by_cases hp : es[k].pid = pid
    · rw [openTo_hit hlt hp]
      by_cases hk : es[k].kind = 1
      · rw [if_pos hk, markTo_miss hlt (fun h => h.2 hk)]
        by_cases ht : es[k].txn = true ∧ openTo es pid k < 0
        · rw [if_pos ht]
          rcases ih with ⟨_, h2⟩ | ⟨j, h1, _⟩
          · exact Or.inr ⟨k, rfl, mb.2, Nat.lt_succ_self _, ⟨hlt, hp, ht.1, hk⟩, h2⟩
          · rw [h1] at ht; omega
        · rw [if_neg ht]
          rcases ih with ⟨h1, h2⟩ | ⟨j, h1, h2, h3, h4⟩
          · refine Or.inl ⟨h1, fun i hi hi' => ?_⟩
            rcases Nat.lt_succ_iff_lt_or_eq.1 hi' with h' | rfl
            · exact h2 i hi h'
            · rintro ⟨_, _, h5, _⟩
              exact ht ⟨h5, by omega⟩
          · exact Or.inr ⟨j, h1, h2, by omega, h4⟩
      · rw [if_neg hk, markTo_hit hlt hp hk]
        exact Or.inl ⟨rfl, fun i hi hi' => by omega⟩
    · rw [openTo_miss hlt hp, markTo_miss hlt (fun h => hp h.1)]
      rcases ih with ⟨h1, h2⟩ | ⟨j, h1, h2, h3, h4⟩
      · refine Or.inl ⟨h1, fun i hi hi' => ?_⟩
        rcases Nat.lt_succ_iff_lt_or_eq.1 hi' with h' | rfl
        · exact h2 i hi h'
        · rintro ⟨_, h5, _⟩; exact hp h5
      · exact Or.inr ⟨j, h1, h2, by omega, h4⟩
/-- the producer has an entry among the first k -/
theorem prTo_none : ∀ k : Nat, k ≤ es.length → (prTo es pid k = none ↔ ∀ (i : Nat) (h : i < es.length), i < k → es[i].pid ≠ pid)
  | 0, _ => by simp [prTo]
  | k + 1, h => by
    have ih := prTo_none k (by omega)
    have hlt : k < es.length := by omega
    by_cases hp : es[k].pid = pid
    · rw [prTo_hit hlt hp]
      constructor
      · intro h; simp at h
      · intro h'; exact absurd hp (h' k hlt (Nat.lt_succ_self _))
    · rw [prTo_miss hlt hp, ih]
      constructor
      · intro h1 i hi hik
        rcases Nat.lt_succ_iff_lt_or_eq.1 hik with h' | rfl
        · exact h1 i hi h'
        · exact hp
      · intro h1 i hi hik
        exact h1 i hi (by omega)
/-- an open transaction begins at an entry of the producer's -/
theorem openTo_at : ∀ k : Nat, k ≤ es.length → ∀ j : Nat, openTo es pid k = j → j < k ∧ Hit es pid j := by
  intro k h j hj
  rcases openTo_first (es := es) (pid := pid) k h with ⟨h1, _⟩ | ⟨j', h1, h2, h3, h4, _⟩
  · omega
  · obtain rfl : j' = j := by omega
    exact ⟨h3, h4⟩
theorem prTo_take {n : Nat} (hn : n ≤ es.length) : ∀ k : Nat, k ≤ n → prTo (es.take n) pid k = prTo es pid k
  | 0, _ => rfl
  | k + 1, h => by
    rw [prTo, prTo, prTo_take hn k (by omega), List.getElem?_take_of_lt (by omega)]
theorem openTo_take {n : Nat} (hn : n ≤ es.length) : ∀ k : Nat, k ≤ n → openTo (es.take n) pid k = openTo es pid k
  | 0, _ => rfl
  | k + 1, h => by
    rw [openTo, openTo, openTo_take hn k (by omega), List.getElem?_take_of_lt (by omega)]
end
end Go.Proofs.Ytpjjfnpdopdnkaa
