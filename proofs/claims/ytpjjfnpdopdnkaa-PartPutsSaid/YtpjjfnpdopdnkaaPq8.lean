/- Parts of a proof, merged: ViewG. No condition. -/
import Derived.Test.YtpjjfnpdopdnkaaPq7
namespace Go.Proofs.Ytpjjfnpdopdnkaa
open Go.RowKit

/-- the same entry -/
def SameAt (es : List Ent) (x : Ent) (i : Nat) : Prop := ∃ h : i < es.length, es[i].kind = 1 ∧ es[i].pid = x.pid ∧ es[i].ver = x.ver ∧ es[i].seq = x.seq
/-- where it stands already; code -/
inductive FindTo (es : List Ent) (x : Ent) : Int → Int → Prop
  | at_ (i : Nat) (h : SameAt es x i) (hn : ∀ j : Nat, j < i → ¬ SameAt es x j) : FindTo es x i 0
  | no (hn : ∀ j : Nat, ¬ SameAt es x j) : FindTo es x 0 11
theorem findTo_ex (es : List Ent) (x : Ent) : ∃ n c, FindTo es x n c := by
  by_cases h : ∃ i, SameAt es x i
  · obtain ⟨i, hi, hm⟩ : ∃ i, SameAt es x i ∧ ∀ j, j < i → ¬ SameAt es x j := by
      obtain ⟨i, hi⟩ := h
      induction i using Nat.strongRecOn with
      | ind i ih =>
        by_cases hj : ∃ j, j < i ∧ SameAt es x j
        · obtain ⟨j, h1, h2⟩ := hj
          exact ih j h1 h2
        · exact ⟨i, hi, fun j h1 h2 => hj ⟨j, h1, h2⟩⟩
    exact ⟨_, _, .at_ i hi hm⟩
  · exact ⟨_, _, .no (fun j hj => h ⟨j, hj⟩)⟩
theorem FindTo.unique {es : List Ent} {x : Ent} {n c n' c' : Int} (h1 : FindTo es x n c) (h2 : FindTo es x n' c') : n = n' ∧ c = c' := by
  cases h1 with
  | at_ i h hn =>
    cases h2 with
    | at_ j h' hn' =>
      rcases Nat.lt_trichotomy i j with h3 | h3 | h3
      · exact absurd h (hn' i h3)
      · rw [h3]; exact ⟨rfl, rfl⟩
      · exact absurd h' (hn j h3)
    | no hn' => exact absurd h (hn' i)
  | no hn =>
    cases h2 with
    | at_ j h' hn' => exact absurd h' (hn j)
    | no hn' => exact ⟨rfl, rfl⟩
/-- a mark that says so already -/
def MarkIs (es : List Ent) (x : Ent) (q : PrD) : Prop := q.opn < 0 ∧ ∃ m : Nat, q.mark = m ∧ ∃ h : m < es.length, es[m].kind = x.kind ∧ es[m].ver = x.ver
/-- what is answered where the producer is q, and the last number s -/
inductive ChkTo (es : List Ent) (x : Ent) (q : PrD) : Int → Int → Prop
  | fence (h : x.ver < q.ver) : ChkTo es x q 0 10
  | mark (h : ¬ x.ver < q.ver) (hk : x.kind ≠ 1) (hm : MarkIs es x q) : ChkTo es x q q.mark 0
  | free (h : ¬ x.ver < q.ver) (hk : x.kind ≠ 1) (hm : ¬ MarkIs es x q) : ChkTo es x q (-1) 0
  | gap (h : ¬ x.ver < q.ver) (hk : x.kind = 1) (s : Int) (hs : s = if q.ver < x.ver then -1 else q.seq) (hg : s + 1 < x.seq) : ChkTo es x q 0 11
  | next (h : ¬ x.ver < q.ver) (hk : x.kind = 1) (s : Int) (hs : s = if q.ver < x.ver then -1 else q.seq) (hg : x.seq = s + 1) : ChkTo es x q (-1) 0
  | find (h : ¬ x.ver < q.ver) (hk : x.kind = 1) (s : Int) (hs : s = if q.ver < x.ver then -1 else q.seq) (hg : x.seq < s + 1) {n c : Int} (hf : FindTo es x n c) : ChkTo es x q n c
/-- the producer of x as the entries tell it -/
def prOf (es : List Ent) (x : Ent) : PrD := (prTo es x.pid es.length).getD ⟨x.ver, -1, -1, -1⟩
/-- what view.Check answers -/
def Checked (es : List Ent) (x : Ent) (n c : Int) : Prop := x.pid = 0 ∧ n = -1 ∧ c = 0 ∨ x.pid ≠ 0 ∧ ChkTo es x (prOf es x) n c
/-- a mark lies among the entries -/
theorem mark_lt {es : List Ent} {pid : Int} {q : PrD} (hv : VerOk es) (hq : prTo es pid es.length = some q) : -1 ≤ q.mark ∧ q.mark < es.length ∧ q.opn < es.length := by
  have h1 := prTo_says (pid := pid) hv es.length (Nat.le_refl _)
  rw [hq] at h1
  obtain ⟨-, -, h2, h3, -⟩ := h1
  have h4 := markTo_bound (es := es) (pid := pid) es.length (Nat.le_refl _)
  have h5 := openTo_bound (es := es) (pid := pid) es.length (Nat.le_refl _)
  rw [h2] at h4
  rw [h3] at h5
  exact ⟨h4.1, h4.2, h5.2⟩
end Go.Proofs.Ytpjjfnpdopdnkaa
