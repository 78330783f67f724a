/- coord.Done, coord.Add: what they answer, as plain functions; a row's parts laid anew. -/
import Derived.Test.YtjkoceacjbhblaaCoordI
import Derived.Test.YtjkoceacjbhblaaRefCopy
import Derived.Test.YtjkoceacjbhblaaParI
namespace Go.Proofs.Ytjkoceacjbhblaa
open Go.RowKit

theorem Own.swap {w0 w w2 : World} {base n g c : Nat} {ds : List TxnD} {rows : List (TxnD × Value)} (h : Own w0 w base (.slice (some ⟨g, 0, none⟩) n c) ds rows n) (hn : n = ds.length) (i : Nat) (hi : i < rows.length) {p' : Value} {ps' : List Int} (hgr : w.grownBy w2 rows[i].2.ownBlock) (hat : p'.ownBlock = none ∨ p'.ownBlock = rows[i].2.ownBlock ∨ ∃ k, p'.ownBlock = some k ∧ w.heap.size ≤ k)
    (ho : w2.ownsRow base 3 1 p' ps'.length (ps'.map (Value.int .i64))) (hb : w0.heap.size ≤ base) (f : TxnD → TxnD) (hf : ∀ t : TxnD × Value, tcells (f t.1, p') = (tcells t).set 4 p') (hp : (f rows[i].1).parts = ps') :
    Own w0 (w2.setCell ⟨g, i * 7 + 4, none⟩ p') base (.slice (some ⟨g, 0, none⟩) n c) (ds.modify i f) (rows.modify i fun t => (f t.1, p')) n := by
  subst hn
  have hl : rows.length = ds.length := by rw [← h.fst]; simp
  have htk : rows.take ds.length = rows := by rw [← hl, List.take_length]
  have hpi := h.parts rows[i] (by rw [htk]; exact List.getElem_mem _)
  have hrow := h.own.kept hgr (by
    rcases own_apart h.own hpi (by decide) with e | e
    · exact Or.inl e
    · exact Or.inr e)
  have hg5 : ∃ cs fr, w2.heap[g]? = some (.cells cs 76 fr) := by
    rcases hrow.2 with ⟨e, _⟩ | ⟨g', cap, cur, e, _, hh, _⟩
    · cases e
    · injection e with e1
      injection e1 with e1
      injection e1 with e1
      subst e1
      exact ⟨_, _, hh⟩
  obtain ⟨cs, fr, hg5⟩ := hg5
  have hgb : base ≤ g := (h.own.lt g rfl).1
  have hlen : (rows.modify i fun t => (f t.1, p')).length = ds.length := by simp [hl]
  have hap : ∀ a b (ha : a < rows.length) (hb : b < rows.length), a < b → rows[a].2.ownBlock = none ∨ rows[a].2.ownBlock ≠ rows[b].2.ownBlock := by
    intro a b ha hb hab
    have hq := h.apart
    rw [htk] at hq
    exact List.pairwise_iff_getElem.1 hq a b ha hb hab
  have hsep : ∀ a (ha : a < rows.length), a ≠ i → rows[a].2.ownBlock = none ∨ rows[a].2.ownBlock ≠ rows[i].2.ownBlock := by
    intro a ha hne
    rcases Nat.lt_or_gt_of_ne hne with h1 | h1
    · exact hap a i ha hi h1
    · rcases hap i a hi ha h1 with e | e
      · rcases hab : rows[a].2.ownBlock with _ | x
        · exact Or.inl rfl
        · exact Or.inr (by rw [e]; simp)
      · exact Or.inr fun e2 => e e2.symm
  have hlt : ∀ a (ha : a < rows.length) k, rows[a].2.ownBlock = some k → k < w.heap.size := fun a ha k hk => ((h.parts rows[a] (by rw [htk]; exact List.getElem_mem _)).lt k hk).2
  have hsep2 : ∀ a (ha : a < rows.length), a ≠ i → rows[a].2.ownBlock = none ∨ rows[a].2.ownBlock ≠ p'.ownBlock := by
    intro a ha hne
    rcases hat with e | e | ⟨k, e, hk⟩
    · rcases hab : rows[a].2.ownBlock with _ | x
      · exact Or.inl rfl
      · exact Or.inr (by rw [e]; simp)
    · rw [e]; exact hsep a ha hne
    · rcases hab : rows[a].2.ownBlock with _ | x
      · exact Or.inl rfl
      · refine Or.inr fun e2 => ?_
        rw [e] at e2
        injection e2 with e2
        have := hlt a ha x hab
        omega
  refine ⟨?_, ?_, ?_, ?_, ?_, ?_⟩
  · rw [← h.fst]
    apply List.ext_getElem (by simp)
    intro j h1 h2
    simp only [List.getElem_map, List.getElem_modify]
    split <;> rfl
  · rw [List.length_modify]
    have e : (rows.modify i fun t => (f t.1, p')).flatMap tcells = (rows.flatMap tcells).set (i * 7 + 4) p' := by
      have key : ∀ (rs : List (TxnD × Value)) (i : Nat), i < rs.length → (rs.modify i fun t => (f t.1, p')).flatMap tcells = (rs.flatMap tcells).set (i * 7 + 4) p' := by
        intro rs
        induction rs with
        | nil => intro i hi; simp at hi
        | cons t rs ih =>
          intro i hi
          have ht : (tcells t).length = 7 := rfl
          rcases i with _ | i
          · simp only [List.modify_zero_cons, List.flatMap_cons, Nat.zero_mul, Nat.zero_add]
            rw [List.set_append_left _ _ (by omega), hf t]
          · simp only [List.modify_succ_cons, List.flatMap_cons]
            rw [ih i (by simpa using hi), List.set_append_right _ _ (by rw [ht]; omega), ht, show (i + 1) * 7 + 4 - 7 = i * 7 + 4 from by omega]
      exact key rows i hi
    rw [e]
    exact (World.ownsRow.stored hrow _ _).1
  · refine (h.bel.trans ?_).setCell (by show w0.heap.size ≤ g; omega) _
    exact (Below.refl _ _).grown hgr h.bel.size fun k hk => Nat.le_trans hb (hpi.lt k hk).1
  · intro t ht
    rw [List.drop_of_length_le (by omega)] at ht
    simp at ht
  · intro t ht
    rw [← hlen, List.take_length] at ht
    obtain ⟨a, ha, rfl⟩ := List.mem_iff_getElem.1 ht
    have ha' : a < rows.length := by simpa using ha
    rw [List.getElem_modify]
    split
    · rename_i e
      subst e
      simp only
      rw [hp]
      exact own_far ho hg5 (by decide) _ _
    · rename_i e
      have hq := h.parts rows[a] (by rw [htk]; exact List.getElem_mem _)
      exact own_far (hq.kept hgr (hsep a ha' (fun e2 => e e2.symm))) hg5 (by decide) _ _
  · rw [← hlen, List.take_length, List.pairwise_iff_getElem]
    intro a b ha hb hab
    have ha' : a < rows.length := by simpa using ha
    have hb' : b < rows.length := by simpa using hb
    rw [List.getElem_modify, List.getElem_modify]
    split
    · split
      · omega
      · rename_i e1 e2
        simp only
        rcases hsep2 b hb' (fun e => e2 e.symm) with e | e
        · rcases hx : p'.ownBlock with _ | x
          · exact Or.inl rfl
          · exact Or.inr (by rw [e]; simp)
        · exact Or.inr fun e3 => e e3.symm
    · split
      · rename_i e1 e2
        simp only
        exact hsep2 a ha' (fun e => e1 e.symm)
      · exact hap a b ha' hb' hab
theorem Own.midRow {w0 w w2 : World} {base n g c : Nat} {ds : List TxnD} {rows : List (TxnD × Value)} (h : Own w0 w base (.slice (some ⟨g, 0, none⟩) n c) ds rows n) (hn : n = ds.length) (i : Nat) (hi : i < rows.length) (hgr : w.grownBy w2 rows[i].2.ownBlock) :
    w2.cell? ⟨g, i * 7 + 4, none⟩ = some rows[i].2 ∧ w2.frozen? ⟨g, i * 7 + 4, none⟩ = false := by
  subst hn
  have hl : rows.length = ds.length := by rw [← h.fst]; simp
  have hpi := h.parts rows[i] (by rw [← hl, List.take_length]; exact List.getElem_mem _)
  have hrow := h.own.kept hgr (by
    rcases own_apart h.own hpi (by decide) with e | e
    · exact Or.inl e
    · exact Or.inr e)
  refine ⟨?_, World.ownsRow.frozenAt hrow _⟩
  rw [World.ownsRow.cellAt hrow _ (by omega), tcells_get rows i hi 4 (by decide)]
  rfl
theorem below_grown {w w' : World} (h : Below w.heap.size w w') (row : Option Nat) : w.grownBy w' row := ⟨h.os, h.tape, h.output, h.size, fun k hk _ => h.block k hk⟩
/-- a row opened: its cells, its parts' slice -/
theorem Own.rowP {w0 w : World} {base n : Nat} {g m : Nat} {ds : List TxnD} {rows : List (TxnD × Value)} (h : Own w0 w base (.slice (some ⟨g, 0, none⟩) n m) ds rows n) (hn : n = ds.length) (i : Nat) (hi : i < ds.length) :
    ∃ A3 m3, ∃ hr : i < rows.length, rows[i].2 = .slice A3 ds[i].parts.length m3 ∧ rows[i].1 = ds[i] ∧ w.cell? ⟨g, i * 7 + 4, none⟩ = some (.slice A3 ds[i].parts.length m3) ∧ w.ownsRow base 3 1 (.slice A3 ds[i].parts.length m3) ds[i].parts.length (ds[i].parts.map (Value.int .i64)) := by
  have hl := own_rows h.fst
  have hr : i < rows.length := by omega
  have he := fst_get h.fst hr hi
  obtain ⟨-, -, A3, m3, ⟨-, -, -, -, c4, -⟩, -, ho⟩ := h.row hn i hi
  obtain ⟨g', m', hv, -, -, -, hcell⟩ := h.at_ (by omega)
  injection hv with h1 _ _
  injection h1 with h1
  injection h1 with h1 _ _
  subst h1
  have k4 := (hcell i hr 4 (by decide)).1
  simp only [tcells, List.getElem?_cons_zero, List.getElem?_cons_succ] at k4
  rw [c4] at k4
  injection k4 with k4
  exact ⟨A3, m3, hr, k4.symm, he, c4, ho⟩

/-! lists of parts that rise -/
theorem Rises.lt {l : List Int} (h : Rises l) : ∀ i j (hi : i < j) (hj : j < l.length), l[i] < l[j] := by
  intro i j hi hj
  induction j with
  | zero => omega
  | succ j ih =>
    have h1 := (h (j + 1) hj).2.2 j rfl
    rcases Nat.lt_succ_iff_lt_or_eq.1 hi with h2 | h2
    · have := ih h2 (by omega); omega
    · subst h2; exact h1
theorem Rises.sorted {l : List Int} (h : Rises l) : l.Pairwise (· ≤ ·) := List.pairwise_iff_getElem.2 fun i j _ hj hij => Int.le_of_lt (h.lt i j hij hj)
/-- where x is, or would be: so many are under it -/
def under (l : List Int) (x : Int) : Nat := l.countP (· < x)
theorem under_at : ∀ {l : List Int} (_ : ∀ i j (_ : i < j) (hj : j < l.length), l[i] < l[j]) (x : Int) (k : Nat), (k ≤ l.length) → (∀ j (hj : j < l.length), j < k → l[j] < x) → (∀ j (hj : j < l.length), k ≤ j → x ≤ l[j]) → under l x = k
  | [], _, x, k, hk, _, _ => by simp at hk; subst hk; rfl
  | y :: l, h, x, k, hk, h1, h2 => by
    rcases k with _ | k
    · have : (y :: l).countP (· < x) = 0 := by
        rw [List.countP_eq_zero]
        intro z hz
        obtain ⟨j, hj, rfl⟩ := List.mem_iff_getElem.1 hz
        have := h2 j hj (Nat.zero_le _)
        simp; omega
      exact this
    · have hy : y < x := h1 0 (by simp) (by omega)
      have ih := under_at (l := l) (fun i j hij hj => by have := h (i + 1) (j + 1) (by omega) (by simpa using hj); simpa using this) x k (by simpa using hk)
        (fun j hj hjk => by have := h1 (j + 1) (by simpa using hj) (by omega); simpa using this) (fun j hj hjk => by have := h2 (j + 1) (by simpa using hj) (by omega); simpa using this)
      unfold under at *
      rw [List.countP_cons_of_pos (by simpa using hy), ih]
theorem under_mem {l : List Int} (h : Rises l) {k : Nat} (hk : k < l.length) : under l l[k] = k :=
  under_at (fun i j hij hj => h.lt i j hij hj) _ k (by omega) (fun j hj hjk => h.lt j k hjk hk) fun j hj hjk => by
    rcases Nat.lt_or_eq_of_le hjk with h1 | h1
    · have := h.lt k j h1 hj; omega
    · subst h1; omega
theorem Rises.drop {l : List Int} (h : Rises l) (k : Nat) : Rises (delAt l k) := by
  intro i hi
  unfold delAt at hi
  have key : ∀ j (hj : j < (delAt l k).length), ∃ m, ∃ hm : m < l.length, (delAt l k)[j] = l[m] ∧ ((j < k ∧ m = j) ∨ (k ≤ j ∧ m = j + 1)) := by
    intro j hj
    unfold delAt at hj ⊢
    simp only [List.length_append, List.length_take, List.length_drop] at hj
    by_cases hjk : j < (l.take k).length
    · have hj2 := hjk
      simp only [List.length_take] at hj2
      refine ⟨j, by omega, ?_, Or.inl ⟨by omega, rfl⟩⟩
      rw [List.getElem_append_left hjk, List.getElem_take]
    · have hj2 := hjk
      simp only [List.length_take] at hj2
      refine ⟨j + 1, by omega, ?_, Or.inr ⟨by omega, rfl⟩⟩
      rw [List.getElem_append_right (by omega), List.getElem_drop]
      congr 1
      simp only [List.length_take]
      omega
  obtain ⟨m, hm, e, hc⟩ := key i hi
  rw [e]
  refine ⟨(h m hm).1, (h m hm).2.1, fun j hj => ?_⟩
  obtain ⟨m2, hm2, e2, hc2⟩ := key j (by have := hi; unfold delAt; omega)
  rw [e2]
  exact h.lt m2 m (by omega) hm

theorem upd_fits2 {c : CoordD} (h : CoordOk c) (i : Nat) (f : TxnD → TxnD) (hi : i < c.txns.length) (hf : (f c.txns[i]).parts.length ≤ 4) : (c.upd i f).Fits := by
  have hm := h.many
  have key : ∀ t ∈ c.txns.modify i f, t.parts.length ≤ 4 := by
    intro t ht
    obtain ⟨j, hj, rfl⟩ := List.mem_iff_getElem.1 ht
    have hj' : j < c.txns.length := by simpa using hj
    rw [List.getElem_modify]
    split
    · rename_i e
      subst e
      exact hf
    · exact (h.all j hj' hj').1.rises.small
  have hl : (c.txns.modify i f).length ≤ 8 := by simpa using hm
  refine ⟨?_, fun t ht => ?_, ?_, fun t ht => ?_⟩
  · show (c.txns.modify i f).length * 80 ≤ _; omega
  · have := key t ht; omega
  · show (c.txns.modify i f).length ≤ _; omega
  · have := key t ht; omega

/-! Done -/
def cutT (k : Nat) (t : TxnD) : TxnD := ⟨t.name, t.pid, t.ver, t.state, delAt t.parts k, t.since, t.done⟩
def lastT (t : TxnD) : TxnD := ⟨t.name, t.pid, t.ver, 1, [], t.since, t.state⟩
def DoneAt (c : CoordD) (i : Nat) (part : Int) (c' : CoordD) (code : Int) : Prop :=
  ∃ h : i < c.txns.length, (c.txns[i].state ≠ 3 ∧ c.txns[i].state ≠ 4 ∧ c' = zeroC ∧ code = 12) ∨
    ((c.txns[i].state = 3 ∨ c.txns[i].state = 4) ∧ ((part ∉ c.txns[i].parts ∧ c' = zeroC ∧ code = 5) ∨
      (∃ k, ∃ hk : k < c.txns[i].parts.length, c.txns[i].parts[k] = part ∧ code = 0 ∧ ((c.txns[i].parts.length = 1 ∧ c' = c.upd i lastT) ∨ (1 < c.txns[i].parts.length ∧ c' = c.upd i (cutT k))))))
def DoneTo (c : CoordD) (s : ByteArray) (part : Int) (c' : CoordD) (code : Int) : Prop :=
  (NameFault c s code ∧ c' = zeroC) ∨ (CoordOk c ∧ NameOk s ∧ ((idxOf c.txns s = none ∧ c' = zeroC ∧ code = 5) ∨ ∃ i, idxOf c.txns s = some i ∧ DoneAt c i part c' code))
theorem done_to (c : CoordD) (s : ByteArray) (part : Int) : ∃ c' code, DoneTo c s part c' code := by
  rcases name_fault_or c s with ⟨n, h⟩ | ⟨h1, h2⟩
  · exact ⟨_, n, Or.inl ⟨h, rfl⟩⟩
  · rcases hi : idxOf c.txns s with _ | i
    · exact ⟨_, _, Or.inr ⟨h1, h2, Or.inl ⟨hi, rfl, rfl⟩⟩⟩
    · have hl := (ix_some hi).1
      have key : ∃ c' code, DoneAt c i part c' code := by
        by_cases e : c.txns[i].state = 3 ∨ c.txns[i].state = 4
        · by_cases hm : part ∈ c.txns[i].parts
          · obtain ⟨k, hk, hp⟩ := List.mem_iff_getElem.1 hm
            by_cases h1 : c.txns[i].parts.length = 1
            · exact ⟨_, _, hl, Or.inr ⟨e, Or.inr ⟨k, hk, hp, rfl, Or.inl ⟨h1, rfl⟩⟩⟩⟩
            · exact ⟨_, _, hl, Or.inr ⟨e, Or.inr ⟨k, hk, hp, rfl, Or.inr ⟨by omega, rfl⟩⟩⟩⟩
          · exact ⟨_, _, hl, Or.inr ⟨e, Or.inl ⟨hm, rfl, rfl⟩⟩⟩
        · exact ⟨_, _, hl, Or.inl ⟨fun h => e (Or.inl h), fun h => e (Or.inr h), rfl, rfl⟩⟩
      obtain ⟨c', code, hk⟩ := key
      exact ⟨c', code, Or.inr ⟨h1, h2, Or.inr ⟨i, hi, hk⟩⟩⟩
theorem DoneTo.fits {c : CoordD} {s : ByteArray} {part : Int} {c' : CoordD} {code : Int} (h : DoneTo c s part c' code) : c'.Fits := by
  rcases h with ⟨-, rfl⟩ | ⟨hk, -, ⟨-, rfl, -⟩ | ⟨i, -, hl, h⟩⟩
  · exact zero_fits
  · exact zero_fits
  · rcases h with ⟨-, -, rfl, -⟩ | ⟨-, ⟨-, rfl, -⟩ | ⟨k, hkl, -, -, ⟨-, rfl⟩ | ⟨-, rfl⟩⟩⟩
    · exact zero_fits
    · exact zero_fits
    · exact upd_fits hk i _ fun t => Or.inl (by simp [lastT])
    · have := ((hk.all i hl hl).1.rises.drop k).small
      refine upd_fits2 hk i _ hl ?_
      exact this

/-! Add -/
def withPart (l : List Int) (x : Int) : List Int := if l.contains x then l else insAt l (under l x) x
def addT (x : Int) (t : TxnD) : TxnD := ⟨t.name, t.pid, t.ver, t.state, withPart t.parts x, t.since, t.done⟩
def openT (x ck : Int) (t : TxnD) : TxnD := ⟨t.name, t.pid, t.ver, 2, withPart t.parts x, ck, t.done⟩
theorem under_split : ∀ {l : List Int} (_ : ∀ i j (_ : i < j) (hj : j < l.length), l[i] < l[j]) (x : Int), ∃ k, k ≤ l.length ∧ (∀ j (hj : j < l.length), j < k → l[j] < x) ∧ (∀ j (hj : j < l.length), k ≤ j → x ≤ l[j])
  | [], _, _ => ⟨0, by simp, fun j hj => by simp at hj, fun j hj => by simp at hj⟩
  | y :: l, h, x => by
    by_cases hy : y < x
    · obtain ⟨k, h1, h2, h3⟩ := under_split (l := l) (fun i j hij hj => by have := h (i + 1) (j + 1) (by omega) (by simpa using hj); simpa using this) x
      refine ⟨k + 1, by simpa using h1, fun j hj hjk => ?_, fun j hj hjk => ?_⟩
      · rcases j with _ | j
        · exact hy
        · exact h2 j (by simpa using hj) (by omega)
      · rcases j with _ | j
        · omega
        · exact h3 j (by simpa using hj) (by omega)
    · refine ⟨0, Nat.zero_le _, fun j hj hjk => by omega, fun j hj _ => ?_⟩
      rcases j with _ | j
      · simp; omega
      · have := h 0 (j + 1) (by omega) hj
        simp at this ⊢
        omega
theorem under_le (l : List Int) (x : Int) : under l x ≤ l.length := List.countP_le_length
theorem pair_lt {l : List Int} (h : Rises l) : l.Pairwise (· < ·) := List.pairwise_iff_getElem.2 fun i j _ hj hij => h.lt i j hij hj
theorem ext_lt : ∀ {l m : List Int}, l.Pairwise (· < ·) → m.Pairwise (· < ·) → (∀ x, x ∈ l ↔ x ∈ m) → l = m
  | [], [], _, _, _ => rfl
  | [], y :: m, _, _, h => by have := (h y).2 (by simp); simp at this
  | x :: l, [], _, _, h => by have := (h x).1 (by simp); simp at this
  | x :: l, y :: m, hl, hm, h => by
    rw [List.pairwise_cons] at hl hm
    have hxy : x = y := by
      rcases List.mem_cons.1 ((h x).1 (by simp)) with e | e
      · exact e
      · have h1 := hm.1 x e
        rcases List.mem_cons.1 ((h y).2 (by simp)) with e2 | e2
        · exact e2.symm
        · have := hl.1 y e2; omega
    subst hxy
    congr 1
    refine ext_lt hl.2 hm.2 fun z => ?_
    have hz := h z
    simp only [List.mem_cons] at hz
    constructor
    · intro e
      have h1 := hl.1 z e
      rcases hz.1 (Or.inr e) with e2 | e2
      · omega
      · exact e2
    · intro e
      have h1 := hm.1 z e
      rcases hz.2 (Or.inr e) with e2 | e2
      · omega
      · exact e2
theorem mem_insAt (l : List Int) (k : Nat) (x y : Int) : y ∈ insAt l k x ↔ y = x ∨ y ∈ l := by
  unfold insAt
  have : y ∈ l ↔ y ∈ l.take k ∨ y ∈ l.drop k := by rw [← List.mem_append, List.take_append_drop]
  rw [List.mem_append, List.mem_cons, this]
  constructor
  · rintro (h | h | h)
    · exact Or.inr (Or.inl h)
    · exact Or.inl h
    · exact Or.inr (Or.inr h)
  · rintro (h | h | h)
    · exact Or.inr (Or.inl h)
    · exact Or.inl h
    · exact Or.inr (Or.inr h)
theorem mem_withPart (l : List Int) (x y : Int) : y ∈ withPart l x ↔ y = x ∨ y ∈ l := by
  unfold withPart
  split
  · rename_i h
    have hx : x ∈ l := by simpa using h
    exact ⟨Or.inr, fun e => e.elim (fun e => e ▸ hx) id⟩
  · exact mem_insAt _ _ _ _
theorem withPart_lt {l : List Int} (h : Rises l) (x : Int) : (withPart l x).Pairwise (· < ·) := by
  unfold withPart
  split
  · exact pair_lt h
  · rename_i hc
    have hx : x ∉ l := by simpa using hc
    obtain ⟨k, h1, h2, h3⟩ := under_split (l := l) (fun i j hij hj => h.lt i j hij hj) x
    rw [under_at (fun i j hij hj => h.lt i j hij hj) x k h1 h2 h3]
    unfold insAt
    have hp := pair_lt h
    rw [← List.take_append_drop k l, List.pairwise_append] at hp
    have hdr : ∀ z ∈ l.drop k, x < z := by
      intro z hz
      obtain ⟨j, hj, rfl⟩ := List.mem_iff_getElem.1 hz
      have hj2 : k + j < l.length := by simp at hj; omega
      rw [List.getElem_drop]
      have := h3 (k + j) hj2 (by omega)
      have hne : x ≠ l[k + j] := fun e => hx (e ▸ List.getElem_mem _)
      omega
    have htk : ∀ z ∈ l.take k, z < x := by
      intro z hz
      obtain ⟨j, hj, rfl⟩ := List.mem_iff_getElem.1 hz
      have hj2 : j < k ∧ j < l.length := by simp at hj; omega
      rw [List.getElem_take]
      exact h2 j hj2.2 hj2.1
    rw [List.pairwise_append]
    refine ⟨hp.1, List.pairwise_cons.2 ⟨hdr, hp.2.1⟩, fun a ha b hb => ?_⟩
    rcases List.mem_cons.1 hb with rfl | hb
    · exact htk a ha
    · exact hp.2.2 a ha b hb
theorem Rises.bound {l : List Int} (h : Rises l) : ∀ x ∈ l, 0 ≤ x ∧ x ≤ 3 := by
  intro x hx
  obtain ⟨j, hj, rfl⟩ := List.mem_iff_getElem.1 hx
  exact ⟨(h j hj).1, (h j hj).2.1⟩
def hasP (l : List Int) (x p : Int) : Bool := p == x || l.contains p
def four : List Int := [0, 1, 2, 3]
theorem four_with {l : List Int} (h : Rises l) {x : Int} (h0 : 0 ≤ x) (h3 : x ≤ 3) : four.filter (hasP l x) = withPart l x := by
  refine ext_lt (List.Pairwise.filter _ (by decide)) (withPart_lt h x) fun y => ?_
  rw [List.mem_filter, mem_withPart]
  simp only [hasP, Bool.or_eq_true, beq_iff_eq, List.contains_iff_mem]
  constructor
  · exact fun e => e.2
  · intro e
    refine ⟨?_, e⟩
    have hb : 0 ≤ y ∧ y ≤ 3 := by
      rcases e with rfl | e
      · exact ⟨h0, h3⟩
      · exact h.bound y e
    have : y = 0 ∨ y = 1 ∨ y = 2 ∨ y = 3 := by omega
    rcases this with rfl | rfl | rfl | rfl <;> simp [four]
theorem withPart_small {l : List Int} (h : Rises l) {x : Int} (h0 : 0 ≤ x) (h3 : x ≤ 3) : (withPart l x).length ≤ 4 := by
  rw [← four_with h h0 h3]
  exact List.length_filter_le _ _
def AddAt (c : CoordD) (i : Nat) (part : Int) (c' : CoordD) (code : Int) : Prop :=
  ((part < 0 ∨ 3 < part) ∧ c' = zeroC ∧ code = 2) ∨ (0 ≤ part ∧ part ≤ 3 ∧ ∃ h : i < c.txns.length, ((c.txns[i].state = 3 ∨ c.txns[i].state = 4) ∧ c' = zeroC ∧ code = 12) ∨ (c.txns[i].state = 1 ∧ c' = c.upd i (openT part c.clock) ∧ code = 0) ∨ (c.txns[i].state = 2 ∧ c' = c.upd i (addT part) ∧ code = 0))
def AddTo (c : CoordD) (s : ByteArray) (ver part : Int) (c' : CoordD) (code : Int) : Prop :=
  (KnownFault c s ver code ∧ c' = zeroC) ∨ ∃ i, Known c s ver i ∧ AddAt c i part c' code
theorem add_to (c : CoordD) (s : ByteArray) (ver part : Int) : ∃ c' code, AddTo c s ver part c' code := by
  rcases known_or c s ver with ⟨n, h⟩ | ⟨i, h⟩
  · exact ⟨zeroC, n, Or.inl ⟨h, rfl⟩⟩
  · obtain ⟨h1, h2, h3, hl, h4⟩ := id h
    have hs := (h1.all i hl hl).1.state
    have key : ∃ c' code, AddAt c i part c' code := by
      by_cases e0 : part < 0 ∨ 3 < part
      · exact ⟨_, _, Or.inl ⟨e0, rfl, rfl⟩⟩
      · by_cases e1 : c.txns[i].state = 1
        · exact ⟨_, _, Or.inr ⟨by omega, by omega, hl, Or.inr (Or.inl ⟨e1, rfl, rfl⟩)⟩⟩
        · by_cases e2 : c.txns[i].state = 2
          · exact ⟨_, _, Or.inr ⟨by omega, by omega, hl, Or.inr (Or.inr ⟨e2, rfl, rfl⟩)⟩⟩
          · exact ⟨_, _, Or.inr ⟨by omega, by omega, hl, Or.inl ⟨by omega, rfl, rfl⟩⟩⟩
    obtain ⟨c', code, hk⟩ := key
    exact ⟨c', code, Or.inr ⟨i, h, hk⟩⟩
theorem AddTo.fits {c : CoordD} {s : ByteArray} {ver part : Int} {c' : CoordD} {code : Int} (h : AddTo c s ver part c' code) : c'.Fits := by
  rcases h with ⟨-, rfl⟩ | ⟨i, ⟨hk, -⟩, h⟩
  · exact zero_fits
  · rcases h with ⟨-, rfl, -⟩ | ⟨h0, h3, hl, ⟨-, rfl, -⟩ | ⟨-, rfl, -⟩ | ⟨-, rfl, -⟩⟩
    · exact zero_fits
    · exact zero_fits
    · exact upd_fits2 hk i _ hl (withPart_small (hk.all i hl hl).1.rises h0 h3)
    · exact upd_fits2 hk i _ hl (withPart_small (hk.all i hl hl).1.rises h0 h3)

end Go.Proofs.Ytjkoceacjbhblaa
