/- A slice of elements of k cells, opened as a row of cells; the reach of its inner parts. -/
import Derived.Test.YtjkoceacjbhblaaLawKit
import Derived.Test.YtjkoceacjbhblaaMem
import Derived.SizedLaws
namespace Go.Proofs.Ytjkoceacjbhblaa
open Go.ChangeShapes Go.WideShapes Go.ChangeAt Go.RowKit Go.Joins Go.Deep

theorem getElem?_flatten_even : ∀ (cs : List (List Value)) (k : Nat), (∀ c ∈ cs, c.length = k) → ∀ (j : Nat), 0 < k → cs.flatten[j]? = (cs[j / k]?).bind fun c => c[j % k]?
  | [], k, _, j, hk => by simp
  | c :: cs, k, h, j, hk => by
    have hc : c.length = k := h c (by simp)
    rw [List.flatten_cons]
    by_cases hj : j < k
    · rw [List.getElem?_append_left (by omega), Nat.div_eq_of_lt hj, Nat.mod_eq_of_lt hj]
      simp
    · rw [List.getElem?_append_right (by omega), hc, getElem?_flatten_even cs k (fun c hc => h c (by simp [hc])) (j - k) hk]
      have e : j = (j - k) + k := by omega
      have e1 : j / k = (j - k) / k + 1 := by
        conv => lhs; rw [e]
        rw [Nat.add_div_right _ hk]
      have e2 : j % k = (j - k) % k := by
        conv => lhs; rw [e]
        rw [Nat.add_mod_right]
      rw [e1, e2]
      simp
theorem length_flatten_even : ∀ (cs : List (List Value)) (k : Nat), (∀ c ∈ cs, c.length = k) → cs.flatten.length = cs.length * k
  | [], k, _ => by simp
  | c :: cs, k, h => by
    rw [List.flatten_cons, List.length_append, length_flatten_even cs k (fun c hc => h c (by simp [hc])), h c (by simp), List.length_cons, Nat.add_mul]
    omega

section
variable {H : Type} {enc : TypeId × Value → H} {P : Program} {w : World} {base : Nat} {spare : Nat → Bool} {held : Bool}

theorem open_sl {t e : TypeId} {k fuel : Nat} {v : Value} {x : DataW H × List MemPlace} (ht : P.underlying t = some (.slice e)) (hc : P.cellsOf e = k) (hk : 0 < k) (h : DataW.trod enc P w base spare held fuel t [v] = some x) :
    ∃ (cs : List (List Value)) (ds sp : List (DataW H)), Sl w k v cs.length cs.flatten ∧ cs.length ≤ maxLen ∧ ds.length = cs.length ∧ (x.1 = .slice ds sp ∨ (x.1 = .nil ∧ cs = [])) ∧
      ∀ i (hi : i < cs.length) (hd : i < ds.length), ∃ n y, DataW.trod enc P w base spare held n e cs[i] = some y ∧ ds[i] = y.1 := by
  rcases open_slice ht h with ⟨hcs, rfl⟩ | ⟨a, len, cap, m, n, D, Pl, hcs, hb, hl, hmx, hm, rfl, hx⟩
  · injection hcs with hv
    subst hv
    exact ⟨[], [], [], ⟨by simp, none, 0, rfl, by simp, fun h => by simp at h⟩, by simp, rfl, Or.inr ⟨rfl, rfl⟩, fun i hi => by simp at hi⟩
  · injection hcs with hv
    subst hv
    have hlm : len ≤ m := by subst hm; split <;> omega
    obtain ⟨C, hC⟩ := choose_lt (α := List Value) (p := fun i c => w.cells? base (a.add (i * P.cellsOf e)) (P.cellsOf e) = some c ∧ DataW.trod enc P w base spare held n e c = some (D i, Pl i)) (n := m) (fun i hi => hx i hi)
    have hlen : ∀ c ∈ (List.range len).map C, c.length = k := by
      intro c hc'
      obtain ⟨i, hi, rfl⟩ := List.mem_map.1 hc'
      have := (World.cells?_some (hC i (by have := List.mem_range.1 hi; omega)).1).2.1
      omega
    refine ⟨(List.range len).map C, (List.range len).map D, _, ?_, by simp; omega, by simp, Or.inl rfl, ?_⟩
    · refine ⟨length_flatten_even _ _ hlen, some a, cap, by simp, by simpa using hl, fun hn => ?_⟩
      have hn' : 0 < len := by simpa using hn
      have h0 := World.cells?_some (hC 0 (by omega)).1
      have hcell : ∀ i, i < len → ∀ j, j < k → w.cell? (a.add (i * k + j)) = (C i)[j]? := by
        intro i hi j hj
        have := (World.cells?_some (hC i (by omega)).1).2.2 j (by omega)
        rw [add_add, hc] at this
        exact this
      obtain ⟨b, off, spot⟩ := a
      have hs : spot = none := by
        have h1 := hcell 0 hn' 0 hk
        rw [List.getElem?_eq_getElem (by have := h0.2.1; omega)] at h1
        simpa [Addr.add] using World.cell?_spot h1
      subst hs
      have hadd : ∀ j, (Addr.add ⟨b, off, none⟩ j) = ⟨b, off + j, none⟩ := by
        intro j
        unfold Addr.add
        by_cases hj : j = 0 <;> simp [hj]
      have key : ∀ j u, ((List.range len).map C).flatten[j]? = some u → w.cell? ⟨b, off + j, none⟩ = some u := by
        intro j u hu
        rw [getElem?_flatten_even _ k hlen j hk] at hu
        obtain ⟨c, hc1, hc2⟩ := Option.bind_eq_some_iff.1 hu
        obtain ⟨hlt, hce⟩ := List.getElem?_eq_some_iff.1 hc1
        simp only [List.length_map, List.length_range] at hlt
        simp only [List.getElem_map, List.getElem_range] at hce
        subst hce
        have h2 := hcell (j / k) hlt (j % k) (Nat.mod_lt _ hk)
        rw [Nat.mul_comm, Nat.div_add_mod, hadd] at h2
        rw [h2]; exact hc2
      refine ⟨b, off, rfl, ?_, key⟩
      have h1 := hcell 0 hn' 0 hk
      rw [List.getElem?_eq_getElem (by have := h0.2.1; omega)] at h1
      simpa [Addr.add] using cell_lt h1
    · intro i hi hd
      simp only [List.length_map, List.length_range] at hi
      refine ⟨n, (D i, Pl i), ?_, ?_⟩
      · simpa using (hC i (by omega)).2
      · simp

/-- all that the datum weighs is within the machine's reach -/
def fits (P : Program) (t : TypeId) (d : DataW H) : Prop := ∀ n ∈ d.weights P t, n ≤ reachBytes
theorem weightsAll_mem_ {P : Program} {e : TypeId} : ∀ {l : List (DataW H)} {d : DataW H}, d ∈ l → ∀ n ∈ d.weights P e, n ∈ DataW.weightsAll P e l
  | d' :: r, d, hd, n, hn => by
    simp only [DataW.weightsAll, List.mem_append]
    rcases List.mem_cons.1 hd with rfl | h
    · exact Or.inl hn
    · exact Or.inr (weightsAll_mem_ h n hn)
theorem fits_row {t e : TypeId} {l sp : List (DataW H)} (hu : P.underlying t = some (.slice e)) (h : fits P t (.slice l sp)) : l.length * P.bytesOf e ≤ reachBytes ∧ ∀ d ∈ l, fits P e d := by
  constructor
  · have := h ((l.length + sp.length) * P.bytesOf e) (by simp [DataW.weights, hu])
    exact Nat.le_trans (Nat.mul_le_mul_right _ (by omega)) this
  · intro d hd n hn
    exact h n (by simp only [DataW.weights, hu, List.mem_cons, List.mem_append]; exact Or.inr (Or.inl (weightsAll_mem_ hd n hn)))
theorem fits_field {t : TypeId} {fs : Array Field} {l : List (DataW H)} (hu : P.underlying t = some (.struct fs)) (h : fits P t (.agg l)) {i : Nat} {f : Field} {d : DataW H} (hf : fs[i]? = some f) (hd : l[i]? = some d) : fits P f.type d := by
  intro n hn
  refine h n ?_
  simp only [DataW.weights, hu]
  exact DataW.weights_mem_each (j := i) (t := f.type) (by simp [hf]) hd n hn
theorem fits_arg {ts : List TypeId} {ds : List (DataW H)} (h : (DataW.weightsEach P ts ds).all (· ≤ reachBytes) = true) {j : Nat} {t : TypeId} {d : DataW H} (ht : ts[j]? = some t) (hd : ds[j]? = some d) : fits P t d :=
  fun n hn => by simpa using List.all_eq_true.1 h n (DataW.weights_mem_each ht hd n hn)
end
end Go.Proofs.Ytjkoceacjbhblaa
