/- Parts of a proof, merged: OpenGroup, SrtA, SrtB, SrtC, SrtD. No condition. -/
import Derived.Test.YtjkoceacjbhblaaGt1
import Derived.BigRegion
namespace Go.Proofs.Ytjkoceacjbhblaa
open Go.ChangeShapes Go.WideShapes Go.ChangeAt Go.RowKit Go.Joins Go.Deep

section
variable {H : Type} {enc : TypeId × Value → H} {P : Program} {w : World} {base : Nat} {spare : Nat → Bool} {held : Bool}
theorem open_cells2 {t : TypeId} {f0 f1 : Field} {fuel : Nat} {cs : List Value} {x : DataW H × List MemPlace} (hs : P.underlying t = some (.struct #[f0, f1])) (hone : oneCellFields P #[f0, f1] = true) (hC : P.cellsOf t = 2)
    (h : DataW.trod enc P w base spare held fuel t cs = some x) :
    ∃ (v0 v1 : Value) (y0 y1 : DataW H × List MemPlace) (n : Nat), cs = [v0, v1] ∧ x.1 = .agg [y0.1, y1.1] ∧ DataW.trod enc P w base spare held n f0.type [v0] = some y0 ∧ DataW.trod enc P w base spare held n f1.type [v1] = some y1 := by
  obtain ⟨xs, n, _, rfl, hcl, hlen, hg⟩ := DataW.trod_struct hs h
  match cs, hcl.trans hC with
  | [c0, c1], _ =>
    obtain ⟨o0, k0⟩ := hone_of hone 0 f0 rfl
    obtain ⟨o1, k1⟩ := hone_of hone 1 f1 rfl
    match xs, hlen with
    | [y0, y1], _ =>
      exact ⟨c0, c1, y0, y1, n, rfl, rfl, by simpa [o0, k0] using hg 0 f0 rfl, by simpa [o1, k1] using hg 1 f1 rfl⟩
theorem open_cells3 {t : TypeId} {f0 f1 f2 : Field} {fuel : Nat} {cs : List Value} {x : DataW H × List MemPlace} (hs : P.underlying t = some (.struct #[f0, f1, f2])) (hone : oneCellFields P #[f0, f1, f2] = true) (hC : P.cellsOf t = 3)
    (h : DataW.trod enc P w base spare held fuel t cs = some x) :
    ∃ (v0 v1 v2 : Value) (y0 y1 y2 : DataW H × List MemPlace) (n : Nat), cs = [v0, v1, v2] ∧ x.1 = .agg [y0.1, y1.1, y2.1] ∧ DataW.trod enc P w base spare held n f0.type [v0] = some y0 ∧ DataW.trod enc P w base spare held n f1.type [v1] = some y1 ∧ DataW.trod enc P w base spare held n f2.type [v2] = some y2 := by
  obtain ⟨xs, n, _, rfl, hcl, hlen, hg⟩ := DataW.trod_struct hs h
  match cs, hcl.trans hC with
  | [c0, c1, c2], _ =>
    obtain ⟨o0, k0⟩ := hone_of hone 0 f0 rfl
    obtain ⟨o1, k1⟩ := hone_of hone 1 f1 rfl
    obtain ⟨o2, k2⟩ := hone_of hone 2 f2 rfl
    match xs, hlen with
    | [y0, y1, y2], _ =>
      exact ⟨c0, c1, c2, y0, y1, y2, n, rfl, rfl, by simpa [o0, k0] using hg 0 f0 rfl, by simpa [o1, k1] using hg 1 f1 rfl, by simpa [o2, k2] using hg 2 f2 rfl⟩
theorem open_cells5 {t : TypeId} {f0 f1 f2 f3 f4 : Field} {fuel : Nat} {cs : List Value} {x : DataW H × List MemPlace} (hs : P.underlying t = some (.struct #[f0, f1, f2, f3, f4])) (hone : oneCellFields P #[f0, f1, f2, f3, f4] = true) (hC : P.cellsOf t = 5)
    (h : DataW.trod enc P w base spare held fuel t cs = some x) :
    ∃ (v0 v1 v2 v3 v4 : Value) (y0 y1 y2 y3 y4 : DataW H × List MemPlace) (n : Nat), cs = [v0, v1, v2, v3, v4] ∧ x.1 = .agg [y0.1, y1.1, y2.1, y3.1, y4.1] ∧ DataW.trod enc P w base spare held n f0.type [v0] = some y0 ∧ DataW.trod enc P w base spare held n f1.type [v1] = some y1 ∧ DataW.trod enc P w base spare held n f2.type [v2] = some y2 ∧ DataW.trod enc P w base spare held n f3.type [v3] = some y3 ∧ DataW.trod enc P w base spare held n f4.type [v4] = some y4 := by
  obtain ⟨xs, n, _, rfl, hcl, hlen, hg⟩ := DataW.trod_struct hs h
  match cs, hcl.trans hC with
  | [c0, c1, c2, c3, c4], _ =>
    obtain ⟨o0, k0⟩ := hone_of hone 0 f0 rfl
    obtain ⟨o1, k1⟩ := hone_of hone 1 f1 rfl
    obtain ⟨o2, k2⟩ := hone_of hone 2 f2 rfl
    obtain ⟨o3, k3⟩ := hone_of hone 3 f3 rfl
    obtain ⟨o4, k4⟩ := hone_of hone 4 f4 rfl
    match xs, hlen with
    | [y0, y1, y2, y3, y4], _ =>
      exact ⟨c0, c1, c2, c3, c4, y0, y1, y2, y3, y4, n, rfl, rfl, by simpa [o0, k0] using hg 0 f0 rfl, by simpa [o1, k1] using hg 1 f1 rfl, by simpa [o2, k2] using hg 2 f2 rfl, by simpa [o3, k3] using hg 3 f3 rfl, by simpa [o4, k4] using hg 4 f4 rfl⟩

def MemD.Wf (t : MemD) : Prop := t.name.size ≤ maxLen ∧ I64 t.heard ∧ t.parts.length ≤ maxLen ∧ ∀ b ∈ t.parts, I64 b
def OffD.Wf (t : OffD) : Prop := I64 t.part ∧ I64 t.at_
def GroupD.Wf (c : GroupD) : Prop := I64 c.clock ∧ I64 c.wait ∧ I64 c.gen ∧ c.mems.length ≤ maxLen ∧ (∀ t ∈ c.mems, t.Wf) ∧ c.offs.length ≤ maxLen ∧ ∀ t ∈ c.offs, t.Wf
def GroupD.Small (c : GroupD) : Prop := c.mems.length * 48 ≤ reachBytes ∧ (∀ t ∈ c.mems, t.parts.length * 8 ≤ reachBytes) ∧ c.offs.length * 16 ≤ reachBytes

theorem open_mem {fuel : Nat} {cs : List Value} {x : DataW H × List MemPlace} (h : DataW.trod enc Try.prog w base spare held fuel 79 cs = some x) :
    ∃ (t : MemD) (pv : Value), cs = mcells (t, pv) ∧ Is w pv t.parts ∧ t.Wf ∧ (fits Try.prog 79 x.1 → t.parts.length * 8 ≤ reachBytes) := by
  obtain ⟨u0, u1, u2, y0, y1, y2, n, rfl, hx, g0, g1, g2⟩ := open_cells3 Try.underlying79 (by kernel_rfl) (by kernel_rfl) h
  obtain ⟨e0, z0, j0, w0⟩ := DataW.trod_string Try.underlying9 g0
  obtain ⟨e1, z1, j1, w1⟩ := DataW.trod_int Try.underlying3 g1
  obtain ⟨l, hl, hm, hw, hf⟩ := open_ints g2
  simp only [List.cons.injEq, and_true] at z0 z1
  subst z0 z1
  refine ⟨⟨e0, e1, l⟩, u2, rfl, hl, ⟨w0, w1, hm, hw⟩, fun hF => ?_⟩
  rw [hx] at hF
  exact hf (fits_field Try.underlying79 hF (i := 2) rfl rfl)

theorem open_mems {fuel : Nat} {v : Value} {x : DataW H × List MemPlace} (h : DataW.trod enc Try.prog w base spare held fuel 33 [v] = some x) :
    ∃ ds : List MemD, Mems w v ds ∧ ds.length ≤ maxLen ∧ (∀ t ∈ ds, t.Wf) ∧ (fits Try.prog 33 x.1 → ds.length * 48 ≤ reachBytes ∧ ∀ t ∈ ds, t.parts.length * 8 ≤ reachBytes) := by
  obtain ⟨cs, ds, sp, hsl, hm, hl, hd, he⟩ := open_sl (k := 3) Try.underlying33 (by kernel_rfl) (by decide) h
  have key : ∀ (cs : List (List Value)) (ds : List (DataW H)), ds.length = cs.length → (∀ i (hi : i < cs.length) (hd : i < ds.length), ∃ n y, DataW.trod enc Try.prog w base spare held n 79 cs[i] = some y ∧ ds[i] = y.1) →
      ∃ rows : List (MemD × Value), cs.flatten = rows.flatMap mcells ∧ rows.length = cs.length ∧ ∀ t ∈ rows, Is w t.2 t.1.parts ∧ t.1.Wf ∧ ((∀ d ∈ ds, fits Try.prog 79 d) → t.1.parts.length * 8 ≤ reachBytes) := by
    intro cs
    induction cs with
    | nil => exact fun _ _ _ => ⟨[], rfl, rfl, by simp⟩
    | cons c cs ih =>
      intro ds hl he
      match ds, hl with
      | d :: ds, hl =>
        obtain ⟨rows, h1, h2, h3⟩ := ih ds (by simpa using hl) (fun i hi hd => he (i + 1) (by simp; omega) (by simp; omega))
        obtain ⟨n, y, h4, h5⟩ := he 0 (by simp) (by simp)
        simp only [List.getElem_cons_zero] at h4 h5
        obtain ⟨t, pv, h6, h7, h8, h9⟩ := open_mem h4
        refine ⟨(t, pv) :: rows, by simp [h1, h6], by simp [h2], fun t' ht' => ?_⟩
        rcases List.mem_cons.1 ht' with rfl | ht'
        · exact ⟨h7, h8, fun hf => h9 (h5 ▸ hf d (by simp))⟩
        · obtain ⟨a1, a2, a3⟩ := h3 t' ht'
          exact ⟨a1, a2, fun hf => a3 (fun d hd => hf d (by simp [hd]))⟩
  obtain ⟨rows, h1, h2, h3⟩ := key cs ds hl he
  refine ⟨rows.map Prod.fst, ⟨rows, rfl, ?_, fun t ht => ⟨(h3 t ht).1, ?_⟩⟩, by simp; omega, ?_, fun hf => ?_⟩
  · rw [h1] at hsl
    simpa [h2] using hsl
  · have := (h3 t ht).2.1.2.2.1
    simp only [maxLen] at this
    omega
  · intro t ht
    obtain ⟨a, ha, rfl⟩ := List.mem_map.1 ht
    exact (h3 a ha).2.1
  · rcases hd with hd | ⟨hd, rfl⟩
    · rw [hd] at hf
      obtain ⟨f1, f2⟩ := fits_row Try.underlying33 hf
      have e : Try.prog.bytesOf 79 = 48 := by kernel_rfl
      rw [e] at f1
      refine ⟨by simp; omega, fun t ht => ?_⟩
      obtain ⟨a, ha, rfl⟩ := List.mem_map.1 ht
      exact (h3 a ha).2.2 f2
    · simp only [List.length_nil, List.length_eq_zero_iff] at h2
      subst h2
      simp

theorem open_offs {fuel : Nat} {v : Value} {x : DataW H × List MemPlace} (h : DataW.trod enc Try.prog w base spare held fuel 34 [v] = some x) :
    ∃ ds : List OffD, Offs w v ds ∧ ds.length ≤ maxLen ∧ (∀ t ∈ ds, t.Wf) ∧ (fits Try.prog 34 x.1 → ds.length * 16 ≤ reachBytes) := by
  obtain ⟨cs, ds, sp, hsl, hm, hl, hd, he⟩ := open_sl (k := 2) Try.underlying34 (by kernel_rfl) (by decide) h
  have key : ∀ cs : List (List Value), (∀ c ∈ cs, ∃ b : OffD, c = ocells b ∧ b.Wf) → ∃ l : List OffD, cs.flatten = l.flatMap ocells ∧ l.length = cs.length ∧ ∀ b ∈ l, b.Wf := by
    intro cs
    induction cs with
    | nil => exact fun _ => ⟨[], rfl, rfl, by simp⟩
    | cons c cs ih =>
      intro hcs
      obtain ⟨l, h1, h2, h3⟩ := ih (fun c hc => hcs c (by simp [hc]))
      obtain ⟨b, rfl, hb⟩ := hcs c (by simp)
      exact ⟨b :: l, by simp [h1], by simp [h2], by simpa using ⟨hb, h3⟩⟩
  obtain ⟨l, h1, h2, h3⟩ := key cs (fun c hc => by
    obtain ⟨i, hi, rfl⟩ := List.mem_iff_getElem.1 hc
    obtain ⟨n, y, h4, -⟩ := he i hi (by omega)
    obtain ⟨u0, u1, y0, y1, n', e0, hx, g0, g1⟩ := open_cells2 Try.underlying81 (by kernel_rfl) (by kernel_rfl) h4
    obtain ⟨b0, z0, -, w0⟩ := DataW.trod_int Try.underlying3 g0
    obtain ⟨b1, z1, -, w1⟩ := DataW.trod_int Try.underlying3 g1
    simp only [List.cons.injEq, and_true] at z0 z1
    subst z0 z1
    exact ⟨⟨b0, b1⟩, e0, w0, w1⟩)
  refine ⟨l, ?_, by omega, h3, fun hf => ?_⟩
  · rw [h1, ← h2] at hsl; exact hsl
  · rcases hd with hd | ⟨hd, rfl⟩
    · rw [hd] at hf
      have := (fits_row Try.underlying34 hf).1
      have e : Try.prog.bytesOf 81 = 16 := by kernel_rfl
      rw [e] at this
      omega
    · simp at h2; subst h2; simp

set_option maxRecDepth 100000 in
theorem open_group {r : Reach} {b0 : Nat} {v : Value} {d : DataW H} {p : List MemPlace} (hv : Value.okWide Try.prog w r b0 36 v) (h : DataW.Trod enc Try.prog w base spare held 36 v d p) :
    ∃ c : GroupD, Gv w v c ∧ c.Wf ∧ (fits Try.prog 36 d → c.Small) := by
  obtain ⟨cs, rfl, hsz⟩ := okWide_struct Try.underlying36 hv
  obtain ⟨fuel, hf⟩ := h
  obtain ⟨u0, u1, u2, u3, u4, y0, y1, y2, y3, y4, n, hcs, hx, g0, g1, g2, g3, g4⟩ := open_cells5 Try.underlying36 (by kernel_rfl) (by kernel_rfl) hf
  obtain ⟨e0, z0, j0, w0⟩ := DataW.trod_int Try.underlying3 g0
  obtain ⟨e1, z1, j1, w1⟩ := DataW.trod_int Try.underlying3 g1
  obtain ⟨e2, z2, j2, w2⟩ := DataW.trod_int Try.underlying3 g2
  obtain ⟨ms, ht, hm, hw, hF⟩ := open_mems g3
  obtain ⟨os, ht', hm', hw', hF'⟩ := open_offs g4
  simp only [List.cons.injEq, and_true] at z0 z1 z2
  subst z0 z1 z2
  obtain ⟨l⟩ := cs
  simp only [Value.cells] at hcs
  subst hcs
  refine ⟨⟨e0, e1, e2, ms, os⟩, ⟨u3, u4, rfl, ht, ht', by simp only [maxLen] at hm; omega, by simp only [maxLen] at hm'; omega⟩, ⟨w0, w1, w2, hm, hw, hm', hw'⟩, fun hfit => ?_⟩
  simp only at hx
  rw [hx] at hfit
  obtain ⟨s1, s2⟩ := hF (fits_field Try.underlying36 hfit (i := 3) rfl rfl)
  exact ⟨s1, s2, hF' (fits_field Try.underlying36 hfit (i := 4) rfl rfl)⟩
end
end Go.Proofs.Ytjkoceacjbhblaa
namespace Go.Proofs.Ytjkoceacjbhblaa

def swp (f : Nat → Nat) (i j : Nat) : Nat → Nat := fun k => if k = i then f j else if k = j then f i else f k
/-- g is f but for exchanges of places from a to b -/
def Sub (a b : Nat) (f g : Nat → Nat) : Prop := (∀ k, k < a ∨ b ≤ k → g k = f k) ∧ ∀ k, a ≤ k → k < b → ∃ j, a ≤ j ∧ j < b ∧ g k = f j
theorem Sub.refl (a b : Nat) (f : Nat → Nat) : Sub a b f f := ⟨fun _ _ => rfl, fun k h1 h2 => ⟨k, h1, h2, rfl⟩⟩
theorem Sub.trans {a b : Nat} {f g h : Nat → Nat} (x : Sub a b f g) (y : Sub a b g h) : Sub a b f h := by
  refine ⟨fun k hk => (y.1 k hk).trans (x.1 k hk), fun k h1 h2 => ?_⟩
  obtain ⟨j, j1, j2, e⟩ := y.2 k h1 h2
  obtain ⟨i, i1, i2, e2⟩ := x.2 j j1 j2
  exact ⟨i, i1, i2, e.trans e2⟩
theorem Sub.wide {a b a' b' : Nat} {f g : Nat → Nat} (x : Sub a b f g) (ha : a' ≤ a) (hb : b ≤ b') : Sub a' b' f g := by
  refine ⟨fun k hk => x.1 k (by omega), fun k h1 h2 => ?_⟩
  by_cases h : a ≤ k ∧ k < b
  · obtain ⟨j, j1, j2, e⟩ := x.2 k h.1 h.2
    exact ⟨j, by omega, by omega, e⟩
  · exact ⟨k, h1, h2, x.1 k (by omega)⟩
theorem Sub.swp {a b : Nat} {f g : Nat → Nat} (x : Sub a b f g) {i j : Nat} (i1 : a ≤ i) (i2 : i < b) (j1 : a ≤ j) (j2 : j < b) : Sub a b f (swp g i j) := by
  refine x.trans ⟨fun k hk => ?_, fun k h1 h2 => ?_⟩
  · have e1 : k ≠ i := by omega
    have e2 : k ≠ j := by omega
    simp [Go.Proofs.Ytjkoceacjbhblaa.swp, e1, e2]
  · unfold Go.Proofs.Ytjkoceacjbhblaa.swp
    split
    · exact ⟨j, j1, j2, rfl⟩
    · split
      · exact ⟨i, i1, i2, rfl⟩
      · exact ⟨k, h1, h2, rfl⟩
/-- what holds of all values of a stretch holds of them behind exchanges -/
theorem Sub.all {a b : Nat} {f g : Nat → Nat} (x : Sub a b f g) {P : Nat → Prop} (h : ∀ k, a ≤ k → k < b → P (f k)) : ∀ k, a ≤ k → k < b → P (g k) := by
  intro k h1 h2
  obtain ⟨j, j1, j2, e⟩ := x.2 k h1 h2
  rw [e]
  exact h j j1 j2

/-- a strict weak order -/
structure Ordr (L : Nat → Nat → Prop) : Prop where
  asym : ∀ x y, L x y → ¬ L y x
  neg : ∀ x y z, L x z → L x y ∨ L y z
/-- .. and what a stable sort makes of it -/
def Tie (L : Nat → Nat → Prop) (x y : Nat) : Prop := L x y ∨ (¬ L y x ∧ x < y)
theorem Ordr.irr {L : Nat → Nat → Prop} (h : Ordr L) (x : Nat) : ¬ L x x := fun e => h.asym x x e e
theorem Tie.trans {L : Nat → Nat → Prop} (o : Ordr L) {x y z : Nat} (h : Tie L x y) (k : Tie L y z) : Tie L x z := by
  rcases h with h | ⟨h, hx⟩
  · rcases k with k | ⟨k, _⟩
    · rcases o.neg x z y h with e | e
      · exact Or.inl e
      · exact absurd e (o.asym _ _ k)
    · rcases o.neg x z y h with e | e
      · exact Or.inl e
      · exact absurd e k
  · rcases k with k | ⟨k, hy⟩
    · rcases o.neg y x z k with e | e
      · exact absurd e h
      · exact Or.inl e
    · refine Or.inr ⟨fun e => ?_, by omega⟩
      rcases o.neg z y x e with e | e
      · exact k e
      · exact h e
theorem Tie.lo {L : Nat → Nat → Prop} {x y : Nat} (hx : x < y) (h : ¬ L y x) : Tie L x y := Or.inr ⟨h, hx⟩
theorem Tie.hi {L : Nat → Nat → Prop} {x y : Nat} (h : L y x) : Tie L y x := Or.inl h
def Srt (L : Nat → Nat → Prop) (f : Nat → Nat) (a b : Nat) : Prop := ∀ i j, a ≤ i → i < j → j < b → Tie L (f i) (f j)
theorem Srt.part {L : Nat → Nat → Prop} {f : Nat → Nat} {a b a' b' : Nat} (h : Srt L f a b) (ha : a ≤ a') (hb : b' ≤ b) : Srt L f a' b' := fun i j h1 h2 h3 => h i j (by omega) h2 (by omega)
theorem Srt.same {L : Nat → Nat → Prop} {f g : Nat → Nat} {a b : Nat} (h : Srt L f a b) (e : ∀ k, a ≤ k → k < b → g k = f k) : Srt L g a b := fun i j h1 h2 h3 => by
  rw [e i h1 (by omega), e j (by omega) h3]
  exact h i j h1 h2 h3
theorem Srt.one {L : Nat → Nat → Prop} {f : Nat → Nat} {a b : Nat} (h : b ≤ a + 1) : Srt L f a b := fun i j _ _ _ => by omega
/-- two sorted stretches, the first under the second -/
theorem Srt.join {L : Nat → Nat → Prop} {f : Nat → Nat} {a m b : Nat} (h1 : Srt L f a m) (h2 : Srt L f m b) (h : ∀ i j, a ≤ i → i < m → m ≤ j → j < b → Tie L (f i) (f j)) : Srt L f a b := by
  intro i j hi hij hj
  by_cases hm : j < m
  · exact h1 i j hi hij hm
  · by_cases hm2 : m ≤ i
    · exact h2 i j hm2 hij hj
    · exact h i j hi (by omega) (by omega) hj

def carryUp (f : Nat → Nat) (a i : Nat) : Nat → Nat := fun k => if a ≤ k ∧ k < i then f (k + 1) else if k = i then f a else f k
def downTo (f : Nat → Nat) (i m : Nat) : Nat → Nat := fun k => if k = i then f m else if i < k ∧ k ≤ m then f (k - 1) else f k
theorem carryUp_self (f : Nat → Nat) (a : Nat) : carryUp f a a = f := by
  funext k
  unfold carryUp
  rw [if_neg (by omega)]
  split
  · rename_i h; rw [h]
  · rfl
theorem carryUp_step {f : Nat → Nat} {a k : Nat} (h : a ≤ k) : swp (carryUp f a k) k (k + 1) = carryUp f a (k + 1) := by
  funext x
  unfold swp carryUp
  repeat' split
  all_goals first | rfl | omega | (congr 1; omega)
theorem downTo_self (f : Nat → Nat) (m : Nat) : downTo f m m = f := by
  funext k
  unfold downTo
  split
  · rename_i h; rw [h]
  · rw [if_neg (by omega)]
theorem downTo_step {f : Nat → Nat} {k m : Nat} (h : k + 1 ≤ m) : swp (downTo f (k + 1) m) (k + 1) k = downTo f k m := by
  funext x
  unfold swp downTo
  repeat' split
  all_goals first | rfl | omega | (congr 1; omega)
theorem Sub.carryUp {f : Nat → Nat} {a b i : Nat} (hi : i < b) (ha : a ≤ i) : Sub a b f (carryUp f a i) := by
  refine ⟨fun k hk => ?_, fun k h1 h2 => ?_⟩
  · unfold Go.Proofs.Ytjkoceacjbhblaa.carryUp
    rw [if_neg (by omega), if_neg (by omega)]
  · unfold Go.Proofs.Ytjkoceacjbhblaa.carryUp
    repeat' split
    · exact ⟨k + 1, by omega, by omega, rfl⟩
    · exact ⟨a, by omega, by omega, rfl⟩
    · exact ⟨k, h1, h2, rfl⟩
theorem Sub.downTo {f : Nat → Nat} {a b i m : Nat} (ha : a ≤ i) (him : i ≤ m) (hm : m < b) : Sub a b f (downTo f i m) := by
  refine ⟨fun k hk => ?_, fun k h1 h2 => ?_⟩
  · unfold Go.Proofs.Ytjkoceacjbhblaa.downTo
    rw [if_neg (by omega), if_neg (by omega)]
  · unfold Go.Proofs.Ytjkoceacjbhblaa.downTo
    repeat' split
    · exact ⟨m, by omega, by omega, rfl⟩
    · exact ⟨k - 1, by omega, by omega, rfl⟩
    · exact ⟨k, h1, h2, rfl⟩
/-- the first element put behind those that are under it -/
theorem Srt.carryUp {L : Nat → Nat → Prop} {f : Nat → Nat} {a b i : Nat} (h : Srt L f (a + 1) b) (ha : a ≤ i) (hi : i < b) (h1 : ∀ k, a < k → k ≤ i → Tie L (f k) (f a)) (h2 : ∀ k, i < k → k < b → Tie L (f a) (f k)) : Srt L (carryUp f a i) a b := by
  intro x y hx hxy hy
  unfold Go.Proofs.Ytjkoceacjbhblaa.carryUp
  by_cases c1 : x < i
  · rw [if_pos (show a ≤ x ∧ x < i from ⟨hx, c1⟩)]
    by_cases c2 : y < i
    · rw [if_pos (show a ≤ y ∧ y < i from ⟨by omega, c2⟩)]
      exact h _ _ (by omega) (by omega) (by omega)
    · rw [if_neg (by omega)]
      by_cases c3 : y = i
      · rw [if_pos c3]
        exact h1 _ (by omega) (by omega)
      · rw [if_neg c3]
        exact h _ _ (by omega) (by omega) (by omega)
  · rw [if_neg (show ¬ (a ≤ x ∧ x < i) by omega), if_neg (show ¬ (a ≤ y ∧ y < i) by omega), if_neg (show ¬ y = i by omega)]
    by_cases c3 : x = i
    · rw [if_pos c3]
      exact h2 _ (by omega) (by omega)
    · rw [if_neg c3]
      exact h _ _ (by omega) (by omega) (by omega)
/-- the last element put ahead of those that are over it -/
theorem Srt.downTo {L : Nat → Nat → Prop} {f : Nat → Nat} {a i m : Nat} (h : Srt L f a m) (ha : a ≤ i) (him : i ≤ m) (h1 : ∀ k, a ≤ k → k < i → Tie L (f k) (f m)) (h2 : ∀ k, i ≤ k → k < m → Tie L (f m) (f k)) : Srt L (downTo f i m) a (m + 1) := by
  intro x y hx hxy hy
  unfold Go.Proofs.Ytjkoceacjbhblaa.downTo
  by_cases c1 : x < i
  · rw [if_neg (show ¬ x = i by omega), if_neg (show ¬ (i < x ∧ x ≤ m) by omega)]
    by_cases c2 : y = i
    · rw [if_pos c2]
      exact h1 _ hx c1
    · rw [if_neg c2]
      by_cases c3 : i < y
      · rw [if_pos (show i < y ∧ y ≤ m from ⟨c3, by omega⟩)]
        exact h _ _ (by omega) (by omega) (by omega)
      · rw [if_neg (by omega)]
        exact h _ _ (by omega) (by omega) (by omega)
  · rw [if_neg (show ¬ y = i by omega), if_pos (show i < y ∧ y ≤ m from ⟨by omega, by omega⟩)]
    by_cases c2 : x = i
    · rw [if_pos c2]
      exact h2 _ (by omega) (by omega)
    · rw [if_neg c2, if_pos (show i < x ∧ x ≤ m from ⟨by omega, by omega⟩)]
      exact h _ _ (by omega) (by omega) (by omega)

def swr (f : Nat → Nat) (a b n : Nat) : Nat → Nat := fun k => if a ≤ k ∧ k < a + n then f (b + (k - a)) else if b ≤ k ∧ k < b + n then f (a + (k - b)) else f k
theorem swr_zero (f : Nat → Nat) (a b : Nat) : swr f a b 0 = f := by
  funext k
  unfold swr
  rw [if_neg (by omega), if_neg (by omega)]
theorem swr_step {f : Nat → Nat} {a b n : Nat} (h : a + n < b) : swp (swr f a b n) (a + n) (b + n) = swr f a b (n + 1) := by
  funext k
  unfold swp swr
  repeat' split
  all_goals first | rfl | omega | (congr 1; omega)
theorem Sub.swr {f : Nat → Nat} {a b n lo hi : Nat} (h : a + n ≤ b) (ha : lo ≤ a) (hb : b + n ≤ hi) : Sub lo hi f (swr f a b n) := by
  refine ⟨fun k hk => ?_, fun k h1 h2 => ?_⟩
  · unfold Go.Proofs.Ytjkoceacjbhblaa.swr
    rw [if_neg (by omega), if_neg (by omega)]
  · unfold Go.Proofs.Ytjkoceacjbhblaa.swr
    repeat' split
    · exact ⟨b + (k - a), by omega, by omega, rfl⟩
    · exact ⟨a + (k - b), by omega, by omega, rfl⟩
    · exact ⟨k, h1, h2, rfl⟩
def rot (f : Nat → Nat) (a m b : Nat) : Nat → Nat := fun k => if a ≤ k ∧ k < a + (b - m) then f (k + (m - a)) else if a + (b - m) ≤ k ∧ k < b then f (k - (b - m)) else f k
theorem rot_end {f : Nat → Nat} {m i : Nat} (h : i ≤ m) : swr f (m - i) m i = rot f (m - i) m (m + i) := by
  funext k
  unfold rot swr
  repeat' split
  all_goals first | rfl | omega | (congr 1; omega)
theorem rot_left {f : Nat → Nat} {m i j : Nat} (h : i ≤ m) (hj : j < i) : rot (swr f (m - i) m j) (m - (i - j)) m (m + j) = rot f (m - i) m (m + j) := by
  funext k
  unfold rot swr
  by_cases c1 : k < m - i
  · rw [if_neg (by omega), if_neg (by omega), if_neg (by omega), if_neg (by omega), if_neg (by omega), if_neg (by omega)]
  · by_cases c2 : m + j ≤ k
    · rw [if_neg (by omega), if_neg (by omega), if_neg (by omega), if_neg (by omega), if_neg (by omega), if_neg (by omega)]
    · by_cases c3 : k < m - i + j
      · rw [if_neg (by omega), if_neg (by omega), if_pos (by omega), if_pos (by omega)]
        congr 1; omega
      · by_cases c4 : k < m - (i - j) + j
        · rw [if_pos (by omega), if_neg (by omega), if_pos (by omega), if_neg (by omega), if_pos (by omega)]
          congr 1; omega
        · rw [if_neg (by omega), if_pos (by omega), if_neg (by omega), if_neg (by omega), if_neg (by omega), if_pos (by omega)]
theorem rot_right {f : Nat → Nat} {m i j : Nat} (h : i ≤ m) (hj : i < j) : rot (swr f (m - i) (m + j - i) i) (m - i) m (m + (j - i)) = rot f (m - i) m (m + j) := by
  funext k
  unfold rot swr
  by_cases c1 : k < m - i
  · rw [if_neg (by omega), if_neg (by omega), if_neg (by omega), if_neg (by omega), if_neg (by omega), if_neg (by omega)]
  · by_cases c2 : m + j ≤ k
    · rw [if_neg (by omega), if_neg (by omega), if_neg (by omega), if_neg (by omega), if_neg (by omega), if_neg (by omega)]
    · by_cases c3 : k < m - i + (j - i)
      · rw [if_pos (by omega), if_neg (by omega), if_neg (by omega), if_pos (by omega)]
      · by_cases c4 : k < m + (j - i)
        · rw [if_neg (by omega), if_pos (by omega), if_pos (by omega), if_pos (by omega)]
          congr 1; omega
        · rw [if_neg (by omega), if_neg (by omega), if_neg (by omega), if_pos (by omega), if_neg (by omega), if_pos (by omega)]
          congr 1; omega
theorem Sub.rot {f : Nat → Nat} {a m b lo hi : Nat} (h1 : a ≤ m) (h2 : m ≤ b) (ha : lo ≤ a) (hb : b ≤ hi) : Sub lo hi f (rot f a m b) := by
  refine ⟨fun k hk => ?_, fun k h1 h2 => ?_⟩
  · unfold Go.Proofs.Ytjkoceacjbhblaa.rot
    rw [if_neg (by omega), if_neg (by omega)]
  · unfold Go.Proofs.Ytjkoceacjbhblaa.rot
    repeat' split
    · exact ⟨k + (m - a), by omega, by omega, rfl⟩
    · exact ⟨k - (b - m), by omega, by omega, rfl⟩
    · exact ⟨k, h1, h2, rfl⟩
theorem rot_nil {f : Nat → Nat} {a m b : Nat} (h1 : a ≤ m) (h2 : m ≤ b) (h : a = m ∨ m = b) : rot f a m b = f := by
  funext k
  unfold rot
  repeat' split
  all_goals first | rfl | omega | (congr 1; omega)

structure MPre (L : Nat → Nat → Prop) (f : Nat → Nat) (a m b : Nat) : Prop where
  left : Srt L f a m
  right : Srt L f m b
  under : ∀ i j, a ≤ i → i < m → m ≤ j → j < b → f i < f j
/-- the place at which the two stretches are cut: so many of the first, and those of the second that come ahead -/
structure MCut (L : Nat → Nat → Prop) (f : Nat → Nat) (m s e lo hi p : Nat) : Prop where
  down : ∀ c, lo ≤ c → c < s → ¬ L (f (p - c)) (f c)
  up : ∀ c, s ≤ c → c < hi → L (f (p - c)) (f c)
/-- a rotated pair of sorted stretches: each element of the first half is under each of the second -/
theorem MPre.halves {L : Nat → Nat → Prop} {f : Nat → Nat} {a m b mid s e : Nat} (h : MPre L f a m b) (ha : a ≤ s) (hs : s ≤ m) (hm : m ≤ e) (he : e ≤ b) (hmid : mid + m = s + e)
    (h1 : ∀ i j, a ≤ i → i < s → e ≤ j → j < b → Tie L (f i) (f j)) (h2 : ∀ i j, m ≤ i → i < e → s ≤ j → j < m → Tie L (f i) (f j)) :
    (∀ i j, a ≤ i → i < mid → mid ≤ j → j < b → Tie L (rot f s m e i) (rot f s m e j)) ∧ MPre L (rot f s m e) a s mid ∧ MPre L (rot f s m e) mid e b := by
  have em : s + (e - m) = mid := by omega
  have r1 : ∀ i, a ≤ i → i < s → rot f s m e i = f i := fun i _ hi => by unfold rot; rw [if_neg (by omega), if_neg (by omega)]
  have r2 : ∀ i, s ≤ i → i < mid → rot f s m e i = f (i + (m - s)) := fun i h1 h2 => by unfold rot; rw [if_pos (by omega)]
  have r3 : ∀ i, mid ≤ i → i < e → rot f s m e i = f (i - (e - m)) := fun i h1 h2 => by unfold rot; rw [if_neg (by omega), if_pos (by omega)]
  have r4 : ∀ i, e ≤ i → rot f s m e i = f i := fun i h1 => by unfold rot; rw [if_neg (by omega), if_neg (by omega)]
  refine ⟨fun i j hi1 hi2 hj1 hj2 => ?_, ⟨?_, ?_, ?_⟩, ⟨?_, ?_, ?_⟩⟩
  · by_cases c1 : i < s
    · rw [r1 i hi1 c1]
      by_cases c2 : j < e
      · rw [r3 j hj1 c2]
        exact h.left _ _ hi1 (by omega) (by omega)
      · rw [r4 j (by omega)]
        exact h1 _ _ hi1 c1 (by omega) hj2
    · rw [r2 i (by omega) hi2]
      by_cases c2 : j < e
      · rw [r3 j hj1 c2]
        exact h2 _ _ (by omega) (by omega) (by omega) (by omega)
      · rw [r4 j (by omega)]
        exact h.right _ _ (by omega) (by omega) hj2
  · exact (h.left.part (Nat.le_refl _) hs).same r1
  · intro i j hi hij hj
    rw [r2 i hi (by omega), r2 j (by omega) hj]
    exact h.right _ _ (by omega) (by omega) (by omega)
  · intro i j hi1 hi2 hj1 hj2
    rw [r1 i hi1 hi2, r2 j hj1 hj2]
    exact h.under _ _ hi1 (by omega) (by omega) (by omega)
  · intro i j hi hij hj
    rw [r3 i hi (by omega), r3 j (by omega) hj]
    exact h.left _ _ (by omega) (by omega) (by omega)
  · exact (h.right.part hm (Nat.le_refl _)).same fun k h1 _ => r4 k h1
  · intro i j hi1 hi2 hj1 hj2
    rw [r3 i hi1 hi2, r4 j hj1]
    exact h.under _ _ (by omega) (by omega) (by omega) hj2
/-- the parts merged: the whole is -/
theorem Srt.halves {L : Nat → Nat → Prop} {f g : Nat → Nat} {a mid b : Nat} (h : ∀ i j, a ≤ i → i < mid → mid ≤ j → j < b → Tie L (f i) (f j)) (x : Sub a mid f g) {g' : Nat → Nat} (y : Sub mid b g g') (h1 : Srt L g a mid) (h2 : Srt L g' mid b) : Srt L g' a b := by
  refine Srt.join (h1.same fun k _ hk => y.1 k (by omega)) h2 fun i j hi1 hi2 hj1 hj2 => ?_
  rw [y.1 i (by omega)]
  obtain ⟨p, p1, p2, e⟩ := x.2 i hi1 hi2
  obtain ⟨q, q1, q2, e2⟩ := y.2 j hj1 hj2
  rw [e, e2, x.1 q (by omega)]
  exact h p q p1 p2 q1 q2

theorem cut_ok {L : Nat → Nat → Prop} (o : Ordr L) {f : Nat → Nat} {a m b mid lo hi s : Nat} (h : MPre L f a m b) (ham : a < m) (hmb : m < b) (hm1 : 2 * mid ≤ a + b) (hm2 : a + b ≤ 2 * mid + 1)
    (hl : (mid < m ∧ lo + b = mid + m ∧ hi = mid) ∨ (m ≤ mid ∧ lo = a ∧ hi = m)) (s1 : lo ≤ s) (s2 : s ≤ hi) (hd : s = lo ∨ ¬ L (f (mid + m - 1 - (s - 1))) (f (s - 1))) (hu : s = hi ∨ L (f (mid + m - 1 - s)) (f s)) :
    a ≤ s ∧ s ≤ m ∧ m ≤ mid + m - s ∧ mid + m - s ≤ b ∧ (∀ i j, a ≤ i → i < s → mid + m - s ≤ j → j < b → Tie L (f i) (f j)) ∧ (∀ i j, m ≤ i → i < mid + m - s → s ≤ j → j < m → Tie L (f i) (f j)) := by
  refine ⟨by omega, by omega, by omega, by omega, fun i j i1 i2 j1 j2 => ?_, fun i j i1 i2 j1 j2 => ?_⟩
  · have hs : ¬ s = lo := by omega
    have hd := hd.resolve_left hs
    rw [show mid + m - 1 - (s - 1) = mid + m - s by omega] at hd
    have t1 : Tie L (f (s - 1)) (f (mid + m - s)) := Tie.lo (h.under _ _ (by omega) (by omega) (by omega) (by omega)) hd
    have t2 : Tie L (f i) (f (mid + m - s)) := by
      by_cases e : i = s - 1
      · rw [e]; exact t1
      · exact (h.left i (s - 1) i1 (by omega) (by omega)).trans o t1
    by_cases e : j = mid + m - s
    · rw [e]; exact t2
    · exact t2.trans o (h.right _ j (by omega) (by omega) j2)
  · have hs : ¬ s = hi := by omega
    have hu := hu.resolve_left hs
    rw [show mid + m - 1 - s = mid + m - s - 1 by omega] at hu
    have t1 : Tie L (f (mid + m - s - 1)) (f s) := Tie.hi hu
    have t2 : Tie L (f i) (f s) := by
      by_cases e : i = mid + m - s - 1
      · rw [e]; exact t1
      · exact (h.right i (mid + m - s - 1) i1 (by omega) (by omega)).trans o t1
    by_cases e : j = s
    · rw [e]; exact t2
    · exact t2.trans o (h.left s j (by omega) (by omega) j2)
theorem one_left {L : Nat → Nat → Prop} (o : Ordr L) {f : Nat → Nat} {a b i : Nat} (h : MPre L f a (a + 1) b) (i1 : a + 1 ≤ i) (i2 : i ≤ b) (hd : i = a + 1 ∨ L (f (i - 1)) (f a)) (hu : i = b ∨ ¬ L (f i) (f a)) : Srt L (carryUp f a (i - 1)) a b := by
  refine Srt.carryUp h.right (by omega) (by omega) (fun k h1 h2 => ?_) (fun k h1 h2 => ?_)
  · have t1 := Tie.hi (hd.resolve_left (by omega))
    by_cases e : k = i - 1
    · rw [e]; exact t1
    · exact (h.right k (i - 1) (by omega) (by omega) (by omega)).trans o t1
  · have t1 := Tie.lo (h.under a i (Nat.le_refl _) (by omega) (by omega) (by omega)) (hu.resolve_left (by omega))
    by_cases e : k = i
    · rw [e]; exact t1
    · exact t1.trans o (h.right i k (by omega) (by omega) h2)
theorem one_right {L : Nat → Nat → Prop} (o : Ordr L) {f : Nat → Nat} {a m i : Nat} (h : Srt L f a m) (hu : ∀ k, a ≤ k → k < m → f k < f m) (i1 : a ≤ i) (i2 : i ≤ m) (hd : i = a ∨ ¬ L (f m) (f (i - 1))) (hv : i = m ∨ L (f m) (f i)) : Srt L (downTo f i m) a (m + 1) := by
  refine Srt.downTo h i1 i2 (fun k h1 h2 => ?_) (fun k h1 h2 => ?_)
  · have t1 := Tie.lo (hu (i - 1) (by omega) (by omega)) (hd.resolve_left (by omega))
    by_cases e : k = i - 1
    · rw [e]; exact t1
    · exact (h k (i - 1) h1 (by omega) (by omega)).trans o t1
  · have t1 := Tie.hi (hv.resolve_left (by omega))
    by_cases e : k = i
    · rw [e]; exact t1
    · exact t1.trans o (h i k i1 (by omega) h2)

structure Good (L : Nat → Nat → Prop) (B n : Nat) (f : Nat → Nat) : Prop where
  srt : ∀ i j, i < j → j < n → i / B = j / B → Tie L (f i) (f j)
  at_ : ∀ k, k < n → f k / B = k / B ∧ f k < n
/-- up to c the blocks are merged by twos -/
structure Half (L : Nat → Nat → Prop) (B n c : Nat) (f : Nat → Nat) : Prop where
  lo : ∀ i j, i < j → j < c → i / (B * 2) = j / (B * 2) → Tie L (f i) (f j)
  hi : ∀ i j, c ≤ i → i < j → j < n → i / B = j / B → Tie L (f i) (f j)
  at2 : ∀ k, k < n → f k / (B * 2) = k / (B * 2) ∧ f k < n
  at1 : ∀ k, c ≤ k → k < n → f k / B = k / B
  mul : ∃ u, c = u * (B * 2)
theorem Good.half {L : Nat → Nat → Prop} {B n : Nat} {f : Nat → Nat} (h : Good L B n f) : Half L B n 0 f :=
  ⟨fun _ _ _ h => by omega, fun i j _ => h.srt i j, fun k hk => ⟨by rw [← Nat.div_div_eq_div_mul, ← Nat.div_div_eq_div_mul, (h.at_ k hk).1], (h.at_ k hk).2⟩, fun k _ hk => (h.at_ k hk).1, 0, by simp⟩
theorem div_block {B u i : Nat} (hB : 0 < B) (h1 : u * B ≤ i) (h2 : i < u * B + B) : i / B = u := by
  rw [Nat.div_eq_iff hB]
  omega
theorem block_div {B u i : Nat} (hB : 0 < B) (h : i / B = u) : u * B ≤ i ∧ i < u * B + B := by
  rw [Nat.div_eq_iff hB] at h
  omega
theorem Half.pre {L : Nat → Nat → Prop} {B n c b : Nat} {f : Nat → Nat} (h : Half L B n c f) (hB : 0 < B) (h0 : c + B ≤ b) (h1 : b ≤ n) (h2 : b ≤ c + B * 2) : MPre L f c (c + B) b := by
  obtain ⟨u, hu⟩ := h.mul
  have e2 : u * (B * 2) = (u * 2) * B := by rw [Nat.mul_assoc, Nat.mul_comm 2 B]
  have e3 : (u * 2 + 1) * B = (u * 2) * B + B := Nat.succ_mul _ _
  refine ⟨fun i j i1 ij j2 => ?_, fun i j i1 ij j2 => ?_, fun i j i1 i2 j1 j2 => ?_⟩
  · exact h.hi i j i1 ij (by omega) ((div_block (u := u * 2) hB (by omega) (by omega)).trans (div_block (u := u * 2) hB (by omega) (by omega)).symm)
  · exact h.hi i j (by omega) ij (by omega) ((div_block (u := u * 2 + 1) hB (by omega) (by omega)).trans (div_block (u := u * 2 + 1) hB (by omega) (by omega)).symm)
  · have x1 := h.at1 i i1 (by omega)
    have x2 := h.at1 j (by omega) (by omega)
    rw [div_block (i := i) (u := u * 2) hB (by omega) (by omega)] at x1
    rw [div_block (i := j) (u := u * 2 + 1) hB (by omega) (by omega)] at x2
    have y1 := block_div hB x1
    have y2 := block_div hB x2
    omega
/-- the values of a stretch lie in it -/
theorem Half.inside {L : Nat → Nat → Prop} {B n c b : Nat} {f g : Nat → Nat} (h : Half L B n c f) (hB : 0 < B) (h1 : b ≤ n) (h2 : b ≤ c + B * 2) (x : Sub c b f g) :
    ∀ k, k < n → g k / (B * 2) = k / (B * 2) ∧ g k < n := by
  obtain ⟨u, hu⟩ := h.mul
  intro k hk
  by_cases hc : c ≤ k ∧ k < b
  · obtain ⟨j, j1, j2, e⟩ := x.2 k hc.1 hc.2
    have := h.at2 j (by omega)
    rw [e, this.1]
    refine ⟨?_, this.2⟩
    rw [div_block (u := u) (by omega) (by omega) (by omega), div_block (u := u) (by omega) (by omega) (by omega)]
  · rw [x.1 k (by omega)]
    exact h.at2 k hk
theorem Half.joins {L : Nat → Nat → Prop} {B n c b : Nat} {f g : Nat → Nat} (h : Half L B n c f) (hB : 0 < B) (h2 : b ≤ c + B * 2) (x : Sub c b f g) (s : Srt L g c b) : ∀ i j, i < j → j < b → i / (B * 2) = j / (B * 2) → Tie L (g i) (g j) := by
  obtain ⟨u, hu⟩ := h.mul
  intro i j hij hj he
  by_cases hc : c ≤ j
  · rw [div_block (i := j) (u := u) (by omega) (by omega) (by omega)] at he
    have := block_div (B := B * 2) (by omega) he
    exact s i j (by omega) hij hj
  · rw [x.1 i (by omega), x.1 j (by omega)]
    exact h.lo i j hij (by omega) he
theorem Half.step {L : Nat → Nat → Prop} {B n c : Nat} {f g : Nat → Nat} (h : Half L B n c f) (hB : 0 < B) (h1 : c + B * 2 ≤ n) (x : Sub c (c + B * 2) f g) (s : Srt L g c (c + B * 2)) : Half L B n (c + B * 2) g := by
  refine ⟨h.joins hB (Nat.le_refl _) x s, fun i j i1 ij j2 he => ?_, h.inside hB h1 (Nat.le_refl _) x, fun k k1 k2 => ?_, ?_⟩
  · rw [x.1 i (by omega), x.1 j (by omega)]
    exact h.hi i j (by omega) ij j2 he
  · rw [x.1 k (by omega)]
    exact h.at1 k (by omega) k2
  · obtain ⟨u, hu⟩ := h.mul
    exact ⟨u + 1, by rw [Nat.succ_mul]; omega⟩
theorem Half.last {L : Nat → Nat → Prop} {B n c : Nat} {f g : Nat → Nat} (h : Half L B n c f) (hB : 0 < B) (h1 : n ≤ c + B * 2) (x : Sub c n f g) (s : Srt L g c n) : Good L (B * 2) n g :=
  ⟨h.joins hB h1 x s, h.inside hB (Nat.le_refl _) h1 x⟩
theorem Half.rest {L : Nat → Nat → Prop} {B n c : Nat} {f : Nat → Nat} (h : Half L B n c f) (hB : 0 < B) (h1 : n ≤ c + B) : Good L (B * 2) n f := by
  refine h.last hB (by omega) (Sub.refl _ _ _) fun i j i1 ij j2 => h.hi i j i1 ij j2 ?_
  obtain ⟨u, hu⟩ := h.mul
  have e2 : u * (B * 2) = (u * 2) * B := by rw [Nat.mul_assoc, Nat.mul_comm 2 B]
  exact (div_block (u := u * 2) hB (by omega) (by omega)).trans (div_block (u := u * 2) hB (by omega) (by omega)).symm
theorem Good.whole {L : Nat → Nat → Prop} {B n : Nat} {f : Nat → Nat} (h : Good L B n f) (hB : n ≤ B) : Srt L f 0 n ∧ ∀ k, k < n → f k < n :=
  ⟨fun i j _ ij hj => h.srt i j ij hj (by rw [Nat.div_eq_of_lt (by omega), Nat.div_eq_of_lt (by omega)]), fun k hk => (h.at_ k hk).2⟩
/-- up to c blocks of twenty are sorted, behind it all is as it was -/
structure Ins (L : Nat → Nat → Prop) (n c : Nat) (f : Nat → Nat) : Prop where
  srt : ∀ i j, i < j → j < c → i / 20 = j / 20 → Tie L (f i) (f j)
  at_ : ∀ k, k < c → f k / 20 = k / 20 ∧ f k < n
  id_ : ∀ k, c ≤ k → f k = k
  mul : c % 20 = 0
theorem Ins.start (L : Nat → Nat → Prop) (n : Nat) : Ins L n 0 id := ⟨fun _ _ _ h => by omega, fun k h => by omega, fun k _ => rfl, rfl⟩
theorem Ins.step {L : Nat → Nat → Prop} {n c : Nat} {f g : Nat → Nat} (h : Ins L n c f) (h1 : c + 20 ≤ n) (x : Sub c (c + 20) f g) (s : Srt L g c (c + 20)) : Ins L n (c + 20) g := by
  have hm := h.mul
  refine ⟨fun i j ij hj he => ?_, fun k hk => ?_, fun k hk => ?_, by omega⟩
  · by_cases hc : c ≤ j
    · exact s i j (by omega) ij hj
    · rw [x.1 i (by omega), x.1 j (by omega)]
      exact h.srt i j ij (by omega) he
  · by_cases hc : c ≤ k
    · obtain ⟨j, j1, j2, e⟩ := x.2 k hc hk
      rw [e, h.id_ j j1]
      omega
    · rw [x.1 k (by omega)]
      exact h.at_ k (by omega)
  · rw [x.1 k (by omega)]
    exact h.id_ k (by omega)
theorem Ins.last {L : Nat → Nat → Prop} {n c : Nat} {f g : Nat → Nat} (h : Ins L n c f) (h0 : c ≤ n) (h1 : n < c + 20) (x : Sub c n f g) (s : Srt L g c n) : Good L 20 n g := by
  have hm := h.mul
  refine ⟨fun i j ij hj he => ?_, fun k hk => ?_⟩
  · by_cases hc : c ≤ j
    · exact s i j (by omega) ij hj
    · rw [x.1 i (by omega), x.1 j (by omega)]
      exact h.srt i j ij (by omega) he
  · by_cases hc : c ≤ k
    · obtain ⟨j, j1, j2, e⟩ := x.2 k hc hk
      rw [e, h.id_ j j1]
      omega
    · rw [x.1 k (by omega)]
      exact h.at_ k (by omega)

open Classical in
noncomputable def ahead (L : Nat → Nat → Prop) (n x : Nat) : Nat := (List.range n).countP fun k => decide (Tie L k x)
theorem countP_more {α : Type} (p q : α → Bool) : ∀ (l : List α), (∀ x ∈ l, p x = true → q x = true) → (∃ x ∈ l, q x = true ∧ p x = false) → l.countP p < l.countP q
  | [], _, ⟨x, hx, _⟩ => by simp at hx
  | a :: l, h, ⟨x, hx, h1, h2⟩ => by
    have hle : l.countP p ≤ l.countP q := List.countP_mono_left fun y hy => h y (List.mem_cons_of_mem _ hy)
    rcases List.mem_cons.1 hx with rfl | hx
    · rw [List.countP_cons_of_pos h1, List.countP_cons_of_neg (by simp [h2])]
      omega
    · have ih := countP_more p q l (fun y hy => h y (List.mem_cons_of_mem _ hy)) ⟨x, hx, h1, h2⟩
      rw [List.countP_cons, List.countP_cons]
      have := h a (by simp)
      split <;> split <;> simp_all <;> omega
theorem ahead_lt {L : Nat → Nat → Prop} (o : Ordr L) {n x y : Nat} (hx : x < n) (h : Tie L x y) : ahead L n x < ahead L n y := by
  refine countP_more _ _ _ (fun z _ hz => by simpa using (show Tie L z x by simpa using hz).trans o h) ⟨x, by simpa using hx, by simpa using h, ?_⟩
  simp only [decide_eq_false_iff_not]
  rintro (e | e)
  · exact o.irr x e
  · omega
theorem ahead_le {L : Nat → Nat → Prop} (o : Ordr L) {n x : Nat} (hx : x < n) : ahead L n x < n := by
  have : ahead L n x < (List.range n).countP fun _ => true := by
    unfold ahead
    refine countP_more _ _ _ (fun _ _ _ => rfl) ⟨x, by simpa using hx, rfl, ?_⟩
    simp only [decide_eq_false_iff_not]
    rintro (e | e)
    · exact o.irr x e
    · omega
  simpa using this
theorem rising_id {n : Nat} {s : Nat → Nat} (h : ∀ i j, i < j → j < n → s i < s j) (hb : ∀ i, i < n → s i < n) : ∀ k, k < n → s k = k := by
  have lo : ∀ k, k < n → k ≤ s k := by
    intro k
    induction k with
    | zero => intro _; omega
    | succ k ih => intro hk; have := ih (by omega); have := h k (k + 1) (by omega) hk; omega
  have hi : ∀ d k, k + d + 1 = n → s k ≤ k := by
    intro d
    induction d with
    | zero => intro k hk; have := hb k (by omega); omega
    | succ d ih => intro k hk; have := ih (k + 1) (by omega); have := h k (k + 1) (by omega) (by omega); omega
  intro k hk
  have := lo k hk
  have := hi (n - 1 - k) k (by omega)
  omega
theorem ahead_sorted {L : Nat → Nat → Prop} (o : Ordr L) {n : Nat} {f : Nat → Nat} (h : Srt L f 0 n) (hb : ∀ k, k < n → f k < n) : ∀ k, k < n → ahead L n (f k) = k :=
  rising_id (s := fun k => ahead L n (f k)) (fun i j ij hj => ahead_lt o (hb i (by omega)) (h i j (Nat.zero_le _) ij hj)) fun i hi => ahead_le o (hb i hi)

end Go.Proofs.Ytjkoceacjbhblaa
namespace Go.Proofs.Ytjkoceacjbhblaa
open Go.RowKit

def rowOf (f : Nat → Nat) (n : Nat) : Array Value := ((List.range n).map fun k => Value.int .i64 (f k)).toArray
theorem rowOf_get {f : Nat → Nat} {n i : Nat} (h : i < n) : (rowOf f n)[i]? = some (.int .i64 (f i)) := by simp [rowOf, h]
theorem rowOf_set (f : Nat → Nat) (n i x : Nat) : (rowOf f n).setIfInBounds i (.int .i64 x) = rowOf (fun k => if k = i then x else f k) n := by
  apply Array.ext
  · simp [rowOf]
  · intro k h1 h2
    have hk : k < (rowOf f n).size := by simpa using h1
    rw [Array.getElem_setIfInBounds hk]
    by_cases e : i = k
    · subst e; simp [rowOf]
    · simp [rowOf, e, Ne.symm e]
theorem rowOf_swap (f : Nat → Nat) (n i j : Nat) : ((rowOf f n).setIfInBounds i (.int .i64 (f j))).setIfInBounds j (.int .i64 (f i)) = rowOf (swp f i j) n := by
  rw [rowOf_set, rowOf_set]
  congr 1
  funext k
  unfold swp
  repeat' split
  all_goals simp_all
/-- the world w0, but for block b: it holds the numbers f 0 .. f (n - 1) -/
structure Ord (w0 : World) (b n : Nat) (f : Nat → Nat) (W : World) : Prop where
  os : W.os = w0.os
  tape : W.tape = w0.tape
  output : W.output = w0.output
  size : W.heap.size = w0.heap.size
  far : ∀ k, k ≠ b → W.heap[k]? = w0.heap[k]?
  row : W.heap[b]? = some (.cells (rowOf f n) 3 (0, 0))
section
variable {w0 W : World} {b n : Nat} {f : Nat → Nat}
theorem Ord.drewN (h : Ord w0 b n f W) (m : Nat) : Ord w0 b n f (W.drewN m) := ⟨h.os, h.tape, h.output, h.size, h.far, h.row⟩
theorem Ord.drew (h : Ord w0 b n f W) : Ord w0 b n f W.drew := ⟨h.os, h.tape, h.output, h.size, h.far, h.row⟩
theorem Ord.cell (h : Ord w0 b n f W) {i : Nat} (hi : i < n) : W.cell? ⟨b, i, none⟩ = some (.int .i64 (f i)) := by rw [cell_of_row W b i _ _ _ h.row, rowOf_get hi]
theorem Ord.frozen (h : Ord w0 b n f W) (i : Nat) : W.frozen? ⟨b, i, none⟩ = false := by simp [World.frozen?, h.row]
theorem Ord.lt (h : Ord w0 b n f W) : b < W.heap.size := Blk.lt h.row
theorem Ord.set_ (h : Ord w0 b n f W) (i x : Nat) : Ord w0 b n (fun k => if k = i then x else f k) (W.setCell ⟨b, i, none⟩ (.int .i64 x)) := by
  have hb := (Below.refl b W).setCell (p := ⟨b, i, none⟩) (Nat.le_refl _) (.int .i64 x)
  refine ⟨hb.os.trans h.os, hb.tape.trans h.tape, hb.output.trans h.output, by rw [← h.size]; simp, fun k hk => (Below.heap_setCell W _ _ k hk).trans (h.far k hk), ?_⟩
  have := Blk.set_ h.row i (.int .i64 x)
  rw [rowOf_set] at this
  exact this
theorem Ord.swap (h : Ord w0 b n f W) (i j : Nat) : Ord w0 b n (swp f i j) ((W.setCell ⟨b, i, none⟩ (.int .i64 (f j))).setCell ⟨b, j, none⟩ (.int .i64 (f i))) := by
  have h2 := (h.set_ i (f j)).set_ j (f i)
  refine ⟨h2.os, h2.tape, h2.output, h2.size, h2.far, ?_⟩
  rw [h2.row]
  congr 2
  rw [← rowOf_swap, rowOf_set, rowOf_set]
/-- behind the exchange's first store the second place still holds something -/
theorem Ord.c2 (h : Ord w0 b n f W) {i j : Nat} (hj : j < n) (x : Nat) : ∃ u, (W.setCell ⟨b, i, none⟩ (.int .i64 x)).cell? ⟨b, j, none⟩ = some u := ⟨_, (h.set_ i x).cell hj⟩
theorem Ord.start {w : World} {b n : Nat} {f : Nat → Nat} (h : w.heap[b]? = some (.cells (rowOf f n) 3 (0, 0))) : Ord w b n f w := ⟨rfl, rfl, rfl, rfl, fun _ _ => rfl, h⟩
/-- from a world of the row's to another -/
theorem Ord.trans {W' : World} {g : Nat → Nat} (h : Ord w0 b n f W) (k : Ord W b n g W') : Ord w0 b n g W' := ⟨k.os.trans h.os, k.tape.trans h.tape, k.output.trans h.output, k.size.trans h.size, fun x hx => (k.far x hx).trans (h.far x hx), k.row⟩
end
/-- what is asked of the comparison: over whatever the row holds, of places of names it tells cf -/
def CmpN (P : Program) (g : Nat) (cb : Array Value) (w0 : World) (b n : Nat) (cf : Nat → Nat → Int) : Prop :=
  ∀ (f : Nat → Nat) (W : World), Ord w0 b n f W → ∀ x y : Nat, x < n → y < n →
    Calls P g (#[.int .i64 x, .int .i64 y] ++ cb) W fun e w' => e = .returned (.int .i64 (cf x y)) ∧ ∃ q, w' = W.drewN q
def Lt (cf : Nat → Nat → Int) (x y : Nat) : Prop := cf x y < 0
end Go.Proofs.Ytjkoceacjbhblaa
namespace Go.Proofs.Ytjkoceacjbhblaa
open Go.RowKit

set_option maxRecDepth 100000 in
set_option maxHeartbeats 4000000 in
theorem swapRange_any (cap b n a c k : Nat) (f : Nat → Nat) (cv : Value) (w0 W : World) (h : Ord w0 b n f W) (hac : a + k ≤ c) (hcn : c + k ≤ n) (hn : n < 8796093022208) :
    Calls Try.prog 134 #[.slice (some ⟨b, 0, none⟩) n cap, .int .i64 a, .int .i64 c, .int .i64 k, cv] W fun e w' => e = .returned (.tuple #[]) ∧ Ord w0 b n (swr f a c k) w' := by
  have H := Lib.hid h
  clear h
  go_enter Try.func134, Try.ntmps134
  go_wp2
  go_loopw [10] (fun i wr => ∃ j : Nat, j ≤ k ∧ i = .int .i64 j ∧ Hid (Ord w0 b n (swr f a c j) wr)) (fun i _ => k - (intOf i).toNat)
  case atStart => exact ⟨0, by omega, rfl, by rw [swr_zero]; exact H.out⟩
  case round =>
    obtain ⟨j, hj, rfl, HW⟩ := hrel
    clear H
    by_cases hlt : j < k
    · have hz : (j : Int) < (k : Int) := by omega
      have ep : ((a : Int) + (j : Int)).toNat = a + j := by omega
      have eq : ((c : Int) + (j : Int)).toNat = c + j := by omega
      have bp : (a : Int) + (j : Int) < (n : Int) := by omega
      have bq : (c : Int) + (j : Int) < (n : Int) := by omega
      have pp : (0 : Int) ≤ (a : Int) + (j : Int) := by omega
      have pq : (0 : Int) ≤ (c : Int) + (j : Int) := by omega
      have rp : IntKind.i64.wrap ((a : Int) + (j : Int)) = (a : Int) + (j : Int) := by rw [IntKind.wrap_i64]; omega
      have rq : IntKind.i64.wrap ((c : Int) + (j : Int)) = (c : Int) + (j : Int) := by rw [IntKind.wrap_i64]; omega
      obtain ⟨x, hx⟩ : ∃ x, x = swr f a c j (a + j) := ⟨_, rfl⟩
      obtain ⟨y, hy⟩ : ∃ x, x = swr f a c j (c + j) := ⟨_, rfl⟩
      have cp := HW.out.cell (i := a + j) (by omega)
      have cq := HW.out.cell (i := c + j) (by omega)
      have fp := HW.out.frozen (a + j)
      have fq := HW.out.frozen (c + j)
      obtain ⟨u, cu⟩ := HW.out.c2 (i := a + j) (j := c + j) (by omega) y
      have S := HW.out.swap (a + j) (c + j)
      rw [swr_step (by omega), ← hx, ← hy] at S
      rw [← hx] at cp
      rw [← hy] at cq
      have HS := Lib.hid S
      clear S hx hy HW ep eq
      go_wp2_with fail
      go_big_region
      all_goals go_wp2
      all_goals go_light
      all_goals exact ⟨⟨j + 1, by omega, by go_num, HS.out.drew⟩, by simp [intOf]; omega⟩
    · obtain rfl : j = k := by omega
      go_wp2
      go_end0
      exact ⟨rfl, HW.out⟩
theorem swapRange_at {cap b n a c k : Nat} {f : Nat → Nat} {cv : Value} {w0 W : World} {x y z : Int} (h : Ord w0 b n f W) (hx : x = (a : Int)) (hy : y = (c : Int)) (hz : z = (k : Int)) (hac : a + k ≤ c) (hcn : c + k ≤ n) (hn : n < 8796093022208) :
    Calls Try.prog 134 #[.slice (some ⟨b, 0, none⟩) n cap, .int .i64 x, .int .i64 y, .int .i64 z, cv] W fun e w' => e = .returned (.tuple #[]) ∧ Ord w0 b n (swr f a c k) w' := by
  subst hx hy hz
  exact swapRange_any cap b n a c k f cv w0 W h hac hcn hn

set_option maxRecDepth 100000 in
set_option maxHeartbeats 4000000 in
theorem rotate_any (cap b n a m e : Nat) (f : Nat → Nat) (cv : Value) (w0 W : World) (h : Ord w0 b n f W) (ham : a < m) (hme : m < e) (hen : e ≤ n) (hn : n < 8796093022208) :
    Calls Try.prog 131 #[.slice (some ⟨b, 0, none⟩) n cap, .int .i64 a, .int .i64 m, .int .i64 e, cv] W fun e' w' => e' = .returned (.tuple #[]) ∧ Ord w0 b n (rot f a m e) w' := by
  have H := Lib.hid h
  clear h
  go_enter Try.func131, Try.ntmps131
  go_wp2
  go_loopw [10, 11] (fun x y wr => ∃ (i j : Nat) (g : Nat → Nat), 0 < i ∧ i ≤ m ∧ a + i ≤ m ∧ 0 < j ∧ m + j ≤ e ∧ x = .int .i64 i ∧ y = .int .i64 j ∧ Hid (Ord w0 b n g wr) ∧ Hid (rot g (m - i) m (m + j) = rot f a m e)) (fun x y _ => (intOf x).toNat + (intOf y).toNat)
  case atStart =>
    have e1 : m - (m - a) = a := by omega
    have e2 : m + (e - m) = e := by omega
    exact ⟨m - a, e - m, f, by omega, by omega, by omega, by omega, by omega, by go_num, by go_num, H.out, by rw [e1, e2]; rfl⟩
  case round =>
    obtain ⟨i, j, g, hi0, him, hai, hj0, hje, rfl, rfl, HW, HR⟩ := hrel
    clear H
    rcases Nat.lt_trichotomy i j with hlt | heq | hlt
    · have z1 : ((i : Int) == (j : Int)) = false := by simp; omega
      have z2 : ¬ (j : Int) < (i : Int) := by omega
      go_wp2_with (go_at_call 134; refine (swapRange_at (a := m - i) (c := m + j - i) (k := i) HW.out (by omega) (by omega) (by omega) (by omega) (by omega) hn).mono ?_; rintro e' w' ⟨rfl, S⟩; have HS := Lib.hid S; clear S)
      go_light
      refine ⟨⟨i, j - i, swr g (m - i) (m + j - i) i, hi0, him, hai, by omega, by omega, rfl, by go_num, HS.out, ?_⟩, by simp [intOf]; omega⟩
      show _ = _
      rw [← HR.out, rot_right him hlt]
    · subst heq
      go_wp2_with (go_at_call 134; refine (swapRange_at (a := m - i) (c := m) (k := i) HW.out (by omega) (by omega) (by omega) (by omega) (by omega) hn).mono ?_; rintro e' w' ⟨rfl, S⟩; have HS := Lib.hid S; clear S)
      go_end0
      refine ⟨rfl, ?_⟩
      rw [← HR.out, ← rot_end him]
      exact HS.out
    · have z1 : ((i : Int) == (j : Int)) = false := by simp; omega
      have z2 : (j : Int) < (i : Int) := by omega
      go_wp2_with (go_at_call 134; refine (swapRange_at (a := m - i) (c := m) (k := j) HW.out (by omega) (by omega) (by omega) (by omega) (by omega) hn).mono ?_; rintro e' w' ⟨rfl, S⟩; have HS := Lib.hid S; clear S)
      go_light
      refine ⟨⟨i - j, j, swr g (m - i) m j, by omega, by omega, by omega, hj0, hje, by go_num, rfl, HS.out, ?_⟩, by simp [intOf]; omega⟩
      show _ = _
      rw [← HR.out, rot_left him hlt]
end Go.Proofs.Ytjkoceacjbhblaa
namespace Go.Proofs.Ytjkoceacjbhblaa
open Go.RowKit

/-- the comparison of group.Assign, over names that lie behind the pointer p -/
def cmpV (p : Nat) : Value := .func (.func 96) #[] #[.pointer (some ⟨p, 0, none⟩)]
abbrev CmpA (p : Nat) (w0 : World) (b n : Nat) (cf : Nat → Nat → Int) : Prop := CmpN Try.prog 96 #[.pointer (some ⟨p, 0, none⟩)] w0 b n cf
theorem CmpA.at_ {p b n : Nat} {w0 W : World} {cf : Nat → Nat → Int} {f : Nat → Nat} (h : CmpA p w0 b n cf) (k : Ord w0 b n f W) {x y : Nat} (hx : x < n) (hy : y < n) (m : Nat) :
    Calls Try.prog 96 #[.int .i64 x, .int .i64 y, .pointer (some ⟨p, 0, none⟩)] (W.drewN m) fun e w' => e = .returned (.int .i64 (cf x y)) ∧ ∃ q, w' = (W.drewN m).drewN q := h f _ (k.drewN m) x y hx hy
/-- a row of places: each of the numbers is one -/
def Plc (n : Nat) (f : Nat → Nat) : Prop := ∀ k, k < n → f k < n
theorem Plc.sub {n a b : Nat} {f g : Nat → Nat} (h : Plc n f) (x : Sub a b f g) (hb : b ≤ n) : Plc n g := by
  intro k hk
  by_cases c : a ≤ k ∧ k < b
  · obtain ⟨j, _, j2, e⟩ := x.2 k c.1 c.2
    rw [e]
    exact h j (by omega)
  · rw [x.1 k (by omega)]
    exact h k hk
/-- while one element is carried down -/
structure Sink (cf : Nat → Nat → Int) (a i : Nat) (f : Nat → Nat) (j : Nat) : Prop where
  aj : a ≤ j
  ji : j ≤ i
  up : j = i ∨ Lt cf (f i) (f j)
/-- the rounds that are done -/
structure Done (cf : Nat → Nat → Int) (n a i : Nat) (f0 f : Nat → Nat) : Prop where
  srt : Srt (Lt cf) f a i
  sub : Sub a i f0 f
theorem Done.start (cf : Nat → Nat → Int) (n a : Nat) (f : Nat → Nat) : Done cf n a a f f := ⟨Srt.one (by omega), Sub.refl _ _ _⟩
theorem Done.first {cf : Nat → Nat → Int} {n a : Nat} {f : Nat → Nat} : Done cf n a (a + 1) f f := ⟨Srt.one (by omega), Sub.refl _ _ _⟩
theorem Done.next {cf : Nat → Nat → Int} {n a i j : Nat} {f0 f : Nat → Nat} (o : Ordr (Lt cf)) (h : Done cf n a i f0 f) (hid : ∀ k, a ≤ k → k ≤ i → f0 k = k) (hj : Sink cf a i f j) (hs : j = a ∨ ¬ Lt cf (f i) (f (j - 1))) : Done cf n a (i + 1) f0 (downTo f j i) := by
  have hi : f i = i := (h.sub.1 i (by omega)).trans (hid i (by have := hj.aj; have := hj.ji; omega) (Nat.le_refl _))
  refine ⟨one_right o h.srt (fun k k1 k2 => ?_) hj.aj hj.ji hs hj.up, (h.sub.wide (Nat.le_refl _) (Nat.le_succ _)).trans (Sub.downTo hj.aj hj.ji (Nat.lt_succ_self _))⟩
  obtain ⟨q, q1, q2, e⟩ := h.sub.2 k k1 k2
  rw [e, hid q q1 (by omega), hi]
  exact q2
theorem Sink.start {cf : Nat → Nat → Int} {a i : Nat} {f : Nat → Nat} (h : a ≤ i) : Sink cf a i f i := ⟨h, Nat.le_refl _, Or.inl rfl⟩
theorem Sink.step {cf : Nat → Nat → Int} {a i j : Nat} {f : Nat → Nat} (h : Sink cf a i f (j + 1)) (ha : a ≤ j) (hl : Lt cf (f i) (f j)) : Sink cf a i f j := ⟨ha, by have := h.ji; omega, Or.inr hl⟩
theorem downTo_at {f : Nat → Nat} {j i : Nat} : downTo f j i j = f i := by simp [downTo]
theorem downTo_lo {f : Nat → Nat} {j i : Nat} : downTo f (j + 1) i j = f j := by
  unfold downTo
  rw [if_neg (by omega), if_neg (by omega)]

set_option maxRecDepth 100000 in
set_option maxHeartbeats 4000000 in
theorem insertionN_any (cap b n a e p : Nat) (f : Nat → Nat) (cf : Nat → Nat → Int) (w0 W : World) (hc : CmpA p w0 b n cf) (o : Ordr (Lt cf)) (h : Ord w0 b n f W) (hp : Plc n f) (hid : ∀ k, a ≤ k → k < e → f k = k) (hae : a ≤ e) (hen : e ≤ n) (hn : n < 8796093022208) :
    Calls Try.prog 127 #[.slice (some ⟨b, 0, none⟩) n cap, .int .i64 a, .int .i64 e, cmpV p] W fun e' w' => e' = .returned (.tuple #[]) ∧ ∃ g, Ord w0 b n g w' ∧ Sub a e f g ∧ Srt (Lt cf) g a e := by
  have H := Lib.hid h
  have HC := Lib.hid hc
  have HP := Lib.hid hp
  have HO := Lib.hid o
  have HI := Lib.hid hid
  clear h hc hp o hid
  unfold cmpV
  go_enter Try.func127, Try.ntmps127
  go_wp2
  go_loopw [8] (fun x wr => ∃ (i : Nat) (g : Nat → Nat), a < i ∧ i ≤ e + 1 ∧ x = .int .i64 i ∧ Hid (Ord w0 b n g wr) ∧ Hid (Plc n g) ∧ Hid (i ≤ e → Done cf n a i f g) ∧ Hid (e ≤ i → Srt (Lt cf) g a e ∧ Sub a e f g)) (fun x _ => e + 1 - (intOf x).toNat)
  case atStart => exact ⟨a + 1, f, by omega, by omega, by go_num, H.out, HP.out, fun _ => Done.first, fun _ => ⟨Srt.one (by omega), Sub.refl _ _ _⟩⟩
  case round =>
    obtain ⟨i, g, hai, hie, rfl, HW, HG, HD, HE⟩ := hrel
    clear H HP
    by_cases hlt : i < e
    · have hz : (i : Int) < (e : Int) := by omega
      go_wp2
      go_loopw [9] (fun x wr2 => ∃ j : Nat, a ≤ j ∧ j ≤ i ∧ x = .int .i64 j ∧ Hid (Ord w0 b n (downTo g j i) wr2) ∧ Hid (Sink cf a i g j)) (fun x _ => (intOf x).toNat)
      case atStart => exact ⟨i, by omega, Nat.le_refl _, rfl, by rw [downTo_self]; exact HW.out, Sink.start (by omega)⟩
      case round =>
        obtain ⟨j, haj, hji, rfl, HV, HS⟩ := hrel
        clear HW
        have out : (j = a ∨ ¬ Lt cf (g i) (g (j - 1))) → Done cf n a (i + 1) f (downTo g j i) := fun hs => Done.next HO.out (HD.out (by omega)) (fun k k1 k2 => HI.out k k1 (by omega)) HS.out hs
        have OUT := Lib.hid out
        clear out
        have fin : ∀ W2, Ord w0 b n (downTo g j i) W2 → (j = a ∨ ¬ Lt cf (g i) (g (j - 1))) → (∃ (i' : Nat) (g' : Nat → Nat), a < i' ∧ i' ≤ e + 1 ∧ i + 1 = i' ∧ Hid (Ord w0 b n g' W2) ∧ Hid (Plc n g') ∧ Hid (i' ≤ e → Done cf n a i' f g') ∧ Hid (e ≤ i' → Srt (Lt cf) g' a e ∧ Sub a e f g')) := fun W2 h2 hs =>
          ⟨i + 1, downTo g j i, by omega, by omega, rfl, h2, HG.out.sub (Sub.downTo haj hji (Nat.lt_succ_self i)) (by omega), fun _ => OUT.out hs, fun hh => by
            obtain rfl : e = i + 1 := by omega
            exact ⟨(OUT.out hs).srt, (OUT.out hs).sub⟩⟩
        have FIN := Lib.hid fin
        clear fin OUT
        by_cases hja : a < j
        · obtain ⟨q, rfl⟩ : ∃ q, j = q + 1 := ⟨j - 1, by omega⟩
          have cj := HV.out.cell (i := q + 1) (by omega)
          have cq := HV.out.cell (i := q) (by omega)
          rw [downTo_at] at cj
          rw [downTo_lo] at cq
          have hgi := HG.out i (by omega)
          have hgq := HG.out q (by omega)
          have hc := fun m => HC.out.at_ HV.out hgi hgq m
          obtain ⟨x, hx⟩ : ∃ x, x = g i := ⟨_, rfl⟩
          obtain ⟨y, hy⟩ : ∃ y, y = g q := ⟨_, rfl⟩
          rw [← hx] at cj
          rw [← hy] at cq
          rw [← hx, ← hy] at hc
          have dja : decide ((q : Int) + 1 > (a : Int)) = true := decide_eq_true (by omega)
          have hja' : (a : Int) < (q : Int) + 1 := by omega
          have b1 : (q : Int) + 1 < (n : Int) := by omega
          have b0 : (q : Int) < (n : Int) := by omega
          have p1 : (0 : Int) ≤ (q : Int) + 1 := by omega
          have w1 : IntKind.i64.wrap (q : Int) = (q : Int) := by rw [IntKind.wrap_i64]; omega
          have e1 : ((q : Int) + 1).toNat = q + 1 := by omega
          have HX := Lib.hid hx
          have HY := Lib.hid hy
          have HC2 := Lib.hid hc
          clear hc hx hy hgi hgq
          by_cases hlv : cf x y < 0
          · have hd : decide (cf x y < 0) = true := decide_eq_true hlv
            have S := Sink.step HS.out (by omega) (show Lt cf (g i) (g q) by rw [← HX.out, ← HY.out]; exact hlv)
            have HS2 := Lib.hid S
            clear S HS hlv
            go_wp2_with fail
            go_quiet (first | (go_at_call 96; refine Calls.quiet_of (HC2.out _)))
            have h2 := HV.out.drewN nq
            clear cj cq HC2
            generalize wr.drewN nq = w2 at h2 ⊢
            have cj := h2.cell (i := q + 1) (by omega)
            have cq := h2.cell (i := q) (by omega)
            rw [downTo_at, ← HX.out] at cj
            rw [downTo_lo, ← HY.out] at cq
            have fj := h2.frozen (q + 1)
            have fq := h2.frozen q
            obtain ⟨u, cu⟩ := h2.c2 (i := q + 1) (j := q) (by omega) y
            have S := h2.swap (q + 1) q
            rw [downTo_step (by omega), downTo_at, downTo_lo, ← HX.out, ← HY.out] at S
            have S2 := Lib.hid S
            clear S h2 HV FIN HX HY hd
            go_wp2_with fail
            go_big_region
            all_goals go_wp2
            all_goals go_light
            all_goals exact ⟨⟨q, by omega, by omega, by first | rfl | go_num, S2.out.drew, HS2.out⟩, by simp [intOf]⟩
          · have hd : decide (cf x y < 0) = false := decide_eq_false hlv
            have F := fun m => FIN.out _ (HV.out.drewN m) (Or.inr (show ¬ Lt cf (g i) (g q) by rw [← HX.out, ← HY.out]; exact hlv))
            have HF := Lib.hid F
            clear F FIN HV hlv HX HY
            go_wp2_with fail
            go_quiet (first | (go_at_call 96; refine Calls.quiet_of (HC2.out _)))
            go_wp2
            go_light
            obtain ⟨i', g', h1, h2, rfl, h3, h4, h5, h6⟩ := HF.out nq
            exact ⟨⟨_, g', h1, h2, by go_num, h3, h4, h5, h6⟩, by simp [intOf]; omega⟩
        · obtain rfl : j = a := by omega
          have dja : decide ((j : Int) > (j : Int)) = false := decide_eq_false (by omega)
          have F := FIN.out _ HV.out.drew (Or.inl rfl)
          have HF := Lib.hid F
          clear F FIN HV
          go_wp2_with fail
          go_big_region
          all_goals go_wp2
          all_goals go_light
          all_goals obtain ⟨i', g', h1, h2, rfl, h3, h4, h5, h6⟩ := HF.out
          all_goals exact ⟨⟨_, g', h1, h2, by go_num, h3, h4, h5, h6⟩, by simp [intOf]; omega⟩
    · have hz : ¬ (i : Int) < (e : Int) := by omega
      go_wp2
      go_end0
      exact ⟨rfl, g, HW.out, (HE.out (by omega)).2, (HE.out (by omega)).1⟩
end Go.Proofs.Ytjkoceacjbhblaa
