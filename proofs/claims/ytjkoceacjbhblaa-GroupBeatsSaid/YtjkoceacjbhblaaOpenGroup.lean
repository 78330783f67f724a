/- An argument that is a group, opened. -/
import Derived.Test.YtjkoceacjbhblaaOpenCoord
import Derived.Test.YtjkoceacjbhblaaGroupD
namespace Go.Proofs.Ytjkoceacjbhblaa
open Go.ChangeShapes Go.WideShapes Go.ChangeAt Go.RowKit Go.Joins Go.Deep

section
variable {H : Type} {enc : TypeId × Value → H} {P : Program} {w : World} {base : Nat} {spare : Nat → Bool} {held : Bool}
theorem open_cells2 {t : TypeId} {f0 f1 : Field} {fuel : Nat} {cs : List Value} {x : DataW H × List MemPlace} (hs : P.underlying t = some (.struct #[f0, f1])) (hone : oneCellFields P #[f0, f1] = true) (hC : P.cellsOf t = 2)
    (h : DataW.trod enc P w base spare held fuel t cs = some x) :
    ∃ (v0 v1 : Value) (y0 y1 : DataW H × List MemPlace) (n : Nat), cs = [v0, v1] ∧ x.1 = .agg [y0.1, y1.1] ∧ DataW.trod enc P w base spare held n f0.type [v0] = some y0 ∧ DataW.trod enc P w base spare held n f1.type [v1] = some y1 := by
  obtain ⟨xs, n, _, rfl, hcl, hlen, hg⟩ := DataW.trod_struct hs h
  match cs, hcl.trans hC with
  | [c0, c1], _ =>
    obtain ⟨o0, k0⟩ := hone_of hone 0 f0 rfl
    obtain ⟨o1, k1⟩ := hone_of hone 1 f1 rfl
    match xs, hlen with
    | [y0, y1], _ =>
      exact ⟨c0, c1, y0, y1, n, rfl, rfl, by simpa [o0, k0] using hg 0 f0 rfl, by simpa [o1, k1] using hg 1 f1 rfl⟩
theorem open_cells3 {t : TypeId} {f0 f1 f2 : Field} {fuel : Nat} {cs : List Value} {x : DataW H × List MemPlace} (hs : P.underlying t = some (.struct #[f0, f1, f2])) (hone : oneCellFields P #[f0, f1, f2] = true) (hC : P.cellsOf t = 3)
    (h : DataW.trod enc P w base spare held fuel t cs = some x) :
    ∃ (v0 v1 v2 : Value) (y0 y1 y2 : DataW H × List MemPlace) (n : Nat), cs = [v0, v1, v2] ∧ x.1 = .agg [y0.1, y1.1, y2.1] ∧ DataW.trod enc P w base spare held n f0.type [v0] = some y0 ∧ DataW.trod enc P w base spare held n f1.type [v1] = some y1 ∧ DataW.trod enc P w base spare held n f2.type [v2] = some y2 := by
  obtain ⟨xs, n, _, rfl, hcl, hlen, hg⟩ := DataW.trod_struct hs h
  match cs, hcl.trans hC with
  | [c0, c1, c2], _ =>
    obtain ⟨o0, k0⟩ := hone_of hone 0 f0 rfl
    obtain ⟨o1, k1⟩ := hone_of hone 1 f1 rfl
    obtain ⟨o2, k2⟩ := hone_of hone 2 f2 rfl
    match xs, hlen with
    | [y0, y1, y2], _ =>
      exact ⟨c0, c1, c2, y0, y1, y2, n, rfl, rfl, by simpa [o0, k0] using hg 0 f0 rfl, by simpa [o1, k1] using hg 1 f1 rfl, by simpa [o2, k2] using hg 2 f2 rfl⟩
theorem open_cells5 {t : TypeId} {f0 f1 f2 f3 f4 : Field} {fuel : Nat} {cs : List Value} {x : DataW H × List MemPlace} (hs : P.underlying t = some (.struct #[f0, f1, f2, f3, f4])) (hone : oneCellFields P #[f0, f1, f2, f3, f4] = true) (hC : P.cellsOf t = 5)
    (h : DataW.trod enc P w base spare held fuel t cs = some x) :
    ∃ (v0 v1 v2 v3 v4 : Value) (y0 y1 y2 y3 y4 : DataW H × List MemPlace) (n : Nat), cs = [v0, v1, v2, v3, v4] ∧ x.1 = .agg [y0.1, y1.1, y2.1, y3.1, y4.1] ∧ DataW.trod enc P w base spare held n f0.type [v0] = some y0 ∧ DataW.trod enc P w base spare held n f1.type [v1] = some y1 ∧ DataW.trod enc P w base spare held n f2.type [v2] = some y2 ∧ DataW.trod enc P w base spare held n f3.type [v3] = some y3 ∧ DataW.trod enc P w base spare held n f4.type [v4] = some y4 := by
  obtain ⟨xs, n, _, rfl, hcl, hlen, hg⟩ := DataW.trod_struct hs h
  match cs, hcl.trans hC with
  | [c0, c1, c2, c3, c4], _ =>
    obtain ⟨o0, k0⟩ := hone_of hone 0 f0 rfl
    obtain ⟨o1, k1⟩ := hone_of hone 1 f1 rfl
    obtain ⟨o2, k2⟩ := hone_of hone 2 f2 rfl
    obtain ⟨o3, k3⟩ := hone_of hone 3 f3 rfl
    obtain ⟨o4, k4⟩ := hone_of hone 4 f4 rfl
    match xs, hlen with
    | [y0, y1, y2, y3, y4], _ =>
      exact ⟨c0, c1, c2, c3, c4, y0, y1, y2, y3, y4, n, rfl, rfl, by simpa [o0, k0] using hg 0 f0 rfl, by simpa [o1, k1] using hg 1 f1 rfl, by simpa [o2, k2] using hg 2 f2 rfl, by simpa [o3, k3] using hg 3 f3 rfl, by simpa [o4, k4] using hg 4 f4 rfl⟩

def MemD.Wf (t : MemD) : Prop := t.name.size ≤ maxLen ∧ I64 t.heard ∧ t.parts.length ≤ maxLen ∧ ∀ b ∈ t.parts, I64 b
def OffD.Wf (t : OffD) : Prop := I64 t.part ∧ I64 t.at_
def GroupD.Wf (c : GroupD) : Prop := I64 c.clock ∧ I64 c.wait ∧ I64 c.gen ∧ c.mems.length ≤ maxLen ∧ (∀ t ∈ c.mems, t.Wf) ∧ c.offs.length ≤ maxLen ∧ ∀ t ∈ c.offs, t.Wf
def GroupD.Small (c : GroupD) : Prop := c.mems.length * 48 ≤ reachBytes ∧ (∀ t ∈ c.mems, t.parts.length * 8 ≤ reachBytes) ∧ c.offs.length * 16 ≤ reachBytes

theorem open_mem {fuel : Nat} {cs : List Value} {x : DataW H × List MemPlace} (h : DataW.trod enc Try.prog w base spare held fuel 79 cs = some x) :
    ∃ (t : MemD) (pv : Value), cs = mcells (t, pv) ∧ Is w pv t.parts ∧ t.Wf ∧ (fits Try.prog 79 x.1 → t.parts.length * 8 ≤ reachBytes) := by
  obtain ⟨u0, u1, u2, y0, y1, y2, n, rfl, hx, g0, g1, g2⟩ := open_cells3 Try.underlying79 (by kernel_rfl) (by kernel_rfl) h
  obtain ⟨e0, z0, j0, w0⟩ := DataW.trod_string Try.underlying9 g0
  obtain ⟨e1, z1, j1, w1⟩ := DataW.trod_int Try.underlying3 g1
  obtain ⟨l, hl, hm, hw, hf⟩ := open_ints g2
  simp only [List.cons.injEq, and_true] at z0 z1
  subst z0 z1
  refine ⟨⟨e0, e1, l⟩, u2, rfl, hl, ⟨w0, w1, hm, hw⟩, fun hF => ?_⟩
  rw [hx] at hF
  exact hf (fits_field Try.underlying79 hF (i := 2) rfl rfl)

theorem open_mems {fuel : Nat} {v : Value} {x : DataW H × List MemPlace} (h : DataW.trod enc Try.prog w base spare held fuel 33 [v] = some x) :
    ∃ ds : List MemD, Mems w v ds ∧ ds.length ≤ maxLen ∧ (∀ t ∈ ds, t.Wf) ∧ (fits Try.prog 33 x.1 → ds.length * 48 ≤ reachBytes ∧ ∀ t ∈ ds, t.parts.length * 8 ≤ reachBytes) := by
  obtain ⟨cs, ds, sp, hsl, hm, hl, hd, he⟩ := open_sl (k := 3) Try.underlying33 (by kernel_rfl) (by decide) h
  have key : ∀ (cs : List (List Value)) (ds : List (DataW H)), ds.length = cs.length → (∀ i (hi : i < cs.length) (hd : i < ds.length), ∃ n y, DataW.trod enc Try.prog w base spare held n 79 cs[i] = some y ∧ ds[i] = y.1) →
      ∃ rows : List (MemD × Value), cs.flatten = rows.flatMap mcells ∧ rows.length = cs.length ∧ ∀ t ∈ rows, Is w t.2 t.1.parts ∧ t.1.Wf ∧ ((∀ d ∈ ds, fits Try.prog 79 d) → t.1.parts.length * 8 ≤ reachBytes) := by
    intro cs
    induction cs with
    | nil => exact fun _ _ _ => ⟨[], rfl, rfl, by simp⟩
    | cons c cs ih =>
      intro ds hl he
      match ds, hl with
      | d :: ds, hl =>
        obtain ⟨rows, h1, h2, h3⟩ := ih ds (by simpa using hl) (fun i hi hd => he (i + 1) (by simp; omega) (by simp; omega))
        obtain ⟨n, y, h4, h5⟩ := he 0 (by simp) (by simp)
        simp only [List.getElem_cons_zero] at h4 h5
        obtain ⟨t, pv, h6, h7, h8, h9⟩ := open_mem h4
        refine ⟨(t, pv) :: rows, by simp [h1, h6], by simp [h2], fun t' ht' => ?_⟩
        rcases List.mem_cons.1 ht' with rfl | ht'
        · exact ⟨h7, h8, fun hf => h9 (h5 ▸ hf d (by simp))⟩
        · obtain ⟨a1, a2, a3⟩ := h3 t' ht'
          exact ⟨a1, a2, fun hf => a3 (fun d hd => hf d (by simp [hd]))⟩
  obtain ⟨rows, h1, h2, h3⟩ := key cs ds hl he
  refine ⟨rows.map Prod.fst, ⟨rows, rfl, ?_, fun t ht => ⟨(h3 t ht).1, ?_⟩⟩, by simp; omega, ?_, fun hf => ?_⟩
  · rw [h1] at hsl
    simpa [h2] using hsl
  · have := (h3 t ht).2.1.2.2.1
    simp only [maxLen] at this
    omega
  · intro t ht
    obtain ⟨a, ha, rfl⟩ := List.mem_map.1 ht
    exact (h3 a ha).2.1
  · rcases hd with hd | ⟨hd, rfl⟩
    · rw [hd] at hf
      obtain ⟨f1, f2⟩ := fits_row Try.underlying33 hf
      have e : Try.prog.bytesOf 79 = 48 := by kernel_rfl
      rw [e] at f1
      refine ⟨by simp; omega, fun t ht => ?_⟩
      obtain ⟨a, ha, rfl⟩ := List.mem_map.1 ht
      exact (h3 a ha).2.2 f2
    · simp only [List.length_nil, List.length_eq_zero_iff] at h2
      subst h2
      simp

theorem open_offs {fuel : Nat} {v : Value} {x : DataW H × List MemPlace} (h : DataW.trod enc Try.prog w base spare held fuel 34 [v] = some x) :
    ∃ ds : List OffD, Offs w v ds ∧ ds.length ≤ maxLen ∧ (∀ t ∈ ds, t.Wf) ∧ (fits Try.prog 34 x.1 → ds.length * 16 ≤ reachBytes) := by
  obtain ⟨cs, ds, sp, hsl, hm, hl, hd, he⟩ := open_sl (k := 2) Try.underlying34 (by kernel_rfl) (by decide) h
  have key : ∀ cs : List (List Value), (∀ c ∈ cs, ∃ b : OffD, c = ocells b ∧ b.Wf) → ∃ l : List OffD, cs.flatten = l.flatMap ocells ∧ l.length = cs.length ∧ ∀ b ∈ l, b.Wf := by
    intro cs
    induction cs with
    | nil => exact fun _ => ⟨[], rfl, rfl, by simp⟩
    | cons c cs ih =>
      intro hcs
      obtain ⟨l, h1, h2, h3⟩ := ih (fun c hc => hcs c (by simp [hc]))
      obtain ⟨b, rfl, hb⟩ := hcs c (by simp)
      exact ⟨b :: l, by simp [h1], by simp [h2], by simpa using ⟨hb, h3⟩⟩
  obtain ⟨l, h1, h2, h3⟩ := key cs (fun c hc => by
    obtain ⟨i, hi, rfl⟩ := List.mem_iff_getElem.1 hc
    obtain ⟨n, y, h4, -⟩ := he i hi (by omega)
    obtain ⟨u0, u1, y0, y1, n', e0, hx, g0, g1⟩ := open_cells2 Try.underlying81 (by kernel_rfl) (by kernel_rfl) h4
    obtain ⟨b0, z0, -, w0⟩ := DataW.trod_int Try.underlying3 g0
    obtain ⟨b1, z1, -, w1⟩ := DataW.trod_int Try.underlying3 g1
    simp only [List.cons.injEq, and_true] at z0 z1
    subst z0 z1
    exact ⟨⟨b0, b1⟩, e0, w0, w1⟩)
  refine ⟨l, ?_, by omega, h3, fun hf => ?_⟩
  · rw [h1, ← h2] at hsl; exact hsl
  · rcases hd with hd | ⟨hd, rfl⟩
    · rw [hd] at hf
      have := (fits_row Try.underlying34 hf).1
      have e : Try.prog.bytesOf 81 = 16 := by kernel_rfl
      rw [e] at this
      omega
    · simp at h2; subst h2; simp

set_option maxRecDepth 100000 in
theorem open_group {r : Reach} {b0 : Nat} {v : Value} {d : DataW H} {p : List MemPlace} (hv : Value.okWide Try.prog w r b0 36 v) (h : DataW.Trod enc Try.prog w base spare held 36 v d p) :
    ∃ c : GroupD, Gv w v c ∧ c.Wf ∧ (fits Try.prog 36 d → c.Small) := by
  obtain ⟨cs, rfl, hsz⟩ := okWide_struct Try.underlying36 hv
  obtain ⟨fuel, hf⟩ := h
  obtain ⟨u0, u1, u2, u3, u4, y0, y1, y2, y3, y4, n, hcs, hx, g0, g1, g2, g3, g4⟩ := open_cells5 Try.underlying36 (by kernel_rfl) (by kernel_rfl) hf
  obtain ⟨e0, z0, j0, w0⟩ := DataW.trod_int Try.underlying3 g0
  obtain ⟨e1, z1, j1, w1⟩ := DataW.trod_int Try.underlying3 g1
  obtain ⟨e2, z2, j2, w2⟩ := DataW.trod_int Try.underlying3 g2
  obtain ⟨ms, ht, hm, hw, hF⟩ := open_mems g3
  obtain ⟨os, ht', hm', hw', hF'⟩ := open_offs g4
  simp only [List.cons.injEq, and_true] at z0 z1 z2
  subst z0 z1 z2
  obtain ⟨l⟩ := cs
  simp only [Value.cells] at hcs
  subst hcs
  refine ⟨⟨e0, e1, e2, ms, os⟩, ⟨u3, u4, rfl, ht, ht', by simp only [maxLen] at hm; omega, by simp only [maxLen] at hm'; omega⟩, ⟨w0, w1, w2, hm, hw, hm', hw'⟩, fun hfit => ?_⟩
  simp only at hx
  rw [hx] at hfit
  obtain ⟨s1, s2⟩ := hF (fits_field Try.underlying36 hfit (i := 3) rfl rfl)
  exact ⟨s1, s2, hF' (fits_field Try.underlying36 hfit (i := 4) rfl rfl)⟩
end
end Go.Proofs.Ytjkoceacjbhblaa
