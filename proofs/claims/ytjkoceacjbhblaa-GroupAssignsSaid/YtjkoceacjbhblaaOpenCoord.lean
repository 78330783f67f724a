/- An argument that is a coordinator, opened. -/
import Derived.Test.YtjkoceacjbhblaaOpenSl
import Derived.Test.YtjkoceacjbhblaaCoordD
namespace Go.Proofs.Ytjkoceacjbhblaa
open Go.ChangeShapes Go.WideShapes Go.ChangeAt Go.RowKit Go.Joins Go.Deep

section
variable {H : Type} {enc : TypeId × Value → H} {P : Program} {w : World} {base : Nat} {spare : Nat → Bool} {held : Bool}
theorem open_cells4 {t : TypeId} {f0 f1 f2 f3 : Field} {fuel : Nat} {cs : List Value} {x : DataW H × List MemPlace} (hs : P.underlying t = some (.struct #[f0, f1, f2, f3])) (hone : oneCellFields P #[f0, f1, f2, f3] = true) (hC : P.cellsOf t = 4)
    (h : DataW.trod enc P w base spare held fuel t cs = some x) :
    ∃ (v0 v1 v2 v3 : Value) (y0 y1 y2 y3 : DataW H × List MemPlace) (n : Nat), cs = [v0, v1, v2, v3] ∧ x.1 = .agg [y0.1, y1.1, y2.1, y3.1] ∧
      DataW.trod enc P w base spare held n f0.type [v0] = some y0 ∧ DataW.trod enc P w base spare held n f1.type [v1] = some y1 ∧ DataW.trod enc P w base spare held n f2.type [v2] = some y2 ∧ DataW.trod enc P w base spare held n f3.type [v3] = some y3 := by
  obtain ⟨xs, n, _, rfl, hcl, hlen, hg⟩ := DataW.trod_struct hs h
  match cs, hcl.trans hC with
  | [c0, c1, c2, c3], _ =>
    obtain ⟨o0, k0⟩ := hone_of hone 0 f0 rfl
    obtain ⟨o1, k1⟩ := hone_of hone 1 f1 rfl
    obtain ⟨o2, k2⟩ := hone_of hone 2 f2 rfl
    obtain ⟨o3, k3⟩ := hone_of hone 3 f3 rfl
    match xs, hlen with
    | [y0, y1, y2, y3], _ =>
      exact ⟨c0, c1, c2, c3, y0, y1, y2, y3, n, rfl, rfl, by simpa [o0, k0] using hg 0 f0 rfl, by simpa [o1, k1] using hg 1 f1 rfl, by simpa [o2, k2] using hg 2 f2 rfl, by simpa [o3, k3] using hg 3 f3 rfl⟩
theorem open_cells7 {t : TypeId} {f0 f1 f2 f3 f4 f5 f6 : Field} {fuel : Nat} {cs : List Value} {x : DataW H × List MemPlace} (hs : P.underlying t = some (.struct #[f0, f1, f2, f3, f4, f5, f6])) (hone : oneCellFields P #[f0, f1, f2, f3, f4, f5, f6] = true) (hC : P.cellsOf t = 7)
    (h : DataW.trod enc P w base spare held fuel t cs = some x) :
    ∃ (v0 v1 v2 v3 v4 v5 v6 : Value) (y0 y1 y2 y3 y4 y5 y6 : DataW H × List MemPlace) (n : Nat), cs = [v0, v1, v2, v3, v4, v5, v6] ∧ x.1 = .agg [y0.1, y1.1, y2.1, y3.1, y4.1, y5.1, y6.1] ∧
      DataW.trod enc P w base spare held n f0.type [v0] = some y0 ∧ DataW.trod enc P w base spare held n f1.type [v1] = some y1 ∧ DataW.trod enc P w base spare held n f2.type [v2] = some y2 ∧ DataW.trod enc P w base spare held n f3.type [v3] = some y3 ∧ DataW.trod enc P w base spare held n f4.type [v4] = some y4 ∧ DataW.trod enc P w base spare held n f5.type [v5] = some y5 ∧ DataW.trod enc P w base spare held n f6.type [v6] = some y6 := by
  obtain ⟨xs, n, _, rfl, hcl, hlen, hg⟩ := DataW.trod_struct hs h
  match cs, hcl.trans hC with
  | [c0, c1, c2, c3, c4, c5, c6], _ =>
    obtain ⟨o0, k0⟩ := hone_of hone 0 f0 rfl
    obtain ⟨o1, k1⟩ := hone_of hone 1 f1 rfl
    obtain ⟨o2, k2⟩ := hone_of hone 2 f2 rfl
    obtain ⟨o3, k3⟩ := hone_of hone 3 f3 rfl
    obtain ⟨o4, k4⟩ := hone_of hone 4 f4 rfl
    obtain ⟨o5, k5⟩ := hone_of hone 5 f5 rfl
    obtain ⟨o6, k6⟩ := hone_of hone 6 f6 rfl
    match xs, hlen with
    | [y0, y1, y2, y3, y4, y5, y6], _ =>
      exact ⟨c0, c1, c2, c3, c4, c5, c6, y0, y1, y2, y3, y4, y5, y6, n, rfl, rfl, by simpa [o0, k0] using hg 0 f0 rfl, by simpa [o1, k1] using hg 1 f1 rfl, by simpa [o2, k2] using hg 2 f2 rfl, by simpa [o3, k3] using hg 3 f3 rfl, by simpa [o4, k4] using hg 4 f4 rfl, by simpa [o5, k5] using hg 5 f5 rfl, by simpa [o6, k6] using hg 6 f6 rfl⟩

/-- an int that lies in an int -/
def I64 (x : Int) : Prop := (Lit.int .i64 x).wf = true

theorem open_ints {fuel : Nat} {v : Value} {x : DataW H × List MemPlace} (h : DataW.trod enc Try.prog w base spare held fuel 24 [v] = some x) :
    ∃ l : List Int, Is w v l ∧ l.length ≤ maxLen ∧ (∀ b ∈ l, I64 b) ∧ (fits Try.prog 24 x.1 → l.length * 8 ≤ reachBytes) := by
  obtain ⟨cs, ds, sp, hsl, hm, hl, hd, he⟩ := open_sl (k := 1) Try.underlying24 (by kernel_rfl) (by decide) h
  have key : ∀ cs : List (List Value), (∀ c ∈ cs, ∃ b : Int, c = [Value.int .i64 b] ∧ I64 b) → ∃ l : List Int, cs.flatten = l.map (Value.int .i64) ∧ l.length = cs.length ∧ ∀ b ∈ l, I64 b := by
    intro cs
    induction cs with
    | nil => exact fun _ => ⟨[], rfl, rfl, by simp⟩
    | cons c cs ih =>
      intro hcs
      obtain ⟨l, h1, h2, h3⟩ := ih (fun c hc => hcs c (by simp [hc]))
      obtain ⟨b, rfl, hb⟩ := hcs c (by simp)
      exact ⟨b :: l, by simp [h1], by simp [h2], by simpa using ⟨hb, h3⟩⟩
  obtain ⟨l, h1, h2, h3⟩ := key cs (fun c hc => by
    obtain ⟨i, hi, rfl⟩ := List.mem_iff_getElem.1 hc
    obtain ⟨n, y, h4, -⟩ := he i hi (by omega)
    obtain ⟨b, e1, -, e2⟩ := DataW.trod_int Try.underlying3 h4
    exact ⟨b, e1, e2⟩)
  refine ⟨l, ?_, by omega, h3, fun hf => ?_⟩
  · rw [h1, ← h2] at hsl; exact hsl
  · rcases hd with hd | ⟨hd, rfl⟩
    · rw [hd] at hf
      have := (fits_row Try.underlying24 hf).1
      have e : Try.prog.bytesOf 3 = 8 := by kernel_rfl
      rw [e] at this
      omega
    · simp at h2; subst h2; simp

def TxnD.Wf (t : TxnD) : Prop := t.name.size ≤ maxLen ∧ I64 t.pid ∧ I64 t.ver ∧ I64 t.state ∧ I64 t.since ∧ I64 t.done ∧ t.parts.length ≤ maxLen ∧ ∀ b ∈ t.parts, I64 b
def CoordD.Wf (c : CoordD) : Prop := I64 c.clock ∧ I64 c.next ∧ I64 c.wait ∧ c.txns.length ≤ maxLen ∧ ∀ t ∈ c.txns, t.Wf
def CoordD.Small (c : CoordD) : Prop := c.txns.length * 80 ≤ reachBytes ∧ ∀ t ∈ c.txns, t.parts.length * 8 ≤ reachBytes

theorem open_txn {fuel : Nat} {cs : List Value} {x : DataW H × List MemPlace} (h : DataW.trod enc Try.prog w base spare held fuel 76 cs = some x) :
    ∃ (t : TxnD) (pv : Value), cs = tcells (t, pv) ∧ Is w pv t.parts ∧ t.Wf ∧ (fits Try.prog 76 x.1 → t.parts.length * 8 ≤ reachBytes) := by
  obtain ⟨u0, u1, u2, u3, u4, u5, u6, y0, y1, y2, y3, y4, y5, y6, n, rfl, hx, g0, g1, g2, g3, g4, g5, g6⟩ := open_cells7 Try.underlying76 (by kernel_rfl) (by kernel_rfl) h
  obtain ⟨e0, z0, j0, w0⟩ := DataW.trod_string Try.underlying9 g0
  obtain ⟨e1, z1, j1, w1⟩ := DataW.trod_int Try.underlying3 g1
  obtain ⟨e2, z2, j2, w2⟩ := DataW.trod_int Try.underlying3 g2
  obtain ⟨e3, z3, j3, w3⟩ := DataW.trod_int Try.underlying3 g3
  obtain ⟨l, hl, hm, hw, hf⟩ := open_ints g4
  obtain ⟨e5, z5, j5, w5⟩ := DataW.trod_int Try.underlying3 g5
  obtain ⟨e6, z6, j6, w6⟩ := DataW.trod_int Try.underlying3 g6
  simp only [List.cons.injEq, and_true] at z0 z1 z2 z3 z5 z6
  subst z0 z1 z2 z3 z5 z6
  refine ⟨⟨e0, e1, e2, e3, l, e5, e6⟩, u4, rfl, hl, ⟨w0, w1, w2, w3, w5, w6, hm, hw⟩, fun hF => ?_⟩
  rw [hx] at hF
  exact hf (fits_field Try.underlying76 hF (i := 4) rfl rfl)

theorem open_txns {fuel : Nat} {v : Value} {x : DataW H × List MemPlace} (h : DataW.trod enc Try.prog w base spare held fuel 26 [v] = some x) :
    ∃ ds : List TxnD, Txs w v ds ∧ ds.length ≤ maxLen ∧ (∀ t ∈ ds, t.Wf) ∧ (fits Try.prog 26 x.1 → ds.length * 80 ≤ reachBytes ∧ ∀ t ∈ ds, t.parts.length * 8 ≤ reachBytes) := by
  obtain ⟨cs, ds, sp, hsl, hm, hl, hd, he⟩ := open_sl (k := 7) Try.underlying26 (by kernel_rfl) (by decide) h
  have key : ∀ (cs : List (List Value)) (ds : List (DataW H)), ds.length = cs.length → (∀ i (hi : i < cs.length) (hd : i < ds.length), ∃ n y, DataW.trod enc Try.prog w base spare held n 76 cs[i] = some y ∧ ds[i] = y.1) →
      ∃ rows : List (TxnD × Value), cs.flatten = rows.flatMap tcells ∧ rows.length = cs.length ∧ ∀ t ∈ rows, Is w t.2 t.1.parts ∧ t.1.Wf ∧ ((∀ d ∈ ds, fits Try.prog 76 d) → t.1.parts.length * 8 ≤ reachBytes) := by
    intro cs
    induction cs with
    | nil => exact fun _ _ _ => ⟨[], rfl, rfl, by simp⟩
    | cons c cs ih =>
      intro ds hl he
      match ds, hl with
      | d :: ds, hl =>
        obtain ⟨rows, h1, h2, h3⟩ := ih ds (by simpa using hl) (fun i hi hd => he (i + 1) (by simp; omega) (by simp; omega))
        obtain ⟨n, y, h4, h5⟩ := he 0 (by simp) (by simp)
        simp only [List.getElem_cons_zero] at h4 h5
        obtain ⟨t, pv, h6, h7, h8, h9⟩ := open_txn h4
        refine ⟨(t, pv) :: rows, by simp [h1, h6], by simp [h2], fun t' ht' => ?_⟩
        rcases List.mem_cons.1 ht' with rfl | ht'
        · exact ⟨h7, h8, fun hf => h9 (h5 ▸ hf d (by simp))⟩
        · obtain ⟨a1, a2, a3⟩ := h3 t' ht'
          exact ⟨a1, a2, fun hf => a3 (fun d hd => hf d (by simp [hd]))⟩
  obtain ⟨rows, h1, h2, h3⟩ := key cs ds hl he
  refine ⟨rows.map Prod.fst, ⟨rows, rfl, ?_, fun t ht => ⟨(h3 t ht).1, ?_⟩⟩, by simp; omega, ?_, fun hf => ?_⟩
  · rw [h1] at hsl
    simpa [h2] using hsl
  · have := (h3 t ht).2.1.2.2.2.2.2.2.1
    simp only [maxLen] at this
    omega
  · intro t ht
    obtain ⟨a, ha, rfl⟩ := List.mem_map.1 ht
    exact (h3 a ha).2.1
  · rcases hd with hd | ⟨hd, rfl⟩
    · rw [hd] at hf
      obtain ⟨f1, f2⟩ := fits_row Try.underlying26 hf
      have e : Try.prog.bytesOf 76 = 80 := by kernel_rfl
      rw [e] at f1
      refine ⟨by simp; omega, fun t ht => ?_⟩
      obtain ⟨a, ha, rfl⟩ := List.mem_map.1 ht
      exact (h3 a ha).2.2 f2
    · simp only [List.length_nil, List.length_eq_zero_iff] at h2
      subst h2
      simp

set_option maxRecDepth 100000 in
theorem open_coord {r : Reach} {b0 : Nat} {v : Value} {d : DataW H} {p : List MemPlace} (hv : Value.okWide Try.prog w r b0 28 v) (h : DataW.Trod enc Try.prog w base spare held 28 v d p) :
    ∃ c : CoordD, Cv w v c ∧ c.Wf ∧ (fits Try.prog 28 d → c.Small) := by
  obtain ⟨cs, rfl, hsz⟩ := okWide_struct Try.underlying28 hv
  obtain ⟨fuel, hf⟩ := h
  obtain ⟨u0, u1, u2, u3, y0, y1, y2, y3, n, hcs, hx, g0, g1, g2, g3⟩ := open_cells4 Try.underlying28 (by kernel_rfl) (by kernel_rfl) hf
  obtain ⟨e0, z0, j0, w0⟩ := DataW.trod_int Try.underlying3 g0
  obtain ⟨e1, z1, j1, w1⟩ := DataW.trod_int Try.underlying3 g1
  obtain ⟨e2, z2, j2, w2⟩ := DataW.trod_int Try.underlying3 g2
  obtain ⟨ts, ht, hm, hw, hF⟩ := open_txns g3
  simp only [List.cons.injEq, and_true] at z0 z1 z2
  subst z0 z1 z2
  obtain ⟨l⟩ := cs
  simp only [Value.cells] at hcs
  subst hcs
  refine ⟨⟨e0, e1, e2, ts⟩, ⟨u3, rfl, ht, by simp only [maxLen] at hm; omega⟩, ⟨w0, w1, w2, hm, hw⟩, fun hfit => ?_⟩
  simp only at hx
  rw [hx] at hfit
  exact hF (fits_field Try.underlying28 hfit (i := 3) rfl rfl)
end
end Go.Proofs.Ytjkoceacjbhblaa
