/- An argument that is a part, opened. -/
import Derived.Test.YtpjjfnpdopdnkaaOpenGen
import Derived.Test.YtpjjfnpdopdnkaaPartD
namespace Go.Proofs.Ytpjjfnpdopdnkaa
open Go.ChangeShapes Go.WideShapes Go.ChangeAt Go.RowKit Go.Joins Go.Deep

section
variable {H : Type} {enc : TypeId × Value → H} {w : World} {base : Nat} {spare : Nat → Bool} {held : Bool}
theorem u8_of {b : Int} (h : (Lit.int .u8 b).wf = true) : b = ((UInt8.ofNat b.toNat).toNat : Int) := by
  have h2 : 0 ≤ b ∧ b ≤ 255 := by
    simp [Lit.wf, IntKind.min, IntKind.max, IntKind.signed, IntKind.bits] at h
    omega
  obtain ⟨n, rfl⟩ := Int.eq_ofNat_of_zero_le h2.1
  simp
  omega
theorem open_bytes {fuel : Nat} {v : Value} {x : DataW H × List MemPlace} (h : DataW.trod enc Try.prog w base spare held fuel 34 [v] = some x) :
    ∃ l : List UInt8, By w v l ∧ l.length ≤ maxLen ∧ (fits Try.prog 34 x.1 → l.length ≤ reachBytes) := by
  obtain ⟨cs, ds, sp, hsl, hm, hl, hd, he⟩ := open_sl (k := 1) Try.underlying34 (by kernel_rfl) (by decide) h
  have key : ∀ cs : List (List Value), (∀ c ∈ cs, ∃ b : Int, c = [Value.int .u8 b] ∧ (Lit.int .u8 b).wf = true) → ∃ l : List UInt8, cs.flatten = bvs l ∧ l.length = cs.length := by
    intro cs
    induction cs with
    | nil => exact fun _ => ⟨[], rfl, rfl⟩
    | cons c cs ih =>
      intro hcs
      obtain ⟨l, h1, h2⟩ := ih (fun c hc => hcs c (by simp [hc]))
      obtain ⟨b, rfl, hb⟩ := hcs c (by simp)
      exact ⟨UInt8.ofNat b.toNat :: l, by rw [List.flatten_cons, h1]; show [Value.int .u8 b] ++ bvs l = [Value.int .u8 _] ++ bvs l; rw [← u8_of hb], by simp [h2]⟩
  obtain ⟨l, h1, h2⟩ := key cs (fun c hc => by
    obtain ⟨i, hi, rfl⟩ := List.mem_iff_getElem.1 hc
    obtain ⟨n, y, h4, -⟩ := he i hi (by omega)
    obtain ⟨b, e1, -, e2⟩ := DataW.trod_int Try.underlying5 h4
    exact ⟨b, e1, e2⟩)
  refine ⟨l, ?_, by omega, fun hf => ?_⟩
  · rw [h1, ← h2] at hsl; exact hsl
  · rcases hd with hd | ⟨hd, rfl⟩
    · rw [hd] at hf
      have := (fits_row Try.underlying34 hf).1
      have e : Try.prog.bytesOf 5 = 1 := by kernel_rfl
      rw [e] at this
      omega
    · simp at h2; subst h2; simp
theorem open_bools {fuel : Nat} {v : Value} {x : DataW H × List MemPlace} (h : DataW.trod enc Try.prog w base spare held fuel 22 [v] = some x) :
    ∃ l : List Bool, Bs w v l ∧ l.length ≤ maxLen ∧ (fits Try.prog 22 x.1 → l.length ≤ reachBytes) := by
  obtain ⟨cs, ds, sp, hsl, hm, hl, hd, he⟩ := open_sl (k := 1) Try.underlying22 (by kernel_rfl) (by decide) h
  have key : ∀ cs : List (List Value), (∀ c ∈ cs, ∃ b : Bool, c = [Value.bool b]) → ∃ l : List Bool, cs.flatten = l.map Value.bool ∧ l.length = cs.length := by
    intro cs
    induction cs with
    | nil => exact fun _ => ⟨[], rfl, rfl⟩
    | cons c cs ih =>
      intro hcs
      obtain ⟨l, h1, h2⟩ := ih (fun c hc => hcs c (by simp [hc]))
      obtain ⟨b, rfl⟩ := hcs c (by simp)
      exact ⟨b :: l, by simp [h1], by simp [h2]⟩
  obtain ⟨l, h1, h2⟩ := key cs (fun c hc => by
    obtain ⟨i, hi, rfl⟩ := List.mem_iff_getElem.1 hc
    obtain ⟨n, y, h4, -⟩ := he i hi (by omega)
    obtain ⟨b, e1, -⟩ := DataW.trod_bool Try.underlying4 h4
    exact ⟨b, e1⟩)
  refine ⟨l, ?_, by omega, fun hf => ?_⟩
  · rw [h1, ← h2] at hsl; exact hsl
  · rcases hd with hd | ⟨hd, rfl⟩
    · rw [hd] at hf
      have := (fits_row Try.underlying22 hf).1
      have e : Try.prog.bytesOf 4 = 1 := by kernel_rfl
      rw [e] at this
      omega
    · simp at h2; subst h2; simp

def RepD.Wf (t : RepD) : Prop := t.bytes.length ≤ maxLen ∧ I64 t.synced ∧ I64 t.high
def PartD.Wf (c : PartD) : Prop := I64 c.epoch ∧ I64 c.leader ∧ c.isr.length ≤ maxLen ∧ c.known.length ≤ maxLen ∧ (∀ b ∈ c.known, I64 b) ∧ c.reps.length ≤ maxLen ∧ (∀ t ∈ c.reps, t.Wf) ∧ I64 c.few ∧ I64 c.base
def PartD.Small (c : PartD) : Prop := c.isr.length ≤ reachBytes ∧ c.known.length * 8 ≤ reachBytes ∧ c.reps.length * 48 ≤ reachBytes ∧ ∀ t ∈ c.reps, t.bytes.length ≤ reachBytes

theorem open_log {fuel : Nat} {cs : List Value} {x : DataW H × List MemPlace} (h : DataW.trod enc Try.prog w base spare held fuel 42 cs = some x) :
    ∃ (l : List UInt8) (s : Int) (pv : Value), cs = [pv, .int .i64 s] ∧ By w pv l ∧ l.length ≤ maxLen ∧ I64 s ∧ (fits Try.prog 42 x.1 → l.length ≤ reachBytes) := by
  obtain ⟨u0, u1, y0, y1, n, rfl, hx, g0, g1⟩ := open_cells2 Try.underlying42 (by kernel_rfl) (by kernel_rfl) h
  obtain ⟨l, hl, hm, hf⟩ := open_bytes g0
  obtain ⟨e1, z1, j1, w1⟩ := DataW.trod_int Try.underlying3 g1
  simp only [List.cons.injEq, and_true] at z1
  subst z1
  refine ⟨l, e1, u0, rfl, hl, hm, w1, fun hF => ?_⟩
  rw [hx] at hF
  exact hf (fits_field Try.underlying42 hF (i := 0) rfl rfl)
set_option maxRecDepth 100000 in
theorem open_rep {fuel : Nat} {cs : List Value} {x : DataW H × List MemPlace} (h : DataW.trod enc Try.prog w base spare held fuel 71 cs = some x) :
    ∃ (t : RepD) (pv : Value), cs = rcells (t, pv) ∧ By w pv t.bytes ∧ t.Wf ∧ (fits Try.prog 71 x.1 → t.bytes.length ≤ reachBytes) := by
  obtain ⟨y0, y1, y2, n, rfl, hcl, g0, g1, g2⟩ := trod_struct3 Try.underlying71 h
  have e4 : Try.prog.cellsOf 71 = 4 := by kernel_rfl
  have eb : Try.prog.cellsOf 4 = 1 := by kernel_rfl
  have el : Try.prog.cellsOf 42 = 2 := by kernel_rfl
  have ei : Try.prog.cellsOf 3 = 1 := by kernel_rfl
  match cs, hcl.trans e4 with
  | [c0, c1, c2, c3], _ =>
    simp only [eb, el, ei, List.drop_zero, List.drop_succ_cons, List.take_succ_cons, List.take_zero] at g0 g1 g2
    obtain ⟨e0, z0, j0⟩ := DataW.trod_bool Try.underlying4 g0
    obtain ⟨l, s, pv, z1, hl, hm, w1, hf⟩ := open_log g1
    obtain ⟨e3, z3, j3, w3⟩ := DataW.trod_int Try.underlying3 g2
    simp only [List.cons.injEq, and_true] at z0 z1 z3
    obtain ⟨rfl, rfl⟩ := z1
    subst z0 z3
    refine ⟨⟨e0, l, s, e3⟩, c1, rfl, hl, ⟨hm, w1, w3⟩, fun hF => ?_⟩
    exact hf (fits_field Try.underlying71 hF (i := 1) rfl rfl)
theorem open_reps {fuel : Nat} {v : Value} {x : DataW H × List MemPlace} (h : DataW.trod enc Try.prog w base spare held fuel 24 [v] = some x) :
    ∃ ds : List RepD, Reps w v ds ∧ ds.length ≤ maxLen ∧ (∀ t ∈ ds, t.Wf) ∧ (fits Try.prog 24 x.1 → ds.length * 48 ≤ reachBytes ∧ ∀ t ∈ ds, t.bytes.length ≤ reachBytes) := by
  obtain ⟨cs, ds, sp, hsl, hm, hl, hd, he⟩ := open_sl (k := 4) Try.underlying24 (by kernel_rfl) (by decide) h
  have key : ∀ (cs : List (List Value)) (ds : List (DataW H)), ds.length = cs.length → (∀ i (hi : i < cs.length) (hd : i < ds.length), ∃ n y, DataW.trod enc Try.prog w base spare held n 71 cs[i] = some y ∧ ds[i] = y.1) →
      ∃ rows : List (RepD × Value), cs.flatten = rows.flatMap rcells ∧ rows.length = cs.length ∧ ∀ t ∈ rows, By w t.2 t.1.bytes ∧ t.1.Wf ∧ ((∀ d ∈ ds, fits Try.prog 71 d) → t.1.bytes.length ≤ reachBytes) := by
    intro cs
    induction cs with
    | nil => exact fun _ _ _ => ⟨[], rfl, rfl, by simp⟩
    | cons c cs ih =>
      intro ds hl he
      match ds, hl with
      | d :: ds, hl =>
        obtain ⟨rows, h1, h2, h3⟩ := ih ds (by simpa using hl) (fun i hi hd => he (i + 1) (by simp; omega) (by simp; omega))
        obtain ⟨n, y, h4, h5⟩ := he 0 (by simp) (by simp)
        simp only [List.getElem_cons_zero] at h4 h5
        obtain ⟨t, pv, h6, h7, h8, h9⟩ := open_rep h4
        refine ⟨(t, pv) :: rows, by simp [h1, h6], by simp [h2], fun t' ht' => ?_⟩
        rcases List.mem_cons.1 ht' with rfl | ht'
        · exact ⟨h7, h8, fun hf => h9 (h5 ▸ hf d (by simp))⟩
        · obtain ⟨a1, a2, a3⟩ := h3 t' ht'
          exact ⟨a1, a2, fun hf => a3 (fun d hd => hf d (by simp [hd]))⟩
  obtain ⟨rows, h1, h2, h3⟩ := key cs ds hl he
  refine ⟨rows.map Prod.fst, ⟨rows, rfl, ?_, fun t ht => ⟨(h3 t ht).1, ?_⟩⟩, by simp; omega, ?_, fun hf => ?_⟩
  · rw [h1] at hsl
    simpa [h2] using hsl
  · have := (h3 t ht).2.1.1
    simp only [maxLen] at this
    omega
  · intro t ht
    obtain ⟨a, ha, rfl⟩ := List.mem_map.1 ht
    exact (h3 a ha).2.1
  · rcases hd with hd | ⟨hd, rfl⟩
    · rw [hd] at hf
      obtain ⟨f1, f2⟩ := fits_row Try.underlying24 hf
      have e : Try.prog.bytesOf 71 = 48 := by kernel_rfl
      rw [e] at f1
      refine ⟨by simp; omega, fun t ht => ?_⟩
      obtain ⟨a, ha, rfl⟩ := List.mem_map.1 ht
      exact (h3 a ha).2.2 f2
    · simp only [List.length_nil, List.length_eq_zero_iff] at h2
      subst h2
      simp

set_option maxRecDepth 100000 in
theorem open_part {r : Reach} {b0 : Nat} {v : Value} {d : DataW H} {p : List MemPlace} (hv : Value.okWide Try.prog w r b0 26 v) (h : DataW.Trod enc Try.prog w base spare held 26 v d p) :
    ∃ c : PartD, Pv w v c ∧ c.Wf ∧ (fits Try.prog 26 d → c.Small) := by
  obtain ⟨cs, rfl, hsz⟩ := okWide_struct Try.underlying26 hv
  obtain ⟨fuel, hf⟩ := h
  obtain ⟨u0, u1, u2, u3, u4, u5, u6, y0, y1, y2, y3, y4, y5, y6, n, hcs, hx, g0, g1, g2, g3, g4, g5, g6⟩ := open_cells7 Try.underlying26 (by kernel_rfl) (by kernel_rfl) hf
  obtain ⟨e0, z0, j0, w0⟩ := DataW.trod_int Try.underlying3 g0
  obtain ⟨e1, z1, j1, w1⟩ := DataW.trod_int Try.underlying3 g1
  obtain ⟨l2, h2, m2, f2⟩ := open_bools g2
  obtain ⟨l3, h3, m3, w3, f3⟩ := open_ints g3
  obtain ⟨l4, h4, m4, w4, f4⟩ := open_reps g4
  obtain ⟨e5, z5, j5, w5⟩ := DataW.trod_int Try.underlying3 g5
  obtain ⟨e6, z6, j6, w6⟩ := DataW.trod_int Try.underlying3 g6
  simp only [List.cons.injEq, and_true] at z0 z1 z5 z6
  subst z0 z1 z5 z6
  obtain ⟨l⟩ := cs
  simp only [Value.cells] at hcs
  subst hcs
  have k2 := m2
  have k3 := m3
  have k4 := m4
  simp only [maxLen] at k2 k3 k4
  refine ⟨⟨e0, e1, l2, l3, l4, e5, e6⟩, ⟨u2, u3, u4, rfl, h2, h3, h4, by omega, by omega, by omega⟩, ⟨w0, w1, m2, m3, w3, m4, w4, w5, w6⟩, fun hfit => ?_⟩
  simp only at hx
  rw [hx] at hfit
  exact ⟨f2 (fits_field Try.underlying26 hfit (i := 2) rfl rfl), f3 (fits_field Try.underlying26 hfit (i := 3) rfl rfl), (f4 (fits_field Try.underlying26 hfit (i := 4) rfl rfl)).1, (f4 (fits_field Try.underlying26 hfit (i := 4) rfl rfl)).2⟩
end
end Go.Proofs.Ytpjjfnpdopdnkaa
