/- Parts in memory of the call's own: reading, writing one field of one replica. -/
import Derived.Test.YtpjjfnpdopdnkaaPartE
namespace Go.Proofs.Ytpjjfnpdopdnkaa
open Go.RowKit

/-- a part whose rows are the call's own, from block base on -/
structure PO (base : Nat) (w : World) (c : PartD) (iv kv rv : Value) : Prop where
  isr : w.ownsRow base 4 1 iv c.isr.length (c.isr.map Value.bool)
  known : w.ownsRow base 3 1 kv c.known.length (c.known.map (Value.int .i64))
  reps : ∃ rows : List (RepD × Value), rows.map Prod.fst = c.reps ∧ w.ownsRow base 71 4 rv c.reps.length (rows.flatMap rcells) ∧ ∀ t ∈ rows, w.ownsRow base 5 1 t.2 t.1.bytes.length (bvs t.1.bytes)
/-- small parts: those that may be are, and what is made of them -/
structure PSm (c : PartD) : Prop where
  isr : c.isr.length ≤ 5
  known : c.known.length ≤ 5
  reps : c.reps.length ≤ 5
  bytes : ∀ t ∈ c.reps, t.bytes.length ≤ 40000
def zeroP : PartD := ⟨0, 0, [], [], [], 0, 0⟩
theorem PartOk.small {c : PartD} (h : PartOk c) : PSm c := by
  have h1 := h.many
  have h2 := h.isr
  have h3 := h.known
  refine ⟨by omega, by omega, by omega, fun t ht => ?_⟩
  obtain ⟨i, hi, rfl⟩ := List.mem_iff_getElem.1 ht
  obtain ⟨es, j, hl⟩ := h.log i hi
  have e1 := hl.long
  rw [← hl.bytes] at e1
  exact e1
theorem pv_zero (w : World) : Pv w (partV zeroP (.slice none 0 0) (.slice none 0 0) (.slice none 0 0)) zeroP :=
  ⟨_, _, _, rfl, Sl.nil_ _ _, Sl.nil_ _ _, ⟨[], rfl, Sl.nil_ _ _, by simp⟩, by simp [zeroP], by simp [zeroP], by simp [zeroP]⟩
section
variable {base : Nat} {w w' : World} {c : PartD} {iv kv rv : Value}
theorem PO.under (h : PO base w c iv kv rv) {a : Addr} (ha : a.block < base) (u : Value) : PO base (w.setCell a u) c iv kv rv := by
  obtain ⟨h1, h2, rows, h3, h4, h5⟩ := h
  exact ⟨ownsRow_setCell_below h1 ha u, ownsRow_setCell_below h2 ha u, rows, h3, ownsRow_setCell_below h4 ha u, fun t ht => ownsRow_setCell_below (h5 t ht) ha u⟩
theorem PO.keep (h : PO base w c iv kv rv) (hb : Below w.heap.size w w') : PO base w' c iv kv rv := by
  obtain ⟨h1, h2, rows, h3, h4, h5⟩ := h
  exact ⟨own_keep h1 hb (fun b hb => (h1.lt b hb).2), own_keep h2 hb (fun b hb => (h2.lt b hb).2), rows, h3, own_keep h4 hb (fun b hb => (h4.lt b hb).2), fun t ht => own_keep (h5 t ht) hb (fun b hb => ((h5 t ht).lt b hb).2)⟩
theorem PO.alloc (h : PO base w c iv kv rv) (o : Obj) : PO base (w.alloc o) c iv kv rv := h.keep ((Below.refl _ _).alloc (Nat.le_refl _) o)
theorem PO.more (h : PO base w c iv kv rv) {base' : Nat} (hb : base' ≤ base) : PO base' w c iv kv rv := by
  obtain ⟨h1, h2, rows, h3, h4, h5⟩ := h
  exact ⟨own_base h1 hb, own_base h2 hb, rows, h3, own_base h4 hb, fun t ht => own_base (h5 t ht) hb⟩
theorem PO.pv (h : PO base w c iv kv rv) (hs : PSm c) : Pv w (partV c iv kv rv) c := by
  obtain ⟨h1, h2, rows, h3, h4, h5⟩ := h
  have s1 := hs.isr
  have s2 := hs.known
  have s3 := hs.reps
  refine ⟨iv, kv, rv, rfl, Sl.of_own h1, Sl.of_own h2, ⟨rows, h3, Sl.of_own h4, fun t ht => ⟨Sl.of_own (h5 t ht), ?_⟩⟩, by omega, by omega, by omega⟩
  have := hs.bytes t.1 (by rw [← h3]; exact List.mem_map_of_mem ht)
  omega
theorem Pv.form {v : Value} (h : Pv w v c) : ∃ A1 c1 A3 c3 A5 c5, v = partV c (.slice A1 c.isr.length c1) (.slice A3 c.known.length c3) (.slice A5 c.reps.length c5) := by
  obtain ⟨iv, kv, rv, rfl, h1, h2, h3, -⟩ := h
  obtain ⟨A1, c1, rfl, -⟩ := h1.at_
  obtain ⟨A3, c3, rfl, -⟩ := h2.at_
  obtain ⟨A5, c5, rfl, -⟩ := h3.at_
  exact ⟨A1, c1, A3, c3, A5, c5, rfl⟩
theorem PO.pvb (h : PO base w c iv kv rv) (s1 : c.isr.length ≤ 9223372036854775807) (s2 : c.known.length ≤ 9223372036854775807) (s3 : c.reps.length ≤ 9223372036854775807) (s4 : ∀ t ∈ c.reps, t.bytes.length ≤ 9223372036854775807) : Pv w (partV c iv kv rv) c := by
  obtain ⟨h1, h2, rows, h3, h4, h5⟩ := h
  exact ⟨iv, kv, rv, rfl, Sl.of_own h1, Sl.of_own h2, ⟨rows, h3, Sl.of_own h4, fun t ht => ⟨Sl.of_own (h5 t ht), s4 t.1 (by rw [← h3]; exact List.mem_map_of_mem ht)⟩⟩, s1, s2, s3⟩
theorem PO.of_part {w0 : World} {rows : List (RepD × Value)} (h : OwnPart w0 w base c iv kv rv rows c.reps.length) : PO base w c iv kv rv := by
  have hl : rows.length = c.reps.length := by rw [← h.reps.fst]; simp
  refine ⟨h.isr, h.known, rows, h.reps.fst, h.reps.own, fun t ht => h.reps.parts t ?_⟩
  rw [← hl, List.take_length]; exact ht
theorem PO.form (h : PO base w c iv kv rv) : ∃ A1 c1 A3 c3 A5 c5, iv = .slice A1 c.isr.length c1 ∧ kv = .slice A3 c.known.length c3 ∧ rv = .slice A5 c.reps.length c5 := by
  obtain ⟨h1, h2, rows, h3, h4, h5⟩ := h
  obtain ⟨A1, c1, e1, -⟩ := (Sl.of_own h1).form
  obtain ⟨A3, c3, e3, -⟩ := (Sl.of_own h2).form
  obtain ⟨A5, c5, e5, -⟩ := (Sl.of_own h4).form
  exact ⟨A1, c1, A3, c3, A5, c5, e1, e3, e5⟩
theorem own_row {e : TypeId} {size n : Nat} {v : Value} {xs : List Value} (h : w.ownsRow base e size v n xs) (hn : 0 < n) : ∃ g cap, v = .slice (some ⟨g, 0, none⟩) n cap ∧ base ≤ g ∧ g < w.heap.size ∧ n ≤ cap ∧ (∃ cs fr, w.heap[g]? = some (.cells cs e fr)) ∧ ∀ (j : Nat) u, xs[j]? = some u → w.cell? ⟨g, j, none⟩ = some u ∧ w.frozen? ⟨g, j, none⟩ = false := by
  obtain ⟨g, cap, hv, hb, hlt⟩ := h.form hn
  subst hv
  have hle : n ≤ cap := by
    obtain ⟨_, A, c', he, hc, _⟩ := Sl.of_own h
    injection he with _ _ e; omega
  refine ⟨g, cap, rfl, hb, hlt, hle, ?_, fun j u hu => ⟨?_, World.ownsRow.frozenAt h _⟩⟩
  · rcases h.2 with ⟨e, _⟩ | ⟨g', cap', cur, e, _, hh, _⟩
    · cases e
    · injection e with e1
      injection e1 with e1
      injection e1 with e1
      subst e1
      exact ⟨_, _, hh⟩
  · have hj : j < n * size := by
      rw [← h.1]
      exact (List.getElem?_eq_some_iff.1 hu).1
    rw [World.ownsRow.cellAt h _ hj]
    exact hu
/-- the rows of a part with replicas -/
theorem PO.rows (h : PO base w c iv kv rv) (h1 : 0 < c.isr.length) (h2 : 0 < c.known.length) (h3 : 0 < c.reps.length) : ∃ gi ci gk ck gr cr, iv = .slice (some ⟨gi, 0, none⟩) c.isr.length ci ∧ kv = .slice (some ⟨gk, 0, none⟩) c.known.length ck ∧ rv = .slice (some ⟨gr, 0, none⟩) c.reps.length cr ∧ base ≤ gi ∧ base ≤ gk ∧ base ≤ gr ∧ gi < w.heap.size ∧ gk < w.heap.size ∧ gr < w.heap.size := by
  obtain ⟨o1, o2, rows, e3, o4, o5⟩ := h
  obtain ⟨gi, ci, a1, a2, a3, -⟩ := own_row o1 h1
  obtain ⟨gk, ck, b1, b2, b3, -⟩ := own_row o2 h2
  obtain ⟨gr, cr, d1, d2, d3, -⟩ := own_row o4 h3
  exact ⟨gi, ci, gk, ck, gr, cr, a1, b1, d1, a2, b2, d2, a3, b3, d3⟩
theorem PO.isrAt {gi ci : Nat} (h : PO base w c (.slice (some ⟨gi, 0, none⟩) c.isr.length ci) kv rv) (i : Nat) (hi : i < c.isr.length) : w.cell? ⟨gi, i, none⟩ = some (.bool c.isr[i]) ∧ w.frozen? ⟨gi, i, none⟩ = false := by
  obtain ⟨g, cap, hv, -, -, -, -, hc⟩ := own_row h.isr (by omega)
  injection hv with e1
  injection e1 with e1
  injection e1 with e1
  subst e1
  exact hc i _ (by simp [hi])
theorem PO.knownAt {gk ck : Nat} (h : PO base w c iv (.slice (some ⟨gk, 0, none⟩) c.known.length ck) rv) (i : Nat) (hi : i < c.known.length) : w.cell? ⟨gk, i, none⟩ = some (.int .i64 c.known[i]) ∧ w.frozen? ⟨gk, i, none⟩ = false := by
  obtain ⟨g, cap, hv, -, -, -, -, hc⟩ := own_row h.known (by omega)
  injection hv with e1
  injection e1 with e1
  injection e1 with e1
  subst e1
  exact hc i _ (by simp [hi])
theorem PO.repAt {gr cr : Nat} (h : PO base w c iv kv (.slice (some ⟨gr, 0, none⟩) c.reps.length cr)) (i : Nat) (hi : i < c.reps.length) : ∃ A7 c7, (w.cell? ⟨gr, i * 4, none⟩ = some (.bool c.reps[i].up) ∧ w.cell? ⟨gr, i * 4 + 1, none⟩ = some (.slice A7 c.reps[i].bytes.length c7) ∧ w.cell? ⟨gr, i * 4 + 2, none⟩ = some (.int .i64 c.reps[i].synced) ∧ w.cell? ⟨gr, i * 4 + 3, none⟩ = some (.int .i64 c.reps[i].high)) ∧ (w.frozen? ⟨gr, i * 4, none⟩ = false ∧ w.frozen? ⟨gr, i * 4 + 1, none⟩ = false ∧ w.frozen? ⟨gr, i * 4 + 2, none⟩ = false ∧ w.frozen? ⟨gr, i * 4 + 3, none⟩ = false) ∧ By w (.slice A7 c.reps[i].bytes.length c7) c.reps[i].bytes := by
  obtain ⟨rows, h3, h4, h5⟩ := h.reps
  obtain ⟨g, cap, hv, -, -, -, -, hc⟩ := own_row h4 (by omega)
  injection hv with e1
  injection e1 with e1
  injection e1 with e1
  subst e1
  have hl : rows.length = c.reps.length := by rw [← h3]; simp
  have hi' : i < rows.length := by omega
  have he : c.reps[i] = rows[i].1 := by simp [← h3]
  have hy : By w rows[i].2 rows[i].1.bytes := Sl.of_own (h5 _ (List.getElem_mem hi'))
  obtain ⟨A7, c7, e7, -⟩ := hy.at_
  rw [he]
  have key : ∀ j u, j < 4 → (rcells rows[i])[j]? = some u → w.cell? ⟨gr, i * 4 + j, none⟩ = some u ∧ w.frozen? ⟨gr, i * 4 + j, none⟩ = false := fun j u hj hu => hc _ _ ((rcells_get rows i hi' j hj).trans hu)
  have k0 := key 0 _ (by omega) rfl
  have k1 := key 1 _ (by omega) rfl
  have k2 := key 2 _ (by omega) rfl
  have k3 := key 3 _ (by omega) rfl
  rw [e7] at k1 hy
  exact ⟨A7, c7, ⟨k0.1, k1.1, k2.1, k3.1⟩, ⟨k0.2, k1.2, k2.2, k3.2⟩, hy⟩
theorem PO.setIsr {gi ci : Nat} (h : PO base w c (.slice (some ⟨gi, 0, none⟩) c.isr.length ci) kv rv) (i : Nat) (b : Bool) (hn : 0 < c.isr.length) : PO base (w.setCell ⟨gi, i, none⟩ (.bool b)) { c with isr := c.isr.set i b } (.slice (some ⟨gi, 0, none⟩) c.isr.length ci) kv rv := by
  obtain ⟨g, cap, hv, -, -, -, ⟨cs, fr, hg⟩, -⟩ := own_row h.isr hn
  injection hv with e1
  injection e1 with e1
  injection e1 with e1
  subst e1
  obtain ⟨h1, h2, rows, h3, h4, h5⟩ := h
  refine ⟨?_, own_far h2 hg (by decide) _ _, rows, h3, own_far h4 hg (by decide) _ _, fun t ht => own_far (h5 t ht) hg (by decide) _ _⟩
  have := (World.ownsRow.stored h1 i (.bool b)).1
  simpa [List.map_set] using this
theorem PO.setKnown {gk ck : Nat} (h : PO base w c iv (.slice (some ⟨gk, 0, none⟩) c.known.length ck) rv) (i : Nat) (x : Int) (hn : 0 < c.known.length) : PO base (w.setCell ⟨gk, i, none⟩ (.int .i64 x)) { c with known := c.known.set i x } iv (.slice (some ⟨gk, 0, none⟩) c.known.length ck) rv := by
  obtain ⟨g, cap, hv, -, -, -, ⟨cs, fr, hg⟩, -⟩ := own_row h.known hn
  injection hv with e1
  injection e1 with e1
  injection e1 with e1
  subst e1
  obtain ⟨h1, h2, rows, h3, h4, h5⟩ := h
  refine ⟨own_far h1 hg (by decide) _ _, ?_, rows, h3, own_far h4 hg (by decide) _ _, fun t ht => own_far (h5 t ht) hg (by decide) _ _⟩
  have := (World.ownsRow.stored h2 i (.int .i64 x)).1
  simpa [List.map_set] using this
theorem rcells_set : ∀ (rows : List (RepD × Value)) (i j : Nat) (u : Value) (r : RepD × Value), j < 4 → (h : i < rows.length) → rcells r = (rcells rows[i]).set j u → (rows.set i r).flatMap rcells = (rows.flatMap rcells).set (i * 4 + j) u
  | t :: rows, 0, j, u, r, hj, _, he => by
    have hl : (rcells t).length = 4 := rfl
    simp only [List.set_cons_zero, List.flatMap_cons, Nat.zero_mul, Nat.zero_add]
    rw [List.set_append_left _ _ (by rw [hl]; exact hj)]
    simp only [List.getElem_cons_zero] at he
    rw [he]
  | t :: rows, i + 1, j, u, r, hj, h, he => by
    have hl : (rcells t).length = 4 := rfl
    simp only [List.set_cons_succ, List.flatMap_cons]
    rw [rcells_set rows i j u r hj (by simpa using h) (by simpa using he), List.set_append_right _ _ (by rw [hl]; omega), hl, show (i + 1) * 4 + j - 4 = i * 4 + j from by omega]
theorem mem_set_cases {α : Type} {l : List α} {i : Nat} {a x : α} (h : x ∈ l.set i a) : x = a ∨ x ∈ l := by
  rcases List.mem_or_eq_of_mem_set h with h | h
  · exact Or.inr h
  · exact Or.inl h
/-- one cell of a replica is stored, not that of its bytes -/
theorem PO.setRep {gr cr : Nat} (h : PO base w c iv kv (.slice (some ⟨gr, 0, none⟩) c.reps.length cr)) (i j : Nat) (hi : i < c.reps.length) (u : Value) (t' : RepD) (hj : j < 4) (hc : ∀ pv, rcells (t', pv) = (rcells (c.reps[i], pv)).set j u) (hb : t'.bytes = c.reps[i].bytes) : PO base (w.setCell ⟨gr, i * 4 + j, none⟩ u) { c with reps := c.reps.set i t' } iv kv (.slice (some ⟨gr, 0, none⟩) c.reps.length cr) := by
  obtain ⟨h1, h2, rows, h3, h4, h5⟩ := h
  obtain ⟨g, cap, hv, -, -, -, ⟨cs, fr, hg⟩, -⟩ := own_row h4 (by omega)
  injection hv with e1
  injection e1 with e1
  injection e1 with e1
  subst e1
  have hl : rows.length = c.reps.length := by rw [← h3]; simp
  have hi' : i < rows.length := by omega
  have he : c.reps[i] = rows[i].1 := by simp [← h3]
  rw [he] at hb
  refine ⟨own_far h1 hg (by decide) _ _, own_far h2 hg (by decide) _ _, rows.set i (t', rows[i].2), by simp [List.map_set, h3], ?_, fun t ht => own_far (?_ : w.ownsRow _ _ _ _ _ _) hg (by decide) _ _⟩
  · have hcc := hc rows[i].2
    rw [he] at hcc
    rw [rcells_set rows i j u (t', rows[i].2) hj hi' hcc]
    have := (World.ownsRow.stored h4 (i * 4 + j) u).1
    simpa using this
  · rcases mem_set_cases ht with rfl | ht
    · simp only; rw [hb]; exact h5 _ (List.getElem_mem hi')
    · exact h5 t ht
/-- a new log is stored in a replica -/
theorem PO.setLog {gr cr : Nat} (h : PO base w c iv kv (.slice (some ⟨gr, 0, none⟩) c.reps.length cr)) (i : Nat) (hi : i < c.reps.length) {pv : Value} {l : List UInt8} (s : Int) (hp : w.ownsRow base 5 1 pv l.length (bvs l)) : PO base ((w.setCell ⟨gr, i * 4 + 1, none⟩ pv).setCell ⟨gr, i * 4 + 2, none⟩ (.int .i64 s)) { c with reps := c.reps.set i { c.reps[i] with bytes := l, synced := s } } iv kv (.slice (some ⟨gr, 0, none⟩) c.reps.length cr) := by
  obtain ⟨h1, h2, rows, h3, h4, h5⟩ := h
  obtain ⟨g, cap, hv, -, -, -, ⟨cs, fr, hg⟩, -⟩ := own_row h4 (by omega)
  injection hv with e1
  injection e1 with e1
  injection e1 with e1
  subst e1
  have hl : rows.length = c.reps.length := by rw [← h3]; simp
  have hi' : i < rows.length := by omega
  have he : c.reps[i] = rows[i].1 := by simp [← h3]
  have s1 := World.ownsRow.stored h4 (i * 4 + 1) pv
  have s2 := World.ownsRow.stored s1.1 (i * 4 + 2) (.int .i64 s)
  obtain ⟨g, cap, hv, -, -, -, ⟨cs', fr', hg'⟩, -⟩ := own_row s1.1 (by omega)
  injection hv with e1
  injection e1 with e1
  injection e1 with e1
  subst e1
  have far : ∀ {e : TypeId} {size n : Nat} {v : Value} {xs : List Value}, w.ownsRow base e size v n xs → 71 ≠ e → ((w.setCell ⟨gr, i * 4 + 1, none⟩ pv).setCell ⟨gr, i * 4 + 2, none⟩ (.int .i64 s)).ownsRow base e size v n xs := fun ho hne => own_far (own_far ho hg hne _ _) hg' hne _ _
  refine ⟨far h1 (by decide), far h2 (by decide), rows.set i ({ c.reps[i] with bytes := l, synced := s }, pv), by simp [List.map_set, h3], ?_, fun t ht => far ?_ (by decide)⟩
  · have e1 : (rows.set i (rows[i].1, pv)).flatMap rcells = (rows.flatMap rcells).set (i * 4 + 1) pv := rcells_set rows i 1 pv _ (by omega) hi' rfl
    have hi2 : i < (rows.set i (rows[i].1, pv)).length := by simpa using hi'
    have e2 := rcells_set (rows.set i (rows[i].1, pv)) i 2 (.int .i64 s) ({ c.reps[i] with bytes := l, synced := s }, pv) (by omega) hi2 (by simp [rcells, he])
    rw [List.set_set] at e2
    rw [e2, e1]
    have := s2.1
    simpa using this
  · rcases mem_set_cases ht with rfl | ht
    · exact hp
    · exact h5 t ht
theorem PO.blk (h : PO base w c iv kv rv) {g : Nat} {cs : Array Value} (hb : Blk w g 26 cs) (j : Nat) (u : Value) : PO base (w.setCell ⟨g, j, none⟩ u) c iv kv rv := by
  obtain ⟨h1, h2, rows, h3, h4, h5⟩ := h
  exact ⟨own_far h1 hb (by decide) _ _, own_far h2 hb (by decide) _ _, rows, h3, own_far h4 hb (by decide) _ _, fun t ht => own_far (h5 t ht) hb (by decide) _ _⟩
/-- a part is stored in a block of its own -/
theorem PO.blk7 (h : PO base w c iv kv rv) {g : Nat} {cs : Array Value} (hb : Blk w g 26 cs) (u0 u1 u2 u3 u4 u5 u6 : Value) : PO base (((((((w.setCell ⟨g, 0, none⟩ u0).setCell ⟨g, 1, none⟩ u1).setCell ⟨g, 2, none⟩ u2).setCell ⟨g, 3, none⟩ u3).setCell ⟨g, 4, none⟩ u4).setCell ⟨g, 5, none⟩ u5).setCell ⟨g, 6, none⟩ u6) c iv kv rv := by
  have b0 := hb.set_ 0 u0
  have b1 := b0.set_ 1 u1
  have b2 := b1.set_ 2 u2
  have b3 := b2.set_ 3 u3
  have b4 := b3.set_ 4 u4
  have b5 := b4.set_ 5 u5
  exact ((((((h.blk hb 0 u0).blk b0 1 u1).blk b1 2 u2).blk b2 3 u3).blk b3 4 u4).blk b4 5 u5).blk b5 6 u6
theorem PO.nil (base : Nat) (w : World) (ep ld fw ba : Int) : PO base w ⟨ep, ld, [], [], [], fw, ba⟩ (.slice none 0 0) (.slice none 0 0) (.slice none 0 0) :=
  ⟨by simpa using World.ownsRow_nil _ _ _ _, by simpa using World.ownsRow_nil _ _ _ _, [], rfl, by simpa using World.ownsRow_nil _ _ _ _, by simp⟩
theorem PO.pushIsr {o : Obj} {v7 : Value} {x : Bool} {n : Nat} (h : PO base w c iv kv rv) (hn : n = c.isr.length) (hg : (w.alloc o).grownBy w' iv.ownBlock) (h7 : w'.ownsRow base 4 1 v7 (n + 1) (c.isr.map Value.bool ++ [.bool x])) : PO base w' { c with isr := c.isr ++ [x] } v7 kv rv := by
  obtain ⟨h1, h2, rows, h3, h4, h5⟩ := h
  have q1 := h1.alloc o
  refine ⟨own_eq h7 (by simp [hn]) (by simp), (h2.alloc o).kept hg (own_apart (h2.alloc o) q1 (by decide)), rows, h3, (h4.alloc o).kept hg (own_apart (h4.alloc o) q1 (by decide)), fun t ht => ((h5 t ht).alloc o).kept hg (own_apart ((h5 t ht).alloc o) q1 (by decide))⟩
theorem PO.pushKnown {o : Obj} {v7 : Value} {x : Int} {n : Nat} (h : PO base w c iv kv rv) (hn : n = c.known.length) (hg : (w.alloc o).grownBy w' kv.ownBlock) (h7 : w'.ownsRow base 3 1 v7 (n + 1) (c.known.map (Value.int .i64) ++ [.int .i64 x])) : PO base w' { c with known := c.known ++ [x] } iv v7 rv := by
  obtain ⟨h1, h2, rows, h3, h4, h5⟩ := h
  have q1 := h2.alloc o
  refine ⟨(h1.alloc o).kept hg (own_apart (h1.alloc o) q1 (by decide)), own_eq h7 (by simp [hn]) (by simp), rows, h3, (h4.alloc o).kept hg (own_apart (h4.alloc o) q1 (by decide)), fun t ht => ((h5 t ht).alloc o).kept hg (own_apart ((h5 t ht).alloc o) q1 (by decide))⟩
theorem PO.pushRep {o : Obj} {v7 pv : Value} {t : RepD} {n : Nat} {rows : List (RepD × Value)} (h1 : w.ownsRow base 4 1 iv c.isr.length (c.isr.map Value.bool)) (h2 : w.ownsRow base 3 1 kv c.known.length (c.known.map (Value.int .i64))) (h3 : rows.map Prod.fst = c.reps) (h4 : w.ownsRow base 71 4 rv c.reps.length (rows.flatMap rcells)) (h5 : ∀ t ∈ rows, w.ownsRow base 5 1 t.2 t.1.bytes.length (bvs t.1.bytes))
    (hn : n = c.reps.length) (hg : (w.alloc o).grownBy w' rv.ownBlock) (hp : w.ownsRow base 5 1 pv t.bytes.length (bvs t.bytes)) (h7 : w'.ownsRow base 71 4 v7 (n + 1) (rows.flatMap rcells ++ rcells (t, pv))) : PO base w' { c with reps := c.reps ++ [t] } iv kv v7 := by
  have q1 := h4.alloc o
  refine ⟨(h1.alloc o).kept hg (own_apart (h1.alloc o) q1 (by decide)), (h2.alloc o).kept hg (own_apart (h2.alloc o) q1 (by decide)), rows ++ [(t, pv)], by simp [h3], own_eq h7 (by simp [hn]) (by simp), fun t' ht => ?_⟩
  rcases List.mem_append.1 ht with ht | ht
  · exact ((h5 t' ht).alloc o).kept hg (own_apart ((h5 t' ht).alloc o) q1 (by decide))
  · simp only [List.mem_singleton] at ht
    subst ht
    exact (hp.alloc o).kept hg (own_apart (hp.alloc o) q1 (by decide))
end
end Go.Proofs.Ytpjjfnpdopdnkaa
