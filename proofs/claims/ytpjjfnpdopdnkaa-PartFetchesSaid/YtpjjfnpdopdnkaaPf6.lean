/- Parts of a proof, merged: PartP, PartQ, EntE, SegI. No condition. -/
import Derived.Test.YtpjjfnpdopdnkaaPf4
import Derived.Test.YtpjjfnpdopdnkaaPf5
import Derived.Test.YtpjjfnpdopdnkaaPf3
import Derived.Test.YtpjjfnpdopdnkaaPf2
import Derived.Lib.MinMax
namespace Go.Proofs.Ytpjjfnpdopdnkaa
open Go.RowKit

/-- a part whose rows are the call's own, from block base on -/
structure PO (base : Nat) (w : World) (c : PartD) (iv kv rv : Value) : Prop where
  isr : w.ownsRow base 4 1 iv c.isr.length (c.isr.map Value.bool)
  known : w.ownsRow base 3 1 kv c.known.length (c.known.map (Value.int .i64))
  reps : ∃ rows : List (RepD × Value), rows.map Prod.fst = c.reps ∧ w.ownsRow base 71 4 rv c.reps.length (rows.flatMap rcells) ∧ ∀ t ∈ rows, w.ownsRow base 5 1 t.2 t.1.bytes.length (bvs t.1.bytes)
/-- small parts: those that may be are, and what is made of them -/
structure PSm (c : PartD) : Prop where
  isr : c.isr.length ≤ 5
  known : c.known.length ≤ 5
  reps : c.reps.length ≤ 5
  bytes : ∀ t ∈ c.reps, t.bytes.length ≤ 40000
def zeroP : PartD := ⟨0, 0, [], [], [], 0, 0⟩
theorem PartOk.small {c : PartD} (h : PartOk c) : PSm c := by
  have h1 := h.many
  have h2 := h.isr
  have h3 := h.known
  refine ⟨by omega, by omega, by omega, fun t ht => ?_⟩
  obtain ⟨i, hi, rfl⟩ := List.mem_iff_getElem.1 ht
  obtain ⟨es, j, hl⟩ := h.log i hi
  have e1 := hl.long
  rw [← hl.bytes] at e1
  exact e1
theorem pv_zero (w : World) : Pv w (partV zeroP (.slice none 0 0) (.slice none 0 0) (.slice none 0 0)) zeroP :=
  ⟨_, _, _, rfl, Sl.nil_ _ _, Sl.nil_ _ _, ⟨[], rfl, Sl.nil_ _ _, by simp⟩, by simp [zeroP], by simp [zeroP], by simp [zeroP]⟩
section
variable {base : Nat} {w w' : World} {c : PartD} {iv kv rv : Value}
theorem PO.under (h : PO base w c iv kv rv) {a : Addr} (ha : a.block < base) (u : Value) : PO base (w.setCell a u) c iv kv rv := by
  obtain ⟨h1, h2, rows, h3, h4, h5⟩ := h
  exact ⟨ownsRow_setCell_below h1 ha u, ownsRow_setCell_below h2 ha u, rows, h3, ownsRow_setCell_below h4 ha u, fun t ht => ownsRow_setCell_below (h5 t ht) ha u⟩
theorem PO.keep (h : PO base w c iv kv rv) (hb : Below w.heap.size w w') : PO base w' c iv kv rv := by
  obtain ⟨h1, h2, rows, h3, h4, h5⟩ := h
  exact ⟨own_keep h1 hb (fun b hb => (h1.lt b hb).2), own_keep h2 hb (fun b hb => (h2.lt b hb).2), rows, h3, own_keep h4 hb (fun b hb => (h4.lt b hb).2), fun t ht => own_keep (h5 t ht) hb (fun b hb => ((h5 t ht).lt b hb).2)⟩
theorem PO.alloc (h : PO base w c iv kv rv) (o : Obj) : PO base (w.alloc o) c iv kv rv := h.keep ((Below.refl _ _).alloc (Nat.le_refl _) o)
theorem PO.more (h : PO base w c iv kv rv) {base' : Nat} (hb : base' ≤ base) : PO base' w c iv kv rv := by
  obtain ⟨h1, h2, rows, h3, h4, h5⟩ := h
  exact ⟨own_base h1 hb, own_base h2 hb, rows, h3, own_base h4 hb, fun t ht => own_base (h5 t ht) hb⟩
theorem PO.pv (h : PO base w c iv kv rv) (hs : PSm c) : Pv w (partV c iv kv rv) c := by
  obtain ⟨h1, h2, rows, h3, h4, h5⟩ := h
  have s1 := hs.isr
  have s2 := hs.known
  have s3 := hs.reps
  refine ⟨iv, kv, rv, rfl, Sl.of_own h1, Sl.of_own h2, ⟨rows, h3, Sl.of_own h4, fun t ht => ⟨Sl.of_own (h5 t ht), ?_⟩⟩, by omega, by omega, by omega⟩
  have := hs.bytes t.1 (by rw [← h3]; exact List.mem_map_of_mem ht)
  omega
theorem Pv.form {v : Value} (h : Pv w v c) : ∃ A1 c1 A3 c3 A5 c5, v = partV c (.slice A1 c.isr.length c1) (.slice A3 c.known.length c3) (.slice A5 c.reps.length c5) := by
  obtain ⟨iv, kv, rv, rfl, h1, h2, h3, -⟩ := h
  obtain ⟨A1, c1, rfl, -⟩ := h1.at_
  obtain ⟨A3, c3, rfl, -⟩ := h2.at_
  obtain ⟨A5, c5, rfl, -⟩ := h3.at_
  exact ⟨A1, c1, A3, c3, A5, c5, rfl⟩
theorem PO.pvb (h : PO base w c iv kv rv) (s1 : c.isr.length ≤ 9223372036854775807) (s2 : c.known.length ≤ 9223372036854775807) (s3 : c.reps.length ≤ 9223372036854775807) (s4 : ∀ t ∈ c.reps, t.bytes.length ≤ 9223372036854775807) : Pv w (partV c iv kv rv) c := by
  obtain ⟨h1, h2, rows, h3, h4, h5⟩ := h
  exact ⟨iv, kv, rv, rfl, Sl.of_own h1, Sl.of_own h2, ⟨rows, h3, Sl.of_own h4, fun t ht => ⟨Sl.of_own (h5 t ht), s4 t.1 (by rw [← h3]; exact List.mem_map_of_mem ht)⟩⟩, s1, s2, s3⟩
theorem PO.of_part {w0 : World} {rows : List (RepD × Value)} (h : OwnPart w0 w base c iv kv rv rows c.reps.length) : PO base w c iv kv rv := by
  have hl : rows.length = c.reps.length := by rw [← h.reps.fst]; simp
  refine ⟨h.isr, h.known, rows, h.reps.fst, h.reps.own, fun t ht => h.reps.parts t ?_⟩
  rw [← hl, List.take_length]; exact ht
theorem PO.form (h : PO base w c iv kv rv) : ∃ A1 c1 A3 c3 A5 c5, iv = .slice A1 c.isr.length c1 ∧ kv = .slice A3 c.known.length c3 ∧ rv = .slice A5 c.reps.length c5 := by
  obtain ⟨h1, h2, rows, h3, h4, h5⟩ := h
  obtain ⟨A1, c1, e1, -⟩ := (Sl.of_own h1).form
  obtain ⟨A3, c3, e3, -⟩ := (Sl.of_own h2).form
  obtain ⟨A5, c5, e5, -⟩ := (Sl.of_own h4).form
  exact ⟨A1, c1, A3, c3, A5, c5, e1, e3, e5⟩
theorem own_row {e : TypeId} {size n : Nat} {v : Value} {xs : List Value} (h : w.ownsRow base e size v n xs) (hn : 0 < n) : ∃ g cap, v = .slice (some ⟨g, 0, none⟩) n cap ∧ base ≤ g ∧ g < w.heap.size ∧ n ≤ cap ∧ (∃ cs fr, w.heap[g]? = some (.cells cs e fr)) ∧ ∀ (j : Nat) u, xs[j]? = some u → w.cell? ⟨g, j, none⟩ = some u ∧ w.frozen? ⟨g, j, none⟩ = false := by
  obtain ⟨g, cap, hv, hb, hlt⟩ := h.form hn
  subst hv
  have hle : n ≤ cap := by
    obtain ⟨_, A, c', he, hc, _⟩ := Sl.of_own h
    injection he with _ _ e; omega
  refine ⟨g, cap, rfl, hb, hlt, hle, ?_, fun j u hu => ⟨?_, World.ownsRow.frozenAt h _⟩⟩
  · rcases h.2 with ⟨e, _⟩ | ⟨g', cap', cur, e, _, hh, _⟩
    · cases e
    · injection e with e1
      injection e1 with e1
      injection e1 with e1
      subst e1
      exact ⟨_, _, hh⟩
  · have hj : j < n * size := by
      rw [← h.1]
      exact (List.getElem?_eq_some_iff.1 hu).1
    rw [World.ownsRow.cellAt h _ hj]
    exact hu
/-- the rows of a part with replicas -/
theorem PO.rows (h : PO base w c iv kv rv) (h1 : 0 < c.isr.length) (h2 : 0 < c.known.length) (h3 : 0 < c.reps.length) : ∃ gi ci gk ck gr cr, iv = .slice (some ⟨gi, 0, none⟩) c.isr.length ci ∧ kv = .slice (some ⟨gk, 0, none⟩) c.known.length ck ∧ rv = .slice (some ⟨gr, 0, none⟩) c.reps.length cr ∧ base ≤ gi ∧ base ≤ gk ∧ base ≤ gr ∧ gi < w.heap.size ∧ gk < w.heap.size ∧ gr < w.heap.size := by
  obtain ⟨o1, o2, rows, e3, o4, o5⟩ := h
  obtain ⟨gi, ci, a1, a2, a3, -⟩ := own_row o1 h1
  obtain ⟨gk, ck, b1, b2, b3, -⟩ := own_row o2 h2
  obtain ⟨gr, cr, d1, d2, d3, -⟩ := own_row o4 h3
  exact ⟨gi, ci, gk, ck, gr, cr, a1, b1, d1, a2, b2, d2, a3, b3, d3⟩
theorem PO.isrAt {gi ci : Nat} (h : PO base w c (.slice (some ⟨gi, 0, none⟩) c.isr.length ci) kv rv) (i : Nat) (hi : i < c.isr.length) : w.cell? ⟨gi, i, none⟩ = some (.bool c.isr[i]) ∧ w.frozen? ⟨gi, i, none⟩ = false := by
  obtain ⟨g, cap, hv, -, -, -, -, hc⟩ := own_row h.isr (by omega)
  injection hv with e1
  injection e1 with e1
  injection e1 with e1
  subst e1
  exact hc i _ (by simp [hi])
theorem PO.knownAt {gk ck : Nat} (h : PO base w c iv (.slice (some ⟨gk, 0, none⟩) c.known.length ck) rv) (i : Nat) (hi : i < c.known.length) : w.cell? ⟨gk, i, none⟩ = some (.int .i64 c.known[i]) ∧ w.frozen? ⟨gk, i, none⟩ = false := by
  obtain ⟨g, cap, hv, -, -, -, -, hc⟩ := own_row h.known (by omega)
  injection hv with e1
  injection e1 with e1
  injection e1 with e1
  subst e1
  exact hc i _ (by simp [hi])
theorem PO.repAt {gr cr : Nat} (h : PO base w c iv kv (.slice (some ⟨gr, 0, none⟩) c.reps.length cr)) (i : Nat) (hi : i < c.reps.length) : ∃ A7 c7, (w.cell? ⟨gr, i * 4, none⟩ = some (.bool c.reps[i].up) ∧ w.cell? ⟨gr, i * 4 + 1, none⟩ = some (.slice A7 c.reps[i].bytes.length c7) ∧ w.cell? ⟨gr, i * 4 + 2, none⟩ = some (.int .i64 c.reps[i].synced) ∧ w.cell? ⟨gr, i * 4 + 3, none⟩ = some (.int .i64 c.reps[i].high)) ∧ (w.frozen? ⟨gr, i * 4, none⟩ = false ∧ w.frozen? ⟨gr, i * 4 + 1, none⟩ = false ∧ w.frozen? ⟨gr, i * 4 + 2, none⟩ = false ∧ w.frozen? ⟨gr, i * 4 + 3, none⟩ = false) ∧ By w (.slice A7 c.reps[i].bytes.length c7) c.reps[i].bytes := by
  obtain ⟨rows, h3, h4, h5⟩ := h.reps
  obtain ⟨g, cap, hv, -, -, -, -, hc⟩ := own_row h4 (by omega)
  injection hv with e1
  injection e1 with e1
  injection e1 with e1
  subst e1
  have hl : rows.length = c.reps.length := by rw [← h3]; simp
  have hi' : i < rows.length := by omega
  have he : c.reps[i] = rows[i].1 := by simp [← h3]
  have hy : By w rows[i].2 rows[i].1.bytes := Sl.of_own (h5 _ (List.getElem_mem hi'))
  obtain ⟨A7, c7, e7, -⟩ := hy.at_
  rw [he]
  have key : ∀ j u, j < 4 → (rcells rows[i])[j]? = some u → w.cell? ⟨gr, i * 4 + j, none⟩ = some u ∧ w.frozen? ⟨gr, i * 4 + j, none⟩ = false := fun j u hj hu => hc _ _ ((rcells_get rows i hi' j hj).trans hu)
  have k0 := key 0 _ (by omega) rfl
  have k1 := key 1 _ (by omega) rfl
  have k2 := key 2 _ (by omega) rfl
  have k3 := key 3 _ (by omega) rfl
  rw [e7] at k1 hy
  exact ⟨A7, c7, ⟨k0.1, k1.1, k2.1, k3.1⟩, ⟨k0.2, k1.2, k2.2, k3.2⟩, hy⟩
theorem PO.setKnown {gk ck : Nat} (h : PO base w c iv (.slice (some ⟨gk, 0, none⟩) c.known.length ck) rv) (i : Nat) (x : Int) (hn : 0 < c.known.length) : PO base (w.setCell ⟨gk, i, none⟩ (.int .i64 x)) { c with known := c.known.set i x } iv (.slice (some ⟨gk, 0, none⟩) c.known.length ck) rv := by
  obtain ⟨g, cap, hv, -, -, -, ⟨cs, fr, hg⟩, -⟩ := own_row h.known hn
  injection hv with e1
  injection e1 with e1
  injection e1 with e1
  subst e1
  obtain ⟨h1, h2, rows, h3, h4, h5⟩ := h
  refine ⟨own_far h1 hg (by decide) _ _, ?_, rows, h3, own_far h4 hg (by decide) _ _, fun t ht => own_far (h5 t ht) hg (by decide) _ _⟩
  have := (World.ownsRow.stored h2 i (.int .i64 x)).1
  simpa [List.map_set] using this
theorem rcells_set : ∀ (rows : List (RepD × Value)) (i j : Nat) (u : Value) (r : RepD × Value), j < 4 → (h : i < rows.length) → rcells r = (rcells rows[i]).set j u → (rows.set i r).flatMap rcells = (rows.flatMap rcells).set (i * 4 + j) u
  | t :: rows, 0, j, u, r, hj, _, he => by
    have hl : (rcells t).length = 4 := rfl
    simp only [List.set_cons_zero, List.flatMap_cons, Nat.zero_mul, Nat.zero_add]
    rw [List.set_append_left _ _ (by rw [hl]; exact hj)]
    simp only [List.getElem_cons_zero] at he
    rw [he]
  | t :: rows, i + 1, j, u, r, hj, h, he => by
    have hl : (rcells t).length = 4 := rfl
    simp only [List.set_cons_succ, List.flatMap_cons]
    rw [rcells_set rows i j u r hj (by simpa using h) (by simpa using he), List.set_append_right _ _ (by rw [hl]; omega), hl, show (i + 1) * 4 + j - 4 = i * 4 + j from by omega]
theorem mem_set_cases {α : Type} {l : List α} {i : Nat} {a x : α} (h : x ∈ l.set i a) : x = a ∨ x ∈ l := by
  rcases List.mem_or_eq_of_mem_set h with h | h
  · exact Or.inr h
  · exact Or.inl h
/-- one cell of a replica is stored, not that of its bytes -/
theorem PO.setRep {gr cr : Nat} (h : PO base w c iv kv (.slice (some ⟨gr, 0, none⟩) c.reps.length cr)) (i j : Nat) (hi : i < c.reps.length) (u : Value) (t' : RepD) (hj : j < 4) (hc : ∀ pv, rcells (t', pv) = (rcells (c.reps[i], pv)).set j u) (hb : t'.bytes = c.reps[i].bytes) : PO base (w.setCell ⟨gr, i * 4 + j, none⟩ u) { c with reps := c.reps.set i t' } iv kv (.slice (some ⟨gr, 0, none⟩) c.reps.length cr) := by
  obtain ⟨h1, h2, rows, h3, h4, h5⟩ := h
  obtain ⟨g, cap, hv, -, -, -, ⟨cs, fr, hg⟩, -⟩ := own_row h4 (by omega)
  injection hv with e1
  injection e1 with e1
  injection e1 with e1
  subst e1
  have hl : rows.length = c.reps.length := by rw [← h3]; simp
  have hi' : i < rows.length := by omega
  have he : c.reps[i] = rows[i].1 := by simp [← h3]
  rw [he] at hb
  refine ⟨own_far h1 hg (by decide) _ _, own_far h2 hg (by decide) _ _, rows.set i (t', rows[i].2), by simp [List.map_set, h3], ?_, fun t ht => own_far (?_ : w.ownsRow _ _ _ _ _ _) hg (by decide) _ _⟩
  · have hcc := hc rows[i].2
    rw [he] at hcc
    rw [rcells_set rows i j u (t', rows[i].2) hj hi' hcc]
    have := (World.ownsRow.stored h4 (i * 4 + j) u).1
    simpa using this
  · rcases mem_set_cases ht with rfl | ht
    · simp only; rw [hb]; exact h5 _ (List.getElem_mem hi')
    · exact h5 t ht
/-- a new log is stored in a replica -/
theorem PO.setLog {gr cr : Nat} (h : PO base w c iv kv (.slice (some ⟨gr, 0, none⟩) c.reps.length cr)) (i : Nat) (hi : i < c.reps.length) {pv : Value} {l : List UInt8} (s : Int) (hp : w.ownsRow base 5 1 pv l.length (bvs l)) : PO base ((w.setCell ⟨gr, i * 4 + 1, none⟩ pv).setCell ⟨gr, i * 4 + 2, none⟩ (.int .i64 s)) { c with reps := c.reps.set i { c.reps[i] with bytes := l, synced := s } } iv kv (.slice (some ⟨gr, 0, none⟩) c.reps.length cr) := by
  obtain ⟨h1, h2, rows, h3, h4, h5⟩ := h
  obtain ⟨g, cap, hv, -, -, -, ⟨cs, fr, hg⟩, -⟩ := own_row h4 (by omega)
  injection hv with e1
  injection e1 with e1
  injection e1 with e1
  subst e1
  have hl : rows.length = c.reps.length := by rw [← h3]; simp
  have hi' : i < rows.length := by omega
  have he : c.reps[i] = rows[i].1 := by simp [← h3]
  have s1 := World.ownsRow.stored h4 (i * 4 + 1) pv
  have s2 := World.ownsRow.stored s1.1 (i * 4 + 2) (.int .i64 s)
  obtain ⟨g, cap, hv, -, -, -, ⟨cs', fr', hg'⟩, -⟩ := own_row s1.1 (by omega)
  injection hv with e1
  injection e1 with e1
  injection e1 with e1
  subst e1
  have far : ∀ {e : TypeId} {size n : Nat} {v : Value} {xs : List Value}, w.ownsRow base e size v n xs → 71 ≠ e → ((w.setCell ⟨gr, i * 4 + 1, none⟩ pv).setCell ⟨gr, i * 4 + 2, none⟩ (.int .i64 s)).ownsRow base e size v n xs := fun ho hne => own_far (own_far ho hg hne _ _) hg' hne _ _
  refine ⟨far h1 (by decide), far h2 (by decide), rows.set i ({ c.reps[i] with bytes := l, synced := s }, pv), by simp [List.map_set, h3], ?_, fun t ht => far ?_ (by decide)⟩
  · have e1 : (rows.set i (rows[i].1, pv)).flatMap rcells = (rows.flatMap rcells).set (i * 4 + 1) pv := rcells_set rows i 1 pv _ (by omega) hi' rfl
    have hi2 : i < (rows.set i (rows[i].1, pv)).length := by simpa using hi'
    have e2 := rcells_set (rows.set i (rows[i].1, pv)) i 2 (.int .i64 s) ({ c.reps[i] with bytes := l, synced := s }, pv) (by omega) hi2 (by simp [rcells, he])
    rw [List.set_set] at e2
    rw [e2, e1]
    have := s2.1
    simpa using this
  · rcases mem_set_cases ht with rfl | ht
    · exact hp
    · exact h5 t ht
theorem PO.blk (h : PO base w c iv kv rv) {g : Nat} {cs : Array Value} (hb : Blk w g 26 cs) (j : Nat) (u : Value) : PO base (w.setCell ⟨g, j, none⟩ u) c iv kv rv := by
  obtain ⟨h1, h2, rows, h3, h4, h5⟩ := h
  exact ⟨own_far h1 hb (by decide) _ _, own_far h2 hb (by decide) _ _, rows, h3, own_far h4 hb (by decide) _ _, fun t ht => own_far (h5 t ht) hb (by decide) _ _⟩
/-- a part is stored in a block of its own -/
theorem PO.blk7 (h : PO base w c iv kv rv) {g : Nat} {cs : Array Value} (hb : Blk w g 26 cs) (u0 u1 u2 u3 u4 u5 u6 : Value) : PO base (((((((w.setCell ⟨g, 0, none⟩ u0).setCell ⟨g, 1, none⟩ u1).setCell ⟨g, 2, none⟩ u2).setCell ⟨g, 3, none⟩ u3).setCell ⟨g, 4, none⟩ u4).setCell ⟨g, 5, none⟩ u5).setCell ⟨g, 6, none⟩ u6) c iv kv rv := by
  have b0 := hb.set_ 0 u0
  have b1 := b0.set_ 1 u1
  have b2 := b1.set_ 2 u2
  have b3 := b2.set_ 3 u3
  have b4 := b3.set_ 4 u4
  have b5 := b4.set_ 5 u5
  exact ((((((h.blk hb 0 u0).blk b0 1 u1).blk b1 2 u2).blk b2 3 u3).blk b3 4 u4).blk b4 5 u5).blk b5 6 u6
theorem PO.nil (base : Nat) (w : World) (ep ld fw ba : Int) : PO base w ⟨ep, ld, [], [], [], fw, ba⟩ (.slice none 0 0) (.slice none 0 0) (.slice none 0 0) :=
  ⟨by simpa using World.ownsRow_nil _ _ _ _, by simpa using World.ownsRow_nil _ _ _ _, [], rfl, by simpa using World.ownsRow_nil _ _ _ _, by simp⟩
theorem PO.pushIsr {o : Obj} {v7 : Value} {x : Bool} {n : Nat} (h : PO base w c iv kv rv) (hn : n = c.isr.length) (hg : (w.alloc o).grownBy w' iv.ownBlock) (h7 : w'.ownsRow base 4 1 v7 (n + 1) (c.isr.map Value.bool ++ [.bool x])) : PO base w' { c with isr := c.isr ++ [x] } v7 kv rv := by
  obtain ⟨h1, h2, rows, h3, h4, h5⟩ := h
  have q1 := h1.alloc o
  refine ⟨own_eq h7 (by simp [hn]) (by simp), (h2.alloc o).kept hg (own_apart (h2.alloc o) q1 (by decide)), rows, h3, (h4.alloc o).kept hg (own_apart (h4.alloc o) q1 (by decide)), fun t ht => ((h5 t ht).alloc o).kept hg (own_apart ((h5 t ht).alloc o) q1 (by decide))⟩
theorem PO.pushKnown {o : Obj} {v7 : Value} {x : Int} {n : Nat} (h : PO base w c iv kv rv) (hn : n = c.known.length) (hg : (w.alloc o).grownBy w' kv.ownBlock) (h7 : w'.ownsRow base 3 1 v7 (n + 1) (c.known.map (Value.int .i64) ++ [.int .i64 x])) : PO base w' { c with known := c.known ++ [x] } iv v7 rv := by
  obtain ⟨h1, h2, rows, h3, h4, h5⟩ := h
  have q1 := h2.alloc o
  refine ⟨(h1.alloc o).kept hg (own_apart (h1.alloc o) q1 (by decide)), own_eq h7 (by simp [hn]) (by simp), rows, h3, (h4.alloc o).kept hg (own_apart (h4.alloc o) q1 (by decide)), fun t ht => ((h5 t ht).alloc o).kept hg (own_apart ((h5 t ht).alloc o) q1 (by decide))⟩
theorem PO.pushRep {o : Obj} {v7 pv : Value} {t : RepD} {n : Nat} {rows : List (RepD × Value)} (h1 : w.ownsRow base 4 1 iv c.isr.length (c.isr.map Value.bool)) (h2 : w.ownsRow base 3 1 kv c.known.length (c.known.map (Value.int .i64))) (h3 : rows.map Prod.fst = c.reps) (h4 : w.ownsRow base 71 4 rv c.reps.length (rows.flatMap rcells)) (h5 : ∀ t ∈ rows, w.ownsRow base 5 1 t.2 t.1.bytes.length (bvs t.1.bytes))
    (hn : n = c.reps.length) (hg : (w.alloc o).grownBy w' rv.ownBlock) (hp : w.ownsRow base 5 1 pv t.bytes.length (bvs t.bytes)) (h7 : w'.ownsRow base 71 4 v7 (n + 1) (rows.flatMap rcells ++ rcells (t, pv))) : PO base w' { c with reps := c.reps ++ [t] } iv kv v7 := by
  have q1 := h4.alloc o
  refine ⟨(h1.alloc o).kept hg (own_apart (h1.alloc o) q1 (by decide)), (h2.alloc o).kept hg (own_apart (h2.alloc o) q1 (by decide)), rows ++ [(t, pv)], by simp [h3], own_eq h7 (by simp [hn]) (by simp), fun t' ht => ?_⟩
  rcases List.mem_append.1 ht with ht | ht
  · exact ((h5 t' ht).alloc o).kept hg (own_apart ((h5 t' ht).alloc o) q1 (by decide))
  · simp only [List.mem_singleton] at ht
    subst ht
    exact (hp.alloc o).kept hg (own_apart (hp.alloc o) q1 (by decide))
end
end Go.Proofs.Ytpjjfnpdopdnkaa
namespace Go.Proofs.Ytpjjfnpdopdnkaa
open Go.RowKit

def AtFault (c : PartD) (r n : Int) : Prop := ¬ PartOk c ∧ n = 12 ∨ PartOk c ∧ (r < 0 ∨ (c.reps.length : Int) ≤ r) ∧ n = 5
theorem AtFault.ne {c : PartD} {r n : Int} (h : AtFault c r n) : n ≠ 0 := by
  rcases h with ⟨_, rfl⟩ | ⟨_, _, rfl⟩ <;> decide
theorem at_cases (c : PartD) (r : Int) : (∃ n, AtFault c r n) ∨ PartOk c ∧ ∃ i : Nat, r = i ∧ i < c.reps.length := by
  by_cases h : PartOk c
  · by_cases hr : r < 0 ∨ (c.reps.length : Int) ≤ r
    · exact Or.inl ⟨5, Or.inr ⟨h, hr, rfl⟩⟩
    · exact Or.inr ⟨h, r.toNat, by omega, by omega⟩
  · exact Or.inl ⟨12, Or.inl ⟨h, rfl⟩⟩
/-- the call answers the zero part and a code -/
def RefusesP (n : Int) (w : World) (e : Ending) (w' : World) : Prop := e = .returned (.tuple #[.agg #[.int .i64 0, .int .i64 0, .slice none 0 0, .slice none 0 0, .slice none 0 0, .int .i64 0, .int .i64 0], .int .i64 n]) ∧ Below w.heap.size w w'
/-- the call answers a part in memory of its own, and OK -/
def OwnsP (c : PartD) (w : World) (e : Ending) (w' : World) : Prop := ∃ iv kv rv, e = .returned (.tuple #[partV c iv kv rv, .int .i64 0]) ∧ PO w.heap.size w' c iv kv rv ∧ Below w.heap.size w w'
/-- the call answers a part and a code -/
def PRes (c : PartD) (n : Int) (w : World) (e : Ending) (w' : World) : Prop := ∃ v, e = .returned (.tuple #[v, .int .i64 n]) ∧ Pv w' v c ∧ Below w.heap.size w w'
/-- the call answers the part in memory of its own -/
def CopiesP (c : PartD) (w : World) (e : Ending) (w' : World) : Prop := ∃ iv kv rv, e = .returned (partV c iv kv rv) ∧ PO w.heap.size w' c iv kv rv ∧ Below w.heap.size w w'
theorem partCopy_ok {v : Value} {c : PartD} {w : World} (h : Pv w v c) (hs : PSm c) : Calls Try.prog 26 #[v] w (CopiesP c w) := by
  have s1 := hs.isr
  have s2 := hs.known
  have s3 := hs.reps
  refine (partCopy_any v c w h (by omega) (by omega) (by omega) (fun t ht => by have := hs.bytes t ht; omega)).mono ?_
  rintro e w' ⟨iv, kv, rv, rows, he, ho, hb⟩
  exact ⟨iv, kv, rv, he, .of_part ho, hb⟩
set_option maxRecDepth 100000 in
set_option maxHeartbeats 4000000 in
theorem at_state (v : Value) (c : PartD) (r : Int) (hn : ¬ PartOk c) (w : World) (h : Pv w v c) : Calls Try.prog 86 #[v, .int .i64 r] w (RefusesP 12 w) := by
  obtain ⟨xi, xk, xr, rfl, ix, kx, rx, hli, hlk, hlr⟩ := id h
  obtain ⟨A5, c5, rfl, hc5, -⟩ := rx.at_
  obtain ⟨A1, c1, rfl, hc1, -⟩ := ix.at_
  obtain ⟨A3, c3, rfl, hc3, -⟩ := kx.at_
  have H := Lib.hid h
  clear h ix kx rx
  unfold partV at *
  obtain ⟨ep, ld, is, ks, rs, fw, ba⟩ := c
  simp only at *
  have HN := Lib.hid hn
  clear hn
  go_enter Try.func86, Try.ntmps86
  go_wp2_with fail
  have hb1 : Below w.heap.size w ((w.alloc (.cells #[.int .i64 ep, .int .i64 ld, .slice A1 is.length c1, .slice A3 ks.length c3, .slice A5 rs.length c5, .int .i64 fw, .int .i64 ba] 26)).alloc (.cells #[.int .i64 0, .int .i64 0, .slice none 0 0, .slice none 0 0, .slice none 0 0, .int .i64 0, .int .i64 0] 26)) := ((Below.refl _ _).alloc (by first | omega | (simp; done) | (simp; omega)) _).alloc (by first | omega | (simp; done) | (simp; omega)) _
  have hal1 : Below w.heap.size w ((w.alloc (.cells #[.int .i64 ep, .int .i64 ld, .slice A1 is.length c1, .slice A3 ks.length c3, .slice A5 rs.length c5, .int .i64 fw, .int .i64 ba] 26)).alloc (.cells #[.int .i64 0, .int .i64 0, .slice none 0 0, .slice none 0 0, .slice none 0 0, .int .i64 0, .int .i64 0] 26)) := ((Below.refl _ _).alloc (by first | omega | (simp; done) | (simp; omega)) _).alloc (by first | omega | (simp; done) | (simp; omega)) _
  have b_bx1 : Blk ((w.alloc (.cells #[.int .i64 ep, .int .i64 ld, .slice A1 is.length c1, .slice A3 ks.length c3, .slice A5 rs.length c5, .int .i64 fw, .int .i64 ba] 26)).alloc (.cells #[.int .i64 0, .int .i64 0, .slice none 0 0, .slice none 0 0, .slice none 0 0, .int .i64 0, .int .i64 0] 26)) (w.heap.size) 26 #[.int .i64 ep, .int .i64 ld, .slice A1 is.length c1, .slice A3 ks.length c3, .slice A5 rs.length c5, .int .i64 fw, .int .i64 ba] := (Blk.new_ _ 26 #[.int .i64 ep, .int .i64 ld, .slice A1 is.length c1, .slice A3 ks.length c3, .slice A5 rs.length c5, .int .i64 fw, .int .i64 ba] (by first | rfl | (simp; done) | (simp; omega))).alloc _
  have b_bz1 : Blk ((w.alloc (.cells #[.int .i64 ep, .int .i64 ld, .slice A1 is.length c1, .slice A3 ks.length c3, .slice A5 rs.length c5, .int .i64 fw, .int .i64 ba] 26)).alloc (.cells #[.int .i64 0, .int .i64 0, .slice none 0 0, .slice none 0 0, .slice none 0 0, .int .i64 0, .int .i64 0] 26)) (w.heap.size + 1) 26 #[.int .i64 0, .int .i64 0, .slice none 0 0, .slice none 0 0, .slice none 0 0, .int .i64 0, .int .i64 0] := Blk.new_ _ 26 #[.int .i64 0, .int .i64 0, .slice none 0 0, .slice none 0 0, .slice none 0 0, .int .i64 0, .int .i64 0] (by first | rfl | (simp; done) | (simp; omega))
  have k_v1 := H.out.below hal1
  have hz1 : w.heap.size + 2 ≤ ((w.alloc (.cells #[.int .i64 ep, .int .i64 ld, .slice A1 is.length c1, .slice A3 ks.length c3, .slice A5 rs.length c5, .int .i64 fw, .int .i64 ba] 26)).alloc (.cells #[.int .i64 0, .int .i64 0, .slice none 0 0, .slice none 0 0, .slice none 0 0, .int .i64 0, .int .i64 0] 26)).heap.size := by first | omega | (simp; done) | (simp; omega)
  generalize (w.alloc (.cells #[.int .i64 ep, .int .i64 ld, .slice A1 is.length c1, .slice A3 ks.length c3, .slice A5 rs.length c5, .int .i64 fw, .int .i64 ba] 26)).alloc (.cells #[.int .i64 0, .int .i64 0, .slice none 0 0, .slice none 0 0, .slice none 0 0, .int .i64 0, .int .i64 0] 26) = W1 at *
  have HB1 := Lib.hid hb1
  have B1_bx := Lib.hid b_bx1
  have B1_bz := Lib.hid b_bz1
  have K1_v := Lib.hid k_v1
  clear hb1 b_bx1 b_bz1 k_v1
  clear H
  refine (partCheck_any _ ⟨ep, ld, is, ks, rs, fw, ba⟩ _ K1_v.out).mono ?_
  rintro e W2 hA
  obtain ⟨rfl, hb⟩ := hA.no HN.out
  have hb2 : Below w.heap.size w W2 := below_then HB1.out hb
  have b_bx2 := B1_bx.out.below hb B1_bx.out.lt
  have b_bz2 := B1_bz.out.below hb B1_bz.out.lt
  have k_v2 := K1_v.out.below hb
  have hz2 := hb.size
  have HB2 := Lib.hid hb2
  have B2_bx := Lib.hid b_bx2
  have B2_bz := Lib.hid b_bz2
  have K2_v := Lib.hid k_v2
  clear hb2 b_bx2 b_bz2 k_v2
  clear B1_bx B1_bz HB1 K1_v
  have c_bz0 := B2_bz.out.cell 0
  have f_bz0 := B2_bz.out.frozen 0
  have c_bz1 := B2_bz.out.cell 1
  have f_bz1 := B2_bz.out.frozen 1
  have c_bz2 := B2_bz.out.cell 2
  have f_bz2 := B2_bz.out.frozen 2
  have c_bz3 := B2_bz.out.cell 3
  have f_bz3 := B2_bz.out.frozen 3
  have c_bz4 := B2_bz.out.cell 4
  have f_bz4 := B2_bz.out.frozen 4
  have c_bz5 := B2_bz.out.cell 5
  have f_bz5 := B2_bz.out.frozen 5
  have c_bz6 := B2_bz.out.cell 6
  have f_bz6 := B2_bz.out.frozen 6
  have l_bz := B2_bz.out.lt
  go_wp2_with fail
  clear c_bz0 f_bz0 c_bz1 f_bz1 c_bz2 f_bz2 c_bz3 f_bz3 c_bz4 f_bz4 c_bz5 f_bz5 c_bz6 f_bz6 l_bz
  have hszF := HB2.out.size
  have hbF : Below w.heap.size w (((((((W2.setCell ⟨w.heap.size + 1, 0, none⟩ (.int .i64 0)).setCell ⟨w.heap.size + 1, 1, none⟩ (.int .i64 0)).setCell ⟨w.heap.size + 1, 2, none⟩ (.slice none 0 0)).setCell ⟨w.heap.size + 1, 3, none⟩ (.slice none 0 0)).setCell ⟨w.heap.size + 1, 4, none⟩ (.slice none 0 0)).setCell ⟨w.heap.size + 1, 5, none⟩ (.int .i64 0)).setCell ⟨w.heap.size + 1, 6, none⟩ (.int .i64 0)) := (((((((HB2.out).setCell (by show w.heap.size ≤ w.heap.size + 1; omega) _).setCell (by show w.heap.size ≤ w.heap.size + 1; omega) _).setCell (by show w.heap.size ≤ w.heap.size + 1; omega) _).setCell (by show w.heap.size ≤ w.heap.size + 1; omega) _).setCell (by show w.heap.size ≤ w.heap.size + 1; omega) _).setCell (by show w.heap.size ≤ w.heap.size + 1; omega) _).setCell (by show w.heap.size ≤ w.heap.size + 1; omega) _
  have b_bxF : Blk (((((((W2.setCell ⟨w.heap.size + 1, 0, none⟩ (.int .i64 0)).setCell ⟨w.heap.size + 1, 1, none⟩ (.int .i64 0)).setCell ⟨w.heap.size + 1, 2, none⟩ (.slice none 0 0)).setCell ⟨w.heap.size + 1, 3, none⟩ (.slice none 0 0)).setCell ⟨w.heap.size + 1, 4, none⟩ (.slice none 0 0)).setCell ⟨w.heap.size + 1, 5, none⟩ (.int .i64 0)).setCell ⟨w.heap.size + 1, 6, none⟩ (.int .i64 0)) (w.heap.size) 26 #[.int .i64 ep, .int .i64 ld, .slice A1 is.length c1, .slice A3 ks.length c3, .slice A5 rs.length c5, .int .i64 fw, .int .i64 ba] := (((((((B2_bx.out).far (p := ⟨w.heap.size + 1, 0, none⟩) (by show w.heap.size ≠ w.heap.size + 1; omega) _).far (p := ⟨w.heap.size + 1, 1, none⟩) (by show w.heap.size ≠ w.heap.size + 1; omega) _).far (p := ⟨w.heap.size + 1, 2, none⟩) (by show w.heap.size ≠ w.heap.size + 1; omega) _).far (p := ⟨w.heap.size + 1, 3, none⟩) (by show w.heap.size ≠ w.heap.size + 1; omega) _).far (p := ⟨w.heap.size + 1, 4, none⟩) (by show w.heap.size ≠ w.heap.size + 1; omega) _).far (p := ⟨w.heap.size + 1, 5, none⟩) (by show w.heap.size ≠ w.heap.size + 1; omega) _).far (p := ⟨w.heap.size + 1, 6, none⟩) (by show w.heap.size ≠ w.heap.size + 1; omega) _
  have b_bzF : Blk (((((((W2.setCell ⟨w.heap.size + 1, 0, none⟩ (.int .i64 0)).setCell ⟨w.heap.size + 1, 1, none⟩ (.int .i64 0)).setCell ⟨w.heap.size + 1, 2, none⟩ (.slice none 0 0)).setCell ⟨w.heap.size + 1, 3, none⟩ (.slice none 0 0)).setCell ⟨w.heap.size + 1, 4, none⟩ (.slice none 0 0)).setCell ⟨w.heap.size + 1, 5, none⟩ (.int .i64 0)).setCell ⟨w.heap.size + 1, 6, none⟩ (.int .i64 0)) (w.heap.size + 1) 26 #[.int .i64 0, .int .i64 0, .slice none 0 0, .slice none 0 0, .slice none 0 0, .int .i64 0, .int .i64 0] := (((((((B2_bz.out).set_ 0 _).set_ 1 _).set_ 2 _).set_ 3 _).set_ 4 _).set_ 5 _).set_ 6 _
  have y0 := b_bzF.cell 0
  have y1 := b_bzF.cell 1
  have y2 := b_bzF.cell 2
  have y3 := b_bzF.cell 3
  have y4 := b_bzF.cell 4
  have y5 := b_bzF.cell 5
  have y6 := b_bzF.cell 6
  exact bodyPost_ret (v := .tuple #[.agg #[.int .i64 0, .int .i64 0, .slice none 0 0, .slice none 0 0, .slice none 0 0, .int .i64 0, .int .i64 0], .int .i64 12]) (by simp [results, Try.results86, go_sem, y0, y1, y2, y3, y4, y5, y6]) rfl (⟨rfl, hbF⟩)
set_option maxRecDepth 100000 in
set_option maxHeartbeats 4000000 in
theorem at_neg (v : Value) (c : PartD) (r : Int) (hn : PartOk c) (hr : r < 0) (w : World) (h : Pv w v c) : Calls Try.prog 86 #[v, .int .i64 r] w (RefusesP 5 w) := by
  obtain ⟨xi, xk, xr, rfl, ix, kx, rx, hli, hlk, hlr⟩ := id h
  obtain ⟨A5, c5, rfl, hc5, -⟩ := rx.at_
  obtain ⟨A1, c1, rfl, hc1, -⟩ := ix.at_
  obtain ⟨A3, c3, rfl, hc3, -⟩ := kx.at_
  have H := Lib.hid h
  clear h ix kx rx
  unfold partV at *
  obtain ⟨ep, ld, is, ks, rs, fw, ba⟩ := c
  simp only at *
  have HN := Lib.hid hn
  have r1 : decide (r < 0) = true := decide_eq_true hr
  clear hn hr
  go_enter Try.func86, Try.ntmps86
  go_wp2_with fail
  have hb1 : Below w.heap.size w ((w.alloc (.cells #[.int .i64 ep, .int .i64 ld, .slice A1 is.length c1, .slice A3 ks.length c3, .slice A5 rs.length c5, .int .i64 fw, .int .i64 ba] 26)).alloc (.cells #[.int .i64 0, .int .i64 0, .slice none 0 0, .slice none 0 0, .slice none 0 0, .int .i64 0, .int .i64 0] 26)) := ((Below.refl _ _).alloc (by first | omega | (simp; done) | (simp; omega)) _).alloc (by first | omega | (simp; done) | (simp; omega)) _
  have hal1 : Below w.heap.size w ((w.alloc (.cells #[.int .i64 ep, .int .i64 ld, .slice A1 is.length c1, .slice A3 ks.length c3, .slice A5 rs.length c5, .int .i64 fw, .int .i64 ba] 26)).alloc (.cells #[.int .i64 0, .int .i64 0, .slice none 0 0, .slice none 0 0, .slice none 0 0, .int .i64 0, .int .i64 0] 26)) := ((Below.refl _ _).alloc (by first | omega | (simp; done) | (simp; omega)) _).alloc (by first | omega | (simp; done) | (simp; omega)) _
  have b_bx1 : Blk ((w.alloc (.cells #[.int .i64 ep, .int .i64 ld, .slice A1 is.length c1, .slice A3 ks.length c3, .slice A5 rs.length c5, .int .i64 fw, .int .i64 ba] 26)).alloc (.cells #[.int .i64 0, .int .i64 0, .slice none 0 0, .slice none 0 0, .slice none 0 0, .int .i64 0, .int .i64 0] 26)) (w.heap.size) 26 #[.int .i64 ep, .int .i64 ld, .slice A1 is.length c1, .slice A3 ks.length c3, .slice A5 rs.length c5, .int .i64 fw, .int .i64 ba] := (Blk.new_ _ 26 #[.int .i64 ep, .int .i64 ld, .slice A1 is.length c1, .slice A3 ks.length c3, .slice A5 rs.length c5, .int .i64 fw, .int .i64 ba] (by first | rfl | (simp; done) | (simp; omega))).alloc _
  have b_bz1 : Blk ((w.alloc (.cells #[.int .i64 ep, .int .i64 ld, .slice A1 is.length c1, .slice A3 ks.length c3, .slice A5 rs.length c5, .int .i64 fw, .int .i64 ba] 26)).alloc (.cells #[.int .i64 0, .int .i64 0, .slice none 0 0, .slice none 0 0, .slice none 0 0, .int .i64 0, .int .i64 0] 26)) (w.heap.size + 1) 26 #[.int .i64 0, .int .i64 0, .slice none 0 0, .slice none 0 0, .slice none 0 0, .int .i64 0, .int .i64 0] := Blk.new_ _ 26 #[.int .i64 0, .int .i64 0, .slice none 0 0, .slice none 0 0, .slice none 0 0, .int .i64 0, .int .i64 0] (by first | rfl | (simp; done) | (simp; omega))
  have k_v1 := H.out.below hal1
  have hz1 : w.heap.size + 2 ≤ ((w.alloc (.cells #[.int .i64 ep, .int .i64 ld, .slice A1 is.length c1, .slice A3 ks.length c3, .slice A5 rs.length c5, .int .i64 fw, .int .i64 ba] 26)).alloc (.cells #[.int .i64 0, .int .i64 0, .slice none 0 0, .slice none 0 0, .slice none 0 0, .int .i64 0, .int .i64 0] 26)).heap.size := by first | omega | (simp; done) | (simp; omega)
  generalize (w.alloc (.cells #[.int .i64 ep, .int .i64 ld, .slice A1 is.length c1, .slice A3 ks.length c3, .slice A5 rs.length c5, .int .i64 fw, .int .i64 ba] 26)).alloc (.cells #[.int .i64 0, .int .i64 0, .slice none 0 0, .slice none 0 0, .slice none 0 0, .int .i64 0, .int .i64 0] 26) = W1 at *
  have HB1 := Lib.hid hb1
  have B1_bx := Lib.hid b_bx1
  have B1_bz := Lib.hid b_bz1
  have K1_v := Lib.hid k_v1
  clear hb1 b_bx1 b_bz1 k_v1
  clear H
  refine (partCheck_any _ ⟨ep, ld, is, ks, rs, fw, ba⟩ _ K1_v.out).mono ?_
  rintro e W2 hA
  obtain ⟨rfl, hb⟩ := hA.yes HN.out
  have hb2 : Below w.heap.size w W2 := below_then HB1.out hb
  have b_bx2 := B1_bx.out.below hb B1_bx.out.lt
  have b_bz2 := B1_bz.out.below hb B1_bz.out.lt
  have k_v2 := K1_v.out.below hb
  have hz2 := hb.size
  have HB2 := Lib.hid hb2
  have B2_bx := Lib.hid b_bx2
  have B2_bz := Lib.hid b_bz2
  have K2_v := Lib.hid k_v2
  clear hb2 b_bx2 b_bz2 k_v2
  clear B1_bx B1_bz HB1 K1_v
  have c_bx0 := B2_bx.out.cell 0
  have c_bx1 := B2_bx.out.cell 1
  have c_bx2 := B2_bx.out.cell 2
  have c_bx3 := B2_bx.out.cell 3
  have c_bx4 := B2_bx.out.cell 4
  have c_bx5 := B2_bx.out.cell 5
  have c_bx6 := B2_bx.out.cell 6
  have l_bx := B2_bx.out.lt
  have c_bz0 := B2_bz.out.cell 0
  have f_bz0 := B2_bz.out.frozen 0
  have c_bz1 := B2_bz.out.cell 1
  have f_bz1 := B2_bz.out.frozen 1
  have c_bz2 := B2_bz.out.cell 2
  have f_bz2 := B2_bz.out.frozen 2
  have c_bz3 := B2_bz.out.cell 3
  have f_bz3 := B2_bz.out.frozen 3
  have c_bz4 := B2_bz.out.cell 4
  have f_bz4 := B2_bz.out.frozen 4
  have c_bz5 := B2_bz.out.cell 5
  have f_bz5 := B2_bz.out.frozen 5
  have c_bz6 := B2_bz.out.cell 6
  have f_bz6 := B2_bz.out.frozen 6
  have l_bz := B2_bz.out.lt
  go_wp2_with fail
  clear c_bx0 c_bx1 c_bx2 c_bx3 c_bx4 c_bx5 c_bx6 l_bx c_bz0 f_bz0 c_bz1 f_bz1 c_bz2 f_bz2 c_bz3 f_bz3 c_bz4 f_bz4 c_bz5 f_bz5 c_bz6 f_bz6 l_bz
  have hszF := HB2.out.size
  have hbF : Below w.heap.size w (((((((W2.setCell ⟨w.heap.size + 1, 0, none⟩ (.int .i64 0)).setCell ⟨w.heap.size + 1, 1, none⟩ (.int .i64 0)).setCell ⟨w.heap.size + 1, 2, none⟩ (.slice none 0 0)).setCell ⟨w.heap.size + 1, 3, none⟩ (.slice none 0 0)).setCell ⟨w.heap.size + 1, 4, none⟩ (.slice none 0 0)).setCell ⟨w.heap.size + 1, 5, none⟩ (.int .i64 0)).setCell ⟨w.heap.size + 1, 6, none⟩ (.int .i64 0)) := (((((((HB2.out).setCell (by show w.heap.size ≤ w.heap.size + 1; omega) _).setCell (by show w.heap.size ≤ w.heap.size + 1; omega) _).setCell (by show w.heap.size ≤ w.heap.size + 1; omega) _).setCell (by show w.heap.size ≤ w.heap.size + 1; omega) _).setCell (by show w.heap.size ≤ w.heap.size + 1; omega) _).setCell (by show w.heap.size ≤ w.heap.size + 1; omega) _).setCell (by show w.heap.size ≤ w.heap.size + 1; omega) _
  have b_bxF : Blk (((((((W2.setCell ⟨w.heap.size + 1, 0, none⟩ (.int .i64 0)).setCell ⟨w.heap.size + 1, 1, none⟩ (.int .i64 0)).setCell ⟨w.heap.size + 1, 2, none⟩ (.slice none 0 0)).setCell ⟨w.heap.size + 1, 3, none⟩ (.slice none 0 0)).setCell ⟨w.heap.size + 1, 4, none⟩ (.slice none 0 0)).setCell ⟨w.heap.size + 1, 5, none⟩ (.int .i64 0)).setCell ⟨w.heap.size + 1, 6, none⟩ (.int .i64 0)) (w.heap.size) 26 #[.int .i64 ep, .int .i64 ld, .slice A1 is.length c1, .slice A3 ks.length c3, .slice A5 rs.length c5, .int .i64 fw, .int .i64 ba] := (((((((B2_bx.out).far (p := ⟨w.heap.size + 1, 0, none⟩) (by show w.heap.size ≠ w.heap.size + 1; omega) _).far (p := ⟨w.heap.size + 1, 1, none⟩) (by show w.heap.size ≠ w.heap.size + 1; omega) _).far (p := ⟨w.heap.size + 1, 2, none⟩) (by show w.heap.size ≠ w.heap.size + 1; omega) _).far (p := ⟨w.heap.size + 1, 3, none⟩) (by show w.heap.size ≠ w.heap.size + 1; omega) _).far (p := ⟨w.heap.size + 1, 4, none⟩) (by show w.heap.size ≠ w.heap.size + 1; omega) _).far (p := ⟨w.heap.size + 1, 5, none⟩) (by show w.heap.size ≠ w.heap.size + 1; omega) _).far (p := ⟨w.heap.size + 1, 6, none⟩) (by show w.heap.size ≠ w.heap.size + 1; omega) _
  have b_bzF : Blk (((((((W2.setCell ⟨w.heap.size + 1, 0, none⟩ (.int .i64 0)).setCell ⟨w.heap.size + 1, 1, none⟩ (.int .i64 0)).setCell ⟨w.heap.size + 1, 2, none⟩ (.slice none 0 0)).setCell ⟨w.heap.size + 1, 3, none⟩ (.slice none 0 0)).setCell ⟨w.heap.size + 1, 4, none⟩ (.slice none 0 0)).setCell ⟨w.heap.size + 1, 5, none⟩ (.int .i64 0)).setCell ⟨w.heap.size + 1, 6, none⟩ (.int .i64 0)) (w.heap.size + 1) 26 #[.int .i64 0, .int .i64 0, .slice none 0 0, .slice none 0 0, .slice none 0 0, .int .i64 0, .int .i64 0] := (((((((B2_bz.out).set_ 0 _).set_ 1 _).set_ 2 _).set_ 3 _).set_ 4 _).set_ 5 _).set_ 6 _
  have y0 := b_bzF.cell 0
  have y1 := b_bzF.cell 1
  have y2 := b_bzF.cell 2
  have y3 := b_bzF.cell 3
  have y4 := b_bzF.cell 4
  have y5 := b_bzF.cell 5
  have y6 := b_bzF.cell 6
  exact bodyPost_ret (v := .tuple #[.agg #[.int .i64 0, .int .i64 0, .slice none 0 0, .slice none 0 0, .slice none 0 0, .int .i64 0, .int .i64 0], .int .i64 5]) (by simp [results, Try.results86, go_sem, y0, y1, y2, y3, y4, y5, y6]) rfl (⟨rfl, hbF⟩)
set_option maxRecDepth 100000 in
set_option maxHeartbeats 4000000 in
theorem at_big (v : Value) (c : PartD) (r : Int) (hn : PartOk c) (hr : 0 ≤ r ∧ (c.reps.length : Int) ≤ r) (w : World) (h : Pv w v c) : Calls Try.prog 86 #[v, .int .i64 r] w (RefusesP 5 w) := by
  obtain ⟨xi, xk, xr, rfl, ix, kx, rx, hli, hlk, hlr⟩ := id h
  obtain ⟨A5, c5, rfl, hc5, -⟩ := rx.at_
  obtain ⟨A1, c1, rfl, hc1, -⟩ := ix.at_
  obtain ⟨A3, c3, rfl, hc3, -⟩ := kx.at_
  have H := Lib.hid h
  clear h ix kx rx
  unfold partV at *
  obtain ⟨ep, ld, is, ks, rs, fw, ba⟩ := c
  simp only at *
  have HN := Lib.hid hn
  have r1 : decide (r < 0) = false := decide_eq_false (by omega)
  have r2 : decide ((rs.length : Int) ≤ r) = true := decide_eq_true (by omega)
  clear hn hr
  go_enter Try.func86, Try.ntmps86
  go_wp2_with fail
  have hb1 : Below w.heap.size w ((w.alloc (.cells #[.int .i64 ep, .int .i64 ld, .slice A1 is.length c1, .slice A3 ks.length c3, .slice A5 rs.length c5, .int .i64 fw, .int .i64 ba] 26)).alloc (.cells #[.int .i64 0, .int .i64 0, .slice none 0 0, .slice none 0 0, .slice none 0 0, .int .i64 0, .int .i64 0] 26)) := ((Below.refl _ _).alloc (by first | omega | (simp; done) | (simp; omega)) _).alloc (by first | omega | (simp; done) | (simp; omega)) _
  have hal1 : Below w.heap.size w ((w.alloc (.cells #[.int .i64 ep, .int .i64 ld, .slice A1 is.length c1, .slice A3 ks.length c3, .slice A5 rs.length c5, .int .i64 fw, .int .i64 ba] 26)).alloc (.cells #[.int .i64 0, .int .i64 0, .slice none 0 0, .slice none 0 0, .slice none 0 0, .int .i64 0, .int .i64 0] 26)) := ((Below.refl _ _).alloc (by first | omega | (simp; done) | (simp; omega)) _).alloc (by first | omega | (simp; done) | (simp; omega)) _
  have b_bx1 : Blk ((w.alloc (.cells #[.int .i64 ep, .int .i64 ld, .slice A1 is.length c1, .slice A3 ks.length c3, .slice A5 rs.length c5, .int .i64 fw, .int .i64 ba] 26)).alloc (.cells #[.int .i64 0, .int .i64 0, .slice none 0 0, .slice none 0 0, .slice none 0 0, .int .i64 0, .int .i64 0] 26)) (w.heap.size) 26 #[.int .i64 ep, .int .i64 ld, .slice A1 is.length c1, .slice A3 ks.length c3, .slice A5 rs.length c5, .int .i64 fw, .int .i64 ba] := (Blk.new_ _ 26 #[.int .i64 ep, .int .i64 ld, .slice A1 is.length c1, .slice A3 ks.length c3, .slice A5 rs.length c5, .int .i64 fw, .int .i64 ba] (by first | rfl | (simp; done) | (simp; omega))).alloc _
  have b_bz1 : Blk ((w.alloc (.cells #[.int .i64 ep, .int .i64 ld, .slice A1 is.length c1, .slice A3 ks.length c3, .slice A5 rs.length c5, .int .i64 fw, .int .i64 ba] 26)).alloc (.cells #[.int .i64 0, .int .i64 0, .slice none 0 0, .slice none 0 0, .slice none 0 0, .int .i64 0, .int .i64 0] 26)) (w.heap.size + 1) 26 #[.int .i64 0, .int .i64 0, .slice none 0 0, .slice none 0 0, .slice none 0 0, .int .i64 0, .int .i64 0] := Blk.new_ _ 26 #[.int .i64 0, .int .i64 0, .slice none 0 0, .slice none 0 0, .slice none 0 0, .int .i64 0, .int .i64 0] (by first | rfl | (simp; done) | (simp; omega))
  have k_v1 := H.out.below hal1
  have hz1 : w.heap.size + 2 ≤ ((w.alloc (.cells #[.int .i64 ep, .int .i64 ld, .slice A1 is.length c1, .slice A3 ks.length c3, .slice A5 rs.length c5, .int .i64 fw, .int .i64 ba] 26)).alloc (.cells #[.int .i64 0, .int .i64 0, .slice none 0 0, .slice none 0 0, .slice none 0 0, .int .i64 0, .int .i64 0] 26)).heap.size := by first | omega | (simp; done) | (simp; omega)
  generalize (w.alloc (.cells #[.int .i64 ep, .int .i64 ld, .slice A1 is.length c1, .slice A3 ks.length c3, .slice A5 rs.length c5, .int .i64 fw, .int .i64 ba] 26)).alloc (.cells #[.int .i64 0, .int .i64 0, .slice none 0 0, .slice none 0 0, .slice none 0 0, .int .i64 0, .int .i64 0] 26) = W1 at *
  have HB1 := Lib.hid hb1
  have B1_bx := Lib.hid b_bx1
  have B1_bz := Lib.hid b_bz1
  have K1_v := Lib.hid k_v1
  clear hb1 b_bx1 b_bz1 k_v1
  clear H
  refine (partCheck_any _ ⟨ep, ld, is, ks, rs, fw, ba⟩ _ K1_v.out).mono ?_
  rintro e W2 hA
  obtain ⟨rfl, hb⟩ := hA.yes HN.out
  have hb2 : Below w.heap.size w W2 := below_then HB1.out hb
  have b_bx2 := B1_bx.out.below hb B1_bx.out.lt
  have b_bz2 := B1_bz.out.below hb B1_bz.out.lt
  have k_v2 := K1_v.out.below hb
  have hz2 := hb.size
  have HB2 := Lib.hid hb2
  have B2_bx := Lib.hid b_bx2
  have B2_bz := Lib.hid b_bz2
  have K2_v := Lib.hid k_v2
  clear hb2 b_bx2 b_bz2 k_v2
  clear B1_bx B1_bz HB1 K1_v
  have c_bx0 := B2_bx.out.cell 0
  have c_bx1 := B2_bx.out.cell 1
  have c_bx2 := B2_bx.out.cell 2
  have c_bx3 := B2_bx.out.cell 3
  have c_bx4 := B2_bx.out.cell 4
  have c_bx5 := B2_bx.out.cell 5
  have c_bx6 := B2_bx.out.cell 6
  have l_bx := B2_bx.out.lt
  have c_bz0 := B2_bz.out.cell 0
  have f_bz0 := B2_bz.out.frozen 0
  have c_bz1 := B2_bz.out.cell 1
  have f_bz1 := B2_bz.out.frozen 1
  have c_bz2 := B2_bz.out.cell 2
  have f_bz2 := B2_bz.out.frozen 2
  have c_bz3 := B2_bz.out.cell 3
  have f_bz3 := B2_bz.out.frozen 3
  have c_bz4 := B2_bz.out.cell 4
  have f_bz4 := B2_bz.out.frozen 4
  have c_bz5 := B2_bz.out.cell 5
  have f_bz5 := B2_bz.out.frozen 5
  have c_bz6 := B2_bz.out.cell 6
  have f_bz6 := B2_bz.out.frozen 6
  have l_bz := B2_bz.out.lt
  go_wp2_with fail
  clear c_bx0 c_bx1 c_bx2 c_bx3 c_bx4 c_bx5 c_bx6 l_bx c_bz0 f_bz0 c_bz1 f_bz1 c_bz2 f_bz2 c_bz3 f_bz3 c_bz4 f_bz4 c_bz5 f_bz5 c_bz6 f_bz6 l_bz
  have hszF := HB2.out.size
  have hbF : Below w.heap.size w (((((((W2.setCell ⟨w.heap.size + 1, 0, none⟩ (.int .i64 0)).setCell ⟨w.heap.size + 1, 1, none⟩ (.int .i64 0)).setCell ⟨w.heap.size + 1, 2, none⟩ (.slice none 0 0)).setCell ⟨w.heap.size + 1, 3, none⟩ (.slice none 0 0)).setCell ⟨w.heap.size + 1, 4, none⟩ (.slice none 0 0)).setCell ⟨w.heap.size + 1, 5, none⟩ (.int .i64 0)).setCell ⟨w.heap.size + 1, 6, none⟩ (.int .i64 0)) := (((((((HB2.out).setCell (by show w.heap.size ≤ w.heap.size + 1; omega) _).setCell (by show w.heap.size ≤ w.heap.size + 1; omega) _).setCell (by show w.heap.size ≤ w.heap.size + 1; omega) _).setCell (by show w.heap.size ≤ w.heap.size + 1; omega) _).setCell (by show w.heap.size ≤ w.heap.size + 1; omega) _).setCell (by show w.heap.size ≤ w.heap.size + 1; omega) _).setCell (by show w.heap.size ≤ w.heap.size + 1; omega) _
  have b_bxF : Blk (((((((W2.setCell ⟨w.heap.size + 1, 0, none⟩ (.int .i64 0)).setCell ⟨w.heap.size + 1, 1, none⟩ (.int .i64 0)).setCell ⟨w.heap.size + 1, 2, none⟩ (.slice none 0 0)).setCell ⟨w.heap.size + 1, 3, none⟩ (.slice none 0 0)).setCell ⟨w.heap.size + 1, 4, none⟩ (.slice none 0 0)).setCell ⟨w.heap.size + 1, 5, none⟩ (.int .i64 0)).setCell ⟨w.heap.size + 1, 6, none⟩ (.int .i64 0)) (w.heap.size) 26 #[.int .i64 ep, .int .i64 ld, .slice A1 is.length c1, .slice A3 ks.length c3, .slice A5 rs.length c5, .int .i64 fw, .int .i64 ba] := (((((((B2_bx.out).far (p := ⟨w.heap.size + 1, 0, none⟩) (by show w.heap.size ≠ w.heap.size + 1; omega) _).far (p := ⟨w.heap.size + 1, 1, none⟩) (by show w.heap.size ≠ w.heap.size + 1; omega) _).far (p := ⟨w.heap.size + 1, 2, none⟩) (by show w.heap.size ≠ w.heap.size + 1; omega) _).far (p := ⟨w.heap.size + 1, 3, none⟩) (by show w.heap.size ≠ w.heap.size + 1; omega) _).far (p := ⟨w.heap.size + 1, 4, none⟩) (by show w.heap.size ≠ w.heap.size + 1; omega) _).far (p := ⟨w.heap.size + 1, 5, none⟩) (by show w.heap.size ≠ w.heap.size + 1; omega) _).far (p := ⟨w.heap.size + 1, 6, none⟩) (by show w.heap.size ≠ w.heap.size + 1; omega) _
  have b_bzF : Blk (((((((W2.setCell ⟨w.heap.size + 1, 0, none⟩ (.int .i64 0)).setCell ⟨w.heap.size + 1, 1, none⟩ (.int .i64 0)).setCell ⟨w.heap.size + 1, 2, none⟩ (.slice none 0 0)).setCell ⟨w.heap.size + 1, 3, none⟩ (.slice none 0 0)).setCell ⟨w.heap.size + 1, 4, none⟩ (.slice none 0 0)).setCell ⟨w.heap.size + 1, 5, none⟩ (.int .i64 0)).setCell ⟨w.heap.size + 1, 6, none⟩ (.int .i64 0)) (w.heap.size + 1) 26 #[.int .i64 0, .int .i64 0, .slice none 0 0, .slice none 0 0, .slice none 0 0, .int .i64 0, .int .i64 0] := (((((((B2_bz.out).set_ 0 _).set_ 1 _).set_ 2 _).set_ 3 _).set_ 4 _).set_ 5 _).set_ 6 _
  have y0 := b_bzF.cell 0
  have y1 := b_bzF.cell 1
  have y2 := b_bzF.cell 2
  have y3 := b_bzF.cell 3
  have y4 := b_bzF.cell 4
  have y5 := b_bzF.cell 5
  have y6 := b_bzF.cell 6
  exact bodyPost_ret (v := .tuple #[.agg #[.int .i64 0, .int .i64 0, .slice none 0 0, .slice none 0 0, .slice none 0 0, .int .i64 0, .int .i64 0], .int .i64 5]) (by simp [results, Try.results86, go_sem, y0, y1, y2, y3, y4, y5, y6]) rfl (⟨rfl, hbF⟩)
theorem at_refuses {v : Value} {c : PartD} {r n : Int} {w : World} (h : Pv w v c) (hf : AtFault c r n) : Calls Try.prog 86 #[v, .int .i64 r] w (RefusesP n w) := by
  rcases hf with ⟨h1, rfl⟩ | ⟨h1, h2, rfl⟩
  · exact at_state v c r h1 w h
  · by_cases h3 : r < 0
    · exact at_neg v c r h1 h3 w h
    · exact at_big v c r h1 ⟨by omega, by omega⟩ w h
set_option maxRecDepth 100000 in
set_option maxHeartbeats 4000000 in
theorem at_good (v : Value) (c : PartD) (i : Nat) (hn : PartOk c) (hi : i < c.reps.length) (w : World) (h : Pv w v c) : Calls Try.prog 86 #[v, .int .i64 i] w (OwnsP c w) := by
  have hs := hn.small
  obtain ⟨xi, xk, xr, rfl, ix, kx, rx, hli, hlk, hlr⟩ := id h
  obtain ⟨A5, c5, rfl, hc5, -⟩ := rx.at_
  obtain ⟨A1, c1, rfl, hc1, -⟩ := ix.at_
  obtain ⟨A3, c3, rfl, hc3, -⟩ := kx.at_
  have H := Lib.hid h
  clear h ix kx rx
  unfold partV at *
  obtain ⟨ep, ld, is, ks, rs, fw, ba⟩ := c
  simp only at *
  have HN := Lib.hid hn
  have HS := Lib.hid hs
  clear hn hs
  have r1 : decide ((i : Int) < 0) = false := decide_eq_false (by omega)
  have r2 : decide ((rs.length : Int) ≤ (i : Int)) = false := decide_eq_false (Int.not_le.2 (Int.ofNat_lt.2 hi))
  go_enter Try.func86, Try.ntmps86
  go_wp2_with fail
  have hb1 : Below w.heap.size w ((w.alloc (.cells #[.int .i64 ep, .int .i64 ld, .slice A1 is.length c1, .slice A3 ks.length c3, .slice A5 rs.length c5, .int .i64 fw, .int .i64 ba] 26)).alloc (.cells #[.int .i64 0, .int .i64 0, .slice none 0 0, .slice none 0 0, .slice none 0 0, .int .i64 0, .int .i64 0] 26)) := ((Below.refl _ _).alloc (by first | omega | (simp; done) | (simp; omega)) _).alloc (by first | omega | (simp; done) | (simp; omega)) _
  have hal1 : Below w.heap.size w ((w.alloc (.cells #[.int .i64 ep, .int .i64 ld, .slice A1 is.length c1, .slice A3 ks.length c3, .slice A5 rs.length c5, .int .i64 fw, .int .i64 ba] 26)).alloc (.cells #[.int .i64 0, .int .i64 0, .slice none 0 0, .slice none 0 0, .slice none 0 0, .int .i64 0, .int .i64 0] 26)) := ((Below.refl _ _).alloc (by first | omega | (simp; done) | (simp; omega)) _).alloc (by first | omega | (simp; done) | (simp; omega)) _
  have b_bx1 : Blk ((w.alloc (.cells #[.int .i64 ep, .int .i64 ld, .slice A1 is.length c1, .slice A3 ks.length c3, .slice A5 rs.length c5, .int .i64 fw, .int .i64 ba] 26)).alloc (.cells #[.int .i64 0, .int .i64 0, .slice none 0 0, .slice none 0 0, .slice none 0 0, .int .i64 0, .int .i64 0] 26)) (w.heap.size) 26 #[.int .i64 ep, .int .i64 ld, .slice A1 is.length c1, .slice A3 ks.length c3, .slice A5 rs.length c5, .int .i64 fw, .int .i64 ba] := (Blk.new_ _ 26 #[.int .i64 ep, .int .i64 ld, .slice A1 is.length c1, .slice A3 ks.length c3, .slice A5 rs.length c5, .int .i64 fw, .int .i64 ba] (by first | rfl | (simp; done) | (simp; omega))).alloc _
  have b_bz1 : Blk ((w.alloc (.cells #[.int .i64 ep, .int .i64 ld, .slice A1 is.length c1, .slice A3 ks.length c3, .slice A5 rs.length c5, .int .i64 fw, .int .i64 ba] 26)).alloc (.cells #[.int .i64 0, .int .i64 0, .slice none 0 0, .slice none 0 0, .slice none 0 0, .int .i64 0, .int .i64 0] 26)) (w.heap.size + 1) 26 #[.int .i64 0, .int .i64 0, .slice none 0 0, .slice none 0 0, .slice none 0 0, .int .i64 0, .int .i64 0] := Blk.new_ _ 26 #[.int .i64 0, .int .i64 0, .slice none 0 0, .slice none 0 0, .slice none 0 0, .int .i64 0, .int .i64 0] (by first | rfl | (simp; done) | (simp; omega))
  have k_v1 := H.out.below hal1
  have hz1 : w.heap.size + 2 ≤ ((w.alloc (.cells #[.int .i64 ep, .int .i64 ld, .slice A1 is.length c1, .slice A3 ks.length c3, .slice A5 rs.length c5, .int .i64 fw, .int .i64 ba] 26)).alloc (.cells #[.int .i64 0, .int .i64 0, .slice none 0 0, .slice none 0 0, .slice none 0 0, .int .i64 0, .int .i64 0] 26)).heap.size := by first | omega | (simp; done) | (simp; omega)
  generalize (w.alloc (.cells #[.int .i64 ep, .int .i64 ld, .slice A1 is.length c1, .slice A3 ks.length c3, .slice A5 rs.length c5, .int .i64 fw, .int .i64 ba] 26)).alloc (.cells #[.int .i64 0, .int .i64 0, .slice none 0 0, .slice none 0 0, .slice none 0 0, .int .i64 0, .int .i64 0] 26) = W1 at *
  have HB1 := Lib.hid hb1
  have B1_bx := Lib.hid b_bx1
  have B1_bz := Lib.hid b_bz1
  have K1_v := Lib.hid k_v1
  clear hb1 b_bx1 b_bz1 k_v1
  clear H
  refine (partCheck_any _ ⟨ep, ld, is, ks, rs, fw, ba⟩ _ K1_v.out).mono ?_
  rintro e W2 hA
  obtain ⟨rfl, hb⟩ := hA.yes HN.out
  have hb2 : Below w.heap.size w W2 := below_then HB1.out hb
  have b_bx2 := B1_bx.out.below hb B1_bx.out.lt
  have b_bz2 := B1_bz.out.below hb B1_bz.out.lt
  have k_v2 := K1_v.out.below hb
  have hz2 := hb.size
  have HB2 := Lib.hid hb2
  have B2_bx := Lib.hid b_bx2
  have B2_bz := Lib.hid b_bz2
  have K2_v := Lib.hid k_v2
  clear hb2 b_bx2 b_bz2 k_v2
  clear B1_bx B1_bz HB1 K1_v
  have c_bx0 := B2_bx.out.cell 0
  have c_bx1 := B2_bx.out.cell 1
  have c_bx2 := B2_bx.out.cell 2
  have c_bx3 := B2_bx.out.cell 3
  have c_bx4 := B2_bx.out.cell 4
  have c_bx5 := B2_bx.out.cell 5
  have c_bx6 := B2_bx.out.cell 6
  have l_bx := B2_bx.out.lt
  go_wp2_with fail
  clear c_bx0 c_bx1 c_bx2 c_bx3 c_bx4 c_bx5 c_bx6 l_bx
  refine (partCopy_ok (c := ⟨ep, ld, is, ks, rs, fw, ba⟩) (K2_v.out) HS.out).mono ?_
  rintro e W3 ⟨iv, kv, rv, rfl, ho, hb⟩
  obtain ⟨B1, d1, B3, d3, B5, d5, rfl, rfl, rfl⟩ := ho.form
  unfold partV
  simp only at *
  have HO := Lib.hid ho
  clear ho
  have hb3 : Below w.heap.size w W3 := below_then HB2.out hb
  have b_bx3 := B2_bx.out.below hb B2_bx.out.lt
  have b_bz3 := B2_bz.out.below hb B2_bz.out.lt
  have k_v3 := K2_v.out.below hb
  have hz3 := hb.size
  have HB3 := Lib.hid hb3
  have B3_bx := Lib.hid b_bx3
  have B3_bz := Lib.hid b_bz3
  have K3_v := Lib.hid k_v3
  clear hb3 b_bx3 b_bz3 k_v3
  clear B2_bx B2_bz HB2 K2_v
  have c_bz0 := B3_bz.out.cell 0
  have f_bz0 := B3_bz.out.frozen 0
  have c_bz1 := B3_bz.out.cell 1
  have f_bz1 := B3_bz.out.frozen 1
  have c_bz2 := B3_bz.out.cell 2
  have f_bz2 := B3_bz.out.frozen 2
  have c_bz3 := B3_bz.out.cell 3
  have f_bz3 := B3_bz.out.frozen 3
  have c_bz4 := B3_bz.out.cell 4
  have f_bz4 := B3_bz.out.frozen 4
  have c_bz5 := B3_bz.out.cell 5
  have f_bz5 := B3_bz.out.frozen 5
  have c_bz6 := B3_bz.out.cell 6
  have f_bz6 := B3_bz.out.frozen 6
  have l_bz := B3_bz.out.lt
  go_wp2_with fail
  clear c_bz0 f_bz0 c_bz1 f_bz1 c_bz2 f_bz2 c_bz3 f_bz3 c_bz4 f_bz4 c_bz5 f_bz5 c_bz6 f_bz6 l_bz
  have hszF := HB3.out.size
  have hbF : Below w.heap.size w (((((((W3.setCell ⟨w.heap.size + 1, 0, none⟩ (.int .i64 ep)).setCell ⟨w.heap.size + 1, 1, none⟩ (.int .i64 ld)).setCell ⟨w.heap.size + 1, 2, none⟩ (.slice B1 is.length d1)).setCell ⟨w.heap.size + 1, 3, none⟩ (.slice B3 ks.length d3)).setCell ⟨w.heap.size + 1, 4, none⟩ (.slice B5 rs.length d5)).setCell ⟨w.heap.size + 1, 5, none⟩ (.int .i64 fw)).setCell ⟨w.heap.size + 1, 6, none⟩ (.int .i64 ba)) := (((((((HB3.out).setCell (by show w.heap.size ≤ w.heap.size + 1; omega) _).setCell (by show w.heap.size ≤ w.heap.size + 1; omega) _).setCell (by show w.heap.size ≤ w.heap.size + 1; omega) _).setCell (by show w.heap.size ≤ w.heap.size + 1; omega) _).setCell (by show w.heap.size ≤ w.heap.size + 1; omega) _).setCell (by show w.heap.size ≤ w.heap.size + 1; omega) _).setCell (by show w.heap.size ≤ w.heap.size + 1; omega) _
  have b_bxF : Blk (((((((W3.setCell ⟨w.heap.size + 1, 0, none⟩ (.int .i64 ep)).setCell ⟨w.heap.size + 1, 1, none⟩ (.int .i64 ld)).setCell ⟨w.heap.size + 1, 2, none⟩ (.slice B1 is.length d1)).setCell ⟨w.heap.size + 1, 3, none⟩ (.slice B3 ks.length d3)).setCell ⟨w.heap.size + 1, 4, none⟩ (.slice B5 rs.length d5)).setCell ⟨w.heap.size + 1, 5, none⟩ (.int .i64 fw)).setCell ⟨w.heap.size + 1, 6, none⟩ (.int .i64 ba)) (w.heap.size) 26 #[.int .i64 ep, .int .i64 ld, .slice A1 is.length c1, .slice A3 ks.length c3, .slice A5 rs.length c5, .int .i64 fw, .int .i64 ba] := (((((((B3_bx.out).far (p := ⟨w.heap.size + 1, 0, none⟩) (by show w.heap.size ≠ w.heap.size + 1; omega) _).far (p := ⟨w.heap.size + 1, 1, none⟩) (by show w.heap.size ≠ w.heap.size + 1; omega) _).far (p := ⟨w.heap.size + 1, 2, none⟩) (by show w.heap.size ≠ w.heap.size + 1; omega) _).far (p := ⟨w.heap.size + 1, 3, none⟩) (by show w.heap.size ≠ w.heap.size + 1; omega) _).far (p := ⟨w.heap.size + 1, 4, none⟩) (by show w.heap.size ≠ w.heap.size + 1; omega) _).far (p := ⟨w.heap.size + 1, 5, none⟩) (by show w.heap.size ≠ w.heap.size + 1; omega) _).far (p := ⟨w.heap.size + 1, 6, none⟩) (by show w.heap.size ≠ w.heap.size + 1; omega) _
  have b_bzF : Blk (((((((W3.setCell ⟨w.heap.size + 1, 0, none⟩ (.int .i64 ep)).setCell ⟨w.heap.size + 1, 1, none⟩ (.int .i64 ld)).setCell ⟨w.heap.size + 1, 2, none⟩ (.slice B1 is.length d1)).setCell ⟨w.heap.size + 1, 3, none⟩ (.slice B3 ks.length d3)).setCell ⟨w.heap.size + 1, 4, none⟩ (.slice B5 rs.length d5)).setCell ⟨w.heap.size + 1, 5, none⟩ (.int .i64 fw)).setCell ⟨w.heap.size + 1, 6, none⟩ (.int .i64 ba)) (w.heap.size + 1) 26 #[.int .i64 ep, .int .i64 ld, .slice B1 is.length d1, .slice B3 ks.length d3, .slice B5 rs.length d5, .int .i64 fw, .int .i64 ba] := (((((((B3_bz.out).set_ 0 _).set_ 1 _).set_ 2 _).set_ 3 _).set_ 4 _).set_ 5 _).set_ 6 _
  have k_ownF := (((((((HO.out).under (a := ⟨w.heap.size + 1, 0, none⟩) (by (try dsimp only); omega) (.int .i64 ep)).under (a := ⟨w.heap.size + 1, 1, none⟩) (by (try dsimp only); omega) (.int .i64 ld)).under (a := ⟨w.heap.size + 1, 2, none⟩) (by (try dsimp only); omega) (.slice B1 is.length d1)).under (a := ⟨w.heap.size + 1, 3, none⟩) (by (try dsimp only); omega) (.slice B3 ks.length d3)).under (a := ⟨w.heap.size + 1, 4, none⟩) (by (try dsimp only); omega) (.slice B5 rs.length d5)).under (a := ⟨w.heap.size + 1, 5, none⟩) (by (try dsimp only); omega) (.int .i64 fw)).under (a := ⟨w.heap.size + 1, 6, none⟩) (by (try dsimp only); omega) (.int .i64 ba)
  have y0 := b_bzF.cell 0
  have y1 := b_bzF.cell 1
  have y2 := b_bzF.cell 2
  have y3 := b_bzF.cell 3
  have y4 := b_bzF.cell 4
  have y5 := b_bzF.cell 5
  have y6 := b_bzF.cell 6
  exact bodyPost_ret (v := .tuple #[.agg #[.int .i64 ep, .int .i64 ld, .slice B1 is.length d1, .slice B3 ks.length d3, .slice B5 rs.length d5, .int .i64 fw, .int .i64 ba], .int .i64 0]) (by simp [results, Try.results86, go_sem, y0, y1, y2, y3, y4, y5, y6]) rfl (⟨_, _, _, rfl, k_ownF.more (by omega), hbF⟩)
set_option maxRecDepth 100000 in
set_option maxHeartbeats 4000000 in
theorem partFault_state (v : Value) (c : PartD) (r : Int) (hn : ¬ PartOk c) (w : World) (h : Pv w v c) : Calls Try.prog 87 #[v, .int .i64 r] w fun e w' => e = .returned (.int .i64 12) ∧ Below w.heap.size w w' := by
  obtain ⟨xi, xk, xr, rfl, ix, kx, rx, hli, hlk, hlr⟩ := id h
  obtain ⟨A5, c5, rfl, hc5, -⟩ := rx.at_
  obtain ⟨A1, c1, rfl, hc1, -⟩ := ix.at_
  obtain ⟨A3, c3, rfl, hc3, -⟩ := kx.at_
  have H := Lib.hid h
  clear h ix kx rx
  unfold partV at *
  obtain ⟨ep, ld, is, ks, rs, fw, ba⟩ := c
  simp only at *
  have HN := Lib.hid hn
  clear hn
  go_enter Try.func87, Try.ntmps87
  go_wp2_with fail
  have hb1 : Below w.heap.size w (w.alloc (.cells #[.int .i64 ep, .int .i64 ld, .slice A1 is.length c1, .slice A3 ks.length c3, .slice A5 rs.length c5, .int .i64 fw, .int .i64 ba] 26)) := (Below.refl _ _).alloc (by first | omega | (simp; done) | (simp; omega)) _
  have hal1 : Below w.heap.size w (w.alloc (.cells #[.int .i64 ep, .int .i64 ld, .slice A1 is.length c1, .slice A3 ks.length c3, .slice A5 rs.length c5, .int .i64 fw, .int .i64 ba] 26)) := (Below.refl _ _).alloc (by first | omega | (simp; done) | (simp; omega)) _
  have b_bx1 : Blk (w.alloc (.cells #[.int .i64 ep, .int .i64 ld, .slice A1 is.length c1, .slice A3 ks.length c3, .slice A5 rs.length c5, .int .i64 fw, .int .i64 ba] 26)) (w.heap.size) 26 #[.int .i64 ep, .int .i64 ld, .slice A1 is.length c1, .slice A3 ks.length c3, .slice A5 rs.length c5, .int .i64 fw, .int .i64 ba] := Blk.new_ _ 26 #[.int .i64 ep, .int .i64 ld, .slice A1 is.length c1, .slice A3 ks.length c3, .slice A5 rs.length c5, .int .i64 fw, .int .i64 ba] (by first | rfl | (simp; done) | (simp; omega))
  have k_v1 := H.out.below hal1
  have hz1 : w.heap.size + 1 ≤ (w.alloc (.cells #[.int .i64 ep, .int .i64 ld, .slice A1 is.length c1, .slice A3 ks.length c3, .slice A5 rs.length c5, .int .i64 fw, .int .i64 ba] 26)).heap.size := by first | omega | (simp; done) | (simp; omega)
  generalize w.alloc (.cells #[.int .i64 ep, .int .i64 ld, .slice A1 is.length c1, .slice A3 ks.length c3, .slice A5 rs.length c5, .int .i64 fw, .int .i64 ba] 26) = W1 at *
  have HB1 := Lib.hid hb1
  have B1_bx := Lib.hid b_bx1
  have K1_v := Lib.hid k_v1
  clear hb1 b_bx1 k_v1
  clear H
  refine (partMay_any _ ⟨ep, ld, is, ks, rs, fw, ba⟩ _ K1_v.out).mono ?_
  rintro e W2 hA
  obtain ⟨rfl, hb⟩ := hA.no HN.out
  have hb2 : Below w.heap.size w W2 := below_then HB1.out hb
  have b_bx2 := B1_bx.out.below hb B1_bx.out.lt
  have k_v2 := K1_v.out.below hb
  have hz2 := hb.size
  have HB2 := Lib.hid hb2
  have B2_bx := Lib.hid b_bx2
  have K2_v := Lib.hid k_v2
  clear hb2 b_bx2 k_v2
  clear B1_bx HB1 K1_v
  go_wp2
  go_ret
  exact ⟨rfl, HB2.out⟩
set_option maxRecDepth 100000 in
set_option maxHeartbeats 4000000 in
theorem partFault_none (v : Value) (c : PartD) (r : Int) (hn : PartOk c) (hr : r < 0 ∨ (c.reps.length : Int) ≤ r) (w : World) (h : Pv w v c) : Calls Try.prog 87 #[v, .int .i64 r] w fun e w' => e = .returned (.int .i64 5) ∧ Below w.heap.size w w' := by
  have hm := hn.many.1
  obtain ⟨xi, xk, xr, rfl, ix, kx, rx, hli, hlk, hlr⟩ := id h
  obtain ⟨A5, c5, rfl, hc5, -⟩ := rx.at_
  obtain ⟨A1, c1, rfl, hc1, -⟩ := ix.at_
  obtain ⟨A3, c3, rfl, hc3, -⟩ := kx.at_
  have H := Lib.hid h
  clear h ix kx rx
  unfold partV at *
  obtain ⟨ep, ld, is, ks, rs, fw, ba⟩ := c
  simp only at *
  have HN := Lib.hid hn
  have r1 : inB r 0 ((rs.length : Int) - 1) = false := by simp [inB]; omega
  clear hr
  clear hn
  go_enter Try.func87, Try.ntmps87
  go_wp2_with fail
  have hb1 : Below w.heap.size w (w.alloc (.cells #[.int .i64 ep, .int .i64 ld, .slice A1 is.length c1, .slice A3 ks.length c3, .slice A5 rs.length c5, .int .i64 fw, .int .i64 ba] 26)) := (Below.refl _ _).alloc (by first | omega | (simp; done) | (simp; omega)) _
  have hal1 : Below w.heap.size w (w.alloc (.cells #[.int .i64 ep, .int .i64 ld, .slice A1 is.length c1, .slice A3 ks.length c3, .slice A5 rs.length c5, .int .i64 fw, .int .i64 ba] 26)) := (Below.refl _ _).alloc (by first | omega | (simp; done) | (simp; omega)) _
  have b_bx1 : Blk (w.alloc (.cells #[.int .i64 ep, .int .i64 ld, .slice A1 is.length c1, .slice A3 ks.length c3, .slice A5 rs.length c5, .int .i64 fw, .int .i64 ba] 26)) (w.heap.size) 26 #[.int .i64 ep, .int .i64 ld, .slice A1 is.length c1, .slice A3 ks.length c3, .slice A5 rs.length c5, .int .i64 fw, .int .i64 ba] := Blk.new_ _ 26 #[.int .i64 ep, .int .i64 ld, .slice A1 is.length c1, .slice A3 ks.length c3, .slice A5 rs.length c5, .int .i64 fw, .int .i64 ba] (by first | rfl | (simp; done) | (simp; omega))
  have k_v1 := H.out.below hal1
  have hz1 : w.heap.size + 1 ≤ (w.alloc (.cells #[.int .i64 ep, .int .i64 ld, .slice A1 is.length c1, .slice A3 ks.length c3, .slice A5 rs.length c5, .int .i64 fw, .int .i64 ba] 26)).heap.size := by first | omega | (simp; done) | (simp; omega)
  generalize w.alloc (.cells #[.int .i64 ep, .int .i64 ld, .slice A1 is.length c1, .slice A3 ks.length c3, .slice A5 rs.length c5, .int .i64 fw, .int .i64 ba] 26) = W1 at *
  have HB1 := Lib.hid hb1
  have B1_bx := Lib.hid b_bx1
  have K1_v := Lib.hid k_v1
  clear hb1 b_bx1 k_v1
  clear H
  refine (partMay_any _ ⟨ep, ld, is, ks, rs, fw, ba⟩ _ K1_v.out).mono ?_
  rintro e W2 hA
  obtain ⟨rfl, hb⟩ := hA.yes HN.out
  have hb2 : Below w.heap.size w W2 := below_then HB1.out hb
  have b_bx2 := B1_bx.out.below hb B1_bx.out.lt
  have k_v2 := K1_v.out.below hb
  have hz2 := hb.size
  have HB2 := Lib.hid hb2
  have B2_bx := Lib.hid b_bx2
  have K2_v := Lib.hid k_v2
  clear hb2 b_bx2 k_v2
  clear B1_bx HB1 K1_v
  have c_bx0 := B2_bx.out.cell 0
  have c_bx1 := B2_bx.out.cell 1
  have c_bx2 := B2_bx.out.cell 2
  have c_bx3 := B2_bx.out.cell 3
  have c_bx4 := B2_bx.out.cell 4
  have c_bx5 := B2_bx.out.cell 5
  have c_bx6 := B2_bx.out.cell 6
  have l_bx := B2_bx.out.lt
  go_wp2_with (go_at_call 69; refine (In_any _ _ _ _).mono ?_; rintro e w' ⟨rfl, rfl⟩)
  go_ret
  exact ⟨rfl, HB2.out⟩
set_option maxRecDepth 100000 in
set_option maxHeartbeats 4000000 in
theorem partFault_ok (v : Value) (c : PartD) (i : Nat) (hn : PartOk c) (hi : i < c.reps.length) (w : World) (h : Pv w v c) : Calls Try.prog 87 #[v, .int .i64 i] w fun e w' => e = .returned (.int .i64 0) ∧ Below w.heap.size w w' := by
  have hm := hn.many.1
  obtain ⟨xi, xk, xr, rfl, ix, kx, rx, hli, hlk, hlr⟩ := id h
  obtain ⟨A5, c5, rfl, hc5, -⟩ := rx.at_
  obtain ⟨A1, c1, rfl, hc1, -⟩ := ix.at_
  obtain ⟨A3, c3, rfl, hc3, -⟩ := kx.at_
  have H := Lib.hid h
  clear h ix kx rx
  unfold partV at *
  obtain ⟨ep, ld, is, ks, rs, fw, ba⟩ := c
  simp only at *
  have HN := Lib.hid hn
  have r1 : inB i 0 ((rs.length : Int) - 1) = true := by simp only [inB, Bool.and_eq_true, decide_eq_true_eq]; have : (i : Int) < (rs.length : Int) := Int.ofNat_lt.2 hi; omega
  clear hn
  go_enter Try.func87, Try.ntmps87
  go_wp2_with fail
  have hb1 : Below w.heap.size w (w.alloc (.cells #[.int .i64 ep, .int .i64 ld, .slice A1 is.length c1, .slice A3 ks.length c3, .slice A5 rs.length c5, .int .i64 fw, .int .i64 ba] 26)) := (Below.refl _ _).alloc (by first | omega | (simp; done) | (simp; omega)) _
  have hal1 : Below w.heap.size w (w.alloc (.cells #[.int .i64 ep, .int .i64 ld, .slice A1 is.length c1, .slice A3 ks.length c3, .slice A5 rs.length c5, .int .i64 fw, .int .i64 ba] 26)) := (Below.refl _ _).alloc (by first | omega | (simp; done) | (simp; omega)) _
  have b_bx1 : Blk (w.alloc (.cells #[.int .i64 ep, .int .i64 ld, .slice A1 is.length c1, .slice A3 ks.length c3, .slice A5 rs.length c5, .int .i64 fw, .int .i64 ba] 26)) (w.heap.size) 26 #[.int .i64 ep, .int .i64 ld, .slice A1 is.length c1, .slice A3 ks.length c3, .slice A5 rs.length c5, .int .i64 fw, .int .i64 ba] := Blk.new_ _ 26 #[.int .i64 ep, .int .i64 ld, .slice A1 is.length c1, .slice A3 ks.length c3, .slice A5 rs.length c5, .int .i64 fw, .int .i64 ba] (by first | rfl | (simp; done) | (simp; omega))
  have k_v1 := H.out.below hal1
  have hz1 : w.heap.size + 1 ≤ (w.alloc (.cells #[.int .i64 ep, .int .i64 ld, .slice A1 is.length c1, .slice A3 ks.length c3, .slice A5 rs.length c5, .int .i64 fw, .int .i64 ba] 26)).heap.size := by first | omega | (simp; done) | (simp; omega)
  generalize w.alloc (.cells #[.int .i64 ep, .int .i64 ld, .slice A1 is.length c1, .slice A3 ks.length c3, .slice A5 rs.length c5, .int .i64 fw, .int .i64 ba] 26) = W1 at *
  have HB1 := Lib.hid hb1
  have B1_bx := Lib.hid b_bx1
  have K1_v := Lib.hid k_v1
  clear hb1 b_bx1 k_v1
  clear H
  refine (partMay_any _ ⟨ep, ld, is, ks, rs, fw, ba⟩ _ K1_v.out).mono ?_
  rintro e W2 hA
  obtain ⟨rfl, hb⟩ := hA.yes HN.out
  have hb2 : Below w.heap.size w W2 := below_then HB1.out hb
  have b_bx2 := B1_bx.out.below hb B1_bx.out.lt
  have k_v2 := K1_v.out.below hb
  have hz2 := hb.size
  have HB2 := Lib.hid hb2
  have B2_bx := Lib.hid b_bx2
  have K2_v := Lib.hid k_v2
  clear hb2 b_bx2 k_v2
  clear B1_bx HB1 K1_v
  have c_bx0 := B2_bx.out.cell 0
  have c_bx1 := B2_bx.out.cell 1
  have c_bx2 := B2_bx.out.cell 2
  have c_bx3 := B2_bx.out.cell 3
  have c_bx4 := B2_bx.out.cell 4
  have c_bx5 := B2_bx.out.cell 5
  have c_bx6 := B2_bx.out.cell 6
  have l_bx := B2_bx.out.lt
  go_wp2_with (go_at_call 69; refine (In_any _ _ _ _).mono ?_; rintro e w' ⟨rfl, rfl⟩)
  go_ret
  exact ⟨rfl, HB2.out⟩
theorem partFault_bad {v : Value} {c : PartD} {r n : Int} {w : World} (h : Pv w v c) (hf : AtFault c r n) : Calls Try.prog 87 #[v, .int .i64 r] w fun e w' => e = .returned (.int .i64 n) ∧ Below w.heap.size w w' := by
  rcases hf with ⟨h1, rfl⟩ | ⟨h1, h2, rfl⟩
  · exact partFault_state v c r h1 w h
  · exact partFault_none v c r h1 h2 w h
end Go.Proofs.Ytpjjfnpdopdnkaa
namespace Go.Proofs.Ytpjjfnpdopdnkaa
open Go.RowKit

theorem Ent.nats {e : Ent} (h : e.ok) : ((e.ep.toNat : Nat) : Int) = e.ep ∧ ((e.pid.toNat : Nat) : Int) = e.pid ∧ ((e.ver.toNat : Nat) : Int) = e.ver ∧ ((e.seq.toNat : Nat) : Int) = e.seq ∧ ((e.kind.toNat : Nat) : Int) = e.kind := by
  obtain ⟨f1, f2, f3, f4, f5, f6, f7, f8, f9, f10, f11⟩ := fault_kind h
  omega
def Ent.val (e : Ent) : Value := .agg #[.int .i64 e.ep, .int .i64 e.pid, .int .i64 e.ver, .int .i64 e.seq, .int .i64 e.kind, .bool e.txn, .string e.text]
theorem encode_ent (e : Ent) (w : World) (h : e.ok) : Calls Try.prog 83 #[.agg #[.int .i64 e.ep, .int .i64 e.pid, .int .i64 e.ver, .int .i64 e.seq, .int .i64 e.kind, .bool e.txn, .string e.text]] w fun r w' => ∃ v', r = .returned (.tuple #[v', .int .i64 0]) ∧ w'.ownsRow w.heap.size 5 1 v' e.enc.length (bvs e.enc) ∧ Below w.heap.size w w' := by
  obtain ⟨h1, h2, h3, h4, h5⟩ := Ent.nats h
  have hok : entryFault e.ep.toNat e.pid.toNat e.ver.toNat e.seq.toNat e.kind.toNat e.txn e.text.size = 0 := by rw [h1, h2, h3, h4, h5]; exact h
  have k := Encode_ok e.ep.toNat e.pid.toNat e.ver.toNat e.seq.toNat e.kind.toNat e.txn e.text w hok
  rw [h1, h2, h3, h4, h5] at k
  exact k
theorem entryBytes_ent (e : Ent) (w : World) (h : e.ok) : Calls Try.prog 85 #[.agg #[.int .i64 e.ep, .int .i64 e.pid, .int .i64 e.ver, .int .i64 e.seq, .int .i64 e.kind, .bool e.txn, .string e.text]] w fun r w' => ∃ v', r = .returned (.tuple #[v', .int .i64 0]) ∧ w'.ownsRow w.heap.size 5 1 v' e.enc.length (bvs e.enc) ∧ Below w.heap.size w w' := by
  obtain ⟨h1, h2, h3, h4, h5⟩ := Ent.nats h
  have hok : entryFault e.ep.toNat e.pid.toNat e.ver.toNat e.seq.toNat e.kind.toNat e.txn e.text.size = 0 := by rw [h1, h2, h3, h4, h5]; exact h
  have k := EntryBytes_ok e.ep.toNat e.pid.toNat e.ver.toNat e.seq.toNat e.kind.toNat e.txn e.text w hok
  rw [h1, h2, h3, h4, h5] at k
  exact k
end Go.Proofs.Ytpjjfnpdopdnkaa
namespace Go.Proofs.Ytpjjfnpdopdnkaa
open Go.RowKit

theorem blk_drew {w : World} {g : Nat} {t : TypeId} {cs : Array Value} (h : Blk w g t cs) : Blk w.drew g t cs := h
theorem get_flat {l m : List UInt8} (h : l = m) {i q : Nat} (h1 : i < m.length) (hq : (m[i]).toNat = q) : ∃ h2 : i < l.length, (l[i]).toNat = q := by
  subst h
  exact ⟨h1, hq⟩
theorem bytesCopy_blk {A : Option Addr} {l : List UInt8} {c n g : Nat} {w : World} (hn : n = l.length) (hk : Blk w g 34 #[.slice A n c]) (h : By w (.slice A n c) l) (hm : l.length ≤ 140737488355328) :
    Calls Try.prog 79 #[.slice (some ⟨g, 0, none⟩) 1 1] w fun e w' => ∃ v', e = .returned v' ∧ w'.ownsRow w.heap.size 5 1 v' l.length (bvs l) ∧ Below w.heap.size w w' := by
  subst hn
  refine (bytesCopy_any _ [l] [.slice A l.length c] w rfl ⟨rfl, some ⟨g, 0, none⟩, 1, rfl, Nat.le_refl _, fun _ => ⟨g, 0, rfl, hk.lt, fun i u hu => ?_⟩⟩ (fun k h1 h2 => ?_) (by simpa using hm) (by simp)).mono ?_
  · rw [Nat.zero_add, hk.cell i]
    simpa using hu
  · obtain rfl : k = 0 := by simpa using h1
    exact h
  · rintro e w' ⟨v', rfl, ho, hb⟩
    exact ⟨v', rfl, own_eq ho (by simp) (by simp), hb⟩

set_option maxRecDepth 100000 in
set_option maxHeartbeats 2000000 in
theorem cutOf_ok (v : Value) (l : List UInt8) (s : Int) (n : Nat) (w : World) (hv : By w v l) {es : List Ent} {j : Nat} (h : LogIs ⟨l, s⟩ es j) (hn : n ≤ es.length) {z : Nat} (hze : z = (flat (es.take n)).length) :
    Calls Try.prog 44 #[.agg #[v, .int .i64 s], .int .i64 (n : Int)] w (LogPost ⟨l.take z, (min s.toNat z : Nat)⟩ 0 w) := by
  obtain ⟨A, c, rfl, hc, -⟩ := hv.at_
  have HV := Lib.hid hv
  have hbx := (Blk.new w 42 #[.slice A l.length c, .int .i64 s]).alloc (.cells #[.slice none 0 0, .int .i64 0] 42)
  have hbz := Blk.new (w.alloc (.cells #[.slice A l.length c, .int .i64 s] 42)) 42 #[.slice none 0 0, .int .i64 0]
  have hbl : Below w.heap.size w ((w.alloc (.cells #[.slice A l.length c, .int .i64 s] 42)).alloc (.cells #[.slice none 0 0, .int .i64 0] 42)) := ((Below.refl _ _).alloc (Nat.le_refl _) _).alloc (by simp) _
  simp only [World.size_alloc] at hbz
  have hv0 := hv.below hbl
  clear hv
  obtain ⟨hlen, k, rfl, hk, -, -, -⟩ := log_long h
  have HE := Lib.hid (entriesOf_ok _ l k _ hv0 h)
  have HB0 : Hid (l = flat es) := Lib.hid h.bytes
  have hmany := h.many
  have HOK := Lib.hid h.ok
  clear h
  simp only [Int.toNat_natCast]
  have hz : z ≤ l.length := by rw [hze, HB0.out]; exact flat_take_le _ _
  have hzl : (l.take z).length = z := by rw [List.length_take]; omega
  have HZE := Lib.hid hze
  have hin : inB (n : Int) 0 (es.length : Int) = true := by simp [inB]; omega
  have HIN := Lib.hid hin
  clear hze hin
  obtain ⟨r, hr⟩ : ∃ r : Nat, r = min k z := ⟨_, rfl⟩
  have HR := Lib.hid hr
  rw [← hr]
  clear hr
  have HCELL := Lib.hid HV.out.at_
  go_enter Try.func44, Try.ntmps44
  go_wp2_with fail
  refine HE.out.mono ?_
  rintro e w1 ⟨v1, rfl, ho1, hb1⟩
  have he1 : Es w1 v1 es := Sl.of_own ho1
  obtain ⟨A1, c1, rfl, hc1, he1'⟩ := he1.at_
  have HES := Lib.hid he1'
  clear ho1 he1 he1'
  have bx := hbx.below hb1 hbx.lt
  have bz := hbz.below hb1 hbz.lt
  have hb := hbl.trans (hb1.mono hbl.size)
  clear hbx hbz hbl hb1 hv0
  have q0 := bx.cell 0
  have q1 := bx.cell 1
  have z0 := bz.cell 0
  have z1 := bz.cell 1
  have zf0 := bz.frozen 0
  have zf1 := bz.frozen 1
  have zl := bz.lt
  have ql := bx.lt
  have BX := Lib.hid bx
  have BZ := Lib.hid bz
  have HB := Lib.hid hb
  clear bx bz hb
  go_wp2_with fail
  refine (In_any _ _ _ _).mono ?_
  rintro e w2 ⟨rfl, rfl⟩
  rw [HIN.out]
  go_wp2
  go_loopw [9, 10] (fun sz ix wr => ∃ i : Nat, i ≤ n ∧ sz = .int .i64 (((flat (es.take i)).length : Nat) : Int) ∧ ix = .int .i64 i ∧ wr = w1) (fun _ ix _ => n - (intOf ix).toNat)
  case atStart => exact ⟨0, Nat.zero_le _, rfl, rfl, rfl⟩
  case round =>
    obtain ⟨i, hi, rfl, rfl, rfl⟩ := hrel
    by_cases hlt : i < n
    · obtain ⟨q, ⟨hlq, hq⟩, hq2, hstep⟩ := frame_at HOK.out (k := i) (by omega)
      have HF := Lib.hid hstep
      obtain ⟨A', c', hv', -, hat⟩ := HCELL.out
      injection hv' with hA' _ _
      subst hA'
      have hfle := flat_take_le es i
      have hll : l.length = (flat es).length := congrArg List.length HB0.out
      have hfl : (flat (es.take i)).length ≤ 40000 := by omega
      obtain ⟨b, off, rfl, hbl1, hcs⟩ := hat (by omega)
      have X0 := (HB.out.cell (p := ⟨b, off + (flat (es.take i)).length, none⟩) hbl1).trans (hcs (flat (es.take i)).length (by omega))
      obtain ⟨_, e1⟩ := get_flat HB0.out hlq hq
      rw [e1] at X0
      have i2 : (0 : Int) ≤ (((flat (es.take i)).length : Nat) : Int) := by omega
      have i3 : (((flat (es.take i)).length : Nat) : Int) < (l.length : Int) := by omega
      clear hstep hcs hat hq e1 hll hlq
      go_wp2
      go_light
      refine ⟨⟨i + 1, by omega, ?_, by go_num, by trivial⟩, by simp [intOf]; omega⟩
      rw [HF.out]; go_num
    · obtain rfl : i = n := by omega
      rw [← HZE.out]
      have hb2 := HB.out
      have bx2 := BX.out
      have bz2 := BZ.out
      have hbd := (Below.refl wr.heap.size wr).drew
      have i4 : (0 : Int) ≤ (z : Int) := by omega
      have i5 : (z : Int) ≤ (c : Int) := by omega
      have bA : Below wr.heap.size wr (((wr.alloc (.cells #[.slice A z c] 34)).alloc (.cells #[.slice none 0 0, .int .i64 0] 42)).drew) := ((((Below.refl wr.heap.size wr).alloc (Nat.le_refl _) (.cells #[.slice A z c] 34)).alloc (by simp) (.cells #[.slice none 0 0, .int .i64 0] 42)).drew)
      have kA := bytesCopy_blk hzl.symm (blk_drew ((Blk.new wr 34 #[.slice A z c]).alloc (.cells #[.slice none 0 0, .int .i64 0] 42))) (By.take_b (HV.out.below (below_then hb2 bA)) hz) (by omega)
      skip
      have KA := Lib.hid kA
      have LA := Lib.hid bA
      have tA := blk_drew (Blk.new (wr.alloc (.cells #[.slice A z c] 34)) 42 #[.slice none 0 0, .int .i64 0])
      simp only [World.size_alloc] at tA
      have TA := Lib.hid tA
      clear tA
      clear bA kA
      have bB : Below wr.heap.size wr (((wr.alloc (.cells #[.slice none 0 0, .int .i64 0] 42)).alloc (.cells #[.slice A z c] 34)).drew) := ((((Below.refl wr.heap.size wr).alloc (Nat.le_refl _) (.cells #[.slice none 0 0, .int .i64 0] 42)).alloc (by simp) (.cells #[.slice A z c] 34)).drew)
      have kB := bytesCopy_blk hzl.symm (blk_drew (Blk.new (wr.alloc (.cells #[.slice none 0 0, .int .i64 0] 42)) 34 #[.slice A z c])) (By.take_b (HV.out.below (below_then hb2 bB)) hz) (by omega)
      conv at kB => arg 3; rw [World.size_alloc]
      have KB := Lib.hid kB
      have LB := Lib.hid bB
      have tB := blk_drew ((Blk.new wr 42 #[.slice none 0 0, .int .i64 0]).alloc (.cells #[.slice A z c] 34))
      skip
      have TB := Lib.hid tB
      clear tB
      clear bB kB
      have bC : Below wr.heap.size wr ((wr.alloc (.cells #[.slice A z c] 34)).drew) := (((Below.refl wr.heap.size wr).alloc (Nat.le_refl _) (.cells #[.slice A z c] 34)).drew)
      have kC := bytesCopy_blk hzl.symm (blk_drew (Blk.new wr 34 #[.slice A z c])) (By.take_b (HV.out.below (below_then hb2 bC)) hz) (by omega)
      skip
      have KC := Lib.hid kC
      have LC := Lib.hid bC
      clear bC kC
      go_wp2_with fail
      go_region_with (first | (go_at_call 79; with_reducible (refine (Hid.out KA).mono ?_); rintro e w5 ⟨v5, rfl, ho5, hb5⟩; rw [hzl] at ho5; have hbel := below_then LA.out hb5; have ho5 := own_base ho5 LA.out.size; obtain ⟨A5, c5, rfl, hc5⟩ := (Sl.of_own ho5).form; have bx5 := bx2.below hbel bx2.lt; have bz5 := bz2.below hbel bz2.lt; have y0 := bx5.cell 0; have y1 := bx5.cell 1; have u0 := bz5.cell 0; have u1 := bz5.cell 1; have uf0 := bz5.frozen 0; have uf1 := bz5.frozen 1; have ul := bz5.lt; have yl := bx5.lt; have bt5 := TA.out.below hb5 TA.out.lt; have t0 := bt5.cell 0; have t1 := bt5.cell 1; have tf0 := bt5.frozen 0; have tf1 := bt5.frozen 1; have tl := bt5.lt) | (go_at_call 79; with_reducible (refine (Hid.out KB).mono ?_); rintro e w5 ⟨v5, rfl, ho5, hb5⟩; rw [hzl] at ho5; have hbel := below_then LB.out hb5; have ho5 := own_base ho5 LB.out.size; obtain ⟨A5, c5, rfl, hc5⟩ := (Sl.of_own ho5).form; have bx5 := bx2.below hbel bx2.lt; have bz5 := bz2.below hbel bz2.lt; have y0 := bx5.cell 0; have y1 := bx5.cell 1; have u0 := bz5.cell 0; have u1 := bz5.cell 1; have uf0 := bz5.frozen 0; have uf1 := bz5.frozen 1; have ul := bz5.lt; have yl := bx5.lt; have bt5 := TB.out.below hb5 TB.out.lt; have t0 := bt5.cell 0; have t1 := bt5.cell 1; have tf0 := bt5.frozen 0; have tf1 := bt5.frozen 1; have tl := bt5.lt) | (go_at_call 79; with_reducible (refine (Hid.out KC).mono ?_); rintro e w5 ⟨v5, rfl, ho5, hb5⟩; rw [hzl] at ho5; have hbel := below_then LC.out hb5; have ho5 := own_base ho5 LC.out.size; obtain ⟨A5, c5, rfl, hc5⟩ := (Sl.of_own ho5).form; have bx5 := bx2.below hbel bx2.lt; have bz5 := bz2.below hbel bz2.lt; have y0 := bx5.cell 0; have y1 := bx5.cell 1; have u0 := bz5.cell 0; have u1 := bz5.cell 1; have uf0 := bz5.frozen 0; have uf1 := bz5.frozen 1; have ul := bz5.lt; have yl := bx5.lt; have bt6 := Blk.new w5 42 #[.slice none 0 0, .int .i64 0]; have t0 := bt6.cell 0; have t1 := bt6.cell 1; have tf0 := bt6.frozen 0; have tf1 := bt6.frozen 1; have tl := bt6.lt; have bx6 := bx5.alloc (.cells #[.slice none 0 0, .int .i64 0] 42); have y60 := bx6.cell 0; have y61 := bx6.cell 1))
      all_goals first
        | (
          have BT5 : Blk w5 (wr.heap.size + 1) 42 #[.slice none 0 0, .int .i64 0] := bt5
          have hne : w.heap.size + 1 ≠ wr.heap.size + 1 := by omega
          have hge : w.heap.size ≤ wr.heap.size + 1 := by omega
          have BT6 := (BT5.set_ 0 (.slice A5 z c5)).set_ 1 (.int .i64 k)
          simp only [List.setIfInBounds_toArray, List.set_cons_succ, List.set_cons_zero] at BT6
          have BZ6 := (bz5.far (p := ⟨wr.heap.size + 1, 0, none⟩) hne (.slice A5 z c5)).far (p := ⟨wr.heap.size + 1, 1, none⟩) hne (.int .i64 k)
          have HO6 := own_far (own_far ho5 BT5 (by decide) 0 (.slice A5 z c5)) (BT5.set_ 0 (.slice A5 z c5)) (by decide) 1 (.int .i64 k)
          have HB6 := ((hb2.trans (hbel.mono hb2.size)).setCell (p := ⟨wr.heap.size + 1, 0, none⟩) hge (.slice A5 z c5)).setCell (p := ⟨wr.heap.size + 1, 1, none⟩) hge (.int .i64 k)
          clear bt5 BT5 t0 t1 tf0 tf1 tl
          generalize (w5.setCell ⟨wr.heap.size + 1, 0, none⟩ (.slice A5 z c5)).setCell ⟨wr.heap.size + 1, 1, none⟩ (.int .i64 k) = W6 at *
          clear bx5 bz5 y0 y1 u0 u1 uf0 uf1 ul yl hbel ho5
          have s0 := BT6.cell 0
          have s1 := BT6.cell 1
          have sf0 := BT6.frozen 0
          have sf1 := BT6.frozen 1
          have sl := BT6.lt
          have u0 := BZ6.cell 0
          have u1 := BZ6.cell 1
          have uf0 := BZ6.frozen 0
          have uf1 := BZ6.frozen 1
          have ul := BZ6.lt
          clear q0 q1 z0 z1 zf0 zf1 zl ql
          by_cases hkz : z < k
          · have BT7 := BT6.set_ 1 (.int .i64 z)
            simp only [List.setIfInBounds_toArray, List.set_cons_succ, List.set_cons_zero] at BT7
            have BZ7 := BZ6.far (p := ⟨wr.heap.size + 1, 1, none⟩) hne (.int .i64 z)
            have HO7 := own_far HO6 BT6 (by decide) 1 (.int .i64 z)
            have HB7 := HB6.setCell (p := ⟨wr.heap.size + 1, 1, none⟩) hge (.int .i64 z)
            have p0 := BT7.cell 0
            have p1 := BT7.cell 1
            have pz0 := BZ7.cell 0
            have pz1 := BZ7.cell 1
            have pf0 := BZ7.frozen 0
            have pf1 := BZ7.frozen 1
            have pl := BZ7.lt
            have zc : decide ((z : Int) < (k : Int)) = true := by simp; omega
            go_wp2
            obtain ⟨r0, r1, ro, rb⟩ := log_stored (v := .slice A5 z c5) (s := z) BZ7 rfl
            generalize ((W6.setCell ⟨wr.heap.size + 1, 1, none⟩ (.int .i64 z)).setCell ⟨w.heap.size + 1, 0, none⟩ (.slice A5 z c5)).setCell ⟨w.heap.size + 1, 1, none⟩ (.int .i64 z) = W8 at *
            obtain rfl : z = r := by have := HR.out; omega
            exact bodyPost_ret (v := .tuple #[.agg #[.slice A5 z c5, .int .i64 z], .int .i64 0]) (by simp [results, Try.results44, go_sem, r0, r1]) rfl ⟨.slice A5 z c5, rfl, ro _ _ _ _ (own_base (own_eq HO7 hzl.symm rfl) hb2.size), rb _ _ (Nat.le_succ _) HB7⟩
          · have BZ7 := BZ6
            have HO7 := HO6
            have HB7 := HB6
            have zc : decide ((z : Int) < (k : Int)) = false := by simp; omega
            go_wp2
            obtain ⟨r0, r1, ro, rb⟩ := log_stored (v := .slice A5 z c5) (s := k) BZ7 rfl
            generalize (W6.setCell ⟨w.heap.size + 1, 0, none⟩ (.slice A5 z c5)).setCell ⟨w.heap.size + 1, 1, none⟩ (.int .i64 k) = W8 at *
            obtain rfl : k = r := by have := HR.out; omega
            exact bodyPost_ret (v := .tuple #[.agg #[.slice A5 z c5, .int .i64 k], .int .i64 0]) (by simp [results, Try.results44, go_sem, r0, r1]) rfl ⟨.slice A5 z c5, rfl, ro _ _ _ _ (own_base (own_eq HO7 hzl.symm rfl) hb2.size), rb _ _ (Nat.le_succ _) HB7⟩)
        | (
          have BT5 : Blk w5 wr.heap.size 42 #[.slice none 0 0, .int .i64 0] := bt5
          have hne : w.heap.size + 1 ≠ wr.heap.size := by omega
          have hge : w.heap.size ≤ wr.heap.size := by omega
          have BT6 := (BT5.set_ 0 (.slice A5 z c5)).set_ 1 (.int .i64 k)
          simp only [List.setIfInBounds_toArray, List.set_cons_succ, List.set_cons_zero] at BT6
          have BZ6 := (bz5.far (p := ⟨wr.heap.size, 0, none⟩) hne (.slice A5 z c5)).far (p := ⟨wr.heap.size, 1, none⟩) hne (.int .i64 k)
          have HO6 := own_far (own_far ho5 BT5 (by decide) 0 (.slice A5 z c5)) (BT5.set_ 0 (.slice A5 z c5)) (by decide) 1 (.int .i64 k)
          have HB6 := ((hb2.trans (hbel.mono hb2.size)).setCell (p := ⟨wr.heap.size, 0, none⟩) hge (.slice A5 z c5)).setCell (p := ⟨wr.heap.size, 1, none⟩) hge (.int .i64 k)
          clear bt5 BT5 t0 t1 tf0 tf1 tl
          generalize (w5.setCell ⟨wr.heap.size, 0, none⟩ (.slice A5 z c5)).setCell ⟨wr.heap.size, 1, none⟩ (.int .i64 k) = W6 at *
          clear bx5 bz5 y0 y1 u0 u1 uf0 uf1 ul yl hbel ho5
          have s0 := BT6.cell 0
          have s1 := BT6.cell 1
          have sf0 := BT6.frozen 0
          have sf1 := BT6.frozen 1
          have sl := BT6.lt
          have u0 := BZ6.cell 0
          have u1 := BZ6.cell 1
          have uf0 := BZ6.frozen 0
          have uf1 := BZ6.frozen 1
          have ul := BZ6.lt
          clear q0 q1 z0 z1 zf0 zf1 zl ql
          by_cases hkz : z < k
          · have BT7 := BT6.set_ 1 (.int .i64 z)
            simp only [List.setIfInBounds_toArray, List.set_cons_succ, List.set_cons_zero] at BT7
            have BZ7 := BZ6.far (p := ⟨wr.heap.size, 1, none⟩) hne (.int .i64 z)
            have HO7 := own_far HO6 BT6 (by decide) 1 (.int .i64 z)
            have HB7 := HB6.setCell (p := ⟨wr.heap.size, 1, none⟩) hge (.int .i64 z)
            have p0 := BT7.cell 0
            have p1 := BT7.cell 1
            have pz0 := BZ7.cell 0
            have pz1 := BZ7.cell 1
            have pf0 := BZ7.frozen 0
            have pf1 := BZ7.frozen 1
            have pl := BZ7.lt
            have zc : decide ((z : Int) < (k : Int)) = true := by simp; omega
            go_wp2
            obtain ⟨r0, r1, ro, rb⟩ := log_stored (v := .slice A5 z c5) (s := z) BZ7 rfl
            generalize ((W6.setCell ⟨wr.heap.size, 1, none⟩ (.int .i64 z)).setCell ⟨w.heap.size + 1, 0, none⟩ (.slice A5 z c5)).setCell ⟨w.heap.size + 1, 1, none⟩ (.int .i64 z) = W8 at *
            obtain rfl : z = r := by have := HR.out; omega
            exact bodyPost_ret (v := .tuple #[.agg #[.slice A5 z c5, .int .i64 z], .int .i64 0]) (by simp [results, Try.results44, go_sem, r0, r1]) rfl ⟨.slice A5 z c5, rfl, ro _ _ _ _ (own_base (own_eq HO7 hzl.symm rfl) hb2.size), rb _ _ (Nat.le_succ _) HB7⟩
          · have BZ7 := BZ6
            have HO7 := HO6
            have HB7 := HB6
            have zc : decide ((z : Int) < (k : Int)) = false := by simp; omega
            go_wp2
            obtain ⟨r0, r1, ro, rb⟩ := log_stored (v := .slice A5 z c5) (s := k) BZ7 rfl
            generalize (W6.setCell ⟨w.heap.size + 1, 0, none⟩ (.slice A5 z c5)).setCell ⟨w.heap.size + 1, 1, none⟩ (.int .i64 k) = W8 at *
            obtain rfl : k = r := by have := HR.out; omega
            exact bodyPost_ret (v := .tuple #[.agg #[.slice A5 z c5, .int .i64 k], .int .i64 0]) (by simp [results, Try.results44, go_sem, r0, r1]) rfl ⟨.slice A5 z c5, rfl, ro _ _ _ _ (own_base (own_eq HO7 hzl.symm rfl) hb2.size), rb _ _ (Nat.le_succ _) HB7⟩)
        | (
          have BT6 := Blk.new w5 42 #[.slice A5 z c5, .int .i64 k]
          have hne : w.heap.size + 1 ≠ w5.heap.size := by omega
          have hge : w.heap.size ≤ w5.heap.size := by omega
          have BZ6 := bz5.alloc (.cells #[.slice A5 z c5, .int .i64 k] 42)
          have HO6 := ho5.alloc (.cells #[.slice A5 z c5, .int .i64 k] 42)
          have HB6 := (hb2.trans (hbel.mono hb2.size)).alloc hge (.cells #[.slice A5 z c5, .int .i64 k] 42)
          clear bt6 bx6 y60 y61 t0 t1 tf0 tf1 tl
          generalize w5.alloc (.cells #[.slice A5 z c5, .int .i64 k] 42) = W6 at *
          clear bx5 bz5 y0 y1 u0 u1 uf0 uf1 ul yl hbel ho5
          have s0 := BT6.cell 0
          have s1 := BT6.cell 1
          have sf0 := BT6.frozen 0
          have sf1 := BT6.frozen 1
          have sl := BT6.lt
          have u0 := BZ6.cell 0
          have u1 := BZ6.cell 1
          have uf0 := BZ6.frozen 0
          have uf1 := BZ6.frozen 1
          have ul := BZ6.lt
          clear q0 q1 z0 z1 zf0 zf1 zl ql
          by_cases hkz : z < k
          · have BT7 := BT6.set_ 1 (.int .i64 z)
            simp only [List.setIfInBounds_toArray, List.set_cons_succ, List.set_cons_zero] at BT7
            have BZ7 := BZ6.far (p := ⟨w5.heap.size, 1, none⟩) hne (.int .i64 z)
            have HO7 := own_far HO6 BT6 (by decide) 1 (.int .i64 z)
            have HB7 := HB6.setCell (p := ⟨w5.heap.size, 1, none⟩) hge (.int .i64 z)
            have p0 := BT7.cell 0
            have p1 := BT7.cell 1
            have pz0 := BZ7.cell 0
            have pz1 := BZ7.cell 1
            have pf0 := BZ7.frozen 0
            have pf1 := BZ7.frozen 1
            have pl := BZ7.lt
            have zc : decide ((z : Int) < (k : Int)) = true := by simp; omega
            go_wp2
            obtain ⟨r0, r1, ro, rb⟩ := log_stored (v := .slice A5 z c5) (s := z) BZ7 rfl
            generalize ((W6.setCell ⟨w5.heap.size, 1, none⟩ (.int .i64 z)).setCell ⟨w.heap.size + 1, 0, none⟩ (.slice A5 z c5)).setCell ⟨w.heap.size + 1, 1, none⟩ (.int .i64 z) = W8 at *
            obtain rfl : z = r := by have := HR.out; omega
            exact bodyPost_ret (v := .tuple #[.agg #[.slice A5 z c5, .int .i64 z], .int .i64 0]) (by simp [results, Try.results44, go_sem, r0, r1]) rfl ⟨.slice A5 z c5, rfl, ro _ _ _ _ (own_base (own_eq HO7 hzl.symm rfl) hb2.size), rb _ _ (Nat.le_succ _) HB7⟩
          · have BZ7 := BZ6
            have HO7 := HO6
            have HB7 := HB6
            have zc : decide ((z : Int) < (k : Int)) = false := by simp; omega
            go_wp2
            obtain ⟨r0, r1, ro, rb⟩ := log_stored (v := .slice A5 z c5) (s := k) BZ7 rfl
            generalize (W6.setCell ⟨w.heap.size + 1, 0, none⟩ (.slice A5 z c5)).setCell ⟨w.heap.size + 1, 1, none⟩ (.int .i64 k) = W8 at *
            obtain rfl : k = r := by have := HR.out; omega
            exact bodyPost_ret (v := .tuple #[.agg #[.slice A5 z c5, .int .i64 k], .int .i64 0]) (by simp [results, Try.results44, go_sem, r0, r1]) rfl ⟨.slice A5 z c5, rfl, ro _ _ _ _ (own_base (own_eq HO7 hzl.symm rfl) hb2.size), rb _ _ (Nat.le_succ _) HB7⟩)

end Go.Proofs.Ytpjjfnpdopdnkaa
