/- Parts of a proof, merged: PartP, PartQ, EntE, SegI, PartU, ViewA, ViewB. No condition. -/
import Derived.Test.YtpjjfnpdopdnkaaPq4
import Derived.Test.YtpjjfnpdopdnkaaPq5
import Derived.Test.YtpjjfnpdopdnkaaPq3
import Derived.Test.YtpjjfnpdopdnkaaPq2
import Derived.Lib.MinMax
import Derived.Deep.RegionLaw
import Derived.Maps.RangeWalk
import Derived.Maps.OwnOps
import Derived.Maps.Ext
namespace Go.Proofs.Ytpjjfnpdopdnkaa
open Go.RowKit

/-- a part whose rows are the call's own, from block base on -/
structure PO (base : Nat) (w : World) (c : PartD) (iv kv rv : Value) : Prop where
  isr : w.ownsRow base 4 1 iv c.isr.length (c.isr.map Value.bool)
  known : w.ownsRow base 3 1 kv c.known.length (c.known.map (Value.int .i64))
  reps : ∃ rows : List (RepD × Value), rows.map Prod.fst = c.reps ∧ w.ownsRow base 71 4 rv c.reps.length (rows.flatMap rcells) ∧ ∀ t ∈ rows, w.ownsRow base 5 1 t.2 t.1.bytes.length (bvs t.1.bytes)
/-- small parts: those that may be are, and what is made of them -/
structure PSm (c : PartD) : Prop where
  isr : c.isr.length ≤ 5
  known : c.known.length ≤ 5
  reps : c.reps.length ≤ 5
  bytes : ∀ t ∈ c.reps, t.bytes.length ≤ 40000
def zeroP : PartD := ⟨0, 0, [], [], [], 0, 0⟩
theorem PartOk.small {c : PartD} (h : PartOk c) : PSm c := by
  have h1 := h.many
  have h2 := h.isr
  have h3 := h.known
  refine ⟨by omega, by omega, by omega, fun t ht => ?_⟩
  obtain ⟨i, hi, rfl⟩ := List.mem_iff_getElem.1 ht
  obtain ⟨es, j, hl⟩ := h.log i hi
  have e1 := hl.long
  rw [← hl.bytes] at e1
  exact e1
theorem pv_zero (w : World) : Pv w (partV zeroP (.slice none 0 0) (.slice none 0 0) (.slice none 0 0)) zeroP :=
  ⟨_, _, _, rfl, Sl.nil_ _ _, Sl.nil_ _ _, ⟨[], rfl, Sl.nil_ _ _, by simp⟩, by simp [zeroP], by simp [zeroP], by simp [zeroP]⟩
section
variable {base : Nat} {w w' : World} {c : PartD} {iv kv rv : Value}
theorem PO.under (h : PO base w c iv kv rv) {a : Addr} (ha : a.block < base) (u : Value) : PO base (w.setCell a u) c iv kv rv := by
  obtain ⟨h1, h2, rows, h3, h4, h5⟩ := h
  exact ⟨ownsRow_setCell_below h1 ha u, ownsRow_setCell_below h2 ha u, rows, h3, ownsRow_setCell_below h4 ha u, fun t ht => ownsRow_setCell_below (h5 t ht) ha u⟩
theorem PO.keep (h : PO base w c iv kv rv) (hb : Below w.heap.size w w') : PO base w' c iv kv rv := by
  obtain ⟨h1, h2, rows, h3, h4, h5⟩ := h
  exact ⟨own_keep h1 hb (fun b hb => (h1.lt b hb).2), own_keep h2 hb (fun b hb => (h2.lt b hb).2), rows, h3, own_keep h4 hb (fun b hb => (h4.lt b hb).2), fun t ht => own_keep (h5 t ht) hb (fun b hb => ((h5 t ht).lt b hb).2)⟩
theorem PO.alloc (h : PO base w c iv kv rv) (o : Obj) : PO base (w.alloc o) c iv kv rv := h.keep ((Below.refl _ _).alloc (Nat.le_refl _) o)
theorem PO.more (h : PO base w c iv kv rv) {base' : Nat} (hb : base' ≤ base) : PO base' w c iv kv rv := by
  obtain ⟨h1, h2, rows, h3, h4, h5⟩ := h
  exact ⟨own_base h1 hb, own_base h2 hb, rows, h3, own_base h4 hb, fun t ht => own_base (h5 t ht) hb⟩
theorem PO.pv (h : PO base w c iv kv rv) (hs : PSm c) : Pv w (partV c iv kv rv) c := by
  obtain ⟨h1, h2, rows, h3, h4, h5⟩ := h
  have s1 := hs.isr
  have s2 := hs.known
  have s3 := hs.reps
  refine ⟨iv, kv, rv, rfl, Sl.of_own h1, Sl.of_own h2, ⟨rows, h3, Sl.of_own h4, fun t ht => ⟨Sl.of_own (h5 t ht), ?_⟩⟩, by omega, by omega, by omega⟩
  have := hs.bytes t.1 (by rw [← h3]; exact List.mem_map_of_mem ht)
  omega
theorem Pv.form {v : Value} (h : Pv w v c) : ∃ A1 c1 A3 c3 A5 c5, v = partV c (.slice A1 c.isr.length c1) (.slice A3 c.known.length c3) (.slice A5 c.reps.length c5) := by
  obtain ⟨iv, kv, rv, rfl, h1, h2, h3, -⟩ := h
  obtain ⟨A1, c1, rfl, -⟩ := h1.at_
  obtain ⟨A3, c3, rfl, -⟩ := h2.at_
  obtain ⟨A5, c5, rfl, -⟩ := h3.at_
  exact ⟨A1, c1, A3, c3, A5, c5, rfl⟩
theorem PO.pvb (h : PO base w c iv kv rv) (s1 : c.isr.length ≤ 9223372036854775807) (s2 : c.known.length ≤ 9223372036854775807) (s3 : c.reps.length ≤ 9223372036854775807) (s4 : ∀ t ∈ c.reps, t.bytes.length ≤ 9223372036854775807) : Pv w (partV c iv kv rv) c := by
  obtain ⟨h1, h2, rows, h3, h4, h5⟩ := h
  exact ⟨iv, kv, rv, rfl, Sl.of_own h1, Sl.of_own h2, ⟨rows, h3, Sl.of_own h4, fun t ht => ⟨Sl.of_own (h5 t ht), s4 t.1 (by rw [← h3]; exact List.mem_map_of_mem ht)⟩⟩, s1, s2, s3⟩
theorem PO.of_part {w0 : World} {rows : List (RepD × Value)} (h : OwnPart w0 w base c iv kv rv rows c.reps.length) : PO base w c iv kv rv := by
  have hl : rows.length = c.reps.length := by rw [← h.reps.fst]; simp
  refine ⟨h.isr, h.known, rows, h.reps.fst, h.reps.own, fun t ht => h.reps.parts t ?_⟩
  rw [← hl, List.take_length]; exact ht
theorem PO.form (h : PO base w c iv kv rv) : ∃ A1 c1 A3 c3 A5 c5, iv = .slice A1 c.isr.length c1 ∧ kv = .slice A3 c.known.length c3 ∧ rv = .slice A5 c.reps.length c5 := by
  obtain ⟨h1, h2, rows, h3, h4, h5⟩ := h
  obtain ⟨A1, c1, e1, -⟩ := (Sl.of_own h1).form
  obtain ⟨A3, c3, e3, -⟩ := (Sl.of_own h2).form
  obtain ⟨A5, c5, e5, -⟩ := (Sl.of_own h4).form
  exact ⟨A1, c1, A3, c3, A5, c5, e1, e3, e5⟩
theorem own_row {e : TypeId} {size n : Nat} {v : Value} {xs : List Value} (h : w.ownsRow base e size v n xs) (hn : 0 < n) : ∃ g cap, v = .slice (some ⟨g, 0, none⟩) n cap ∧ base ≤ g ∧ g < w.heap.size ∧ n ≤ cap ∧ (∃ cs fr, w.heap[g]? = some (.cells cs e fr)) ∧ ∀ (j : Nat) u, xs[j]? = some u → w.cell? ⟨g, j, none⟩ = some u ∧ w.frozen? ⟨g, j, none⟩ = false := by
  obtain ⟨g, cap, hv, hb, hlt⟩ := h.form hn
  subst hv
  have hle : n ≤ cap := by
    obtain ⟨_, A, c', he, hc, _⟩ := Sl.of_own h
    injection he with _ _ e; omega
  refine ⟨g, cap, rfl, hb, hlt, hle, ?_, fun j u hu => ⟨?_, World.ownsRow.frozenAt h _⟩⟩
  · rcases h.2 with ⟨e, _⟩ | ⟨g', cap', cur, e, _, hh, _⟩
    · cases e
    · injection e with e1
      injection e1 with e1
      injection e1 with e1
      subst e1
      exact ⟨_, _, hh⟩
  · have hj : j < n * size := by
      rw [← h.1]
      exact (List.getElem?_eq_some_iff.1 hu).1
    rw [World.ownsRow.cellAt h _ hj]
    exact hu
/-- the rows of a part with replicas -/
theorem PO.rows (h : PO base w c iv kv rv) (h1 : 0 < c.isr.length) (h2 : 0 < c.known.length) (h3 : 0 < c.reps.length) : ∃ gi ci gk ck gr cr, iv = .slice (some ⟨gi, 0, none⟩) c.isr.length ci ∧ kv = .slice (some ⟨gk, 0, none⟩) c.known.length ck ∧ rv = .slice (some ⟨gr, 0, none⟩) c.reps.length cr ∧ base ≤ gi ∧ base ≤ gk ∧ base ≤ gr ∧ gi < w.heap.size ∧ gk < w.heap.size ∧ gr < w.heap.size := by
  obtain ⟨o1, o2, rows, e3, o4, o5⟩ := h
  obtain ⟨gi, ci, a1, a2, a3, -⟩ := own_row o1 h1
  obtain ⟨gk, ck, b1, b2, b3, -⟩ := own_row o2 h2
  obtain ⟨gr, cr, d1, d2, d3, -⟩ := own_row o4 h3
  exact ⟨gi, ci, gk, ck, gr, cr, a1, b1, d1, a2, b2, d2, a3, b3, d3⟩
theorem PO.isrAt {gi ci : Nat} (h : PO base w c (.slice (some ⟨gi, 0, none⟩) c.isr.length ci) kv rv) (i : Nat) (hi : i < c.isr.length) : w.cell? ⟨gi, i, none⟩ = some (.bool c.isr[i]) ∧ w.frozen? ⟨gi, i, none⟩ = false := by
  obtain ⟨g, cap, hv, -, -, -, -, hc⟩ := own_row h.isr (by omega)
  injection hv with e1
  injection e1 with e1
  injection e1 with e1
  subst e1
  exact hc i _ (by simp [hi])
theorem PO.repAt {gr cr : Nat} (h : PO base w c iv kv (.slice (some ⟨gr, 0, none⟩) c.reps.length cr)) (i : Nat) (hi : i < c.reps.length) : ∃ A7 c7, (w.cell? ⟨gr, i * 4, none⟩ = some (.bool c.reps[i].up) ∧ w.cell? ⟨gr, i * 4 + 1, none⟩ = some (.slice A7 c.reps[i].bytes.length c7) ∧ w.cell? ⟨gr, i * 4 + 2, none⟩ = some (.int .i64 c.reps[i].synced) ∧ w.cell? ⟨gr, i * 4 + 3, none⟩ = some (.int .i64 c.reps[i].high)) ∧ (w.frozen? ⟨gr, i * 4, none⟩ = false ∧ w.frozen? ⟨gr, i * 4 + 1, none⟩ = false ∧ w.frozen? ⟨gr, i * 4 + 2, none⟩ = false ∧ w.frozen? ⟨gr, i * 4 + 3, none⟩ = false) ∧ By w (.slice A7 c.reps[i].bytes.length c7) c.reps[i].bytes := by
  obtain ⟨rows, h3, h4, h5⟩ := h.reps
  obtain ⟨g, cap, hv, -, -, -, -, hc⟩ := own_row h4 (by omega)
  injection hv with e1
  injection e1 with e1
  injection e1 with e1
  subst e1
  have hl : rows.length = c.reps.length := by rw [← h3]; simp
  have hi' : i < rows.length := by omega
  have he : c.reps[i] = rows[i].1 := by simp [← h3]
  have hy : By w rows[i].2 rows[i].1.bytes := Sl.of_own (h5 _ (List.getElem_mem hi'))
  obtain ⟨A7, c7, e7, -⟩ := hy.at_
  rw [he]
  have key : ∀ j u, j < 4 → (rcells rows[i])[j]? = some u → w.cell? ⟨gr, i * 4 + j, none⟩ = some u ∧ w.frozen? ⟨gr, i * 4 + j, none⟩ = false := fun j u hj hu => hc _ _ ((rcells_get rows i hi' j hj).trans hu)
  have k0 := key 0 _ (by omega) rfl
  have k1 := key 1 _ (by omega) rfl
  have k2 := key 2 _ (by omega) rfl
  have k3 := key 3 _ (by omega) rfl
  rw [e7] at k1 hy
  exact ⟨A7, c7, ⟨k0.1, k1.1, k2.1, k3.1⟩, ⟨k0.2, k1.2, k2.2, k3.2⟩, hy⟩
theorem rcells_set : ∀ (rows : List (RepD × Value)) (i j : Nat) (u : Value) (r : RepD × Value), j < 4 → (h : i < rows.length) → rcells r = (rcells rows[i]).set j u → (rows.set i r).flatMap rcells = (rows.flatMap rcells).set (i * 4 + j) u
  | t :: rows, 0, j, u, r, hj, _, he => by
    have hl : (rcells t).length = 4 := rfl
    simp only [List.set_cons_zero, List.flatMap_cons, Nat.zero_mul, Nat.zero_add]
    rw [List.set_append_left _ _ (by rw [hl]; exact hj)]
    simp only [List.getElem_cons_zero] at he
    rw [he]
  | t :: rows, i + 1, j, u, r, hj, h, he => by
    have hl : (rcells t).length = 4 := rfl
    simp only [List.set_cons_succ, List.flatMap_cons]
    rw [rcells_set rows i j u r hj (by simpa using h) (by simpa using he), List.set_append_right _ _ (by rw [hl]; omega), hl, show (i + 1) * 4 + j - 4 = i * 4 + j from by omega]
theorem mem_set_cases {α : Type} {l : List α} {i : Nat} {a x : α} (h : x ∈ l.set i a) : x = a ∨ x ∈ l := by
  rcases List.mem_or_eq_of_mem_set h with h | h
  · exact Or.inr h
  · exact Or.inl h
/-- a new log is stored in a replica -/
theorem PO.setLog {gr cr : Nat} (h : PO base w c iv kv (.slice (some ⟨gr, 0, none⟩) c.reps.length cr)) (i : Nat) (hi : i < c.reps.length) {pv : Value} {l : List UInt8} (s : Int) (hp : w.ownsRow base 5 1 pv l.length (bvs l)) : PO base ((w.setCell ⟨gr, i * 4 + 1, none⟩ pv).setCell ⟨gr, i * 4 + 2, none⟩ (.int .i64 s)) { c with reps := c.reps.set i { c.reps[i] with bytes := l, synced := s } } iv kv (.slice (some ⟨gr, 0, none⟩) c.reps.length cr) := by
  obtain ⟨h1, h2, rows, h3, h4, h5⟩ := h
  obtain ⟨g, cap, hv, -, -, -, ⟨cs, fr, hg⟩, -⟩ := own_row h4 (by omega)
  injection hv with e1
  injection e1 with e1
  injection e1 with e1
  subst e1
  have hl : rows.length = c.reps.length := by rw [← h3]; simp
  have hi' : i < rows.length := by omega
  have he : c.reps[i] = rows[i].1 := by simp [← h3]
  have s1 := World.ownsRow.stored h4 (i * 4 + 1) pv
  have s2 := World.ownsRow.stored s1.1 (i * 4 + 2) (.int .i64 s)
  obtain ⟨g, cap, hv, -, -, -, ⟨cs', fr', hg'⟩, -⟩ := own_row s1.1 (by omega)
  injection hv with e1
  injection e1 with e1
  injection e1 with e1
  subst e1
  have far : ∀ {e : TypeId} {size n : Nat} {v : Value} {xs : List Value}, w.ownsRow base e size v n xs → 71 ≠ e → ((w.setCell ⟨gr, i * 4 + 1, none⟩ pv).setCell ⟨gr, i * 4 + 2, none⟩ (.int .i64 s)).ownsRow base e size v n xs := fun ho hne => own_far (own_far ho hg hne _ _) hg' hne _ _
  refine ⟨far h1 (by decide), far h2 (by decide), rows.set i ({ c.reps[i] with bytes := l, synced := s }, pv), by simp [List.map_set, h3], ?_, fun t ht => far ?_ (by decide)⟩
  · have e1 : (rows.set i (rows[i].1, pv)).flatMap rcells = (rows.flatMap rcells).set (i * 4 + 1) pv := rcells_set rows i 1 pv _ (by omega) hi' rfl
    have hi2 : i < (rows.set i (rows[i].1, pv)).length := by simpa using hi'
    have e2 := rcells_set (rows.set i (rows[i].1, pv)) i 2 (.int .i64 s) ({ c.reps[i] with bytes := l, synced := s }, pv) (by omega) hi2 (by simp [rcells, he])
    rw [List.set_set] at e2
    rw [e2, e1]
    have := s2.1
    simpa using this
  · rcases mem_set_cases ht with rfl | ht
    · exact hp
    · exact h5 t ht
theorem PO.blk (h : PO base w c iv kv rv) {g : Nat} {cs : Array Value} (hb : Blk w g 26 cs) (j : Nat) (u : Value) : PO base (w.setCell ⟨g, j, none⟩ u) c iv kv rv := by
  obtain ⟨h1, h2, rows, h3, h4, h5⟩ := h
  exact ⟨own_far h1 hb (by decide) _ _, own_far h2 hb (by decide) _ _, rows, h3, own_far h4 hb (by decide) _ _, fun t ht => own_far (h5 t ht) hb (by decide) _ _⟩
theorem PO.nil (base : Nat) (w : World) (ep ld fw ba : Int) : PO base w ⟨ep, ld, [], [], [], fw, ba⟩ (.slice none 0 0) (.slice none 0 0) (.slice none 0 0) :=
  ⟨by simpa using World.ownsRow_nil _ _ _ _, by simpa using World.ownsRow_nil _ _ _ _, [], rfl, by simpa using World.ownsRow_nil _ _ _ _, by simp⟩
theorem PO.pushIsr {o : Obj} {v7 : Value} {x : Bool} {n : Nat} (h : PO base w c iv kv rv) (hn : n = c.isr.length) (hg : (w.alloc o).grownBy w' iv.ownBlock) (h7 : w'.ownsRow base 4 1 v7 (n + 1) (c.isr.map Value.bool ++ [.bool x])) : PO base w' { c with isr := c.isr ++ [x] } v7 kv rv := by
  obtain ⟨h1, h2, rows, h3, h4, h5⟩ := h
  have q1 := h1.alloc o
  refine ⟨own_eq h7 (by simp [hn]) (by simp), (h2.alloc o).kept hg (own_apart (h2.alloc o) q1 (by decide)), rows, h3, (h4.alloc o).kept hg (own_apart (h4.alloc o) q1 (by decide)), fun t ht => ((h5 t ht).alloc o).kept hg (own_apart ((h5 t ht).alloc o) q1 (by decide))⟩
theorem PO.pushKnown {o : Obj} {v7 : Value} {x : Int} {n : Nat} (h : PO base w c iv kv rv) (hn : n = c.known.length) (hg : (w.alloc o).grownBy w' kv.ownBlock) (h7 : w'.ownsRow base 3 1 v7 (n + 1) (c.known.map (Value.int .i64) ++ [.int .i64 x])) : PO base w' { c with known := c.known ++ [x] } iv v7 rv := by
  obtain ⟨h1, h2, rows, h3, h4, h5⟩ := h
  have q1 := h2.alloc o
  refine ⟨(h1.alloc o).kept hg (own_apart (h1.alloc o) q1 (by decide)), own_eq h7 (by simp [hn]) (by simp), rows, h3, (h4.alloc o).kept hg (own_apart (h4.alloc o) q1 (by decide)), fun t ht => ((h5 t ht).alloc o).kept hg (own_apart ((h5 t ht).alloc o) q1 (by decide))⟩
theorem PO.pushRep {o : Obj} {v7 pv : Value} {t : RepD} {n : Nat} {rows : List (RepD × Value)} (h1 : w.ownsRow base 4 1 iv c.isr.length (c.isr.map Value.bool)) (h2 : w.ownsRow base 3 1 kv c.known.length (c.known.map (Value.int .i64))) (h3 : rows.map Prod.fst = c.reps) (h4 : w.ownsRow base 71 4 rv c.reps.length (rows.flatMap rcells)) (h5 : ∀ t ∈ rows, w.ownsRow base 5 1 t.2 t.1.bytes.length (bvs t.1.bytes))
    (hn : n = c.reps.length) (hg : (w.alloc o).grownBy w' rv.ownBlock) (hp : w.ownsRow base 5 1 pv t.bytes.length (bvs t.bytes)) (h7 : w'.ownsRow base 71 4 v7 (n + 1) (rows.flatMap rcells ++ rcells (t, pv))) : PO base w' { c with reps := c.reps ++ [t] } iv kv v7 := by
  have q1 := h4.alloc o
  refine ⟨(h1.alloc o).kept hg (own_apart (h1.alloc o) q1 (by decide)), (h2.alloc o).kept hg (own_apart (h2.alloc o) q1 (by decide)), rows ++ [(t, pv)], by simp [h3], own_eq h7 (by simp [hn]) (by simp), fun t' ht => ?_⟩
  rcases List.mem_append.1 ht with ht | ht
  · exact ((h5 t' ht).alloc o).kept hg (own_apart ((h5 t' ht).alloc o) q1 (by decide))
  · simp only [List.mem_singleton] at ht
    subst ht
    exact (hp.alloc o).kept hg (own_apart (hp.alloc o) q1 (by decide))
end
end Go.Proofs.Ytpjjfnpdopdnkaa
namespace Go.Proofs.Ytpjjfnpdopdnkaa
open Go.RowKit

def AtFault (c : PartD) (r n : Int) : Prop := ¬ PartOk c ∧ n = 12 ∨ PartOk c ∧ (r < 0 ∨ (c.reps.length : Int) ≤ r) ∧ n = 5
theorem AtFault.ne {c : PartD} {r n : Int} (h : AtFault c r n) : n ≠ 0 := by
  rcases h with ⟨_, rfl⟩ | ⟨_, _, rfl⟩ <;> decide
/-- the call answers the zero part and a code -/
def RefusesP (n : Int) (w : World) (e : Ending) (w' : World) : Prop := e = .returned (.tuple #[.agg #[.int .i64 0, .int .i64 0, .slice none 0 0, .slice none 0 0, .slice none 0 0, .int .i64 0, .int .i64 0], .int .i64 n]) ∧ Below w.heap.size w w'
/-- the call answers a part in memory of its own, and OK -/
def OwnsP (c : PartD) (w : World) (e : Ending) (w' : World) : Prop := ∃ iv kv rv, e = .returned (.tuple #[partV c iv kv rv, .int .i64 0]) ∧ PO w.heap.size w' c iv kv rv ∧ Below w.heap.size w w'
/-- the call answers a part and a code -/
def PRes (c : PartD) (n : Int) (w : World) (e : Ending) (w' : World) : Prop := ∃ v, e = .returned (.tuple #[v, .int .i64 n]) ∧ Pv w' v c ∧ Below w.heap.size w w'
/-- the call answers the part in memory of its own -/
def CopiesP (c : PartD) (w : World) (e : Ending) (w' : World) : Prop := ∃ iv kv rv, e = .returned (partV c iv kv rv) ∧ PO w.heap.size w' c iv kv rv ∧ Below w.heap.size w w'
theorem partCopy_ok {v : Value} {c : PartD} {w : World} (h : Pv w v c) (hs : PSm c) : Calls Try.prog 26 #[v] w (CopiesP c w) := by
  have s1 := hs.isr
  have s2 := hs.known
  have s3 := hs.reps
  refine (partCopy_any v c w h (by omega) (by omega) (by omega) (fun t ht => by have := hs.bytes t ht; omega)).mono ?_
  rintro e w' ⟨iv, kv, rv, rows, he, ho, hb⟩
  exact ⟨iv, kv, rv, he, .of_part ho, hb⟩
end Go.Proofs.Ytpjjfnpdopdnkaa
namespace Go.Proofs.Ytpjjfnpdopdnkaa
open Go.RowKit

theorem Ent.nats {e : Ent} (h : e.ok) : ((e.ep.toNat : Nat) : Int) = e.ep ∧ ((e.pid.toNat : Nat) : Int) = e.pid ∧ ((e.ver.toNat : Nat) : Int) = e.ver ∧ ((e.seq.toNat : Nat) : Int) = e.seq ∧ ((e.kind.toNat : Nat) : Int) = e.kind := by
  obtain ⟨f1, f2, f3, f4, f5, f6, f7, f8, f9, f10, f11⟩ := fault_kind h
  omega
def Ent.val (e : Ent) : Value := .agg #[.int .i64 e.ep, .int .i64 e.pid, .int .i64 e.ver, .int .i64 e.seq, .int .i64 e.kind, .bool e.txn, .string e.text]
theorem encode_ent (e : Ent) (w : World) (h : e.ok) : Calls Try.prog 83 #[.agg #[.int .i64 e.ep, .int .i64 e.pid, .int .i64 e.ver, .int .i64 e.seq, .int .i64 e.kind, .bool e.txn, .string e.text]] w fun r w' => ∃ v', r = .returned (.tuple #[v', .int .i64 0]) ∧ w'.ownsRow w.heap.size 5 1 v' e.enc.length (bvs e.enc) ∧ Below w.heap.size w w' := by
  obtain ⟨h1, h2, h3, h4, h5⟩ := Ent.nats h
  have hok : entryFault e.ep.toNat e.pid.toNat e.ver.toNat e.seq.toNat e.kind.toNat e.txn e.text.size = 0 := by rw [h1, h2, h3, h4, h5]; exact h
  have k := Encode_ok e.ep.toNat e.pid.toNat e.ver.toNat e.seq.toNat e.kind.toNat e.txn e.text w hok
  rw [h1, h2, h3, h4, h5] at k
  exact k
theorem entryBytes_ent (e : Ent) (w : World) (h : e.ok) : Calls Try.prog 85 #[.agg #[.int .i64 e.ep, .int .i64 e.pid, .int .i64 e.ver, .int .i64 e.seq, .int .i64 e.kind, .bool e.txn, .string e.text]] w fun r w' => ∃ v', r = .returned (.tuple #[v', .int .i64 0]) ∧ w'.ownsRow w.heap.size 5 1 v' e.enc.length (bvs e.enc) ∧ Below w.heap.size w w' := by
  obtain ⟨h1, h2, h3, h4, h5⟩ := Ent.nats h
  have hok : entryFault e.ep.toNat e.pid.toNat e.ver.toNat e.seq.toNat e.kind.toNat e.txn e.text.size = 0 := by rw [h1, h2, h3, h4, h5]; exact h
  have k := EntryBytes_ok e.ep.toNat e.pid.toNat e.ver.toNat e.seq.toNat e.kind.toNat e.txn e.text w hok
  rw [h1, h2, h3, h4, h5] at k
  exact k
end Go.Proofs.Ytpjjfnpdopdnkaa
namespace Go.Proofs.Ytpjjfnpdopdnkaa
open Go.RowKit

theorem bytesCopy_blk {A : Option Addr} {l : List UInt8} {c n g : Nat} {w : World} (hn : n = l.length) (hk : Blk w g 34 #[.slice A n c]) (h : By w (.slice A n c) l) (hm : l.length ≤ 140737488355328) :
    Calls Try.prog 79 #[.slice (some ⟨g, 0, none⟩) 1 1] w fun e w' => ∃ v', e = .returned v' ∧ w'.ownsRow w.heap.size 5 1 v' l.length (bvs l) ∧ Below w.heap.size w w' := by
  subst hn
  refine (bytesCopy_any _ [l] [.slice A l.length c] w rfl ⟨rfl, some ⟨g, 0, none⟩, 1, rfl, Nat.le_refl _, fun _ => ⟨g, 0, rfl, hk.lt, fun i u hu => ?_⟩⟩ (fun k h1 h2 => ?_) (by simpa using hm) (by simp)).mono ?_
  · rw [Nat.zero_add, hk.cell i]
    simpa using hu
  · obtain rfl : k = 0 := by simpa using h1
    exact h
  · rintro e w' ⟨v', rfl, ho, hb⟩
    exact ⟨v', rfl, own_eq ho (by simp) (by simp), hb⟩

end Go.Proofs.Ytpjjfnpdopdnkaa
namespace Go.Proofs.Ytpjjfnpdopdnkaa
open Go.RowKit

/-- the loops of tailraceref.PartCopy: what was copied so far is the part c -/
def PcLp (w : World) (bc zc : Array Value) (n : Nat) (f : Nat → PartD) (i : Value) (wr : World) : Prop :=
  ∃ (k : Nat) (iv kv rv : Value), k ≤ n ∧ i = .int .i64 k ∧ PO (w.heap.size + 3) wr (f k) iv kv rv ∧ Blk wr w.heap.size 26 bc ∧ Blk wr (w.heap.size + 1) 26 zc ∧ Blk wr (w.heap.size + 2) 26 #[.int .i64 (f k).epoch, .int .i64 (f k).leader, iv, kv, rv, .int .i64 (f k).few, .int .i64 (f k).base] ∧ Below w.heap.size w wr ∧ w.heap.size + 3 ≤ wr.heap.size
theorem bool_info : (Try.prog.info? 4).map (fun i => (i.zero, i.size, i.bytes)) = some (some (.bool false), 1, 1) := by kernel_rfl
theorem int_info : (Try.prog.info? 3).map (fun i => (i.zero, i.size, i.bytes)) = some (some (.int .i64 0), 1, 8) := by kernel_rfl
theorem rep_info : (Try.prog.info? 71).map (fun i => (i.zero, i.size, i.bytes)) = some (some (.agg #[.bool false, .slice none 0 0, .int .i64 0, .int .i64 0]), 4, 48) := by kernel_rfl

set_option maxRecDepth 100000 in
set_option maxHeartbeats 16000000 in
theorem refPartCopy_any (v : Value) (c : PartD) (w : World) (h : Pv w v c) (h1 : c.isr.length ≤ 140737488355328) (h2 : c.known.length * 8 ≤ 140737488355328) (h3 : c.reps.length * 48 ≤ 140737488355328) (h4 : ∀ t ∈ c.reps, t.bytes.length ≤ 140737488355328) :
    Calls Try.prog 47 #[v] w (CopiesP c w) := by
  obtain ⟨i0, hi0, hy0, hy1, hy2'⟩ := info_parts bool_info
  obtain ⟨j0, hj0, hx0, hx1', hx2'⟩ := info_parts int_info
  obtain ⟨m0, hm0, hz0, hz1, hz2'⟩ := info_parts rep_info
  obtain ⟨xi, xk, xr, rfl, ix, kx, rx, hli, hlk, hlr⟩ := id h
  obtain ⟨A5, c5, rfl, hc5, hx2⟩ := rx.at_
  obtain ⟨A1, c1, rfl, hc1, hx1⟩ := ix.at_
  obtain ⟨A3, c3, rfl, hc3, hx3⟩ := kx.at_
  unfold partV at *
  have HC := Lib.hid hx2
  have HI := Lib.hid hx1
  have HK := Lib.hid hx3
  have H4 := Lib.hid h4
  clear h ix kx rx hx1 hx2 hx3 h4
  obtain ⟨ep, ld, is, ks, rs, fw, ba⟩ := c
  simp only at *
  go_enter Try.func47, Try.ntmps47
  go_wp2
  have bx := ((Blk.new w 26 #[.int .i64 ep, .int .i64 ld, .slice A1 is.length c1, .slice A3 ks.length c3, .slice A5 rs.length c5, .int .i64 fw, .int .i64 ba]).alloc (.cells #[.int .i64 0, .int .i64 0, .slice none 0 0, .slice none 0 0, .slice none 0 0, .int .i64 0, .int .i64 0] 26)).alloc (.cells #[.int .i64 ep, .int .i64 ld, .slice none 0 0, .slice none 0 0, .slice none 0 0, .int .i64 fw, .int .i64 ba] 26)
  have bz := (Blk.new (w.alloc (.cells #[.int .i64 ep, .int .i64 ld, .slice A1 is.length c1, .slice A3 ks.length c3, .slice A5 rs.length c5, .int .i64 fw, .int .i64 ba] 26)) 26 #[.int .i64 0, .int .i64 0, .slice none 0 0, .slice none 0 0, .slice none 0 0, .int .i64 0, .int .i64 0]).alloc (.cells #[.int .i64 ep, .int .i64 ld, .slice none 0 0, .slice none 0 0, .slice none 0 0, .int .i64 fw, .int .i64 ba] 26)
  have bn := Blk.new ((w.alloc (.cells #[.int .i64 ep, .int .i64 ld, .slice A1 is.length c1, .slice A3 ks.length c3, .slice A5 rs.length c5, .int .i64 fw, .int .i64 ba] 26)).alloc (.cells #[.int .i64 0, .int .i64 0, .slice none 0 0, .slice none 0 0, .slice none 0 0, .int .i64 0, .int .i64 0] 26)) 26 #[.int .i64 ep, .int .i64 ld, .slice none 0 0, .slice none 0 0, .slice none 0 0, .int .i64 fw, .int .i64 ba]
  have hbl : Below w.heap.size w (((w.alloc (.cells #[.int .i64 ep, .int .i64 ld, .slice A1 is.length c1, .slice A3 ks.length c3, .slice A5 rs.length c5, .int .i64 fw, .int .i64 ba] 26)).alloc (.cells #[.int .i64 0, .int .i64 0, .slice none 0 0, .slice none 0 0, .slice none 0 0, .int .i64 0, .int .i64 0] 26)).alloc (.cells #[.int .i64 ep, .int .i64 ld, .slice none 0 0, .slice none 0 0, .slice none 0 0, .int .i64 fw, .int .i64 ba] 26)) := ((((Below.refl _ _).alloc (Nat.le_refl _) _).alloc (by simp) _).alloc (by simp; omega) _)
  have hsz0 : w.heap.size + 3 ≤ (((w.alloc (.cells #[.int .i64 ep, .int .i64 ld, .slice A1 is.length c1, .slice A3 ks.length c3, .slice A5 rs.length c5, .int .i64 fw, .int .i64 ba] 26)).alloc (.cells #[.int .i64 0, .int .i64 0, .slice none 0 0, .slice none 0 0, .slice none 0 0, .int .i64 0, .int .i64 0] 26)).alloc (.cells #[.int .i64 ep, .int .i64 ld, .slice none 0 0, .slice none 0 0, .slice none 0 0, .int .i64 fw, .int .i64 ba] 26)).heap.size := by simp
  simp only [World.size_alloc] at bz bn
  generalize ((w.alloc (.cells #[.int .i64 ep, .int .i64 ld, .slice A1 is.length c1, .slice A3 ks.length c3, .slice A5 rs.length c5, .int .i64 fw, .int .i64 ba] 26)).alloc (.cells #[.int .i64 0, .int .i64 0, .slice none 0 0, .slice none 0 0, .slice none 0 0, .int .i64 0, .int .i64 0] 26)).alloc (.cells #[.int .i64 ep, .int .i64 ld, .slice none 0 0, .slice none 0 0, .slice none 0 0, .int .i64 fw, .int .i64 ba] 26) = W0 at *
  have HBX := Lib.hid bx
  have HBZ := Lib.hid bz
  have HBN := Lib.hid bn
  have HBL := Lib.hid hbl
  clear bx bz bn hbl
  go_loopw [4] (fun i wr => PcLp w #[.int .i64 ep, .int .i64 ld, .slice A1 is.length c1, .slice A3 ks.length c3, .slice A5 rs.length c5, .int .i64 fw, .int .i64 ba] #[.int .i64 0, .int .i64 0, .slice none 0 0, .slice none 0 0, .slice none 0 0, .int .i64 0, .int .i64 0] is.length (fun k => ⟨ep, ld, is.take k, [], [], fw, ba⟩) i wr) (fun i _ => is.length - (intOf i).toNat)
  case atStart => exact ⟨0, _, _, _, Nat.zero_le _, rfl, PO.nil _ _ _ _ _ _, HBX.out, HBZ.out, HBN.out, HBL.out, hsz0⟩
  case round =>
    obtain ⟨k, iv, kv, rv, hk, rfl, ho, hbx, hbz, hbn, hbw, hsz⟩ := hrel
    have htl : (is.take k).length = k := by rw [List.length_take]; omega
    obtain ⟨B1, d1, B3, d3, B5, d5, rfl, rfl, rfl⟩ := ho.form
    simp only [htl, List.length_nil] at hbn ho
    by_cases hlt : k < is.length
    · obtain ⟨b, off, rfl, hbb, hcell⟩ := HI.out (by omega)
      have X0 := (hbw.cell (p := ⟨b, off + k, none⟩) hbb).trans (hcell k hlt)
      have i0' : (0 : Int) ≤ (k : Int) := by omega
      have i1' : (k : Int) < (is.length : Int) := by omega
      have hble : b < wr.heap.size := by have := hbw.size; omega
      have g2 := hbx.cell 2
      have gl := hbx.lt
      have n2 : wr.cell? ⟨w.heap.size + 1 + 1, 2, none⟩ = some (.slice B1 k d1) := hbn.cell 2
      have nl : w.heap.size + 1 + 1 < wr.heap.size := hbn.lt
      have hdr : Below wr.heap.size wr wr.drew := (Below.refl _ _).drew
      have hod := ho.keep hdr
      have hne : ∀ g, (Value.slice B1 k d1).ownBlock = some g → w.heap.size + 3 ≤ g := fun g hg => by
        have := ho.isr.lt g hg
        omega
      have hszd := hdr.size
      have HND := Lib.hid (hbn.below hdr hbn.lt)
      have HXD := Lib.hid (hbx.below hdr hbx.lt)
      have HZD := Lib.hid (hbz.below hdr hbz.lt)
      have HOD := Lib.hid hod
      have HBD := Lib.hid (below_then hbw hdr)
      have HNE := Lib.hid hne
      have HFD := Lib.hid (own_eq hod.isr htl rfl)
      clear hcell hbn hbx hbz hne hod hdr ho hbw htl
      go_wp2_with fail
      go_region_law ((refine step_append_sl rfl (.tmp 25) (.tmp 31) 22 rfl (w.heap.size + 3) 4 i0 (.bool false) 1 1 Try.underlying22 hi0 hy0 hy1 hy2' rfl (by decide) _ _ _ (by first | rfl | simp [Act.eval, Act.put]) (HFD.out.alloc _) _ 1 _ (by first | rfl | simp [Act.eval, Act.put]) (Sl.lit' _ _ _ 1 1 _ rfl (by simp)) (bools_one [is[k]]) (by simp only [maxLen]; omega) (by omega) (by simp; omega) ?_; intro v7 w7 ho7 hg7 ha7; obtain ⟨A7, c7, rfl, hc7⟩ := (Sl.of_own ho7).form; have bn7 := (HND.out.alloc _).grown hg7 (fun e => by have := HNE.out _ e.symm; omega); have c7' : w7.cell? ⟨w.heap.size + 1 + 1, 2, none⟩ = some (.slice B1 k d1) := bn7.cell 2; have f7 : w7.frozen? ⟨w.heap.size + 1 + 1, 2, none⟩ = false := bn7.frozen 2; have l7 : w.heap.size + 1 + 1 < w7.heap.size := bn7.lt))
      all_goals
        have hpu := (HOD.out.pushIsr (x := is[k]) (n := k) (by simp only [List.length_take]; omega) hg7 ho7).under (a := ⟨w.heap.size + 2, 2, none⟩) (Nat.lt_succ_self _) (.slice A7 (k + 1) c7)
        have hbl7 : Below w.heap.size w w7 := (HBD.out.alloc (by have := HBD.out.size; omega) _).grown hg7 (by have := HBD.out.size; simp; omega) (fun b hb => by have := HNE.out b hb; omega)
        have hs7 := hg7.size
        have bx7 := ((HXD.out.alloc _).grown hg7 (fun e => by have := HNE.out _ e.symm; omega)).far (p := ⟨w.heap.size + 2, 2, none⟩) (by show w.heap.size ≠ w.heap.size + 2; omega) (.slice A7 (k + 1) c7)
        have bz7 := ((HZD.out.alloc _).grown hg7 (fun e => by have := HNE.out _ e.symm; omega)).far (p := ⟨w.heap.size + 2, 2, none⟩) (by show w.heap.size + 1 ≠ w.heap.size + 2; omega) (.slice A7 (k + 1) c7)
        have bn8 := bn7.set_ 2 (.slice A7 (k + 1) c7)
        simp only [List.setIfInBounds_toArray, List.set_cons_succ, List.set_cons_zero] at bn8
        have hbl8 := hbl7.setCell (p := ⟨w.heap.size + 2, 2, none⟩) (Nat.le_add_right _ 2) (.slice A7 (k + 1) c7)
        simp only [← List.take_succ_eq_append_getElem hlt] at hpu
        go_wp2
        go_light
        exact ⟨⟨k + 1, _, _, _, by omega, by go_num, hpu, bx7, bz7, bn8, hbl8, by simp at hs7 ⊢; omega⟩, by simp [intOf]; omega⟩
    · obtain rfl : k = is.length := by omega
      have ho9 := ho
      simp only [List.take_length] at ho9
      have g9 := hbx.cell 3
      have q9 := hbx.cell 2
      have gl9 := hbx.lt
      obtain ⟨w9, hw9⟩ : ∃ w9, w9 = wr := ⟨_, rfl⟩
      subst hw9
      have O2 := Lib.hid ho9
      have X2 := Lib.hid hbx
      have Z2 := Lib.hid hbz
      have N2 := Lib.hid hbn
      have L2 := Lib.hid hbw
      have hsz2 := hsz
      clear ho9 ho hbx hbz hbn hbw htl hsz hlt
      go_wp2_with fail
      clear g9 gl9 q9
      go_loopw [5] (fun i wr => PcLp w #[.int .i64 ep, .int .i64 ld, .slice A1 is.length c1, .slice A3 ks.length c3, .slice A5 rs.length c5, .int .i64 fw, .int .i64 ba] #[.int .i64 0, .int .i64 0, .slice none 0 0, .slice none 0 0, .slice none 0 0, .int .i64 0, .int .i64 0] ks.length (fun k => ⟨ep, ld, is, ks.take k, [], fw, ba⟩) i wr) (fun i _ => ks.length - (intOf i).toNat)
      case atStart => exact ⟨0, _, _, _, Nat.zero_le _, rfl, O2.out, X2.out, Z2.out, N2.out, L2.out, hsz2⟩
      case round =>
        obtain ⟨k, iv, kv, rv, hk, rfl, ho, hbx, hbz, hbn, hbw, hsz⟩ := hrel
        have htl : (ks.take k).length = k := by rw [List.length_take]; omega
        obtain ⟨B1, d1, B3, d3, B5, d5, rfl, rfl, rfl⟩ := ho.form
        simp only [htl, List.length_nil] at hbn ho
        by_cases hlt : k < ks.length
        · obtain ⟨b, off, rfl, hbb, hcell⟩ := HK.out (by omega)
          have X0 := (hbw.cell (p := ⟨b, off + k, none⟩) hbb).trans (hcell k hlt)
          have i0' : (0 : Int) ≤ (k : Int) := by omega
          have i1' : (k : Int) < (ks.length : Int) := by omega
          have hble : b < wr.heap.size := by have := hbw.size; omega
          have g2 := hbx.cell 3
          have gl := hbx.lt
          have n2 : wr.cell? ⟨w.heap.size + 1 + 1, 3, none⟩ = some (.slice B3 k d3) := hbn.cell 3
          have nl : w.heap.size + 1 + 1 < wr.heap.size := hbn.lt
          have hdr : Below wr.heap.size wr wr.drew := (Below.refl _ _).drew
          have hod := ho.keep hdr
          have hne : ∀ g, (Value.slice B3 k d3).ownBlock = some g → w.heap.size + 3 ≤ g := fun g hg => by
            have := ho.known.lt g hg
            omega
          have hszd := hdr.size
          have HND := Lib.hid (hbn.below hdr hbn.lt)
          have HXD := Lib.hid (hbx.below hdr hbx.lt)
          have HZD := Lib.hid (hbz.below hdr hbz.lt)
          have HOD := Lib.hid hod
          have HBD := Lib.hid (below_then hbw hdr)
          have HNE := Lib.hid hne
          have HFD := Lib.hid (own_eq hod.known htl rfl)
          clear hcell hbn hbx hbz hne hod hdr ho hbw htl
          go_wp2_with fail
          go_region_law ((refine step_append_sl rfl (.tmp 42) (.tmp 48) 23 rfl (w.heap.size + 3) 3 j0 (.int .i64 0) 1 8 Try.underlying23 hj0 hx0 hx1' hx2' rfl (by decide) _ _ _ (by first | rfl | simp [Act.eval, Act.put]) (HFD.out.alloc _) _ 1 _ (by first | rfl | simp [Act.eval, Act.put]) (Sl.lit' _ _ _ 1 1 _ rfl (by simp)) (ints_one [ks[k]]) (by simp only [maxLen]; omega) (by omega) (by simp; omega) ?_; intro v7 w7 ho7 hg7 ha7; obtain ⟨A7, c7, rfl, hc7⟩ := (Sl.of_own ho7).form; have bn7 := (HND.out.alloc _).grown hg7 (fun e => by have := HNE.out _ e.symm; omega); have c7' : w7.cell? ⟨w.heap.size + 1 + 1, 3, none⟩ = some (.slice B3 k d3) := bn7.cell 3; have f7 : w7.frozen? ⟨w.heap.size + 1 + 1, 3, none⟩ = false := bn7.frozen 3; have l7 : w.heap.size + 1 + 1 < w7.heap.size := bn7.lt))
          all_goals
            have hpu := (HOD.out.pushKnown (x := ks[k]) (n := k) (by simp only [List.length_take]; omega) hg7 ho7).under (a := ⟨w.heap.size + 2, 3, none⟩) (Nat.lt_succ_self _) (.slice A7 (k + 1) c7)
            have hbl7 : Below w.heap.size w w7 := (HBD.out.alloc (by have := HBD.out.size; omega) _).grown hg7 (by have := HBD.out.size; simp; omega) (fun b hb => by have := HNE.out b hb; omega)
            have hs7 := hg7.size
            have bx7 := ((HXD.out.alloc _).grown hg7 (fun e => by have := HNE.out _ e.symm; omega)).far (p := ⟨w.heap.size + 2, 3, none⟩) (by show w.heap.size ≠ w.heap.size + 2; omega) (.slice A7 (k + 1) c7)
            have bz7 := ((HZD.out.alloc _).grown hg7 (fun e => by have := HNE.out _ e.symm; omega)).far (p := ⟨w.heap.size + 2, 3, none⟩) (by show w.heap.size + 1 ≠ w.heap.size + 2; omega) (.slice A7 (k + 1) c7)
            have bn8 := bn7.set_ 3 (.slice A7 (k + 1) c7)
            simp only [List.setIfInBounds_toArray, List.set_cons_succ, List.set_cons_zero] at bn8
            have hbl8 := hbl7.setCell (p := ⟨w.heap.size + 2, 3, none⟩) (Nat.le_add_right _ 2) (.slice A7 (k + 1) c7)
            simp only [← List.take_succ_eq_append_getElem hlt] at hpu
            go_wp2
            go_light
            exact ⟨⟨k + 1, _, _, _, by omega, by go_num, hpu, bx7, bz7, bn8, hbl8, by simp at hs7 ⊢; omega⟩, by simp [intOf]; omega⟩
        · obtain rfl : k = ks.length := by omega
          have ho9 := ho
          simp only [List.take_length] at ho9
          have g9 := hbx.cell 4
          have q9 := hbx.cell 3
          have gl9 := hbx.lt
          obtain ⟨w9, hw9⟩ : ∃ w9, w9 = wr := ⟨_, rfl⟩
          subst hw9
          have O3 := Lib.hid ho9
          have X3 := Lib.hid hbx
          have Z3 := Lib.hid hbz
          have N3 := Lib.hid hbn
          have L3 := Lib.hid hbw
          have hsz3 := hsz
          clear ho9 ho hbx hbz hbn hbw htl hsz hlt
          go_wp2_with fail
          clear g9 gl9 q9
          go_loopw [6] (fun i wr => PcLp w #[.int .i64 ep, .int .i64 ld, .slice A1 is.length c1, .slice A3 ks.length c3, .slice A5 rs.length c5, .int .i64 fw, .int .i64 ba] #[.int .i64 0, .int .i64 0, .slice none 0 0, .slice none 0 0, .slice none 0 0, .int .i64 0, .int .i64 0] rs.length (fun k => ⟨ep, ld, is, ks, rs.take k, fw, ba⟩) i wr) (fun i _ => rs.length - (intOf i).toNat)
          case atStart => exact ⟨0, _, _, _, Nat.zero_le _, rfl, O3.out, X3.out, Z3.out, N3.out, L3.out, hsz3⟩
          case round =>
            obtain ⟨k, iv, kv, rv, hk, rfl, ho, hbx, hbz, hbn, hbw, hsz⟩ := hrel
            have htl : (rs.take k).length = k := by rw [List.length_take]; omega
            obtain ⟨B1, d1, B3, d3, B5, d5, rfl, rfl, rfl⟩ := ho.form
            simp only [htl] at hbn ho
            have g4 := hbx.cell 4
            have gl := hbx.lt
            by_cases hlt : k < rs.length
            · obtain ⟨b, off, rfl, hbb, hcell⟩ := HC.out (by omega)
              obtain ⟨pv, x0, x1, x2, x3, xb, xl⟩ := hcell k hlt
              obtain ⟨A3', c3', rfl, hc3', -⟩ := xb.at_
              have X0 := (hbw.cell (p := ⟨b, off + k * 4, none⟩) hbb).trans x0
              have X1 := (hbw.cell (p := ⟨b, off + k * 4 + 1, none⟩) hbb).trans x1
              have X2 := (hbw.cell (p := ⟨b, off + k * 4 + 2, none⟩) hbb).trans x2
              have X3 := (hbw.cell (p := ⟨b, off + k * 4 + 3, none⟩) hbb).trans x3
              have i0' : (0 : Int) ≤ (k : Int) := by omega
              have i1' : (k : Int) < (rs.length : Int) := by omega
              have hble : b < wr.heap.size := by have := hbw.size; omega
              have XB := Lib.hid (xb.below hbw)
              have HBW := Lib.hid hbw
              have hb4 := H4.out rs[k] (List.getElem_mem _)
              obtain ⟨t, ht⟩ : ∃ t, t = rs[k] := ⟨_, rfl⟩
              have HT := Lib.hid ht.symm
              rw [← ht] at X0 X1 X2 X3 XB hb4 hc3'
              clear ht
              clear x0 x1 x2 x3 hcell xb hbw
              obtain ⟨tu, tb, ts, th⟩ := t
              simp only at *
              go_wp2_with fail
              have bt := (Blk.new wr 71 #[.bool tu, .slice A3' tb.length c3', .int .i64 ts, .int .i64 th]).alloc (.cells #[.slice A3' tb.length c3'] 34)
              have bk := Blk.new_ (wr.alloc (.cells #[.bool tu, .slice A3' tb.length c3', .int .i64 ts, .int .i64 th] 71)) 34 #[.slice A3' tb.length c3'] (g := wr.heap.size + 1) (by simp)
              have hal := ((Below.refl wr.heap.size wr).alloc (Nat.le_refl _) (.cells #[.bool tu, .slice A3' tb.length c3', .int .i64 ts, .int .i64 th] 71)).alloc (by simp) (.cells #[.slice A3' tb.length c3'] 34)
              have hz2 : ((wr.alloc (.cells #[.bool tu, .slice A3' tb.length c3', .int .i64 ts, .int .i64 th] 71)).alloc (.cells #[.slice A3' tb.length c3'] 34)).heap.size = wr.heap.size + 2 := by simp
              generalize (wr.alloc (.cells #[.bool tu, .slice A3' tb.length c3', .int .i64 ts, .int .i64 th] 71)).alloc (.cells #[.slice A3' tb.length c3'] 34) = w2 at *
              refine (bytesCopy_blk (l := tb) rfl bk (XB.out.below hal) hb4).mono ?_
              rintro e w5 ⟨v5, rfl, ho5, hb5⟩
              obtain ⟨A6, c6, rfl, hc6⟩ := (Sl.of_own ho5).form
              have hb6 := below_then hal hb5
              have bt5 := bt.below hb5 bt.lt
              have bx5 := hbx.below hb6 hbx.lt
              have bz5 := hbz.below hb6 hbz.lt
              have bn5 := hbn.below hb6 hbn.lt
              have f1 := bt5.frozen 1
              have e1 := bt5.cell 1
              have tlt := bt5.lt
              have bt6 := bt5.set_ 1 (.slice A6 tb.length c6)
              simp only [List.setIfInBounds_toArray, List.set_cons_succ, List.set_cons_zero] at bt6
              have bn6 := bn5.far (p := ⟨wr.heap.size, 1, none⟩) (by show w.heap.size + 2 ≠ wr.heap.size; omega) (.slice A6 tb.length c6)
              have bx6 := bx5.far (p := ⟨wr.heap.size, 1, none⟩) (by show w.heap.size ≠ wr.heap.size; omega) (.slice A6 tb.length c6)
              have bz6 := bz5.far (p := ⟨wr.heap.size, 1, none⟩) (by show w.heap.size + 1 ≠ wr.heap.size; omega) (.slice A6 tb.length c6)
              have hb6' : Below wr.heap.size wr (w5.setCell ⟨wr.heap.size, 1, none⟩ (.slice A6 tb.length c6)) := hb6.setCell (Nat.le_refl _) _
              have ho5' := own_base (ownsRow_setCell_below ho5 (a := ⟨wr.heap.size, 1, none⟩) (by show wr.heap.size < _; omega) (.slice A6 tb.length c6)) (show w.heap.size + 3 ≤ w2.heap.size by omega)
              have hoK := ho.keep hb6'
              have y0 := bt6.cell 0
              have y1 := bt6.cell 1
              have y2 := bt6.cell 2
              have y3 := bt6.cell 3
              have n4 : (w5.setCell ⟨wr.heap.size, 1, none⟩ (.slice A6 tb.length c6)).cell? ⟨w.heap.size + 1 + 1, 4, none⟩ = some (.slice B5 k d5) := bn6.cell 4
              have nl4 : w.heap.size + 1 + 1 < (w5.setCell ⟨wr.heap.size, 1, none⟩ (.slice A6 tb.length c6)).heap.size := bn6.lt
              have tl6 := bt6.lt
              have hlen6 : w.heap.size + 3 ≤ (w5.setCell ⟨wr.heap.size, 1, none⟩ (.slice A6 tb.length c6)).heap.size := Nat.le_trans hsz hb6'.size
              have hbW := below_then HBW.out hb6'
              obtain ⟨q1, q2, rows, q3, q4, q5⟩ := hoK
              have hot := own_eq q4 htl rfl
              have hne : ∀ g, (Value.slice B5 k d5).ownBlock = some g → w.heap.size + 3 ≤ g := fun g hg => (hot.lt g hg).1
              have Q1 := Lib.hid q1
              have Q2 := Lib.hid q2
              have Q3 := Lib.hid q3
              have Q4 := Lib.hid q4
              have Q5 := Lib.hid q5
              have HNX := Lib.hid bx6
              have HNZ := Lib.hid bz6
              have HNN := Lib.hid bn6
              have HBWW := Lib.hid hbW
              have HO5 := Lib.hid ho5'
              have HNE := Lib.hid hne
              have HOT := Lib.hid hot
              clear bt bt5 bt6 bx5 bz5 bn5 bn6 bx6 bz6 hb6 hb6' ho5 ho5' hb5 hal hne hbx hbz hbn q1 q2 q3 q4 q5 hot hbW bk ho htl
              go_wp2_with (at_builtin; go_must (refine wpList_append_sl _ rfl (.tmp 71) (.tmp 73) 24 rfl (w.heap.size + 3) 71 m0 (.agg #[.bool false, .slice none 0 0, .int .i64 0, .int .i64 0]) 4 48 Try.underlying24 hm0 hz0 hz1 hz2' rfl (by decide) _ _ _ (by rfl) (HOT.out.alloc _) _ 1 _ (by rfl) (Sl.lit' _ _ _ 4 1 _ rfl (by simp)) (rcells_one [(⟨tu, tb, ts, th⟩, .slice A6 tb.length c6)] (by intro t ht; simp only [List.mem_singleton] at ht; subst ht; rfl)) (by simp only [maxLen]; omega) (by omega) (by simp; omega) ?_; intro v7 w7 ho7 hg7 ha7; obtain ⟨A7, c7, rfl, hc7⟩ := (Sl.of_own ho7).form; have bn7 := (HNN.out.alloc _).grown hg7 (fun e => by have := HNE.out _ e.symm; omega); have c7' : w7.cell? ⟨w.heap.size + 1 + 1, 4, none⟩ = some (.slice B5 k d5) := bn7.cell 4; have f7 : w7.frozen? ⟨w.heap.size + 1 + 1, 4, none⟩ = false := bn7.frozen 4; have l7 : w.heap.size + 1 + 1 < w7.heap.size := bn7.lt))
              have hpu := (PO.pushRep (c := ⟨ep, ld, is, ks, rs.take k, fw, ba⟩) (t := ⟨tu, tb, ts, th⟩) (n := k) Q1.out Q2.out Q3.out Q4.out Q5.out (by simp only [List.length_take]; omega) hg7 HO5.out ho7).under (a := ⟨w.heap.size + 2, 4, none⟩) (Nat.lt_succ_self _) (.slice A7 (k + 1) c7)
              have hbl7 : Below w.heap.size w w7 := (HBWW.out.alloc (by have := HBWW.out.size; omega) _).grown hg7 (by have := HBWW.out.size; simp at this ⊢; omega) (fun b hb => by have := HNE.out b hb; omega)
              have hs7 := hg7.size
              have bx7 := ((HNX.out.alloc _).grown hg7 (fun e => by have := HNE.out _ e.symm; omega)).far (p := ⟨w.heap.size + 2, 4, none⟩) (by show w.heap.size ≠ w.heap.size + 2; omega) (.slice A7 (k + 1) c7)
              have bz7 := ((HNZ.out.alloc _).grown hg7 (fun e => by have := HNE.out _ e.symm; omega)).far (p := ⟨w.heap.size + 2, 4, none⟩) (by show w.heap.size + 1 ≠ w.heap.size + 2; omega) (.slice A7 (k + 1) c7)
              have bn8 := bn7.set_ 4 (.slice A7 (k + 1) c7)
              simp only [List.setIfInBounds_toArray, List.set_cons_succ, List.set_cons_zero] at bn8
              have hbl8 := hbl7.setCell (p := ⟨w.heap.size + 2, 4, none⟩) (Nat.le_add_right _ 2) (.slice A7 (k + 1) c7)
              have htk : rs.take (k + 1) = rs.take k ++ [⟨tu, tb, ts, th⟩] := by rw [List.take_succ_eq_append_getElem hlt, HT.out]
              simp only [← htk] at hpu
              have hge : (w5.setCell ⟨wr.heap.size, 1, none⟩ (.slice A6 tb.length c6)).heap.size ≤ w7.heap.size := Nat.le_trans (by simp) hs7
              go_light
              exact ⟨⟨k + 1, _, _, _, by omega, by go_num, hpu, bx7, bz7, bn8, hbl8, by simp only [World.size_setCell]; omega⟩, by simp [intOf]; omega⟩
            · obtain rfl : k = rs.length := by omega
              simp only [List.take_length] at ho
              have HO := Lib.hid ho
              have BZ := Lib.hid hbz
              have HBW := Lib.hid hbw
              have q0 := hbn.cell 0
              have q1 := hbn.cell 1
              have q2 := hbn.cell 2
              have q3 := hbn.cell 3
              have q4 := hbn.cell 4
              have q5 := hbn.cell 5
              have q6 := hbn.cell 6
              have ql := hbn.lt
              have zl := hbz.lt
              have z0 := hbz.cell 0
              have zf0 := hbz.frozen 0
              have z1 := hbz.cell 1
              have zf1 := hbz.frozen 1
              have z2 := hbz.cell 2
              have zf2 := hbz.frozen 2
              have z3 := hbz.cell 3
              have zf3 := hbz.frozen 3
              have z4 := hbz.cell 4
              have zf4 := hbz.frozen 4
              have z5 := hbz.cell 5
              have zf5 := hbz.frozen 5
              have z6 := hbz.cell 6
              have zf6 := hbz.frozen 6
              clear ho hbz hbn hbw
              go_wp2
              have HB5 := (((((((BZ.out).set_ 0 (.int .i64 ep)).set_ 1 (.int .i64 ld)).set_ 2 (.slice B1 is.length d1)).set_ 3 (.slice B3 ks.length d3)).set_ 4 (.slice B5 rs.length d5)).set_ 5 (.int .i64 fw)).set_ 6 (.int .i64 ba)
              have HO5 := (((((((HO.out).under (a := ⟨w.heap.size + 1, 0, none⟩) (by simp) (.int .i64 ep)).under (a := ⟨w.heap.size + 1, 1, none⟩) (by simp) (.int .i64 ld)).under (a := ⟨w.heap.size + 1, 2, none⟩) (by simp) (.slice B1 is.length d1)).under (a := ⟨w.heap.size + 1, 3, none⟩) (by simp) (.slice B3 ks.length d3)).under (a := ⟨w.heap.size + 1, 4, none⟩) (by simp) (.slice B5 rs.length d5)).under (a := ⟨w.heap.size + 1, 5, none⟩) (by simp) (.int .i64 fw)).under (a := ⟨w.heap.size + 1, 6, none⟩) (by simp) (.int .i64 ba)
              have HL5 := (((((((HBW.out).setCell (p := ⟨w.heap.size + 1, 0, none⟩) (Nat.le_succ _) (.int .i64 ep)).setCell (p := ⟨w.heap.size + 1, 1, none⟩) (Nat.le_succ _) (.int .i64 ld)).setCell (p := ⟨w.heap.size + 1, 2, none⟩) (Nat.le_succ _) (.slice B1 is.length d1)).setCell (p := ⟨w.heap.size + 1, 3, none⟩) (Nat.le_succ _) (.slice B3 ks.length d3)).setCell (p := ⟨w.heap.size + 1, 4, none⟩) (Nat.le_succ _) (.slice B5 rs.length d5)).setCell (p := ⟨w.heap.size + 1, 5, none⟩) (Nat.le_succ _) (.int .i64 fw)).setCell (p := ⟨w.heap.size + 1, 6, none⟩) (Nat.le_succ _) (.int .i64 ba)
              generalize ((((((wr.setCell ⟨w.heap.size + 1, 0, none⟩ (.int .i64 ep)).setCell ⟨w.heap.size + 1, 1, none⟩ (.int .i64 ld)).setCell ⟨w.heap.size + 1, 2, none⟩ (.slice B1 is.length d1)).setCell ⟨w.heap.size + 1, 3, none⟩ (.slice B3 ks.length d3)).setCell ⟨w.heap.size + 1, 4, none⟩ (.slice B5 rs.length d5)).setCell ⟨w.heap.size + 1, 5, none⟩ (.int .i64 fw)).setCell ⟨w.heap.size + 1, 6, none⟩ (.int .i64 ba) = W5 at *
              simp only [List.setIfInBounds_toArray, List.set_cons_succ, List.set_cons_zero] at HB5
              have y0 := HB5.cell 0
              have y1 := HB5.cell 1
              have y2 := HB5.cell 2
              have y3 := HB5.cell 3
              have y4 := HB5.cell 4
              have y5 := HB5.cell 5
              have y6 := HB5.cell 6
              exact bodyPost_ret (v := .agg #[.int .i64 ep, .int .i64 ld, .slice B1 is.length d1, .slice B3 ks.length d3, .slice B5 rs.length d5, .int .i64 fw, .int .i64 ba]) (by simp [results, Try.results47, go_sem, y0, y1, y2, y3, y4, y5, y6]) rfl ⟨_, _, _, rfl, HO5.more (by omega), HL5⟩
theorem refPartCopy_ok {v : Value} {c : PartD} {w : World} (h : Pv w v c) (hs : PSm c) : Calls Try.prog 47 #[v] w (CopiesP c w) := by
  have s1 := hs.isr
  have s2 := hs.known
  have s3 := hs.reps
  exact refPartCopy_any v c w h (by omega) (by omega) (by omega) (fun t ht => by have := hs.bytes t ht; omega)
end Go.Proofs.Ytpjjfnpdopdnkaa
namespace Go.Proofs.Ytpjjfnpdopdnkaa
open Go.RowKit

structure PrD where
  ver : Int
  seq : Int
  opn : Int
  mark : Int
def prZ : PrD := ⟨0, -1, -1, -1⟩
def prVer (e : Ent) (q : PrD) : PrD := if e.ver = q.ver then q else ⟨e.ver, -1, q.opn, q.mark⟩
def prKind (i : Nat) (e : Ent) (q : PrD) : PrD := if e.kind = 1 then ⟨q.ver, e.seq, if e.txn = true ∧ q.opn < 0 then (i : Int) else q.opn, q.mark⟩ else ⟨q.ver, q.seq, -1, (i : Int)⟩
def prNext (i : Nat) (e : Ent) (q : PrD) : PrD := prKind i e (prVer e q)
/-- what the first k entries tell of the producer pid -/
def prTo (es : List Ent) (pid : Int) : Nat → Option PrD
  | 0 => none
  | k + 1 => match es[k]? with
    | some e => if e.pid = pid then some (prNext k e ((prTo es pid k).getD prZ)) else prTo es pid k
    | none => prTo es pid k
def verTo (es : List Ent) (pid : Int) : Nat → Int
  | 0 => -1
  | k + 1 => match es[k]? with
    | some e => if e.pid = pid then e.ver else verTo es pid k
    | none => verTo es pid k
/-- the last number, and its version -/
def seqTo (es : List Ent) (pid : Int) : Nat → Int × Int
  | 0 => (-1, -1)
  | k + 1 => match es[k]? with
    | some e => if e.pid = pid then (if e.kind = 1 then e.seq else if e.ver = (seqTo es pid k).2 then (seqTo es pid k).1 else -1, e.ver) else seqTo es pid k
    | none => seqTo es pid k
def markTo (es : List Ent) (pid : Int) : Nat → Int
  | 0 => -1
  | k + 1 => match es[k]? with
    | some e => if e.pid = pid ∧ e.kind ≠ 1 then (k : Int) else markTo es pid k
    | none => markTo es pid k
def openTo (es : List Ent) (pid : Int) : Nat → Int
  | 0 => -1
  | k + 1 => match es[k]? with
    | some e => if e.pid = pid then (if e.kind = 1 then (if e.txn = true ∧ openTo es pid k < 0 then (k : Int) else openTo es pid k) else -1) else openTo es pid k
    | none => openTo es pid k
section
variable {es : List Ent} {pid : Int} {k : Nat}
theorem prTo_hit (h : k < es.length) (hp : es[k].pid = pid) : prTo es pid (k + 1) = some (prNext k es[k] ((prTo es pid k).getD prZ)) := by
  rw [prTo, List.getElem?_eq_getElem h]; simp [hp]
theorem prTo_miss (h : k < es.length) (hp : es[k].pid ≠ pid) : prTo es pid (k + 1) = prTo es pid k := by
  rw [prTo, List.getElem?_eq_getElem h]; simp [hp]
theorem verTo_hit (h : k < es.length) (hp : es[k].pid = pid) : verTo es pid (k + 1) = es[k].ver := by
  rw [verTo, List.getElem?_eq_getElem h]; simp [hp]
theorem verTo_miss (h : k < es.length) (hp : es[k].pid ≠ pid) : verTo es pid (k + 1) = verTo es pid k := by
  rw [verTo, List.getElem?_eq_getElem h]; simp [hp]
theorem seqTo_hit (h : k < es.length) (hp : es[k].pid = pid) : seqTo es pid (k + 1) = (if es[k].kind = 1 then es[k].seq else if es[k].ver = (seqTo es pid k).2 then (seqTo es pid k).1 else -1, es[k].ver) := by
  rw [seqTo, List.getElem?_eq_getElem h]; simp [hp]
theorem seqTo_miss (h : k < es.length) (hp : es[k].pid ≠ pid) : seqTo es pid (k + 1) = seqTo es pid k := by
  rw [seqTo, List.getElem?_eq_getElem h]; simp [hp]
theorem markTo_hit (h : k < es.length) (hp : es[k].pid = pid) (hk : es[k].kind ≠ 1) : markTo es pid (k + 1) = k := by
  rw [markTo, List.getElem?_eq_getElem h]; simp [hp, hk]
theorem markTo_miss (h : k < es.length) (hp : ¬ (es[k].pid = pid ∧ es[k].kind ≠ 1)) : markTo es pid (k + 1) = markTo es pid k := by
  rw [markTo, List.getElem?_eq_getElem h]; simp only [if_neg hp]
theorem openTo_hit (h : k < es.length) (hp : es[k].pid = pid) : openTo es pid (k + 1) = if es[k].kind = 1 then (if es[k].txn = true ∧ openTo es pid k < 0 then (k : Int) else openTo es pid k) else -1 := by
  rw [openTo, List.getElem?_eq_getElem h]; simp [hp]
theorem openTo_miss (h : k < es.length) (hp : es[k].pid ≠ pid) : openTo es pid (k + 1) = openTo es pid k := by
  rw [openTo, List.getElem?_eq_getElem h]; simp [hp]
/-- no entry of a version below 0 -/
def VerOk (es : List Ent) : Prop := ∀ (k : Nat) (h : k < es.length), 0 ≤ es[k].ver
/-- what the four loops say of the producer -/
def PrSays (es : List Ent) (pid : Int) (k : Nat) : Option PrD → Prop
  | none => verTo es pid k = -1 ∧ seqTo es pid k = (-1, -1) ∧ markTo es pid k = -1 ∧ openTo es pid k = -1
  | some q => verTo es pid k = q.ver ∧ seqTo es pid k = (q.seq, q.ver) ∧ markTo es pid k = q.mark ∧ openTo es pid k = q.opn ∧ 0 ≤ q.ver
theorem prTo_says (hv : VerOk es) : ∀ k : Nat, k ≤ es.length → PrSays es pid k (prTo es pid k)
  | 0, _ => ⟨rfl, rfl, rfl, rfl⟩
  | k + 1, h => by
    have ih := prTo_says hv k (by omega)
    have hlt : k < es.length := by omega
    by_cases hp : es[k].pid = pid
    · rw [prTo_hit hlt hp]
      have v0 := hv k hlt
      have e1 := verTo_hit hlt hp
      have e2 := seqTo_hit hlt hp
      have e4 := openTo_hit hlt hp
      have e3 : markTo es pid (k + 1) = if es[k].kind = 1 then markTo es pid k else (k : Int) := by
        by_cases hk : es[k].kind = 1
        · rw [if_pos hk]; exact markTo_miss hlt (fun h => h.2 hk)
        · rw [if_neg hk]; exact markTo_hit hlt hp hk
      cases hq : prTo es pid k with
      | none =>
        rw [hq] at ih
        obtain ⟨h1, h2, h3, h4⟩ := ih
        rw [h2] at e2
        rw [h3] at e3
        rw [h4] at e4
        simp only [PrSays, Option.getD_none, prNext, prVer, prKind, prZ, e1, e2, e3, e4]
        by_cases hk : es[k].kind = 1 <;> by_cases hz : es[k].ver = 0 <;> simp [hk, hz, v0]
        all_goals omega
      | some q =>
        rw [hq] at ih
        obtain ⟨h1, h2, h3, h4, h5⟩ := ih
        rw [h2] at e2
        rw [h3] at e3
        rw [h4] at e4
        simp only [PrSays, Option.getD_some, prNext, prVer, prKind, e1, e2, e3, e4]
        by_cases hk : es[k].kind = 1 <;> by_cases hz : es[k].ver = q.ver <;> simp [hk, hz, v0, h5]
    · rw [prTo_miss hlt hp]
      have e1 := verTo_miss hlt hp
      have e2 := seqTo_miss hlt hp
      have e3 := markTo_miss (es := es) (pid := pid) hlt (fun h => hp h.1)
      have e4 := openTo_miss hlt hp
      unfold PrSays at ih ⊢
      rw [e1, e2, e3, e4]
      exact ih
theorem markTo_bound : ∀ k : Nat, k ≤ es.length → -1 ≤ markTo es pid k ∧ markTo es pid k < k
  | 0, _ => by simp [markTo]
  | k + 1, h => by
    have ih := markTo_bound k (by omega)
    have hlt : k < es.length := by omega
    by_cases hp : es[k].pid = pid ∧ es[k].kind ≠ 1
    · rw [markTo_hit hlt hp.1 hp.2]; omega
    · rw [markTo_miss hlt hp]; omega
theorem openTo_bound : ∀ k : Nat, k ≤ es.length → -1 ≤ openTo es pid k ∧ openTo es pid k < k
  | 0, _ => by simp [openTo]
  | k + 1, h => by
    have ih := openTo_bound k (by omega)
    have hlt : k < es.length := by omega
    by_cases hp : es[k].pid = pid
    · rw [openTo_hit hlt hp]
      split
      · split <;> omega
      · omega
    · rw [openTo_miss hlt hp]; omega
/-- an entry that opens a transaction of pid's -/
def Hit (es : List Ent) (pid : Int) (i : Nat) : Prop := ∃ h : i < es.length, es[i].pid = pid ∧ es[i].txn = true ∧ es[i].kind = 1
/-- r: the first behind m that does; -1: none -/
def First (es : List Ent) (pid m : Int) (n : Nat) (r : Int) : Prop := r = -1 ∧ (∀ i : Nat, m < i → i < n → ¬ Hit es pid i) ∨ ∃ j : Nat, r = j ∧ m < j ∧ j < n ∧ Hit es pid j ∧ ∀ i : Nat, m < i → i < j → ¬ Hit es pid i
theorem First.unique {m : Int} {n : Nat} {r s : Int} (h1 : First es pid m n r) (h2 : First es pid m n s) : r = s := by
  rcases h1 with ⟨rfl, h1⟩ | ⟨j, rfl, a1, a2, a3, a4⟩ <;> rcases h2 with ⟨rfl, h2⟩ | ⟨j', rfl, b1, b2, b3, b4⟩
  · rfl
  · exact absurd b3 (h1 j' b1 b2)
  · exact absurd a3 (h2 j a1 a2)
  · rcases Nat.lt_trichotomy j j' with h | h | h
    · exact absurd a3 (b4 j a1 h)
    · rw [h]
    · exact absurd b3 (a4 j' b1 h)
theorem openTo_first : ∀ k : Nat, k ≤ es.length → First es pid (markTo es pid k) k (openTo es pid k)
  | 0, _ => Or.inl ⟨rfl, fun i _ h => by omega⟩
  | k + 1, h => by
    have ih := openTo_first k (by omega)
    have mb := markTo_bound (es := es) (pid := pid) k (by omega)
    have hlt : k < es.length := by omega
    by_cases hp : es[k].pid = pid
    · rw [openTo_hit hlt hp]
      by_cases hk : es[k].kind = 1
      · rw [if_pos hk, markTo_miss hlt (fun h => h.2 hk)]
        by_cases ht : es[k].txn = true ∧ openTo es pid k < 0
        · rw [if_pos ht]
          rcases ih with ⟨_, h2⟩ | ⟨j, h1, _⟩
          · exact Or.inr ⟨k, rfl, mb.2, Nat.lt_succ_self _, ⟨hlt, hp, ht.1, hk⟩, h2⟩
          · rw [h1] at ht; omega
        · rw [if_neg ht]
          rcases ih with ⟨h1, h2⟩ | ⟨j, h1, h2, h3, h4⟩
          · refine Or.inl ⟨h1, fun i hi hi' => ?_⟩
            rcases Nat.lt_succ_iff_lt_or_eq.1 hi' with h' | rfl
            · exact h2 i hi h'
            · rintro ⟨_, _, h5, _⟩
              exact ht ⟨h5, by omega⟩
          · exact Or.inr ⟨j, h1, h2, by omega, h4⟩
      · rw [if_neg hk, markTo_hit hlt hp hk]
        exact Or.inl ⟨rfl, fun i hi hi' => by omega⟩
    · rw [openTo_miss hlt hp, markTo_miss hlt (fun h => hp h.1)]
      rcases ih with ⟨h1, h2⟩ | ⟨j, h1, h2, h3, h4⟩
      · refine Or.inl ⟨h1, fun i hi hi' => ?_⟩
        rcases Nat.lt_succ_iff_lt_or_eq.1 hi' with h' | rfl
        · exact h2 i hi h'
        · rintro ⟨_, h5, _⟩; exact hp h5
      · exact Or.inr ⟨j, h1, h2, by omega, h4⟩
end
end Go.Proofs.Ytpjjfnpdopdnkaa
namespace Go.Proofs.Ytpjjfnpdopdnkaa
open Go.RowKit

/-- how a pointer to a producer reads -/
def ptrR : Value → Option (DataW Unit × List MemPlace)
  | .pointer none => some (.nil, [])
  | .pointer (some ⟨b, 0, none⟩) => some (.lit (.int .i64 b), [])
  | _ => none
def ptrV : Option Nat → Value
  | none => .pointer none
  | some b => .pointer (some ⟨b, 0, none⟩)
def ptrD (r : Option Nat) (zd : DataW Unit) : DataW Unit := match r with
  | none => zd
  | some b => .lit (.int .i64 b)
theorem ptrR_inv {v : Value} {y : DataW Unit × List MemPlace} (h : ptrR v = some y) : ∃ r, v = ptrV r ∧ y.1 = ptrD r .nil := by
  unfold ptrR at h
  split at h
  · cases h; exact ⟨none, rfl, rfl⟩
  · rename_i b
    cases h; exact ⟨some b, rfl, rfl⟩
  · cases h
theorem ptrD_inj {r s : Option Nat} (h : ptrD r .nil = ptrD s .nil) : r = s := by
  cases r <;> cases s <;> simp [ptrD] at h
  · rfl
  · exact congrArg some (by omega)
def pkey (pid : Int) : Lit := .int .i64 pid
def prCells (q : PrD) : Array Value := #[.int .i64 q.ver, .int .i64 q.seq, .int .i64 q.opn, .int .i64 q.mark]
/-- block M is a map of producers: f says where each lies, g what it is -/
structure PrMap (base : Nat) (w : World) (M n : Nat) (f : Int → Option Nat) (g : Int → Option PrD) : Prop where
  map : ∃ D, w.ownsMap Try.prog 3 ptrR M n D ∧ ∀ pid zd, D.atKey (pkey pid) zd = ptrD (f pid) zd
  blk : ∀ pid b, f pid = some b → base ≤ b ∧ ∃ q, g pid = some q ∧ Blk w b 110 (prCells q)
  none_ : ∀ pid, f pid = none → g pid = none
  inj : ∀ p p' b, f p = some b → f p' = some b → p = p'
theorem pkey_is (pid : Int) : WideAt.IsKeyLit (pkey pid) := by simp [pkey, WideAt.IsKeyLit]
theorem pkey_of {pid : Int} (h : (Lit.int .i64 pid).wf = true) : keyOf Try.prog 3 (.int .i64 pid) = some (pkey pid) := by
  have := Try.underlying3
  simp [keyOf, this, mapKey, pkey, h]
section
variable {base n M : Nat} {w w' : World} {f : Int → Option Nat} {g : Int → Option PrD}
theorem PrMap.lt (h : PrMap base w M n f g) : M < w.heap.size := by
  obtain ⟨D, h1, _⟩ := h.map
  exact h1.lt
theorem PrMap.ne (h : PrMap base w M n f g) {b : Nat} {t : TypeId} {cs : Array Value} (hb : Blk w b t cs) : M ≠ b := by
  obtain ⟨D, ⟨es, clock, h1, _⟩, _⟩ := h.map
  rintro rfl
  have h2 : w.heap[M]? = _ := hb
  rw [h1] at h2
  cases h2
theorem PrMap.made (w : World) (base : Nat) : PrMap base (w.alloc (.map #[] 0)) w.heap.size 0 (fun _ => none) (fun _ => none) :=
  ⟨⟨_, World.ownsMap_made w _ _ _, fun pid zd => rfl⟩, fun _ _ h => by simp at h, fun _ _ => rfl, fun _ _ _ h => by simp at h⟩
theorem PrMap.mono (h : PrMap base w M n f g) {n' : Nat} (hn : n ≤ n') : PrMap base w M n' f g := by
  obtain ⟨⟨D, h1, h2⟩, h3, h4, h5⟩ := h
  exact ⟨⟨D, h1.mono hn, h2⟩, h3, h4, h5⟩
theorem PrMap.keep (h : PrMap base w M n f g) (hb : Below w.heap.size w w') : PrMap base w' M n f g := by
  obtain ⟨⟨D, h1, h2⟩, h3, h4, h5⟩ := h
  refine ⟨⟨D, h1.kept (⟨hb.os, hb.tape, hb.output, hb.size, fun i hi _ => hb.block i hi⟩ : w.grownBy w' none) (by simp), h2⟩, fun pid b hf => ?_, h4, h5⟩
  obtain ⟨h6, q, h7, h8⟩ := h3 pid b hf
  exact ⟨h6, q, h7, h8.below hb h8.lt⟩
/-- one producer was written -/
theorem PrMap.turn (h : PrMap base w M n f g) {pid : Int} {b : Nat} (hf : f pid = some b) (hg : w.grownBy w' (some b)) {q : PrD} (hb : Blk w' b 110 (prCells q)) : PrMap base w' M n f (fun p => if p = pid then some q else g p) := by
  obtain ⟨h6, q0, h7, h8⟩ := h.blk pid b hf
  have hne := h.ne h8
  obtain ⟨⟨D, h1, h2⟩, h3, h4, h5⟩ := h
  refine ⟨⟨D, h1.kept hg (fun e => by injection e with e; exact hne e), h2⟩, fun p b' hf' => ?_, fun p hp => ?_, h5⟩
  · obtain ⟨a1, q', a2, a3⟩ := h3 p b' hf'
    by_cases hp : p = pid
    · subst hp
      rw [hf] at hf'
      cases hf'
      exact ⟨a1, q, by simp, hb⟩
    · refine ⟨a1, q', by simp [hp, a2], a3.grown hg (fun e => ?_)⟩
      injection e with e
      subst e
      exact hp (h5 _ _ _ hf' hf)
  · by_cases hp' : p = pid
    · subst hp'; rw [hf] at hp; simp at hp
    · simp [hp', h4 p hp]
/-- a producer is laid into the map -/
theorem PrMap.put {D : DataW Unit} (h : PrMap base w M n f g) (hD : w.ownsMap Try.prog 3 ptrR M n D) (ha : ∀ pid zd, D.atKey (pkey pid) zd = ptrD (f pid) zd) {pid : Int} {b : Nat} {q : PrD} (hfree : f pid = none) (hb : Blk w b 110 (prCells q)) (hbb : base ≤ b) (hnew : ∀ p b', f p = some b' → b' ≠ b)
    (hg : w.grownBy w' (some M)) (hput : w'.ownsMap Try.prog 3 ptrR M (n + 1) (D.put (pkey pid) (.lit (.int .i64 b)))) : PrMap base w' M (n + 1) (fun p => if p = pid then some b else f p) (fun p => if p = pid then some q else g p) := by
  have hMb := h.ne hb
  obtain ⟨_, h3, h4, h5⟩ := h
  have hcan := hD.canon (Maps.int_keyed Try.underlying3)
  obtain ⟨es, he, -⟩ := hcan
  have hm : Maps.IsMap D := ⟨es, he⟩
  refine ⟨⟨_, hput, fun p zd => ?_⟩, fun p b' hf' => ?_, fun p hp => ?_, fun p p' b' e1 e2 => ?_⟩
  · by_cases hp : p = pid
    · subst hp
      rw [Maps.atKey_put_same hm (pkey_is p)]
      simp [ptrD]
    · rw [Maps.atKey_put_other (fun e => hp (by simpa [pkey] using e)), ha]
      simp [hp]
  · by_cases hp : p = pid
    · subst hp
      simp only [if_pos] at hf'
      cases hf'
      exact ⟨hbb, q, by simp, hb.grown hg (fun e => by injection e with e; exact hMb e.symm)⟩
    · rw [if_neg hp] at hf'
      obtain ⟨a1, q', a2, a3⟩ := h3 p b' hf'
      refine ⟨a1, q', by simp [hp, a2], a3.grown hg (fun e => ?_)⟩
      injection e with e
      obtain ⟨D0, ⟨es0, clock, c1, _⟩⟩ : ∃ D0, w.ownsMap Try.prog 3 ptrR M n D0 := ⟨D, hD⟩
      have c2 : w.heap[b']? = _ := a3
      rw [e, c1] at c2
      cases c2
  · by_cases hp' : p = pid
    · subst hp'; simp at hp
    · rw [if_neg hp'] at hp
      simp [hp', h4 p hp]
  · by_cases hp : p = pid <;> by_cases hp' : p' = pid
    · rw [hp, hp']
    · rw [if_pos hp] at e1; rw [if_neg hp'] at e2; cases e1
      exact absurd rfl (hnew p' _ e2)
    · rw [if_neg hp] at e1; rw [if_pos hp'] at e2; cases e2
      exact absurd rfl (hnew p _ e1)
    · rw [if_neg hp] at e1; rw [if_neg hp'] at e2
      exact h5 p p' b' e1 e2
end
/-- 'm[k]': the pointer, or nil -/
theorem wpList_lookup_pr (w : World) {ops : Array Oper} {rest : List Oper} {o : Oper} {a : Act} {Q : Exit → Act → World → Prop}
    (hg : o.guard = none) (m x : Operand) (t : TypeId) (hop : o.op = Op.lookup t m x false) (ht : Try.prog.underlying t = some (.map 3 106))
    {base M n : Nat} {f : Int → Option Nat} {g : Int → Option PrD} (h : PrMap base w M n f g) (hm : a.eval m = .map (some M)) (pid : Int) (hx : a.eval x = .int .i64 pid) (hwf : (Lit.int .i64 pid).wf = true) (r : Option Nat) (hr : f pid = r)
    (hK : wpList Try.prog ops Q rest (a.put o.dst (ptrV r)) w) : wpList Try.prog ops Q (o :: rest) a w := by
  obtain ⟨D, hown, ha⟩ := h.map
  refine wpList_plain hg fun K' hK' => ?_
  obtain ⟨v, ps, hrun, hat⟩ := hown.lookup (Maps.int_keyed Try.underlying3) ht (z := .pointer none) (show (zeroValue 106).run Try.prog w = .ok (.pointer none) w by kernel_rfl) (zd := .nil) (zp := []) rfl (pkey_of hwf)
  rw [ha, hr] at hat
  obtain ⟨s, rfl, hs⟩ := ptrR_inv hat
  have := ptrD_inj hs
  subst this
  unfold Oper.wp
  simp [execOp, hop, hm, hx, hrun, Result.andThen]
  exact hK' _ _ hK
end Go.Proofs.Ytpjjfnpdopdnkaa
