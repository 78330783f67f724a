/- What coord.End answers; a row of a coordinator read or written; a producer that is known. -/
import Derived.Test.YtjkoceacjbhblaaCoordR
import Derived.Test.YtjkoceacjbhblaaKnownF
import Derived.Test.YtjkoceacjbhblaaKnownN
import Derived.Test.YtjkoceacjbhblaaKnownV
import Derived.Test.YtjkoceacjbhblaaKnownG
import Derived.Test.YtjkoceacjbhblaaKFault
namespace Go.Proofs.Ytjkoceacjbhblaa
open Go.RowKit

theorem known_refuses {v : Value} {c : CoordD} {s : ByteArray} {ver n : Int} {w : World} (h : Cv w v c) (hf : KnownFault c s ver n) : Calls Try.prog 91 #[v, .string s, .int .i64 ver] w (Refuses n w) := by
  have hn0 := hf.ne
  rcases hf with hf | ⟨h1, h2, ⟨h3, rfl⟩ | ⟨i, hl, h3, h4, rfl⟩⟩
  · exact known_fault v c s ver n hf hn0 w h
  · exact known_none v c s ver h1 h2 h3 w h
  · exact known_ver v c s ver i h1 h2 h3 hl h4 w h
theorem kfault_any {v : Value} {c : CoordD} {s : ByteArray} {ver n : Int} {w : World} (h : Cv w v c) (hf : KnownFault c s ver n) (hnm : ∀ t ∈ c.txns, t.name.size ≤ 9223372036854775807) (hs : s.size ≤ 9223372036854775807) :
    Calls Try.prog 92 #[v, .string s, .int .i64 ver] w fun e w' => e = .returned (.int .i64 n) ∧ Below w.heap.size w w' := by
  have hn0 := hf.ne
  rcases hf with hf | ⟨h1, h2, ⟨h3, rfl⟩ | ⟨i, hl, h3, h4, rfl⟩⟩
  · exact knownFault_name v c s ver n hf hn0 w h hnm hs
  · exact knownFault_none v c s ver h1 h2 h3 w h hnm hs
  · exact knownFault_ver v c s ver i h1 h2 h3 hl h4 w h hnm hs
theorem Txs.row {w w' : World} {A : Option Addr} {n m : Nat} {ds : List TxnD} (h : Txs w (.slice A n m) ds) (hb : Below w.heap.size w w') (i : Nat) (hi : i < ds.length) :
    ∃ b off A3 m3, A = some ⟨b, off, none⟩ ∧ b < w.heap.size ∧ w'.cell? ⟨b, off + i * 7, none⟩ = some (.string ds[i].name) ∧ w'.cell? ⟨b, off + i * 7 + 1, none⟩ = some (.int .i64 ds[i].pid) ∧ w'.cell? ⟨b, off + i * 7 + 2, none⟩ = some (.int .i64 ds[i].ver) ∧ w'.cell? ⟨b, off + i * 7 + 3, none⟩ = some (.int .i64 ds[i].state) ∧
      w'.cell? ⟨b, off + i * 7 + 4, none⟩ = some (.slice A3 ds[i].parts.length m3) ∧ w'.cell? ⟨b, off + i * 7 + 5, none⟩ = some (.int .i64 ds[i].since) ∧ w'.cell? ⟨b, off + i * 7 + 6, none⟩ = some (.int .i64 ds[i].done) ∧ Is w (.slice A3 ds[i].parts.length m3) ds[i].parts := by
  obtain ⟨A', m', hv, -, hq⟩ := h.at_
  injection hv with h1 h2 h3
  subst h1
  obtain ⟨b, off, rfl, hbl, hcell⟩ := hq (by omega)
  obtain ⟨pv, x0, x1, x2, x3, x4, x5, x6, xi, -⟩ := hcell i hi
  obtain ⟨A3, m3, rfl, -⟩ := Sl.form xi
  have k : ∀ o, w'.cell? ⟨b, o, none⟩ = w.cell? ⟨b, o, none⟩ := fun o => hb.cell (p := ⟨b, o, none⟩) hbl
  exact ⟨b, off, A3, m3, rfl, hbl, (k _).trans x0, (k _).trans x1, (k _).trans x2, (k _).trans x3, (k _).trans x4, (k _).trans x5, (k _).trans x6, xi⟩
theorem Txs.rowAt {w w' : World} {b off n m : Nat} {ds : List TxnD} (h : Txs w (.slice (some ⟨b, off, none⟩) n m) ds) (hb : Below w.heap.size w w') (i : Nat) (hi : i < ds.length) :
    b < w.heap.size ∧ ∃ A3 m3, w'.cell? ⟨b, off + i * 7, none⟩ = some (.string ds[i].name) ∧ w'.cell? ⟨b, off + i * 7 + 1, none⟩ = some (.int .i64 ds[i].pid) ∧ w'.cell? ⟨b, off + i * 7 + 2, none⟩ = some (.int .i64 ds[i].ver) ∧ w'.cell? ⟨b, off + i * 7 + 3, none⟩ = some (.int .i64 ds[i].state) ∧
      w'.cell? ⟨b, off + i * 7 + 4, none⟩ = some (.slice A3 ds[i].parts.length m3) ∧ w'.cell? ⟨b, off + i * 7 + 5, none⟩ = some (.int .i64 ds[i].since) ∧ w'.cell? ⟨b, off + i * 7 + 6, none⟩ = some (.int .i64 ds[i].done) ∧ Is w (.slice A3 ds[i].parts.length m3) ds[i].parts := by
  obtain ⟨b', off', A3, m3, he, r⟩ := h.row hb i hi
  injection he with he
  injection he with h1 h2 _
  subst h1 h2
  exact ⟨r.1, A3, m3, r.2⟩
theorem Own.row {w0 w : World} {base n : Nat} {g m : Nat} {ds : List TxnD} {rows : List (TxnD × Value)} (h : Own w0 w base (.slice (some ⟨g, 0, none⟩) n m) ds rows n) (hn : n = ds.length) (i : Nat) (hi : i < ds.length) :
    base ≤ g ∧ g < w.heap.size ∧ ∃ A3 m3, (w.cell? ⟨g, i * 7, none⟩ = some (.string ds[i].name) ∧ w.cell? ⟨g, i * 7 + 1, none⟩ = some (.int .i64 ds[i].pid) ∧ w.cell? ⟨g, i * 7 + 2, none⟩ = some (.int .i64 ds[i].ver) ∧ w.cell? ⟨g, i * 7 + 3, none⟩ = some (.int .i64 ds[i].state) ∧
      w.cell? ⟨g, i * 7 + 4, none⟩ = some (.slice A3 ds[i].parts.length m3) ∧ w.cell? ⟨g, i * 7 + 5, none⟩ = some (.int .i64 ds[i].since) ∧ w.cell? ⟨g, i * 7 + 6, none⟩ = some (.int .i64 ds[i].done)) ∧ (∀ j, j < 7 → w.frozen? ⟨g, i * 7 + j, none⟩ = false) ∧
      w.ownsRow base 3 1 (.slice A3 ds[i].parts.length m3) ds[i].parts.length (ds[i].parts.map (Value.int .i64)) := by
  subst hn
  have hl := own_rows h.fst
  have hi' : i < rows.length := by omega
  have he := fst_get h.fst hi' hi
  obtain ⟨g', m', hv, hg1, hg2, -, hcell⟩ := h.at_ (by omega)
  injection hv with h1 _ _
  injection h1 with h1
  injection h1 with h1 _ _
  subst h1
  have ho := h.parts rows[i] (List.mem_take_iff_getElem.2 ⟨i, by omega, rfl⟩)
  rw [he] at ho
  obtain ⟨A3, m3, hp, -⟩ := (Sl.of_own ho).form
  rw [hp] at ho
  have k := fun j hj => (hcell i hi' j hj).1
  have k0 := k 0 (by decide)
  have k1 := k 1 (by decide)
  have k2 := k 2 (by decide)
  have k3 := k 3 (by decide)
  have k4 := k 4 (by decide)
  have k5 := k 5 (by decide)
  have k6 := k 6 (by decide)
  simp only [tcells, List.getElem?_cons_zero, List.getElem?_cons_succ, he, hp, Nat.add_zero] at k0 k1 k2 k3 k4 k5 k6
  exact ⟨hg1, hg2, A3, m3, ⟨k0, k1, k2, k3, k4, k5, k6⟩, fun j hj => (hcell i hi' j hj).2, ho⟩
theorem own_ds {w0 w : World} {base n : Nat} {v : Value} {ds ds' : List TxnD} {rows : List (TxnD × Value)} (h : Own w0 w base v ds rows n) (e : ds' = ds) : Own w0 w base v ds' rows n := by subst e; exact h
theorem modify_id {α : Type} (l : List α) (k : Nat) (f : α → α) (h : ∀ hk : k < l.length, f l[k] = l[k]) : l.modify k f = l := by
  apply List.ext_getElem (by simp)
  intro j h1 h2
  rw [List.getElem_modify]
  split
  · rename_i e
    subst e
    exact h h2
  · rfl
theorem upd_fits {c : CoordD} (h : CoordOk c) (i : Nat) (f : TxnD → TxnD) (hf : ∀ t, (f t).parts.length ≤ 4 ∨ (f t).parts = t.parts) : (c.upd i f).Fits := by
  have hc : c.Fits := h.fits
  have hm := h.many
  have key : ∀ t ∈ c.txns.modify i f, t.parts.length ≤ 4 := by
    intro t ht
    obtain ⟨j, hj, rfl⟩ := List.mem_iff_getElem.1 ht
    have hj' : j < c.txns.length := by simpa using hj
    have h4 := (h.all j hj' hj').1.rises.small
    rw [List.getElem_modify]
    split
    · rcases hf c.txns[j] with h1 | h1
      · exact h1
      · rw [h1]; exact h4
    · exact h4
  have hl : (c.txns.modify i f).length ≤ 8 := by simpa using hm
  refine ⟨?_, fun t ht => ?_, ?_, fun t ht => ?_⟩
  · show (c.txns.modify i f).length * 80 ≤ _; omega
  · have := key t ht; omega
  · show (c.txns.modify i f).length ≤ _; omega
  · have := key t ht; omega

/-! End -/
def setState (x : Int) (t : TxnD) : TxnD := ⟨t.name, t.pid, t.ver, x, t.parts, t.since, t.done⟩
def setDone (x : Int) (t : TxnD) : TxnD := ⟨t.name, t.pid, t.ver, t.state, t.parts, t.since, x⟩
def wantOf (commit : Bool) : Int := bif commit then 3 else 4
def EndAt (c : CoordD) (i : Nat) (x : Int) (c' : CoordD) (code : Int) : Prop :=
  ∃ h : i < c.txns.length, (c.txns[i].state = 2 ∧ c' = c.upd i (setState x) ∧ code = 0) ∨ (c.txns[i].state = 1 ∧ (c.txns[i].done = 0 ∨ c.txns[i].done = x) ∧ c' = c.upd i (setDone x) ∧ code = 0) ∨
    (c.txns[i].state = 1 ∧ c.txns[i].done = 7 - x ∧ c' = zeroC ∧ code = 12) ∨ (c.txns[i].state = x ∧ c' = c ∧ code = 0) ∨ (c.txns[i].state = 7 - x ∧ c' = zeroC ∧ code = 12)
def EndTo (c : CoordD) (s : ByteArray) (ver : Int) (commit : Bool) (c' : CoordD) (code : Int) : Prop :=
  (KnownFault c s ver code ∧ c' = zeroC) ∨ ∃ i, Known c s ver i ∧ EndAt c i (wantOf commit) c' code
theorem end_to (c : CoordD) (s : ByteArray) (ver : Int) (commit : Bool) : ∃ c' code, EndTo c s ver commit c' code := by
  rcases known_or c s ver with ⟨n, h⟩ | ⟨i, h⟩
  · exact ⟨zeroC, n, Or.inl ⟨h, rfl⟩⟩
  · obtain ⟨h1, h2, h3, hl, h4⟩ := id h
    have ht := (h1.all i hl hl).1
    have hs := ht.state
    have hd := ht.done
    have key : ∃ c' code, EndAt c i (wantOf commit) c' code := by
      by_cases e2 : c.txns[i].state = 2
      · exact ⟨_, _, hl, Or.inl ⟨e2, rfl, rfl⟩⟩
      · by_cases e1 : c.txns[i].state = 1
        · by_cases e3 : c.txns[i].done = 0 ∨ c.txns[i].done = wantOf commit
          · exact ⟨_, _, hl, Or.inr (Or.inl ⟨e1, e3, rfl, rfl⟩)⟩
          · refine ⟨_, _, hl, Or.inr (Or.inr (Or.inl ⟨e1, ?_, rfl, rfl⟩))⟩
            rcases commit with _ | _ <;> simp only [wantOf, cond_true, cond_false] at * <;> omega
        · by_cases e3 : c.txns[i].state = wantOf commit
          · exact ⟨_, _, hl, Or.inr (Or.inr (Or.inr (Or.inl ⟨e3, rfl, rfl⟩)))⟩
          · refine ⟨_, _, hl, Or.inr (Or.inr (Or.inr (Or.inr ⟨?_, rfl, rfl⟩)))⟩
            rcases commit with _ | _ <;> simp only [wantOf, cond_true, cond_false] at * <;> omega
    obtain ⟨c', code, hk⟩ := key
    exact ⟨c', code, Or.inr ⟨i, h, hk⟩⟩
theorem EndTo.fits {c : CoordD} {s : ByteArray} {ver : Int} {commit : Bool} {c' : CoordD} {code : Int} (h : EndTo c s ver commit c' code) : c'.Fits := by
  rcases h with ⟨-, rfl⟩ | ⟨i, ⟨hk, -⟩, hl, h⟩
  · exact zero_fits
  · rcases h with ⟨-, rfl, -⟩ | ⟨-, -, rfl, -⟩ | ⟨-, -, rfl, -⟩ | ⟨-, rfl, -⟩ | ⟨-, rfl, -⟩
    · exact upd_fits hk i _ fun _ => Or.inr rfl
    · exact upd_fits hk i _ fun _ => Or.inr rfl
    · exact zero_fits
    · exact hk.fits
    · exact zero_fits

end Go.Proofs.Ytjkoceacjbhblaa
