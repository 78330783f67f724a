/- What coord.Init answers. -/
import Derived.Test.YtjkoceacjbhblaaCoordE
namespace Go.Proofs.Ytjkoceacjbhblaa
open Go.RowKit

set_option maxRecDepth 100000 in
set_option maxHeartbeats 1000000 in
theorem endin_any (nm : ByteArray) (pid ver st sn dn : Int) (pv : Value) (w : World) (_ho : pv.oneCell' = true) :
    Calls Try.prog 79 #[.agg #[.string nm, .int .i64 pid, .int .i64 ver, .int .i64 st, pv, .int .i64 sn, .int .i64 dn]] w fun e w' => e = .returned (.bool (st == 3 || st == 4)) ∧ Below w.heap.size w w' := by
  go_enter Try.func79, Try.ntmps79
  go_wp2
  all_goals go_ret
  all_goals exact ⟨ret_bool (by simp_all), (Below.refl _ _).alloc (Nat.le_refl _) _⟩
theorem endin_b {nm : ByteArray} {pid ver st sn dn : Int} {pv : Value} {w : World} (b : Bool) (hb : (st == 3 || st == 4) = b) (ho : pv.oneCell' = true) :
    Calls Try.prog 79 #[.agg #[.string nm, .int .i64 pid, .int .i64 ver, .int .i64 st, pv, .int .i64 sn, .int .i64 dn]] w fun e w' => e = .returned (.bool b) ∧ Below w.heap.size w w' := by
  subst hb
  exact endin_any nm pid ver st sn dn pv w ho
/-- block g holds a coordinator -/
def IsC (w : World) (g : Nat) : Prop := ∃ cs fr, w.heap[g]? = some (.cells cs 28 fr)
theorem Blk.is_ {w : World} {g : Nat} {cs : Array Value} (h : Blk w g 28 cs) : IsC w g := ⟨cs, _, h⟩
theorem Own.farBlk {w0 w : World} {base n g : Nat} {v : Value} {ds : List TxnD} {rows : List (TxnD × Value)} (h : Own w0 w base v ds rows n) (hn : n = ds.length) (hb : IsC w g) (hg : w0.heap.size ≤ g) (j : Nat) (u : Value) : Own w0 (w.setCell ⟨g, j, none⟩ u) base v ds rows n := by
  obtain ⟨cs, fr, hb⟩ := hb
  have hl := own_rows h.fst
  refine ⟨h.fst, own_far h.own hb (by decide) j u, h.bel.setCell hg _, fun t ht => ?_, fun t ht => own_far (h.parts t ht) hb (by decide) j u, h.apart⟩
  rw [List.drop_of_length_le (by omega)] at ht
  simp at ht
theorem IsC.set_ {w : World} {g : Nat} (h : IsC w g) (i : Nat) (u : Value) : IsC (w.setCell ⟨g, i, none⟩ u) g := by
  obtain ⟨cs, fr, h⟩ := h
  refine ⟨cs.setIfInBounds i u, fr, ?_⟩
  simp [World.setCell, Array.getElem?_modify, h]
def bumpT (t : TxnD) : TxnD := ⟨t.name, t.pid, t.ver + 1, t.state, t.parts, t.since, t.done⟩
def raiseT (t : TxnD) : TxnD := ⟨t.name, t.pid, t.ver + 1, 4, t.parts, t.since, t.done⟩
def newT (s : ByteArray) (n : Int) : TxnD := ⟨s, n, 0, 1, [], 0, 0⟩
def pushC (c : CoordD) (s : ByteArray) : CoordD := ⟨c.clock, c.next + 1, c.wait, c.txns ++ [newT s c.next]⟩
def InitNew (c : CoordD) (s : ByteArray) (c' : CoordD) (r0 r1 r2 : Int) : Prop :=
  (c.txns.length = 8 ∧ c' = zeroC ∧ r0 = 0 ∧ r1 = 0 ∧ r2 = 16) ∨ (c.txns.length < 8 ∧ c.next = 1073741824 ∧ c' = zeroC ∧ r0 = 0 ∧ r1 = 0 ∧ r2 = 16) ∨ (c.txns.length < 8 ∧ c.next < 1073741824 ∧ c' = pushC c s ∧ r0 = c.next ∧ r1 = 0 ∧ r2 = 0)
def InitAt (c : CoordD) (i : Nat) (c' : CoordD) (r0 r1 r2 : Int) : Prop := ∃ h : i < c.txns.length,
  (c.txns[i].state = 3 ∧ c' = zeroC ∧ r0 = 0 ∧ r1 = 0 ∧ r2 = 12) ∨ (c.txns[i].state = 4 ∧ c' = zeroC ∧ r0 = 0 ∧ r1 = 0 ∧ r2 = 12) ∨
    (c.txns[i].state = 1 ∧ c.txns[i].ver = 1073741824 ∧ c' = zeroC ∧ r0 = 0 ∧ r1 = 0 ∧ r2 = 2) ∨ (c.txns[i].state = 2 ∧ c.txns[i].ver = 1073741824 ∧ c' = zeroC ∧ r0 = 0 ∧ r1 = 0 ∧ r2 = 2) ∨
    (c.txns[i].state = 1 ∧ c.txns[i].ver < 1073741824 ∧ c' = c.upd i bumpT ∧ r0 = c.txns[i].pid ∧ r1 = c.txns[i].ver + 1 ∧ r2 = 0) ∨
    (c.txns[i].state = 2 ∧ c.txns[i].ver < 1073741824 ∧ c' = c.upd i raiseT ∧ r0 = c.txns[i].pid ∧ r1 = c.txns[i].ver + 1 ∧ r2 = 0)
def InitTo (c : CoordD) (s : ByteArray) (c' : CoordD) (r0 r1 r2 : Int) : Prop :=
  (NameFault c s r2 ∧ c' = zeroC ∧ r0 = 0 ∧ r1 = 0) ∨ (CoordOk c ∧ NameOk s ∧ ((idxOf c.txns s = none ∧ InitNew c s c' r0 r1 r2) ∨ ∃ i, idxOf c.txns s = some i ∧ InitAt c i c' r0 r1 r2))
theorem init_to (c : CoordD) (s : ByteArray) : ∃ c' r0 r1 r2, InitTo c s c' r0 r1 r2 := by
  rcases name_fault_or c s with ⟨n, h⟩ | ⟨h1, h2⟩
  · exact ⟨_, _, _, n, Or.inl ⟨h, rfl, rfl, rfl⟩⟩
  · rcases hi : idxOf c.txns s with _ | i
    · have hm := h1.many
      have hx := h1.next
      by_cases e1 : c.txns.length = 8
      · exact ⟨_, _, _, _, Or.inr ⟨h1, h2, Or.inl ⟨hi, Or.inl ⟨e1, rfl, rfl, rfl, rfl⟩⟩⟩⟩
      · by_cases e2 : c.next = 1073741824
        · exact ⟨_, _, _, _, Or.inr ⟨h1, h2, Or.inl ⟨hi, Or.inr (Or.inl ⟨by omega, e2, rfl, rfl, rfl, rfl⟩)⟩⟩⟩
        · exact ⟨_, _, _, _, Or.inr ⟨h1, h2, Or.inl ⟨hi, Or.inr (Or.inr ⟨by omega, by omega, rfl, rfl, rfl, rfl⟩)⟩⟩⟩
    · have hl := (ix_some hi).1
      have ht := (h1.all i hl hl).1
      have hs := ht.state
      have hv := ht.ver
      have key : ∃ c' r0 r1 r2, InitAt c i c' r0 r1 r2 := by
        by_cases e3 : c.txns[i].state = 3
        · exact ⟨_, _, _, _, hl, Or.inl ⟨e3, rfl, rfl, rfl, rfl⟩⟩
        · by_cases e4 : c.txns[i].state = 4
          · exact ⟨_, _, _, _, hl, Or.inr (Or.inl ⟨e4, rfl, rfl, rfl, rfl⟩)⟩
          · by_cases ev : c.txns[i].ver = 1073741824
            · by_cases e1 : c.txns[i].state = 1
              · exact ⟨_, _, _, _, hl, Or.inr (Or.inr (Or.inl ⟨e1, ev, rfl, rfl, rfl, rfl⟩))⟩
              · exact ⟨_, _, _, _, hl, Or.inr (Or.inr (Or.inr (Or.inl ⟨by omega, ev, rfl, rfl, rfl, rfl⟩)))⟩
            · by_cases e1 : c.txns[i].state = 1
              · exact ⟨_, _, _, _, hl, Or.inr (Or.inr (Or.inr (Or.inr (Or.inl ⟨e1, by omega, rfl, rfl, rfl, rfl⟩))))⟩
              · exact ⟨_, _, _, _, hl, Or.inr (Or.inr (Or.inr (Or.inr (Or.inr ⟨by omega, by omega, rfl, rfl, rfl, rfl⟩))))⟩
      obtain ⟨c', r0, r1, r2, hk⟩ := key
      exact ⟨c', r0, r1, r2, Or.inr ⟨h1, h2, Or.inr ⟨i, hi, hk⟩⟩⟩
theorem push_fits {c : CoordD} (h : CoordOk c) (s : ByteArray) : (pushC c s).Fits := by
  have hm := h.many
  obtain ⟨-, h2, -, h4⟩ := h.fits
  have hl : (pushC c s).txns.length ≤ 9 := by simp [pushC]; omega
  refine ⟨by omega, fun t ht => ?_, by omega, fun t ht => ?_⟩
  · rcases List.mem_append.1 ht with ht | ht
    · exact h2 t ht
    · simp only [List.mem_singleton] at ht; subst ht; simp [newT]
  · rcases List.mem_append.1 ht with ht | ht
    · exact h4 t ht
    · simp only [List.mem_singleton] at ht; subst ht; simp [newT]
theorem InitTo.fits {c : CoordD} {s : ByteArray} {c' : CoordD} {r0 r1 r2 : Int} (h : InitTo c s c' r0 r1 r2) : c'.Fits := by
  rcases h with ⟨-, rfl, -⟩ | ⟨hk, -, ⟨-, h⟩ | ⟨i, -, hl, h⟩⟩
  · exact zero_fits
  · rcases h with ⟨-, rfl, -⟩ | ⟨-, -, rfl, -⟩ | ⟨-, -, rfl, -⟩
    · exact zero_fits
    · exact zero_fits
    · exact push_fits hk s
  · rcases h with ⟨-, rfl, -⟩ | ⟨-, rfl, -⟩ | ⟨-, -, rfl, -⟩ | ⟨-, -, rfl, -⟩ | ⟨-, -, rfl, -⟩ | ⟨-, -, rfl, -⟩
    · exact zero_fits
    · exact zero_fits
    · exact zero_fits
    · exact zero_fits
    · exact upd_fits hk i _ fun _ => Or.inr rfl
    · exact upd_fits hk i _ fun _ => Or.inr rfl

end Go.Proofs.Ytjkoceacjbhblaa
