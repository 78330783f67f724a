/- Parts of a proof, merged: WitA. No condition. -/
import Derived.Test.YtjkoceacjbhblaaGl9
import Derived.Test.YtjkoceacjbhblaaGl8
namespace Go.Proofs.Ytjkoceacjbhblaa
open Go.RowKit

def keptM (q : MemD → Bool) (ms : List MemD) (k : Nat) : List MemD := (ms.take k).filter fun t => !q t
theorem keptM_yes {q : MemD → Bool} {ms : List MemD} {k : Nat} (hk : k < ms.length) (h : q ms[k] = false) : keptM q ms (k + 1) = keptM q ms k ++ [ms[k]] := by
  unfold keptM
  rw [List.take_succ_eq_append_getElem hk, List.filter_append]
  simp [h]
theorem keptM_no {q : MemD → Bool} {ms : List MemD} {k : Nat} (hk : k < ms.length) (h : q ms[k] = true) : keptM q ms (k + 1) = keptM q ms k := by
  unfold keptM
  rw [List.take_succ_eq_append_getElem hk, List.filter_append]
  simp [h]
theorem keptM_le (q : MemD → Bool) (ms : List MemD) (k : Nat) : (keptM q ms k).length ≤ k := by
  unfold keptM
  exact Nat.le_trans (List.length_filter_le _ _) (by rw [List.length_take]; omega)
theorem OwnM.farBlk {w0 w : World} {base k gb : Nat} {v : Value} {ds : List MemD} {rows : List (MemD × Value)} {cs : Array Value} (h : OwnM w0 w base v ds rows k) (hb : Blk w gb 36 cs) (hg : w0.heap.size ≤ gb) (j : Nat) (u : Value) : OwnM w0 (w.setCell ⟨gb, j, none⟩ u) base v ds rows k :=
  ⟨h.fst, own_far h.own hb (by decide) j u, h.bel.setCell hg u, h.old, fun t ht => own_far (h.parts t ht) hb (by decide) j u, h.apart⟩
def KeptPost (g : GroupD) (q : MemD → Bool) (w : World) (e : Ending) (w' : World) : Prop :=
  ∃ mv ov rows, e = .returned (groupV ⟨g.clock, g.wait, g.gen, keptM q g.mems g.mems.length, g.offs⟩ mv ov) ∧ OwnM w w' w.heap.size mv (keptM q g.mems g.mems.length) rows (keptM q g.mems g.mems.length).length ∧ OwnO w' w.heap.size ov g.offs ∧ Below w.heap.size w w'
end Go.Proofs.Ytjkoceacjbhblaa
