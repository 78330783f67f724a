/- Parts of a proof, merged: GStoC. No condition. -/
import Derived.Test.YtjkoceacjbhblaaGs8
namespace Go.Proofs.Ytjkoceacjbhblaa
open Go.RowKit

theorem store_any (v : Value) (g : GroupD) (s : ByteArray) (gen part at_ : Int) (g' : GroupD) (r : Int) (ht : StoreTo g s gen part at_ g' r) (w : World) (h : Gv w v g) : Calls Try.prog 54 #[v, .string s, .int .i64 gen, .int .i64 part, .int .i64 at_] w (GRes g' r w) := by
  rcases ht with ⟨hf, rfl⟩ | ⟨i, ⟨h1, h2, h3, h4, h5⟩, h6⟩
  · exact store_fault v g s gen part at_ r hf w h
  · rcases h6 with ⟨e, rfl, rfl⟩ | ⟨e0, e4, hl, ⟨e, rfl, rfl⟩ | ⟨e, os', ⟨k, hpl, ⟨hke, hpe, rfl⟩ | ⟨hne, rfl⟩⟩, rfl, rfl⟩⟩
    · exact store_range v g s gen part at_ i h1 h2 h3 h4 h5 e w h
    · exact store_state v g s gen part at_ i h1 h2 h3 h4 h5 e0 e4 e w h
    · exact store_set v g s gen part at_ i h1 h2 h3 h4 h5 e0 e4 e k hpl hke hpe w h
    · exact store_new v g s gen part at_ i h1 h2 h3 h4 h5 e0 e4 e k hpl hne w h
theorem stored_any (v : Value) (g : GroupD) (s : ByteArray) (gen part at_ : Int) (g' : GroupD) (r : Int) (ht : StoreTo g s gen part at_ g' r) (w : World) (h : Gv w v g) (hnm : ∀ t ∈ g.mems, t.name.size ≤ 9223372036854775807) (hs : s.size ≤ 9223372036854775807) : Calls Try.prog 55 #[v, .string s, .int .i64 gen, .int .i64 part, .int .i64 at_] w (GRes g' r w) := by
  rcases ht with ⟨hf, rfl⟩ | ⟨i, ⟨h1, h2, h3, h4, h5⟩, h6⟩
  · exact storedOf_fault v g s gen part at_ r hf w h hnm hs
  · rcases h6 with ⟨e, rfl, rfl⟩ | ⟨e0, e4, hl, ⟨e, rfl, rfl⟩ | ⟨e, os', ho, rfl, rfl⟩⟩
    · exact storedOf_range v g s gen part at_ i h1 h2 h3 h4 h5 e w h hnm hs
    · exact storedOf_state v g s gen part at_ i h1 h2 h3 h4 h5 e0 e4 e w h hnm hs
    · have hp : 0 ≤ part ∧ part ≤ 3 := by
        obtain ⟨q, hq, rfl⟩ := List.mem_iff_getElem.1 e
        have := (h1.all i hl hl).1.rises q hq
        exact ⟨this.1, this.2.1⟩
      have hb : ∀ o ∈ g.offs, 0 ≤ o.part ∧ o.part ≤ 3 := by
        intro o ho
        obtain ⟨q, hq, rfl⟩ := List.mem_iff_getElem.1 ho
        have := h1.offsOk.rises q (by simpa using hq)
        simp only [List.getElem_map] at this
        exact ⟨this.1, this.2.1⟩
      exact storedOf_good v g s gen part at_ i h1 h2 h3 h4 h5 e0 e4 e hp.1 hp.2 os' (four_piece (riseO_of h1.offsOk.rises) hb hp.1 hp.2 ho) w h hnm hs

end Go.Proofs.Ytjkoceacjbhblaa
