/- coord.End and tailraceref.EndedOf. -/
import Derived.Test.YtjkoceacjbhblaaEndT
import Derived.Test.YtjkoceacjbhblaaEndF
import Derived.Test.YtjkoceacjbhblaaEndedT
import Derived.Test.YtjkoceacjbhblaaEndedF
namespace Go.Proofs.Ytjkoceacjbhblaa
open Go.RowKit

theorem end_any (v : Value) (c : CoordD) (s : ByteArray) (ver : Int) (commit : Bool) (c' : CoordD) (r : Int) (ht : EndTo c s ver commit c' r) (w : World) (h : Cv w v c) : Calls Try.prog 47 #[v, .string s, .int .i64 ver, .bool commit] w (CRes c' [.int .i64 r] w) := by
  rcases ht with ⟨hf, rfl⟩ | ⟨i, ⟨hk, hn, hi, hl, hv⟩, _, ht⟩
  · exact end_fault v c s ver commit r hf w h
  · rcases commit with _ | _
    · simp only [wantOf, cond_false] at ht
      rcases ht with ⟨h1, rfl, rfl⟩ | ⟨h1, h2 | h2, rfl, rfl⟩ | ⟨h1, h2, rfl, rfl⟩ | ⟨h1, rfl, rfl⟩ | ⟨h1, rfl, rfl⟩
      · exact end_on_false v c s ver i hk hn hi hl hv h1 w h
      · exact end_free_false v c s ver i hk hn hi hl hv h1 h2 w h
      · exact end_again_false v c s ver i hk hn hi hl hv h1 h2 w h
      · exact end_other_false v c s ver i hk hn hi hl hv h1 h2 w h
      · exact end_set_false v c' s ver i hk hn hi hl hv h1 w h
      · exact end_not_false v c s ver i hk hn hi hl hv h1 w h
    · simp only [wantOf, cond_true] at ht
      rcases ht with ⟨h1, rfl, rfl⟩ | ⟨h1, h2 | h2, rfl, rfl⟩ | ⟨h1, h2, rfl, rfl⟩ | ⟨h1, rfl, rfl⟩ | ⟨h1, rfl, rfl⟩
      · exact end_on_true v c s ver i hk hn hi hl hv h1 w h
      · exact end_free_true v c s ver i hk hn hi hl hv h1 h2 w h
      · exact end_again_true v c s ver i hk hn hi hl hv h1 h2 w h
      · exact end_other_true v c s ver i hk hn hi hl hv h1 h2 w h
      · exact end_set_true v c' s ver i hk hn hi hl hv h1 w h
      · exact end_not_true v c s ver i hk hn hi hl hv h1 w h
theorem ended_any (v : Value) (c : CoordD) (s : ByteArray) (ver : Int) (commit : Bool) (c' : CoordD) (r : Int) (ht : EndTo c s ver commit c' r) (w : World) (h : Cv w v c) (hnm : ∀ t ∈ c.txns, t.name.size ≤ 9223372036854775807) (hs : s.size ≤ 9223372036854775807) : Calls Try.prog 48 #[v, .string s, .int .i64 ver, .bool commit] w (CRes c' [.int .i64 r] w) := by
  rcases ht with ⟨hf, rfl⟩ | ⟨i, ⟨hk, hn, hi, hl, hv⟩, _, ht⟩
  · exact ended_fault v c s ver commit r hf w h hnm hs
  · rcases commit with _ | _
    · simp only [wantOf, cond_false] at ht
      rcases ht with ⟨h1, rfl, rfl⟩ | ⟨h1, h2 | h2, rfl, rfl⟩ | ⟨h1, h2, rfl, rfl⟩ | ⟨h1, rfl, rfl⟩ | ⟨h1, rfl, rfl⟩
      · exact ended_on_false v c s ver i hk hn hi hl hv h1 w h hnm hs
      · exact ended_free_false v c s ver i hk hn hi hl hv h1 h2 w h hnm hs
      · exact ended_again_false v c s ver i hk hn hi hl hv h1 h2 w h hnm hs
      · exact ended_other_false v c s ver i hk hn hi hl hv h1 h2 w h hnm hs
      · exact ended_set_false v c' s ver i hk hn hi hl hv h1 w h hnm hs
      · exact ended_not_false v c s ver i hk hn hi hl hv h1 w h hnm hs
    · simp only [wantOf, cond_true] at ht
      rcases ht with ⟨h1, rfl, rfl⟩ | ⟨h1, h2 | h2, rfl, rfl⟩ | ⟨h1, h2, rfl, rfl⟩ | ⟨h1, rfl, rfl⟩ | ⟨h1, rfl, rfl⟩
      · exact ended_on_true v c s ver i hk hn hi hl hv h1 w h hnm hs
      · exact ended_free_true v c s ver i hk hn hi hl hv h1 h2 w h hnm hs
      · exact ended_again_true v c s ver i hk hn hi hl hv h1 h2 w h hnm hs
      · exact ended_other_true v c s ver i hk hn hi hl hv h1 h2 w h hnm hs
      · exact ended_set_true v c' s ver i hk hn hi hl hv h1 w h hnm hs
      · exact ended_not_true v c s ver i hk hn hi hl hv h1 w h hnm hs
end Go.Proofs.Ytjkoceacjbhblaa
