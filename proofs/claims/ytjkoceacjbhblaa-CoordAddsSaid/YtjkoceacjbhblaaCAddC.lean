/- coord.Add and tailraceref.AddedOf. -/
import Derived.Test.YtjkoceacjbhblaaCoordJ
import Derived.Test.YtjkoceacjbhblaaCAdd
import Derived.Test.YtjkoceacjbhblaaRAdd
namespace Go.Proofs.Ytjkoceacjbhblaa
open Go.RowKit

theorem add_any (v : Value) (c : CoordD) (s : ByteArray) (ver part : Int) (c' : CoordD) (r : Int) (ht : AddTo c s ver part c' r) (w : World) (h : Cv w v c) : Calls Try.prog 56 #[v, .string s, .int .i64 ver, .int .i64 part] w (CRes c' [.int .i64 r] w) := by
  rcases ht with ⟨hf, rfl⟩ | ⟨i, ⟨hk, hn, hi, hl, hv⟩, ht⟩
  · exact add_fault v c s ver part r hf w h
  · rcases ht with ⟨hq, rfl, rfl⟩ | ⟨h0, h3, hl2, ⟨h34, rfl, rfl⟩ | ⟨h1, rfl, rfl⟩ | ⟨h1, rfl, rfl⟩⟩
    · exact add_range v c s ver part i hk hn hi hl hv hq w h
    · exact add_state v c s ver part i hk hn hi hl hv h0 h3 _ rfl h34 w h
    · rcases hc : c.txns[i].parts.contains part with _ | _
      · exact add_1f v c s ver part i hk hn hi hl hv h0 h3 h1 hc w h
      · exact add_1t v c s ver part i hk hn hi hl hv h0 h3 h1 hc w h
    · rcases hc : c.txns[i].parts.contains part with _ | _
      · exact add_2f v c s ver part i hk hn hi hl hv h0 h3 h1 hc w h
      · exact add_2t v c s ver part i hk hn hi hl hv h0 h3 h1 hc w h
theorem addedOf_any (v : Value) (c : CoordD) (s : ByteArray) (ver part : Int) (c' : CoordD) (r : Int) (ht : AddTo c s ver part c' r) (w : World) (h : Cv w v c) (hnm : ∀ t ∈ c.txns, t.name.size ≤ 9223372036854775807) (hs : s.size ≤ 9223372036854775807) : Calls Try.prog 57 #[v, .string s, .int .i64 ver, .int .i64 part] w (CRes c' [.int .i64 r] w) := by
  rcases ht with ⟨hf, rfl⟩ | ⟨i, ⟨hk, hn, hi, hl, hv⟩, ht⟩
  · exact addedOf_fault v c s ver part r hf w h hnm hs
  · rcases ht with ⟨hq, rfl, rfl⟩ | ⟨h0, h3, hl2, ⟨h34, rfl, rfl⟩ | ⟨h1, rfl, rfl⟩ | ⟨h1, rfl, rfl⟩⟩
    · exact addedOf_range v c s ver part i hk hn hi hl hv hq w h hnm hs
    · exact addedOf_state v c s ver part i hk hn hi hl hv h0 h3 _ rfl h34 w h hnm hs
    · exact addedOf_1 v c s ver part i hk hn hi hl hv h0 h3 _ rfl h1 w h hnm hs
    · exact addedOf_2 v c s ver part i hk hn hi hl hv h0 h3 _ rfl h1 w h hnm hs
end Go.Proofs.Ytjkoceacjbhblaa
