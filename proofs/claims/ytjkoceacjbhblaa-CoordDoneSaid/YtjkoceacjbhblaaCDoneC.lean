/- coord.Done and tailraceref.DoneOf. -/
import Derived.Test.YtjkoceacjbhblaaCoordJ
import Derived.Test.YtjkoceacjbhblaaCDone
import Derived.Test.YtjkoceacjbhblaaRDone
namespace Go.Proofs.Ytjkoceacjbhblaa
open Go.RowKit

theorem done_any (v : Value) (c : CoordD) (s : ByteArray) (part : Int) (c' : CoordD) (r : Int) (ht : DoneTo c s part c' r) (w : World) (h : Cv w v c) : Calls Try.prog 49 #[v, .string s, .int .i64 part] w (CRes c' [.int .i64 r] w) := by
  rcases ht with ⟨hf, rfl⟩ | ⟨hk, hn, ⟨hi, rfl, rfl⟩ | ⟨i, hi, hl, ht⟩⟩
  · exact done_fault v c s part r hf w h
  · exact done_none v c s part hk hn hi w h
  · rcases ht with ⟨h3, h4, rfl, rfl⟩ | ⟨h34, ⟨hq, rfl, rfl⟩ | ⟨k, hk2, hq, rfl, ⟨h1, rfl⟩ | ⟨h1, rfl⟩⟩⟩
    · exact done_state v c s part i hk hn hi hl _ rfl h3 h4 w h
    · exact done_miss v c s part i hk hn hi hl _ rfl h34 hq w h
    · exact done_last v c s part i hk hn hi hl _ rfl h34 k hk2 hq h1 w h
    · exact done_more v c s part i hk hn hi hl _ rfl h34 k hk2 hq h1 w h
theorem doneOf_any (v : Value) (c : CoordD) (s : ByteArray) (part : Int) (c' : CoordD) (r : Int) (ht : DoneTo c s part c' r) (w : World) (h : Cv w v c) (hnm : ∀ t ∈ c.txns, t.name.size ≤ 9223372036854775807) (hs : s.size ≤ 9223372036854775807) : Calls Try.prog 50 #[v, .string s, .int .i64 part] w (CRes c' [.int .i64 r] w) := by
  rcases ht with ⟨hf, rfl⟩ | ⟨hk, hn, ⟨hi, rfl, rfl⟩ | ⟨i, hi, hl, ht⟩⟩
  · exact doneOf_fault v c s part r hf w h hnm hs
  · exact doneOf_none v c s part hk hn hi w h hnm hs
  · rcases ht with ⟨h3, h4, rfl, rfl⟩ | ⟨h34, ⟨hq, rfl, rfl⟩ | ⟨k, hk2, hq, rfl, ⟨h1, rfl⟩ | ⟨h1, rfl⟩⟩⟩
    · exact doneOf_state v c s part i hk hn hi hl _ rfl h3 h4 w h hnm hs
    · exact doneOf_miss v c s part i hk hn hi hl _ rfl h34 hq w h hnm hs
    · exact doneOf_last v c s part i hk hn hi hl _ rfl h34 k hk2 hq h1 w h hnm hs
    · exact doneOf_more v c s part i hk hn hi hl _ rfl h34 k hk2 hq h1 w h hnm hs
end Go.Proofs.Ytjkoceacjbhblaa
