/- coord.Init and tailraceref.InitOf. -/
import Derived.Test.YtjkoceacjbhblaaInitA
import Derived.Test.YtjkoceacjbhblaaInitB
import Derived.Test.YtjkoceacjbhblaaInitD
import Derived.Test.YtjkoceacjbhblaaInitE
import Derived.Test.YtjkoceacjbhblaaInitF
import Derived.Test.YtjkoceacjbhblaaInitG
import Derived.Test.YtjkoceacjbhblaaInitEF
import Derived.Test.YtjkoceacjbhblaaInitEG
namespace Go.Proofs.Ytjkoceacjbhblaa
open Go.RowKit

theorem init_any (v : Value) (c : CoordD) (s : ByteArray) (c' : CoordD) (r0 r1 r2 : Int) (ht : InitTo c s c' r0 r1 r2) (w : World) (h : Cv w v c) : Calls Try.prog 43 #[v, .string s] w (CRes c' [.int .i64 r0, .int .i64 r1, .int .i64 r2] w) := by
  rcases ht with ⟨hf, rfl, rfl, rfl⟩ | ⟨hk, hn, ⟨hi, ht⟩ | ⟨i, hi, hl, ht⟩⟩
  · exact init_fault v c s r2 hf w h
  · rcases ht with ⟨h1, rfl, rfl, rfl, rfl⟩ | ⟨h1, h2, rfl, rfl, rfl, rfl⟩ | ⟨h1, h2, rfl, rfl, rfl, rfl⟩
    · exact init_full v c s hk hn hi h1 w h
    · exact init_last v c s hk hn hi h1 h2 w h
    · exact init_new v c s hk hn hi h1 h2 w h
  · rcases ht with ⟨h1, rfl, rfl, rfl, rfl⟩ | ⟨h1, rfl, rfl, rfl, rfl⟩ | ⟨h1, h2, rfl, rfl, rfl, rfl⟩ | ⟨h1, h2, rfl, rfl, rfl, rfl⟩ | ⟨h1, h2, rfl, rfl, rfl, rfl⟩ | ⟨h1, h2, rfl, rfl, rfl, rfl⟩
    · exact init_e3 v c s i hk hn hi hl h1 w h
    · exact init_e4 v c s i hk hn hi hl h1 w h
    · exact init_m1 v c s i hk hn hi hl h1 h2 w h
    · exact init_m2 v c s i hk hn hi hl h1 h2 w h
    · exact init_bump v c s i hk hn hi hl h1 h2 w h
    · exact init_raise v c s i hk hn hi hl h1 h2 w h
theorem initOf_any (v : Value) (c : CoordD) (s : ByteArray) (c' : CoordD) (r0 r1 r2 : Int) (ht : InitTo c s c' r0 r1 r2) (w : World) (h : Cv w v c) (hnm : ∀ t ∈ c.txns, t.name.size ≤ 9223372036854775807) (hs : s.size ≤ 9223372036854775807) : Calls Try.prog 44 #[v, .string s] w (CRes c' [.int .i64 r0, .int .i64 r1, .int .i64 r2] w) := by
  rcases ht with ⟨hf, rfl, rfl, rfl⟩ | ⟨hk, hn, ⟨hi, ht⟩ | ⟨i, hi, hl, ht⟩⟩
  · exact initOf_fault v c s r2 hf w h hnm hs
  · rcases ht with ⟨h1, rfl, rfl, rfl, rfl⟩ | ⟨h1, h2, rfl, rfl, rfl, rfl⟩ | ⟨h1, h2, rfl, rfl, rfl, rfl⟩
    · exact initOf_full v c s hk hn hi h1 w h hnm hs
    · exact initOf_last v c s hk hn hi h1 h2 w h hnm hs
    · exact initOf_new v c s hk hn hi h1 h2 w h hnm hs
  · rcases ht with ⟨h1, rfl, rfl, rfl, rfl⟩ | ⟨h1, rfl, rfl, rfl, rfl⟩ | ⟨h1, h2, rfl, rfl, rfl, rfl⟩ | ⟨h1, h2, rfl, rfl, rfl, rfl⟩ | ⟨h1, h2, rfl, rfl, rfl, rfl⟩ | ⟨h1, h2, rfl, rfl, rfl, rfl⟩
    · exact initOf_e3 v c s i hk hn hi hl h1 w h hnm hs
    · exact initOf_e4 v c s i hk hn hi hl h1 w h hnm hs
    · exact initOf_m1 v c s i hk hn hi hl h1 h2 w h hnm hs
    · exact initOf_m2 v c s i hk hn hi hl h1 h2 w h hnm hs
    · exact initOf_bump v c s i hk hn hi hl h1 h2 w h hnm hs
    · exact initOf_raise v c s i hk hn hi hl h1 h2 w h hnm hs
end Go.Proofs.Ytjkoceacjbhblaa
