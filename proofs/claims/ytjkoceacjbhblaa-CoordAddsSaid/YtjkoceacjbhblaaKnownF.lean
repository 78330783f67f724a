/- coord.known: a producer with its version, in a copy. -/
import Derived.Test.YtjkoceacjbhblaaKnownA
namespace Go.Proofs.Ytjkoceacjbhblaa
open Go.RowKit

set_option maxRecDepth 100000 in
set_option maxHeartbeats 4000000 in
theorem known_fault (v : Value) (c : CoordD) (s : ByteArray) (ver : Int) (n : Int) (hf : NameFault c s n) (hn0 : n ≠ 0) (w : World) (h : Cv w v c) : Calls Try.prog 91 #[v, .string s, .int .i64 ver] w (Refuses n w) := by
  obtain ⟨tv, rfl, hx, hlen⟩ := id h
  obtain ⟨A, m, rfl, -⟩ := hx.at_
  have H := Lib.hid h
  clear h hx
  unfold coordV at *
  obtain ⟨ck, nx, wt, ts⟩ := c
  simp only at *
  have HF := Lib.hid hf
  have hn1 : (n != 0) = true := by simpa using hn0
  clear hf hn0
  go_enter Try.func91, Try.ntmps91
  go_wp2_with fail
  have hal := ((Below.refl w.heap.size w).alloc (Nat.le_refl _) (.cells #[.int .i64 ck, .int .i64 nx, .int .i64 wt, .slice A ts.length m] 28)).alloc (by simp) (.cells #[.int .i64 0, .int .i64 0, .int .i64 0, .slice none 0 0] 28)
  have bx := (Blk.new w 28 #[.int .i64 ck, .int .i64 nx, .int .i64 wt, .slice A ts.length m]).alloc (.cells #[.int .i64 0, .int .i64 0, .int .i64 0, .slice none 0 0] 28)
  have bz := Blk.new (w.alloc (.cells #[.int .i64 ck, .int .i64 nx, .int .i64 wt, .slice A ts.length m] 28)) 28 #[.int .i64 0, .int .i64 0, .int .i64 0, .slice none 0 0]
  simp only [World.size_alloc] at bz
  refine (find_fault _ ⟨ck, nx, wt, ts⟩ s n _ (H.out.below hal) HF.out).mono ?_
  rintro e w1 ⟨rfl, hb⟩
  have bx1 := bx.below hb bx.lt
  have bz1 := bz.below hb bz.lt
  have hb1 := below_then hal hb
  obtain ⟨⟨g0, g1, g2, g3⟩, ⟨gf0, gf1, gf2, gf3⟩, gl⟩ := bx1.all4
  have bz2 := bz1.far4 (g' := w.heap.size) (by omega) (.int .i64 0) (.int .i64 0) (.int .i64 0) (.slice none 0 0)
  obtain ⟨⟨z0, z1, z2, z3⟩, ⟨zf0, zf1, zf2, zf3⟩, zl⟩ := bz2.all4
  have HB := Lib.hid hb1
  have BZ := Lib.hid bz2
  clear bx bz hal hb bx1 bz1 bz2 hb1
  go_wp2_with fail
  obtain ⟨⟨y0, y1, y2, y3⟩, -, -⟩ := (BZ.out.put4 (.int .i64 0) (.int .i64 0) (.int .i64 0) (.slice none 0 0)).all4
  exact bodyPost_ret (v := .tuple #[.agg #[.int .i64 0, .int .i64 0, .int .i64 0, .slice none 0 0], .int .i64 0, .int .i64 n]) (by simp [results, Try.results91, go_sem, y0, y1, y2, y3]) rfl ⟨rfl, below_put4 (below_put4 HB.out (Nat.le_refl _) _ _ _ _) (Nat.le_succ _) _ _ _ _⟩

end Go.Proofs.Ytjkoceacjbhblaa
