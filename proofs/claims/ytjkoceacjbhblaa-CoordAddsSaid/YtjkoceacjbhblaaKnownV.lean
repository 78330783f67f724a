/- coord.known: a producer with its version, in a copy. -/
import Derived.Test.YtjkoceacjbhblaaKnownA
namespace Go.Proofs.Ytjkoceacjbhblaa
open Go.RowKit

set_option maxRecDepth 100000 in
set_option maxHeartbeats 4000000 in
theorem known_ver (v : Value) (c : CoordD) (s : ByteArray) (ver : Int) (i : Nat) (hk : CoordOk c) (hn : NameOk s) (hi : idxOf c.txns s = some i) (hl : i < c.txns.length) (hv : c.txns[i].ver ≠ ver) (w : World) (h : Cv w v c) : Calls Try.prog 91 #[v, .string s, .int .i64 ver] w (Refuses 10 w) := by
  obtain ⟨tv, rfl, hx, hlen⟩ := id h
  obtain ⟨A, m, rfl, -⟩ := hx.at_
  have H := Lib.hid h
  clear h hx
  unfold coordV at *
  obtain ⟨ck, nx, wt, ts⟩ := c
  simp only at *
  have hix : ixOf ts s = i := (ix_some hi).2
  have hv1 : (ts[i].ver != ver) = true := by simpa using hv
  have HI := Lib.hid hix
  have HK := Lib.hid hk
  have HN := Lib.hid hn
  clear hi hix hk hn hv
  go_enter Try.func91, Try.ntmps91
  go_wp2_with fail
  have hal := ((Below.refl w.heap.size w).alloc (Nat.le_refl _) (.cells #[.int .i64 ck, .int .i64 nx, .int .i64 wt, .slice A ts.length m] 28)).alloc (by simp) (.cells #[.int .i64 0, .int .i64 0, .int .i64 0, .slice none 0 0] 28)
  have bx := (Blk.new w 28 #[.int .i64 ck, .int .i64 nx, .int .i64 wt, .slice A ts.length m]).alloc (.cells #[.int .i64 0, .int .i64 0, .int .i64 0, .slice none 0 0] 28)
  have bz := Blk.new (w.alloc (.cells #[.int .i64 ck, .int .i64 nx, .int .i64 wt, .slice A ts.length m] 28)) 28 #[.int .i64 0, .int .i64 0, .int .i64 0, .slice none 0 0]
  simp only [World.size_alloc] at bz
  refine (find_good _ ⟨ck, nx, wt, ts⟩ s _ (H.out.below hal) HK.out HN.out).mono ?_
  rintro e w1 ⟨tv5, rows, rfl, hown, hb⟩
  obtain ⟨A5, c5, rfl, hc5⟩ := (Sl.of_own hown.own).form
  simp only at *
  rw [HI.out]
  unfold coordV
  simp only
  have bx1 := bx.below hb bx.lt
  have bz1 := bz.below hb bz.lt
  have hb1 := below_then hal hb
  have hsz : w.heap.size + 1 < ((w.alloc (.cells #[.int .i64 ck, .int .i64 nx, .int .i64 wt, .slice A ts.length m] 28)).alloc (.cells #[.int .i64 0, .int .i64 0, .int .i64 0, .slice none 0 0] 28)).heap.size := by simp
  have how := (hown.rebase (w0 := w) rfl (Nat.le_refl _) hb1).put4 (g := w.heap.size) ⟨by omega, Nat.le_refl _⟩ (.int .i64 ck) (.int .i64 nx) (.int .i64 wt) (.slice A5 ts.length c5)
  obtain ⟨⟨g0, g1, g2, g3⟩, ⟨gf0, gf1, gf2, gf3⟩, gl⟩ := bx1.all4
  have bx2 := bx1.put4 (.int .i64 ck) (.int .i64 nx) (.int .i64 wt) (.slice A5 ts.length c5)
  have bz2 := bz1.far4 (g' := w.heap.size) (by omega) (.int .i64 ck) (.int .i64 nx) (.int .i64 wt) (.slice A5 ts.length c5)
  obtain ⟨⟨z0, z1, z2, z3⟩, ⟨zf0, zf1, zf2, zf3⟩, zl⟩ := bz2.all4
  obtain ⟨⟨q0, q1, q2, q3⟩, -, ql⟩ := bx2.all4
  have HB := Lib.hid (below_put4 hb1 (Nat.le_refl _) (.int .i64 ck) (.int .i64 nx) (.int .i64 wt) (.slice A5 ts.length c5))
  have BZ := Lib.hid bz2
  have HOW := Lib.hid how
  have HSZ := Lib.hid hsz
  obtain ⟨gg, c6, hv6, hgb, hgs, hc6, hcell⟩ := how.at_ (Nat.lt_of_le_of_lt (Nat.zero_le i) hl)
  injection hv6 with hA6 _ hcc6
  subst hA6 hcc6
  have hlr := own_rows how.fst
  have hli : i < rows.length := Nat.lt_of_lt_of_eq hl hlr.symm
  have hrow := fst_get how.fst hli hl
  have X2 := (hcell i hli 2 (by decide)).1
  rw [show (tcells rows[i])[2]? = some (.int .i64 rows[i].1.ver) from rfl, hrow] at X2
  have i0 : (0 : Int) ≤ (i : Int) := by omega
  have i1 : (i : Int) < (ts.length : Int) := by omega
  clear bx bz hal hb bx1 bz1 bx2 bz2 hb1 hown how hsz hcell
  go_wp2_with fail
  obtain ⟨⟨y0, y1, y2, y3⟩, -, -⟩ := (BZ.out.put4 (.int .i64 0) (.int .i64 0) (.int .i64 0) (.slice none 0 0)).all4
  exact bodyPost_ret (v := .tuple #[.agg #[.int .i64 0, .int .i64 0, .int .i64 0, .slice none 0 0], .int .i64 0, .int .i64 10]) (by simp [results, Try.results91, go_sem, y0, y1, y2, y3]) rfl ⟨rfl, below_put4 HB.out (Nat.le_succ _) _ _ _ _⟩

end Go.Proofs.Ytjkoceacjbhblaa
