/- Coordinators as plain data, and how they lie in memory; sameCoord of two that are the same. -/
import Derived.Test.YtjkoceacjbhblaaSame1
import Derived.Test.YtjkoceacjbhblaaBlkB
namespace Go.Proofs.Ytjkoceacjbhblaa
open Go.RowKit

structure TxnD where
  name : ByteArray
  pid : Int
  ver : Int
  state : Int
  parts : List Int
  since : Int
  done : Int
structure CoordD where
  clock : Int
  next : Int
  wait : Int
  txns : List TxnD
/-- a row of the slice: its data and the slice of its parts -/
def tcells (t : TxnD × Value) : List Value := [.string t.1.name, .int .i64 t.1.pid, .int .i64 t.1.ver, .int .i64 t.1.state, t.2, .int .i64 t.1.since, .int .i64 t.1.done]
theorem tcells_get : ∀ (l : List (TxnD × Value)) (i : Nat) (h : i < l.length) (j : Nat), j < 7 → (l.flatMap tcells)[i * 7 + j]? = (tcells l[i])[j]?
  | e :: l, 0, _, j, hj => by
    rw [List.flatMap_cons, List.getElem?_append_left (by simp [tcells]; omega)]
    simp
  | e :: l, i + 1, h, j, hj => by
    have hl : (tcells e).length = 7 := rfl
    rw [List.flatMap_cons, List.getElem?_append_right (by rw [hl]; omega), hl, show (i + 1) * 7 + j - 7 = i * 7 + j from by omega]
    exact tcells_get l i (by simpa using h) j hj
/-- v reads as the transactions ds -/
def Txs (w : World) (v : Value) (ds : List TxnD) : Prop :=
  ∃ rows : List (TxnD × Value), rows.map Prod.fst = ds ∧ Sl w 7 v ds.length (rows.flatMap tcells) ∧ ∀ t ∈ rows, Is w t.2 t.1.parts ∧ t.1.parts.length ≤ 9223372036854775807
def coordV (c : CoordD) (tv : Value) : Value := .agg #[.int .i64 c.clock, .int .i64 c.next, .int .i64 c.wait, tv]
def Cv (w : World) (v : Value) (c : CoordD) : Prop := ∃ tv, v = coordV c tv ∧ Txs w tv c.txns ∧ c.txns.length ≤ 9223372036854775807
theorem Txs.below {w w' : World} {v : Value} {ds : List TxnD} (h : Txs w v ds) (hb : Below w.heap.size w w') : Txs w' v ds := by
  obtain ⟨rows, h1, h2, h3⟩ := h
  exact ⟨rows, h1, h2.below hb, fun t ht => ⟨(h3 t ht).1.below hb, (h3 t ht).2⟩⟩
theorem Cv.below {w w' : World} {v : Value} {c : CoordD} (h : Cv w v c) (hb : Below w.heap.size w w') : Cv w' v c := by
  obtain ⟨tv, h1, h2, h3⟩ := h
  exact ⟨tv, h1, h2.below hb, h3⟩
theorem Txs.at_ {w : World} {v : Value} {ds : List TxnD} (h : Txs w v ds) : ∃ A c, v = .slice A ds.length c ∧ ds.length ≤ c ∧ (0 < ds.length → ∃ b off, A = some ⟨b, off, none⟩ ∧ b < w.heap.size ∧
    ∀ i (hi : i < ds.length), ∃ pv, w.cell? ⟨b, off + i * 7, none⟩ = some (.string ds[i].name) ∧ w.cell? ⟨b, off + i * 7 + 1, none⟩ = some (.int .i64 ds[i].pid) ∧ w.cell? ⟨b, off + i * 7 + 2, none⟩ = some (.int .i64 ds[i].ver) ∧ w.cell? ⟨b, off + i * 7 + 3, none⟩ = some (.int .i64 ds[i].state) ∧
      w.cell? ⟨b, off + i * 7 + 4, none⟩ = some pv ∧ w.cell? ⟨b, off + i * 7 + 5, none⟩ = some (.int .i64 ds[i].since) ∧ w.cell? ⟨b, off + i * 7 + 6, none⟩ = some (.int .i64 ds[i].done) ∧ Is w pv ds[i].parts ∧ ds[i].parts.length ≤ 9223372036854775807) := by
  obtain ⟨rows, hr, ⟨hl, A, c, hv, hc, h2⟩, h3⟩ := h
  refine ⟨A, c, hv, hc, fun hn => ?_⟩
  obtain ⟨b, off, hA, hb, hcell⟩ := h2 hn
  refine ⟨b, off, hA, hb, fun i hi => ?_⟩
  subst hr
  have hi' : i < rows.length := by simpa using hi
  have he : (rows.map Prod.fst)[i] = rows[i].1 := by simp
  rw [he]
  have key : ∀ j u, j < 7 → (tcells rows[i])[j]? = some u → w.cell? ⟨b, off + i * 7 + j, none⟩ = some u := fun j u hj hu => by
    rw [Nat.add_assoc]
    exact hcell (i * 7 + j) u ((tcells_get rows i hi' j hj).trans hu)
  have hm := h3 rows[i] (List.getElem_mem _)
  exact ⟨rows[i].2, key 0 _ (by omega) rfl, key 1 _ (by omega) rfl, key 2 _ (by omega) rfl, key 3 _ (by omega) rfl, key 4 _ (by omega) rfl, key 5 _ (by omega) rfl, key 6 _ (by omega) rfl, hm.1, hm.2⟩

set_option maxRecDepth 100000 in
set_option maxHeartbeats 4000000 in
theorem sameCoord_same (x y : Value) (c : CoordD) (w : World) (hx : Cv w x c) (hy : Cv w y c) :
    Calls Try.prog 25 #[x, y] w fun e w' => e = .returned (.bool true) ∧ Below w.heap.size w w' := by
  obtain ⟨xt, rfl, tx, hlen⟩ := hx
  obtain ⟨yt, rfl, ty, -⟩ := hy
  obtain ⟨A1, c1, rfl, hc1, hx1⟩ := tx.at_
  obtain ⟨A2, c2, rfl, hc2, hy1⟩ := ty.at_
  unfold coordV
  obtain ⟨ck, nx, wt, ts⟩ := c
  simp only at *
  have HX := Lib.hid hx1
  have HY := Lib.hid hy1
  have TX := Lib.hid tx
  have TY := Lib.hid ty
  clear hx1 hy1 tx ty
  go_enter Try.func25, Try.ntmps25
  go_wp2
  have hb1 := (Blk.new w 28 #[.int .i64 ck, .int .i64 nx, .int .i64 wt, .slice A1 ts.length c1]).alloc (.cells #[.int .i64 ck, .int .i64 nx, .int .i64 wt, .slice A2 ts.length c2] 28)
  have hb2 := Blk.new (w.alloc (.cells #[.int .i64 ck, .int .i64 nx, .int .i64 wt, .slice A1 ts.length c1] 28)) 28 #[.int .i64 ck, .int .i64 nx, .int .i64 wt, .slice A2 ts.length c2]
  have hbl : Below w.heap.size w ((w.alloc (.cells #[.int .i64 ck, .int .i64 nx, .int .i64 wt, .slice A1 ts.length c1] 28)).alloc (.cells #[.int .i64 ck, .int .i64 nx, .int .i64 wt, .slice A2 ts.length c2] 28)) :=
    ((Below.refl _ _).alloc (Nat.le_refl _) _).alloc (by simp) _
  simp only [World.size_alloc] at hb2
  generalize hW0 : (w.alloc (.cells #[.int .i64 ck, .int .i64 nx, .int .i64 wt, .slice A1 ts.length c1] 28)).alloc (.cells #[.int .i64 ck, .int .i64 nx, .int .i64 wt, .slice A2 ts.length c2] 28) = W0 at *
  have hz : w.heap.size + 2 = W0.heap.size := by rw [← hW0]; simp
  have HZ := Lib.hid hz
  have HBL := Lib.hid hbl
  have HB1 := Lib.hid hb1
  have HB2 := Lib.hid hb2
  clear hW0 hz hbl hb1 hb2
  go_loopw [5] (fun i wr => ∃ k : Nat, k ≤ ts.length ∧ i = .int .i64 k ∧ Hid (Below W0.heap.size W0 wr)) (fun i _ => ts.length - (intOf i).toNat)
  case atStart => exact ⟨0, by omega, rfl, Below.refl _ _⟩
  case round =>
    obtain ⟨k, hk, rfl, hbw⟩ := hrel
    have g1 := (HB1.out.below hbw.out HB1.out.lt).cell 3
    have g2 := (HB2.out.below hbw.out HB2.out.lt).cell 3
    have hbelow : Below w.heap.size w wr := HBL.out.trans (hbw.out.mono HBL.out.size)
    have HBW := Lib.hid hbelow
    clear hbelow
    by_cases hlt : k < ts.length
    · obtain ⟨b1, o1, rfl, hbb1, q1⟩ := HX.out (by omega)
      obtain ⟨b2, o2, rfl, hbb2, q2⟩ := HY.out (by omega)
      obtain ⟨p1, x0, x1, x2, x3, x4, x5, x6, xi, xl⟩ := q1 k hlt
      obtain ⟨p2, y0, y1, y2, y3, y4, y5, y6, yi, yl⟩ := q2 k hlt
      have X0 := (HBW.out.cell (p := ⟨b1, o1 + k * 7, none⟩) hbb1).trans x0
      have X1 := (HBW.out.cell (p := ⟨b1, o1 + k * 7 + 1, none⟩) hbb1).trans x1
      have X2 := (HBW.out.cell (p := ⟨b1, o1 + k * 7 + 2, none⟩) hbb1).trans x2
      have X3 := (HBW.out.cell (p := ⟨b1, o1 + k * 7 + 3, none⟩) hbb1).trans x3
      have X4 := (HBW.out.cell (p := ⟨b1, o1 + k * 7 + 4, none⟩) hbb1).trans x4
      have X5 := (HBW.out.cell (p := ⟨b1, o1 + k * 7 + 5, none⟩) hbb1).trans x5
      have X6 := (HBW.out.cell (p := ⟨b1, o1 + k * 7 + 6, none⟩) hbb1).trans x6
      have Y0 := (HBW.out.cell (p := ⟨b2, o2 + k * 7, none⟩) hbb2).trans y0
      have Y1 := (HBW.out.cell (p := ⟨b2, o2 + k * 7 + 1, none⟩) hbb2).trans y1
      have Y2 := (HBW.out.cell (p := ⟨b2, o2 + k * 7 + 2, none⟩) hbb2).trans y2
      have Y3 := (HBW.out.cell (p := ⟨b2, o2 + k * 7 + 3, none⟩) hbb2).trans y3
      have Y4 := (HBW.out.cell (p := ⟨b2, o2 + k * 7 + 4, none⟩) hbb2).trans y4
      have Y5 := (HBW.out.cell (p := ⟨b2, o2 + k * 7 + 5, none⟩) hbb2).trans y5
      have Y6 := (HBW.out.cell (p := ⟨b2, o2 + k * 7 + 6, none⟩) hbb2).trans y6
      have hlb1 : b1 < wr.heap.size := by have := HBW.out.size; omega
      have hlb2 : b2 < wr.heap.size := by have := HBW.out.size; omega
      have hw1 : w.heap.size + 1 < wr.heap.size := by have := hbw.out.size; have := HZ.out; omega
      have hw0 : w.heap.size < wr.heap.size := by omega
      clear x0 x1 x2 x3 x4 x5 x6 y0 y1 y2 y3 y4 y5 y6 q1 q2
      have xi' := xi.below HBW.out
      have yi' := yi.below HBW.out
      obtain ⟨A3, c3, rfl, hc3, -⟩ := xi.at_
      obtain ⟨A4, c4, rfl, hc4, -⟩ := yi.at_
      have XI := Lib.hid xi'
      have YI := Lib.hid yi'
      clear xi yi xi' yi'
      go_wp2_with fail
      refine (sameInts_any _ _ ts[k].parts ts[k].parts _ (Sl.alloc (Sl.alloc XI.out _) _) (Sl.alloc (Sl.alloc YI.out _) _) xl xl).mono ?_
      rintro e w' ⟨rfl, n, rfl⟩
      go_wp2
      go_light
      refine ⟨⟨k + 1, by omega, by go_num, ?_⟩, by simp [intOf]; omega⟩
      exact (((hbw.out.alloc hbw.out.size _).alloc (by have := hbw.out.size; simp; omega) _).trans ((below_drewN_ _ _).mono (by have := hbw.out.size; simp; omega)))
    · obtain rfl : k = ts.length := by omega
      go_wp2
      go_ret
      exact ⟨rfl, HBW.out⟩
end Go.Proofs.Ytjkoceacjbhblaa
