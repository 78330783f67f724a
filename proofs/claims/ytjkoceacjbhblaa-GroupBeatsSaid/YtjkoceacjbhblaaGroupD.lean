/- Groups as plain data, and how they lie in memory; sameGroup of two that are the same. -/
import Derived.Test.YtjkoceacjbhblaaSame1
import Derived.Test.YtjkoceacjbhblaaBlkB
namespace Go.Proofs.Ytjkoceacjbhblaa
open Go.RowKit

structure MemD where
  name : ByteArray
  heard : Int
  parts : List Int
structure OffD where
  part : Int
  at_ : Int
structure GroupD where
  clock : Int
  wait : Int
  gen : Int
  mems : List MemD
  offs : List OffD
/-- a row of the slice: its data and the slice of its parts -/
def mcells (t : MemD × Value) : List Value := [.string t.1.name, .int .i64 t.1.heard, t.2]
def ocells (o : OffD) : List Value := [.int .i64 o.part, .int .i64 o.at_]
theorem cells_get {α : Type} (f : α → List Value) (s : Nat) (hf : ∀ a, (f a).length = s) : ∀ (l : List α) (i : Nat) (h : i < l.length) (j : Nat), j < s → (l.flatMap f)[i * s + j]? = (f l[i])[j]?
  | e :: l, 0, _, j, hj => by
    rw [List.flatMap_cons, List.getElem?_append_left (by rw [hf]; omega)]
    simp
  | e :: l, i + 1, h, j, hj => by
    have hl : (f e).length = s := hf e
    have e1 : (i + 1) * s + j = s + (i * s + j) := by rw [Nat.add_mul]; omega
    rw [List.flatMap_cons, List.getElem?_append_right (by rw [hl]; omega), hl, show (i + 1) * s + j - s = i * s + j from by omega]
    exact cells_get f s hf l i (by simpa using h) j hj
/-- v reads as the members ds -/
def Mems (w : World) (v : Value) (ds : List MemD) : Prop :=
  ∃ rows : List (MemD × Value), rows.map Prod.fst = ds ∧ Sl w 3 v ds.length (rows.flatMap mcells) ∧ ∀ t ∈ rows, Is w t.2 t.1.parts ∧ t.1.parts.length ≤ 9223372036854775807
def Offs (w : World) (v : Value) (ds : List OffD) : Prop := Sl w 2 v ds.length (ds.flatMap ocells)
def groupV (g : GroupD) (mv ov : Value) : Value := .agg #[.int .i64 g.clock, .int .i64 g.wait, .int .i64 g.gen, mv, ov]
def Gv (w : World) (v : Value) (g : GroupD) : Prop := ∃ mv ov, v = groupV g mv ov ∧ Mems w mv g.mems ∧ Offs w ov g.offs ∧ g.mems.length ≤ 9223372036854775807 ∧ g.offs.length ≤ 9223372036854775807
theorem Mems.below {w w' : World} {v : Value} {ds : List MemD} (h : Mems w v ds) (hb : Below w.heap.size w w') : Mems w' v ds := by
  obtain ⟨rows, h1, h2, h3⟩ := h
  exact ⟨rows, h1, h2.below hb, fun t ht => ⟨(h3 t ht).1.below hb, (h3 t ht).2⟩⟩
theorem Gv.below {w w' : World} {v : Value} {g : GroupD} (h : Gv w v g) (hb : Below w.heap.size w w') : Gv w' v g := by
  obtain ⟨mv, ov, h1, h2, h3, h4⟩ := h
  exact ⟨mv, ov, h1, h2.below hb, Sl.below h3 hb, h4⟩
theorem Mems.at_ {w : World} {v : Value} {ds : List MemD} (h : Mems w v ds) : ∃ A c, v = .slice A ds.length c ∧ ds.length ≤ c ∧ (0 < ds.length → ∃ b off, A = some ⟨b, off, none⟩ ∧ b < w.heap.size ∧
    ∀ i (hi : i < ds.length), ∃ pv, w.cell? ⟨b, off + i * 3, none⟩ = some (.string ds[i].name) ∧ w.cell? ⟨b, off + i * 3 + 1, none⟩ = some (.int .i64 ds[i].heard) ∧ w.cell? ⟨b, off + i * 3 + 2, none⟩ = some pv ∧ Is w pv ds[i].parts ∧ ds[i].parts.length ≤ 9223372036854775807) := by
  obtain ⟨rows, hr, ⟨hl, A, c, hv, hc, h2⟩, h3⟩ := h
  refine ⟨A, c, hv, hc, fun hn => ?_⟩
  obtain ⟨b, off, hA, hb, hcell⟩ := h2 hn
  refine ⟨b, off, hA, hb, fun i hi => ?_⟩
  subst hr
  have hi' : i < rows.length := by simpa using hi
  have he : (rows.map Prod.fst)[i] = rows[i].1 := by simp
  rw [he]
  have key : ∀ j u, j < 3 → (mcells rows[i])[j]? = some u → w.cell? ⟨b, off + i * 3 + j, none⟩ = some u := fun j u hj hu => by
    rw [Nat.add_assoc]
    exact hcell (i * 3 + j) u ((cells_get mcells 3 (fun _ => rfl) rows i hi' j hj).trans hu)
  have hm := h3 rows[i] (List.getElem_mem _)
  exact ⟨rows[i].2, key 0 _ (by omega) rfl, key 1 _ (by omega) rfl, key 2 _ (by omega) rfl, hm.1, hm.2⟩
theorem Offs.at_ {w : World} {v : Value} {ds : List OffD} (h : Offs w v ds) : ∃ A c, v = .slice A ds.length c ∧ ds.length ≤ c ∧ (0 < ds.length → ∃ b off, A = some ⟨b, off, none⟩ ∧ b < w.heap.size ∧
    ∀ i (hi : i < ds.length), w.cell? ⟨b, off + i * 2, none⟩ = some (.int .i64 ds[i].part) ∧ w.cell? ⟨b, off + i * 2 + 1, none⟩ = some (.int .i64 ds[i].at_)) := by
  obtain ⟨hl, A, c, hv, hc, h2⟩ := h
  refine ⟨A, c, hv, hc, fun hn => ?_⟩
  obtain ⟨b, off, hA, hb, hcell⟩ := h2 hn
  refine ⟨b, off, hA, hb, fun i hi => ?_⟩
  have key : ∀ j u, j < 2 → (ocells ds[i])[j]? = some u → w.cell? ⟨b, off + i * 2 + j, none⟩ = some u := fun j u hj hu => by
    rw [Nat.add_assoc]
    exact hcell (i * 2 + j) u ((cells_get ocells 2 (fun _ => rfl) ds i hi j hj).trans hu)
  exact ⟨key 0 _ (by omega) rfl, key 1 _ (by omega) rfl⟩

set_option maxRecDepth 100000 in
set_option maxHeartbeats 4000000 in
theorem sameGroup_same (x y : Value) (g : GroupD) (w : World) (hx : Gv w x g) (hy : Gv w y g) :
    Calls Try.prog 28 #[x, y] w fun e w' => e = .returned (.bool true) ∧ Below w.heap.size w w' := by
  obtain ⟨xm, xo, rfl, mx, ox, hlm, hlo⟩ := hx
  obtain ⟨ym, yo, rfl, my, oy, -⟩ := hy
  obtain ⟨A1, c1, rfl, hc1, hx1⟩ := mx.at_
  obtain ⟨A2, c2, rfl, hc2, hy1⟩ := my.at_
  obtain ⟨A3, c3, rfl, hc3, hx2⟩ := ox.at_
  obtain ⟨A4, c4, rfl, hc4, hy2⟩ := oy.at_
  unfold groupV
  obtain ⟨ck, wt, gn, ms, os⟩ := g
  simp only at *
  have HX := Lib.hid hx1
  have HY := Lib.hid hy1
  have HX2 := Lib.hid hx2
  have HY2 := Lib.hid hy2
  clear hx1 hy1 hx2 hy2 mx my ox oy
  go_enter Try.func28, Try.ntmps28
  go_wp2
  have hb1 := (Blk.new w 36 #[.int .i64 ck, .int .i64 wt, .int .i64 gn, .slice A1 ms.length c1, .slice A3 os.length c3]).alloc (.cells #[.int .i64 ck, .int .i64 wt, .int .i64 gn, .slice A2 ms.length c2, .slice A4 os.length c4] 36)
  have hb2 := Blk.new (w.alloc (.cells #[.int .i64 ck, .int .i64 wt, .int .i64 gn, .slice A1 ms.length c1, .slice A3 os.length c3] 36)) 36 #[.int .i64 ck, .int .i64 wt, .int .i64 gn, .slice A2 ms.length c2, .slice A4 os.length c4]
  have hbl : Below w.heap.size w ((w.alloc (.cells #[.int .i64 ck, .int .i64 wt, .int .i64 gn, .slice A1 ms.length c1, .slice A3 os.length c3] 36)).alloc (.cells #[.int .i64 ck, .int .i64 wt, .int .i64 gn, .slice A2 ms.length c2, .slice A4 os.length c4] 36)) :=
    ((Below.refl _ _).alloc (Nat.le_refl _) _).alloc (by simp) _
  simp only [World.size_alloc] at hb2
  generalize hW0 : (w.alloc (.cells #[.int .i64 ck, .int .i64 wt, .int .i64 gn, .slice A1 ms.length c1, .slice A3 os.length c3] 36)).alloc (.cells #[.int .i64 ck, .int .i64 wt, .int .i64 gn, .slice A2 ms.length c2, .slice A4 os.length c4] 36) = W0 at *
  have hz : w.heap.size + 2 = W0.heap.size := by rw [← hW0]; simp
  have HZ := Lib.hid hz
  have HBL := Lib.hid hbl
  have HB1 := Lib.hid hb1
  have HB2 := Lib.hid hb2
  clear hW0 hz hbl hb1 hb2
  go_loopw [5] (fun i wr => ∃ k : Nat, k ≤ ms.length ∧ i = .int .i64 k ∧ Hid (Below W0.heap.size W0 wr)) (fun i _ => ms.length - (intOf i).toNat)
  case atStart => exact ⟨0, by omega, rfl, Below.refl _ _⟩
  case round =>
    obtain ⟨k, hk, rfl, hbw⟩ := hrel
    have g1 := (HB1.out.below hbw.out HB1.out.lt).cell 3
    have g2 := (HB2.out.below hbw.out HB2.out.lt).cell 3
    have hbelow : Below w.heap.size w wr := HBL.out.trans (hbw.out.mono HBL.out.size)
    have HBW := Lib.hid hbelow
    clear hbelow
    by_cases hlt : k < ms.length
    · obtain ⟨b1, o1, rfl, hbb1, q1⟩ := HX.out (by omega)
      obtain ⟨b2, o2, rfl, hbb2, q2⟩ := HY.out (by omega)
      obtain ⟨p1, x0, x1, x2, xi, xl⟩ := q1 k hlt
      obtain ⟨p2, y0, y1, y2, yi, yl⟩ := q2 k hlt
      have X0 := (HBW.out.cell (p := ⟨b1, o1 + k * 3, none⟩) hbb1).trans x0
      have X1 := (HBW.out.cell (p := ⟨b1, o1 + k * 3 + 1, none⟩) hbb1).trans x1
      have X2 := (HBW.out.cell (p := ⟨b1, o1 + k * 3 + 2, none⟩) hbb1).trans x2
      have Y0 := (HBW.out.cell (p := ⟨b2, o2 + k * 3, none⟩) hbb2).trans y0
      have Y1 := (HBW.out.cell (p := ⟨b2, o2 + k * 3 + 1, none⟩) hbb2).trans y1
      have Y2 := (HBW.out.cell (p := ⟨b2, o2 + k * 3 + 2, none⟩) hbb2).trans y2
      have hlb1 : b1 < wr.heap.size := by have := HBW.out.size; omega
      have hlb2 : b2 < wr.heap.size := by have := HBW.out.size; omega
      have hw1 : w.heap.size + 1 < wr.heap.size := by have := hbw.out.size; have := HZ.out; omega
      have hw0 : w.heap.size < wr.heap.size := by omega
      clear x0 x1 x2 y0 y1 y2 q1 q2
      have xi' := xi.below HBW.out
      have yi' := yi.below HBW.out
      obtain ⟨A5, c5, rfl, hc5, -⟩ := xi.at_
      obtain ⟨A6, c6, rfl, hc6, -⟩ := yi.at_
      have XI := Lib.hid xi'
      have YI := Lib.hid yi'
      clear xi yi xi' yi'
      go_wp2_with fail
      refine (sameInts_any _ _ ms[k].parts ms[k].parts _ (Sl.alloc (Sl.alloc XI.out _) _) (Sl.alloc (Sl.alloc YI.out _) _) xl xl).mono ?_
      rintro e w' ⟨rfl, n, rfl⟩
      go_wp2
      go_light
      refine ⟨⟨k + 1, by omega, by go_num, ?_⟩, by simp [intOf]; omega⟩
      exact (((hbw.out.alloc hbw.out.size _).alloc (by have := hbw.out.size; simp; omega) _).trans ((below_drewN_ _ _).mono (by have := hbw.out.size; simp; omega)))
    · obtain rfl : k = ms.length := by omega
      go_wp2
      clear g1 g2
      go_loopw [8] (fun i wq => ∃ j : Nat, j ≤ os.length ∧ i = .int .i64 j ∧ Hid (Below W0.heap.size W0 wq)) (fun i _ => os.length - (intOf i).toNat)
      case atStart => exact ⟨0, by omega, rfl, hbw⟩
      case round =>
        clear hbw HBW
        obtain ⟨j, hj, rfl, hbw⟩ := hrel
        have g1 := (HB1.out.below hbw.out HB1.out.lt).cell 4
        have g2 := (HB2.out.below hbw.out HB2.out.lt).cell 4
        have hbelow := HBL.out.trans (hbw.out.mono HBL.out.size)
        have HBW := Lib.hid hbelow
        clear hbelow
        by_cases hlt : j < os.length
        · obtain ⟨b1, o1, rfl, hbb1, q1⟩ := HX2.out (by omega)
          obtain ⟨b2, o2, rfl, hbb2, q2⟩ := HY2.out (by omega)
          obtain ⟨x0, x1⟩ := q1 j hlt
          obtain ⟨y0, y1⟩ := q2 j hlt
          have X0 := (HBW.out.cell (p := ⟨b1, o1 + j * 2, none⟩) hbb1).trans x0
          have X1 := (HBW.out.cell (p := ⟨b1, o1 + j * 2 + 1, none⟩) hbb1).trans x1
          have Y0 := (HBW.out.cell (p := ⟨b2, o2 + j * 2, none⟩) hbb2).trans y0
          have Y1 := (HBW.out.cell (p := ⟨b2, o2 + j * 2 + 1, none⟩) hbb2).trans y1
          have hj0 : (0 : Int) ≤ (j : Int) := by omega
          have hj1 : (j : Int) < (os.length : Int) := by omega
          clear x0 x1 y0 y1 q1 q2
          go_wp2
          go_quiet (fail)
          go_wp2
          go_light
          refine ⟨⟨j + 1, by omega, by go_num, ?_⟩, by simp [intOf]; omega⟩
          exact hbw.out.trans ((below_drewN_ _ _).mono (by have := hbw.out.size; omega))
        · obtain rfl : j = os.length := by omega
          go_wp2
          go_ret
          exact ⟨rfl, HBW.out⟩
end Go.Proofs.Ytjkoceacjbhblaa
