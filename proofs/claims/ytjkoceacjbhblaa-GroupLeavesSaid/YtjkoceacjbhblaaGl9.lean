/- Parts of a proof, merged: AsgB, AsgC, AsgD, JoiH, ParI, InsO, DelM, LeaH. No condition. -/
import Derived.Test.YtjkoceacjbhblaaGl8
import Derived.BigRegion
import Derived.Test.YtjkoceacjbhblaaGl7
import Derived.Test.YtjkoceacjbhblaaGl4
import Derived.Shelf.Slices.SearchI
import Derived.Shelf.Slices.Cells
import Derived.Shelf.Slices.Empties
import Derived.Shelf.Spec.SlicesInsertGrow
import Derived.Test.YtjkoceacjbhblaaGl6
import Derived.Lib.SlicesDelete
import Derived.Deep.RegionLaw
import Derived.Shelf.RegionOpenPlain
namespace Go.Proofs.Ytjkoceacjbhblaa
open Go.RowKit

theorem str_info_ : (Try.prog.info? 9).map (fun i => (i.zero, i.size, i.bytes)) = some (some (.string .empty), 1, 16) := by kernel_rfl
theorem lit_at (w : World) (e : TypeId) (cs : Array Value) (size n g : Nat) (h : cs.size = n * size) (hg : g = w.heap.size) : Sl (w.alloc (.cells cs e)) size (.slice (some ⟨g, 0, none⟩) n n) n cs.toList := by
  subst hg
  exact Sl.lit w e cs size n h
theorem names_take (ns : List ByteArray) (k : Nat) (hk : k < ns.length) : (ns.take k).map Value.string ++ [.string ns[k]] = (ns.take (k + 1)).map Value.string := by
  rw [List.take_succ_eq_append_getElem hk, List.map_append]
  rfl
theorem grown_three {w W2 W3 F : World} {gm : Nat} (h : Below w.heap.size w W2) (k : OnlyB W2 gm W3) (f : Below w.heap.size W3 F) : w.grownBy F (some gm) :=
  ⟨f.os.trans (k.os.trans h.os), f.tape.trans (k.tape.trans h.tape), f.output.trans (k.output.trans h.output), Nat.le_trans h.size (by rw [← k.size]; exact f.size), fun i hi hr => (f.block i hi).trans ((k.far i fun e => hr (by rw [e])).trans (h.block i hi))⟩
theorem mrow_cell {w : World} {base gm n c : Nat} {rows : List (MemD × Value)} (h : w.ownsRow base 79 3 (.slice (some ⟨gm, 0, none⟩) n c) n (rows.flatMap mcells)) (hl : rows.length = n) (i : Nat) (hi : i < rows.length) :
    w.cell? ⟨gm, i * 3, none⟩ = some (.string rows[i].1.name) ∧ w.cell? ⟨gm, i * 3 + 1, none⟩ = some (.int .i64 rows[i].1.heard) ∧ w.cell? ⟨gm, i * 3 + 2, none⟩ = some rows[i].2 ∧ w.frozen? ⟨gm, i * 3 + 2, none⟩ = false := by
  have key : ∀ j u, j < 3 → (mcells rows[i])[j]? = some u → w.cell? ⟨gm, i * 3 + j, none⟩ = some u := fun j u hj hu => by
    rw [World.ownsRow.cellAt h (i * 3 + j) (by omega)]
    exact (cells_get mcells 3 (fun _ => rfl) rows i hi j hj).trans hu
  exact ⟨key 0 _ (by omega) rfl, key 1 _ (by omega) rfl, key 2 _ (by omega) rfl, World.ownsRow.frozenAt h _⟩

set_option maxRecDepth 100000 in
set_option maxHeartbeats 8000000 in
theorem assigned_any (ck wt gn : Int) (gm n c : Nat) (B : Option Addr) (no d : Nat) (rows : List (MemD × Value)) (pt : Int) (base : Nat) (w : World) (h : w.ownsRow base 79 3 (.slice (some ⟨gm, 0, none⟩) n c) n (rows.flatMap mcells)) (hl : rows.length = n) (hn : n ≤ 6)
    (hsl : ∀ t ∈ rows, ∃ A k m, t.2 = .slice A k m) (hg : -1000000000000 ≤ gn ∧ gn ≤ 1000000000000) (hp : 0 ≤ pt ∧ pt ≤ 4) :
    Calls Try.prog 100 #[.agg #[.int .i64 ck, .int .i64 wt, .int .i64 gn, .slice (some ⟨gm, 0, none⟩) n c, .slice B no d], .int .i64 pt] w (AsgdPost ck wt gn gm n c (.slice B no d) (rows.map Prod.fst) pt.toNat base w) := by
  obtain ⟨i0, hi0, hz0, hz1, hz2⟩ := info_parts str_info_
  have hgl := h.lt gm rfl
  have H := Lib.hid h
  have HL := Lib.hid hl
  have HSL := Lib.hid hsl
  clear h hl hsl
  go_enter Try.func100, Try.ntmps100
  go_wp2_with fail
  have hb0 : Below w.heap.size w ((w.alloc (.cells #[.int .i64 ck, .int .i64 wt, .int .i64 (gn + 1), .slice (some ⟨gm, 0, none⟩) n c, .slice B no d] 36)).alloc (.cells #[.int .i64 0, .int .i64 0, .int .i64 0, .slice none 0 0, .slice none 0 0] 36)) := ((Below.refl _ _).alloc (Nat.le_refl _) _).alloc (by simp) _
  have bx0 : Blk ((w.alloc (.cells #[.int .i64 ck, .int .i64 wt, .int .i64 (gn + 1), .slice (some ⟨gm, 0, none⟩) n c, .slice B no d] 36)).alloc (.cells #[.int .i64 0, .int .i64 0, .int .i64 0, .slice none 0 0, .slice none 0 0] 36)) w.heap.size 36 #[.int .i64 ck, .int .i64 wt, .int .i64 (gn + 1), .slice (some ⟨gm, 0, none⟩) n c, .slice B no d] := (Blk.new _ _ _).alloc _
  have bz0 : Blk ((w.alloc (.cells #[.int .i64 ck, .int .i64 wt, .int .i64 (gn + 1), .slice (some ⟨gm, 0, none⟩) n c, .slice B no d] 36)).alloc (.cells #[.int .i64 0, .int .i64 0, .int .i64 0, .slice none 0 0, .slice none 0 0] 36)) (w.heap.size + 1) 36 #[.int .i64 0, .int .i64 0, .int .i64 0, .slice none 0 0, .slice none 0 0] := Blk.new_ _ _ _ (by simp)
  have hz0 : ((w.alloc (.cells #[.int .i64 ck, .int .i64 wt, .int .i64 (gn + 1), .slice (some ⟨gm, 0, none⟩) n c, .slice B no d] 36)).alloc (.cells #[.int .i64 0, .int .i64 0, .int .i64 0, .slice none 0 0, .slice none 0 0] 36)).heap.size = w.heap.size + 2 := by simp
  generalize (w.alloc (.cells #[.int .i64 ck, .int .i64 wt, .int .i64 (gn + 1), .slice (some ⟨gm, 0, none⟩) n c, .slice B no d] 36)).alloc (.cells #[.int .i64 0, .int .i64 0, .int .i64 0, .slice none 0 0, .slice none 0 0] 36) = W0 at *
  have hr0 := own_keep H.out hb0 (fun b hb => (H.out.lt b hb).2)
  have HR0 := Lib.hid hr0
  have HB0 := Lib.hid hb0
  have BX0 := Lib.hid bx0
  have BZ0 := Lib.hid bz0
  have HZ0 := Lib.hid hz0
  clear hr0 hb0 bx0 bz0 hz0
  obtain ⟨ns, hns⟩ : ∃ ns, ns = rows.map fun t => t.1.name := ⟨_, rfl⟩
  have hnl : ns.length = n := by rw [hns, List.length_map]; exact HL.out
  have HNS := Lib.hid hns
  have HNL := Lib.hid hnl
  clear hns hnl
  go_loopw [5, 17] (fun x y wr => ∃ (k : Nat), k ≤ n ∧ y = .int .i64 k ∧ Hid (wr.ownsRow W0.heap.size 9 1 x k ((ns.take k).map Value.string)) ∧ Hid (Below W0.heap.size W0 wr)) (fun _ y _ => n - (intOf y).toNat)
  case atStart => exact ⟨0, by omega, rfl, World.ownsRow_nil _ _ _ _, Below.refl _ _⟩
  case round =>
    obtain ⟨k, hk, rfl, HO, HW⟩ := hrel
    obtain ⟨A5, c5, rfl, -⟩ := (Sl.of_own HO.out).form
    by_cases hlt : k < n
    · have hz : (k : Int) < (n : Int) := by omega
      have hkl : k < rows.length := by rw [HL.out]; exact hlt
      obtain ⟨q0, q1, q2, -⟩ := mrow_cell (own_keep HR0.out HW.out (fun b hb => (HR0.out.lt b hb).2)) HL.out k hkl
      obtain ⟨A6, k6, m6, e6⟩ := HSL.out _ (List.getElem_mem hkl)
      rw [e6] at q2
      have hnk : k < ns.length := by rw [HNL.out]; exact hlt
      have hnm : rows[k].1.name = ns[k] := by simp [HNS.out]
      rw [hnm] at q0
      have hws := HW.out.size
      have HO' := Lib.hid (HO.out.alloc (.cells #[.string ns[k], .int .i64 rows[k].1.heard, .slice A6 k6 m6] 79))
      have hnt := names_take ns k hnk
      have HNT := Lib.hid hnt
      clear e6 hnm hnt
      go_wp2_with (at_builtin; go_must (refine wpList_append_sl _ rfl (.tmp 21) (.tmp 24) 63 rfl W0.heap.size 9 i0 (.string .empty) 1 16 Try.underlying63 hi0 hz0 hz1 hz2 rfl (by decide) _ _ _ (by rfl) (HO'.out.alloc _) _ 1 _ (by rfl) (lit_at _ _ _ 1 1 (wr.heap.size + 1) rfl (by simp)) (by intro x hx; simp at hx; subst hx; rfl) (by simp only [maxLen]; omega) (by omega) (by simp; omega) ?_; intro v4 w4 ho4 hg4 ha4))
      go_light
      refine ⟨⟨k + 1, by omega, by go_num, (by show World.ownsRow _ _ _ _ _ _ _; rw [← HNT.out]; exact ho4), ?_⟩, by simp [intOf]; omega⟩
      exact own_below (HW.out.alloc HW.out.size _) (Nat.le_refl _) HO'.out _ hg4
    · obtain rfl : k = n := by omega
      have hz : ¬ (k : Int) < (k : Int) := by omega
      have hss : Ss wr (.slice A5 k c5) ns := by
        have := Sl.of_own HO.out
        rw [List.take_of_length_le (by rw [HNL.out]; exact Nat.le_refl _)] at this
        have hq := HNL.out
        subst hq
        exact this
      have HSS := Lib.hid hss
      clear hss
      go_wp2_with fail
      go_at_call 51
      refine (assign_any ns k A5 c5 pt wr HSS.out HNL.out (by omega) (by omega)).mono ?_
      rintro e1 W2 ⟨bo, vs, rfl, hls⟩
      have hbw := HW.out.trans (hls.bel.mono HW.out.size)
      have hbo := hls.ge
      have hr2 := own_keep HR0.out hbw (fun b hb => (HR0.out.lt b hb).2)
      have bx2 := BX0.out.below hbw BX0.out.lt
      have bz2 := BZ0.out.below hbw BZ0.out.lt
      have HLS := Lib.hid hls
      have HR2 := Lib.hid hr2
      have HBX2 := Lib.hid bx2
      have HBZ2 := Lib.hid bz2
      have HB2 := Lib.hid (HB0.out.trans (hbw.mono (by have := HZ0.out; omega)))
      have hwz : w.heap.size ≤ wr.heap.size := by have := HW.out.size; have := HZ0.out; omega
      have hgm2 : gm < wr.heap.size := by have := HW.out.size; have := HZ0.out; omega
      have hbx2 : w.heap.size < W2.heap.size := bx2.lt
      have hbx3 : w.heap.size + 1 < W2.heap.size := bz2.lt
      have hbo2 := hls.lt
      have hbon : bo ≠ gm := by omega
      clear hls hbw hr2 bx2 bz2 HB0 BX0 BZ0 HR0 HO HW HSS hbo
      go_wp2_with fail
      go_loopw [31] (fun x wr3 => ∃ j : Nat, j ≤ k ∧ x = .int .i64 j ∧ Hid (OnlyB W2 gm wr3) ∧ Hid (wr3.ownsRow base 79 3 (.slice (some ⟨gm, 0, none⟩) k c) k ((rowsAt rows (fun i => pts (Lt (cmpF ns)) k pt.toNat i) vs j).flatMap mcells))) (fun x _ => k - (intOf x).toNat)
      case atStart => exact ⟨0, by omega, rfl, OnlyB.refl _ _, by rw [rowsAt_zero]; exact HR2.out⟩
      case round =>
        obtain ⟨j, hj, rfl, HY, HM⟩ := hrel
        have hsz3 : wr.heap.size = W2.heap.size := HY.out.size
        by_cases hjk : j < k
        · have hzj : (j : Int) < (k : Int) := by omega
          have hjl : j < rows.length := by rw [HL.out]; exact hjk
          have c3 := (HY.out.blk HBX2.out (by omega)).cell 3
          have cl : wr.cell? ⟨bo, j, none⟩ = some (vs j) := (HY.out.cell hbon).trans (HLS.out.cell hjk)
          obtain ⟨A7, c7, e7, -⟩ := (Sl.of_own (HLS.out.own j hjk)).form
          obtain ⟨-, -, m2, mf⟩ := mrow_cell HM.out (by rw [rowsAt_len]; exact HL.out) j (by rw [rowsAt_len]; exact hjl)
          rw [e7] at cl
          have hlb : bo < wr.heap.size := by omega
          have hlx : w.heap.size < wr.heap.size := by omega
          have hlg : gm < wr.heap.size := by omega
          have S1 := HY.out.set_ (j * 3 + 2) (vs j)
          have S2 := (World.ownsRow.stored HM.out (j * 3 + 2) (vs j)).1
          rw [← rowsAt_step rows _ vs j hjl] at S2
          rw [e7] at S1
          have S3 : (wr.setCell ⟨gm, j * 3 + 2, none⟩ (.slice A7 (pts (Lt (cmpF ns)) k pt.toNat j).length c7)).ownsRow base 79 3 (.slice (some ⟨gm, 0, none⟩) k c) k ((rowsAt rows (fun i => pts (Lt (cmpF ns)) k pt.toNat i) vs (j + 1)).flatMap mcells) := by
            rw [← e7]; exact S2
          have HS1 := Lib.hid S1
          have HS3 := Lib.hid S3
          clear S1 S2 S3 e7 hsz3
          go_wp2_with fail
          go_light
          exact ⟨⟨j + 1, by omega, by go_num, HS1.out, HS3.out⟩, by simp [intOf]; omega⟩
        · obtain rfl : j = k := by omega
          have hzj : ¬ (j : Int) < (j : Int) := by omega
          have cx := HY.out.blk HBX2.out (by omega)
          have cz := HY.out.blk HBZ2.out (by omega)
          have x0 := cx.cell 0
          have x1 := cx.cell 1
          have x2 := cx.cell 2
          have x3 := cx.cell 3
          have x4 := cx.cell 4
          have z0 := cz.cell 0
          have z1 := cz.cell 1
          have z2 := cz.cell 2
          have z3 := cz.cell 3
          have z4 := cz.cell 4
          have f0 := cz.frozen 0
          have f1 := cz.frozen 1
          have f2 := cz.frozen 2
          have f3 := cz.frozen 3
          have f4 := cz.frozen 4
          have lz := cz.lt
          clear cx cz
          go_wp2_with fail
          clear x0 x1 x2 x3 x4 z0 z1 z2 z3 z4 f0 f1 f2 f3 f4 lz
          have bzF : Blk (((((wr.setCell ⟨w.heap.size + 1, 0, none⟩ (.int .i64 ck)).setCell ⟨w.heap.size + 1, 1, none⟩ (.int .i64 wt)).setCell ⟨w.heap.size + 1, 2, none⟩ (.int .i64 (gn + 1))).setCell ⟨w.heap.size + 1, 3, none⟩ (.slice (some ⟨gm, 0, none⟩) j c)).setCell ⟨w.heap.size + 1, 4, none⟩ (.slice B no d)) (w.heap.size + 1) 36 #[.int .i64 ck, .int .i64 wt, .int .i64 (gn + 1), .slice (some ⟨gm, 0, none⟩) j c, .slice B no d] := ((((((HY.out.blk HBZ2.out (by omega)).set_ 0 (.int .i64 ck)).set_ 1 (.int .i64 wt)).set_ 2 (.int .i64 (gn + 1))).set_ 3 (.slice (some ⟨gm, 0, none⟩) j c)).set_ 4 (.slice B no d))
          have hbF : Below w.heap.size wr (((((wr.setCell ⟨w.heap.size + 1, 0, none⟩ (.int .i64 ck)).setCell ⟨w.heap.size + 1, 1, none⟩ (.int .i64 wt)).setCell ⟨w.heap.size + 1, 2, none⟩ (.int .i64 (gn + 1))).setCell ⟨w.heap.size + 1, 3, none⟩ (.slice (some ⟨gm, 0, none⟩) j c)).setCell ⟨w.heap.size + 1, 4, none⟩ (.slice B no d)) := ((((((Below.refl w.heap.size wr).setCell (by show w.heap.size ≤ w.heap.size + 1; omega) (.int .i64 ck)).setCell (by show w.heap.size ≤ w.heap.size + 1; omega) (.int .i64 wt)).setCell (by show w.heap.size ≤ w.heap.size + 1; omega) (.int .i64 (gn + 1))).setCell (by show w.heap.size ≤ w.heap.size + 1; omega) (.slice (some ⟨gm, 0, none⟩) j c)).setCell (by show w.heap.size ≤ w.heap.size + 1; omega) (.slice B no d))
          have y0 := bzF.cell 0
          have y1 := bzF.cell 1
          have y2 := bzF.cell 2
          have y3 := bzF.cell 3
          have y4 := bzF.cell 4
          obtain ⟨p1, p2⟩ := asgd_rows HLS.out hgm2 HY.out HL.out w.heap.size hwz
          have mF : (((((wr.setCell ⟨w.heap.size + 1, 0, none⟩ (.int .i64 ck)).setCell ⟨w.heap.size + 1, 1, none⟩ (.int .i64 wt)).setCell ⟨w.heap.size + 1, 2, none⟩ (.int .i64 (gn + 1))).setCell ⟨w.heap.size + 1, 3, none⟩ (.slice (some ⟨gm, 0, none⟩) j c)).setCell ⟨w.heap.size + 1, 4, none⟩ (.slice B no d)).ownsRow base 79 3 (.slice (some ⟨gm, 0, none⟩) j c) j ((rowsAt rows (fun i => pts (Lt (cmpF ns)) j pt.toNat i) vs j).flatMap mcells) := (own_far (own_far (own_far (own_far (own_far HM.out (HY.out.blk HBZ2.out (by omega)) (by decide) 0 (.int .i64 ck)) ((HY.out.blk HBZ2.out (by omega)).set_ 0 (.int .i64 ck)) (by decide) 1 (.int .i64 wt)) (((HY.out.blk HBZ2.out (by omega)).set_ 0 (.int .i64 ck)).set_ 1 (.int .i64 wt)) (by decide) 2 (.int .i64 (gn + 1))) ((((HY.out.blk HBZ2.out (by omega)).set_ 0 (.int .i64 ck)).set_ 1 (.int .i64 wt)).set_ 2 (.int .i64 (gn + 1))) (by decide) 3 (.slice (some ⟨gm, 0, none⟩) j c)) (((((HY.out.blk HBZ2.out (by omega)).set_ 0 (.int .i64 ck)).set_ 1 (.int .i64 wt)).set_ 2 (.int .i64 (gn + 1))).set_ 3 (.slice (some ⟨gm, 0, none⟩) j c)) (by decide) 4 (.slice B no d))
          have pF : ∀ t ∈ rowsAt rows (fun i => pts (Lt (cmpF ns)) j pt.toNat i) vs j, (((((wr.setCell ⟨w.heap.size + 1, 0, none⟩ (.int .i64 ck)).setCell ⟨w.heap.size + 1, 1, none⟩ (.int .i64 wt)).setCell ⟨w.heap.size + 1, 2, none⟩ (.int .i64 (gn + 1))).setCell ⟨w.heap.size + 1, 3, none⟩ (.slice (some ⟨gm, 0, none⟩) j c)).setCell ⟨w.heap.size + 1, 4, none⟩ (.slice B no d)).ownsRow w.heap.size 3 1 t.2 t.1.parts.length (t.1.parts.map (Value.int .i64)) := fun t ht => (own_far (own_far (own_far (own_far (own_far (p1 t ht) (HY.out.blk HBZ2.out (by omega)) (by decide) 0 (.int .i64 ck)) ((HY.out.blk HBZ2.out (by omega)).set_ 0 (.int .i64 ck)) (by decide) 1 (.int .i64 wt)) (((HY.out.blk HBZ2.out (by omega)).set_ 0 (.int .i64 ck)).set_ 1 (.int .i64 wt)) (by decide) 2 (.int .i64 (gn + 1))) ((((HY.out.blk HBZ2.out (by omega)).set_ 0 (.int .i64 ck)).set_ 1 (.int .i64 wt)).set_ 2 (.int .i64 (gn + 1))) (by decide) 3 (.slice (some ⟨gm, 0, none⟩) j c)) (((((HY.out.blk HBZ2.out (by omega)).set_ 0 (.int .i64 ck)).set_ 1 (.int .i64 wt)).set_ 2 (.int .i64 (gn + 1))).set_ 3 (.slice (some ⟨gm, 0, none⟩) j c)) (by decide) 4 (.slice B no d))
          refine bodyPost_ret (v := .agg #[.int .i64 ck, .int .i64 wt, .int .i64 (gn + 1), .slice (some ⟨gm, 0, none⟩) j c, .slice B no d]) ?_ ?_ ⟨_, rfl, ?_, mF, pF, p2, grown_three HB2.out HY.out hbF⟩
          · simp [results, Try.results100, go_sem, y0, y1, y2, y3, y4]
          · rfl
          · rw [HNS.out, ← HL.out]
            exact rowsAt_all rows _ vs
end Go.Proofs.Ytjkoceacjbhblaa
namespace Go.Proofs.Ytjkoceacjbhblaa
open Go.RowKit

set_option maxRecDepth 100000 in
set_option maxHeartbeats 8000000 in
theorem anew_any (ck wt gn : Int) (gm n c : Nat) (B : Option Addr) (no d : Nat) (rows : List (MemD × Value)) (pt : Int) (base : Nat) (w : World) (h : w.ownsRow base 79 3 (.slice (some ⟨gm, 0, none⟩) n c) n (rows.flatMap mcells)) (hl : rows.length = n) (hn : n ≤ 6)
    (hg : -1000000000000 ≤ gn ∧ gn ≤ 1000000000000) (hp : 0 ≤ pt ∧ pt ≤ 4) :
    Calls Try.prog 102 #[.agg #[.int .i64 ck, .int .i64 wt, .int .i64 gn, .slice (some ⟨gm, 0, none⟩) n c, .slice B no d], .int .i64 pt] w (AsgdPost ck wt gn gm n c (.slice B no d) (rows.map Prod.fst) pt.toNat base w) := by
  obtain ⟨i0, hi0, hz0, hz1, hz2⟩ := info_parts str_info_
  have hgl := h.lt gm rfl
  have H := Lib.hid h
  have HL := Lib.hid hl
  clear h hl
  go_enter Try.func102, Try.ntmps102
  go_wp2_with fail
  have hb0 : Below w.heap.size w ((w.alloc (.cells #[.int .i64 ck, .int .i64 wt, .int .i64 (gn + 1), .slice (some ⟨gm, 0, none⟩) n c, .slice B no d] 36)).alloc (.cells #[.int .i64 0, .int .i64 0, .int .i64 0, .slice none 0 0, .slice none 0 0] 36)) := ((Below.refl _ _).alloc (Nat.le_refl _) _).alloc (by simp) _
  have bx0 : Blk ((w.alloc (.cells #[.int .i64 ck, .int .i64 wt, .int .i64 (gn + 1), .slice (some ⟨gm, 0, none⟩) n c, .slice B no d] 36)).alloc (.cells #[.int .i64 0, .int .i64 0, .int .i64 0, .slice none 0 0, .slice none 0 0] 36)) w.heap.size 36 #[.int .i64 ck, .int .i64 wt, .int .i64 (gn + 1), .slice (some ⟨gm, 0, none⟩) n c, .slice B no d] := (Blk.new _ _ _).alloc _
  have bz0 : Blk ((w.alloc (.cells #[.int .i64 ck, .int .i64 wt, .int .i64 (gn + 1), .slice (some ⟨gm, 0, none⟩) n c, .slice B no d] 36)).alloc (.cells #[.int .i64 0, .int .i64 0, .int .i64 0, .slice none 0 0, .slice none 0 0] 36)) (w.heap.size + 1) 36 #[.int .i64 0, .int .i64 0, .int .i64 0, .slice none 0 0, .slice none 0 0] := Blk.new_ _ _ _ (by simp)
  have hz0 : ((w.alloc (.cells #[.int .i64 ck, .int .i64 wt, .int .i64 (gn + 1), .slice (some ⟨gm, 0, none⟩) n c, .slice B no d] 36)).alloc (.cells #[.int .i64 0, .int .i64 0, .int .i64 0, .slice none 0 0, .slice none 0 0] 36)).heap.size = w.heap.size + 2 := by simp
  generalize (w.alloc (.cells #[.int .i64 ck, .int .i64 wt, .int .i64 (gn + 1), .slice (some ⟨gm, 0, none⟩) n c, .slice B no d] 36)).alloc (.cells #[.int .i64 0, .int .i64 0, .int .i64 0, .slice none 0 0, .slice none 0 0] 36) = W0 at *
  have hr0 := own_keep H.out hb0 (fun b hb => (H.out.lt b hb).2)
  have HR0 := Lib.hid hr0
  have HB0 := Lib.hid hb0
  have BX0 := Lib.hid bx0
  have BZ0 := Lib.hid bz0
  have HZ0 := Lib.hid hz0
  clear hr0 hb0 bx0 bz0 hz0
  obtain ⟨ns, hns⟩ : ∃ ns, ns = rows.map fun t => t.1.name := ⟨_, rfl⟩
  have hnl : ns.length = n := by rw [hns, List.length_map]; exact HL.out
  have HNS := Lib.hid hns
  have HNL := Lib.hid hnl
  clear hns hnl
  go_loopw [5, 6] (fun x y wr => ∃ (k : Nat), k ≤ n ∧ y = .int .i64 k ∧ Hid (wr.ownsRow W0.heap.size 9 1 x k ((ns.take k).map Value.string)) ∧ Hid (Below W0.heap.size W0 wr)) (fun _ y _ => n - (intOf y).toNat)
  case atStart => exact ⟨0, by omega, rfl, World.ownsRow_nil _ _ _ _, Below.refl _ _⟩
  case round =>
    obtain ⟨k, hk, rfl, HO, HW⟩ := hrel
    obtain ⟨A5, c5, rfl, -⟩ := (Sl.of_own HO.out).form
    by_cases hlt : k < n
    · have hz : (k : Int) < (n : Int) := by omega
      have hkl : k < rows.length := by rw [HL.out]; exact hlt
      have c3 := (BX0.out.below HW.out BX0.out.lt).cell 3
      obtain ⟨q0, -, -, -⟩ := mrow_cell (own_keep HR0.out HW.out (fun b hb => (HR0.out.lt b hb).2)) HL.out k hkl
      have hnk : k < ns.length := by rw [HNL.out]; exact hlt
      have hnm : rows[k].1.name = ns[k] := by simp [HNS.out]
      rw [hnm] at q0
      have hws := HW.out.size
      have hnt := names_take ns k hnk
      have HNT := Lib.hid hnt
      clear hnm hnt
      go_wp2_with (at_builtin; go_must (refine wpList_append_sl _ rfl (.tmp 20) (.tmp 27) 63 rfl W0.heap.size 9 i0 (.string .empty) 1 16 Try.underlying63 hi0 hz0 hz1 hz2 rfl (by decide) _ _ _ (by rfl) (HO.out.alloc _) _ 1 _ (by rfl) (lit_at _ _ _ 1 1 wr.heap.size rfl (by simp)) (by intro x hx; simp at hx; subst hx; rfl) (by simp only [maxLen]; omega) (by omega) (by simp; omega) ?_; intro v4 w4 ho4 hg4 ha4))
      go_light
      refine ⟨⟨k + 1, by omega, by go_num, (by show World.ownsRow _ _ _ _ _ _ _; rw [← HNT.out]; exact ho4), ?_⟩, by simp [intOf]; omega⟩
      exact own_below HW.out (Nat.le_refl _) HO.out _ hg4
    · obtain rfl : k = n := by omega
      have hz : ¬ (k : Int) < (k : Int) := by omega
      have hss : Ss wr (.slice A5 k c5) ns := by
        have := Sl.of_own HO.out
        rw [List.take_of_length_le (by rw [HNL.out]; exact Nat.le_refl _)] at this
        have hq := HNL.out
        subst hq
        exact this
      have HSS := Lib.hid hss
      clear hss
      have c3 := (BX0.out.below HW.out BX0.out.lt).cell 3
      go_wp2_with fail
      go_at_call 52
      refine (assignedOf_any ns k A5 c5 pt wr HSS.out HNL.out (by omega) (by omega)).mono ?_
      rintro e1 W2 ⟨bo, vs, rfl, hls⟩
      have hbw := HW.out.trans (hls.bel.mono HW.out.size)
      have hbo := hls.ge
      have hr2 := own_keep HR0.out hbw (fun b hb => (HR0.out.lt b hb).2)
      have bx2 := BX0.out.below hbw BX0.out.lt
      have bz2 := BZ0.out.below hbw BZ0.out.lt
      have HLS := Lib.hid hls
      have HR2 := Lib.hid hr2
      have HBX2 := Lib.hid bx2
      have HBZ2 := Lib.hid bz2
      have HB2 := Lib.hid (HB0.out.trans (hbw.mono (by have := HZ0.out; omega)))
      have hwz : w.heap.size ≤ wr.heap.size := by have := HW.out.size; have := HZ0.out; omega
      have hgm2 : gm < wr.heap.size := by have := HW.out.size; have := HZ0.out; omega
      have hbx2 : w.heap.size < W2.heap.size := bx2.lt
      have hbx3 : w.heap.size + 1 < W2.heap.size := bz2.lt
      have hbo2 := hls.lt
      have hbon : bo ≠ gm := by omega
      clear hls hbw hr2 bx2 bz2 HB0 BX0 BZ0 HR0 HO HW HSS hbo c3
      go_wp2_with fail
      go_loopw [8] (fun x wr3 => ∃ j : Nat, j ≤ k ∧ x = .int .i64 j ∧ Hid (OnlyB W2 gm wr3) ∧ Hid (wr3.ownsRow base 79 3 (.slice (some ⟨gm, 0, none⟩) k c) k ((rowsAt rows (fun i => pts (Lt (cmpF ns)) k pt.toNat i) vs j).flatMap mcells))) (fun x _ => k - (intOf x).toNat)
      case atStart => exact ⟨0, by omega, rfl, OnlyB.refl _ _, by rw [rowsAt_zero]; exact HR2.out⟩
      case round =>
        obtain ⟨j, hj, rfl, HY, HM⟩ := hrel
        have hsz3 : wr.heap.size = W2.heap.size := HY.out.size
        by_cases hjk : j < k
        · have hzj : (j : Int) < (k : Int) := by omega
          have hjl : j < rows.length := by rw [HL.out]; exact hjk
          have c3 := (HY.out.blk HBX2.out (by omega)).cell 3
          have cl : wr.cell? ⟨bo, j, none⟩ = some (vs j) := (HY.out.cell hbon).trans (HLS.out.cell hjk)
          obtain ⟨A7, c7, e7, -⟩ := (Sl.of_own (HLS.out.own j hjk)).form
          obtain ⟨-, -, m2, mf⟩ := mrow_cell HM.out (by rw [rowsAt_len]; exact HL.out) j (by rw [rowsAt_len]; exact hjl)
          rw [e7] at cl
          have hlb : bo < wr.heap.size := by omega
          have hlx : w.heap.size < wr.heap.size := by omega
          have hlg : gm < wr.heap.size := by omega
          have S1 := HY.out.set_ (j * 3 + 2) (vs j)
          have S2 := (World.ownsRow.stored HM.out (j * 3 + 2) (vs j)).1
          rw [← rowsAt_step rows _ vs j hjl] at S2
          rw [e7] at S1
          have S3 : (wr.setCell ⟨gm, j * 3 + 2, none⟩ (.slice A7 (pts (Lt (cmpF ns)) k pt.toNat j).length c7)).ownsRow base 79 3 (.slice (some ⟨gm, 0, none⟩) k c) k ((rowsAt rows (fun i => pts (Lt (cmpF ns)) k pt.toNat i) vs (j + 1)).flatMap mcells) := by
            rw [← e7]; exact S2
          have HS1 := Lib.hid S1
          have HS3 := Lib.hid S3
          clear S1 S2 S3 e7 hsz3
          go_wp2_with fail
          go_big_region
          all_goals go_wp2
          all_goals go_light
          all_goals exact ⟨⟨j + 1, by omega, by go_num, HS1.out.drew, HS3.out⟩, by simp [intOf]; omega⟩
        · obtain rfl : j = k := by omega
          have hzj : ¬ (j : Int) < (j : Int) := by omega
          have cx := HY.out.blk HBX2.out (by omega)
          have cz := HY.out.blk HBZ2.out (by omega)
          have x0 := cx.cell 0
          have x1 := cx.cell 1
          have x2 := cx.cell 2
          have x3 := cx.cell 3
          have x4 := cx.cell 4
          have z0 := cz.cell 0
          have z1 := cz.cell 1
          have z2 := cz.cell 2
          have z3 := cz.cell 3
          have z4 := cz.cell 4
          have f0 := cz.frozen 0
          have f1 := cz.frozen 1
          have f2 := cz.frozen 2
          have f3 := cz.frozen 3
          have f4 := cz.frozen 4
          have lz := cz.lt
          clear cx cz
          go_wp2_with fail
          clear x0 x1 x2 x3 x4 z0 z1 z2 z3 z4 f0 f1 f2 f3 f4 lz
          have bzF : Blk (((((wr.setCell ⟨w.heap.size + 1, 0, none⟩ (.int .i64 ck)).setCell ⟨w.heap.size + 1, 1, none⟩ (.int .i64 wt)).setCell ⟨w.heap.size + 1, 2, none⟩ (.int .i64 (gn + 1))).setCell ⟨w.heap.size + 1, 3, none⟩ (.slice (some ⟨gm, 0, none⟩) j c)).setCell ⟨w.heap.size + 1, 4, none⟩ (.slice B no d)) (w.heap.size + 1) 36 #[.int .i64 ck, .int .i64 wt, .int .i64 (gn + 1), .slice (some ⟨gm, 0, none⟩) j c, .slice B no d] := ((((((HY.out.blk HBZ2.out (by omega)).set_ 0 (.int .i64 ck)).set_ 1 (.int .i64 wt)).set_ 2 (.int .i64 (gn + 1))).set_ 3 (.slice (some ⟨gm, 0, none⟩) j c)).set_ 4 (.slice B no d))
          have hbF : Below w.heap.size wr (((((wr.setCell ⟨w.heap.size + 1, 0, none⟩ (.int .i64 ck)).setCell ⟨w.heap.size + 1, 1, none⟩ (.int .i64 wt)).setCell ⟨w.heap.size + 1, 2, none⟩ (.int .i64 (gn + 1))).setCell ⟨w.heap.size + 1, 3, none⟩ (.slice (some ⟨gm, 0, none⟩) j c)).setCell ⟨w.heap.size + 1, 4, none⟩ (.slice B no d)) := ((((((Below.refl w.heap.size wr).setCell (by show w.heap.size ≤ w.heap.size + 1; omega) (.int .i64 ck)).setCell (by show w.heap.size ≤ w.heap.size + 1; omega) (.int .i64 wt)).setCell (by show w.heap.size ≤ w.heap.size + 1; omega) (.int .i64 (gn + 1))).setCell (by show w.heap.size ≤ w.heap.size + 1; omega) (.slice (some ⟨gm, 0, none⟩) j c)).setCell (by show w.heap.size ≤ w.heap.size + 1; omega) (.slice B no d))
          have y0 := bzF.cell 0
          have y1 := bzF.cell 1
          have y2 := bzF.cell 2
          have y3 := bzF.cell 3
          have y4 := bzF.cell 4
          obtain ⟨p1, p2⟩ := asgd_rows HLS.out hgm2 HY.out HL.out w.heap.size hwz
          have mF : (((((wr.setCell ⟨w.heap.size + 1, 0, none⟩ (.int .i64 ck)).setCell ⟨w.heap.size + 1, 1, none⟩ (.int .i64 wt)).setCell ⟨w.heap.size + 1, 2, none⟩ (.int .i64 (gn + 1))).setCell ⟨w.heap.size + 1, 3, none⟩ (.slice (some ⟨gm, 0, none⟩) j c)).setCell ⟨w.heap.size + 1, 4, none⟩ (.slice B no d)).ownsRow base 79 3 (.slice (some ⟨gm, 0, none⟩) j c) j ((rowsAt rows (fun i => pts (Lt (cmpF ns)) j pt.toNat i) vs j).flatMap mcells) := (own_far (own_far (own_far (own_far (own_far HM.out (HY.out.blk HBZ2.out (by omega)) (by decide) 0 (.int .i64 ck)) ((HY.out.blk HBZ2.out (by omega)).set_ 0 (.int .i64 ck)) (by decide) 1 (.int .i64 wt)) (((HY.out.blk HBZ2.out (by omega)).set_ 0 (.int .i64 ck)).set_ 1 (.int .i64 wt)) (by decide) 2 (.int .i64 (gn + 1))) ((((HY.out.blk HBZ2.out (by omega)).set_ 0 (.int .i64 ck)).set_ 1 (.int .i64 wt)).set_ 2 (.int .i64 (gn + 1))) (by decide) 3 (.slice (some ⟨gm, 0, none⟩) j c)) (((((HY.out.blk HBZ2.out (by omega)).set_ 0 (.int .i64 ck)).set_ 1 (.int .i64 wt)).set_ 2 (.int .i64 (gn + 1))).set_ 3 (.slice (some ⟨gm, 0, none⟩) j c)) (by decide) 4 (.slice B no d))
          have pF : ∀ t ∈ rowsAt rows (fun i => pts (Lt (cmpF ns)) j pt.toNat i) vs j, (((((wr.setCell ⟨w.heap.size + 1, 0, none⟩ (.int .i64 ck)).setCell ⟨w.heap.size + 1, 1, none⟩ (.int .i64 wt)).setCell ⟨w.heap.size + 1, 2, none⟩ (.int .i64 (gn + 1))).setCell ⟨w.heap.size + 1, 3, none⟩ (.slice (some ⟨gm, 0, none⟩) j c)).setCell ⟨w.heap.size + 1, 4, none⟩ (.slice B no d)).ownsRow w.heap.size 3 1 t.2 t.1.parts.length (t.1.parts.map (Value.int .i64)) := fun t ht => (own_far (own_far (own_far (own_far (own_far (p1 t ht) (HY.out.blk HBZ2.out (by omega)) (by decide) 0 (.int .i64 ck)) ((HY.out.blk HBZ2.out (by omega)).set_ 0 (.int .i64 ck)) (by decide) 1 (.int .i64 wt)) (((HY.out.blk HBZ2.out (by omega)).set_ 0 (.int .i64 ck)).set_ 1 (.int .i64 wt)) (by decide) 2 (.int .i64 (gn + 1))) ((((HY.out.blk HBZ2.out (by omega)).set_ 0 (.int .i64 ck)).set_ 1 (.int .i64 wt)).set_ 2 (.int .i64 (gn + 1))) (by decide) 3 (.slice (some ⟨gm, 0, none⟩) j c)) (((((HY.out.blk HBZ2.out (by omega)).set_ 0 (.int .i64 ck)).set_ 1 (.int .i64 wt)).set_ 2 (.int .i64 (gn + 1))).set_ 3 (.slice (some ⟨gm, 0, none⟩) j c)) (by decide) 4 (.slice B no d))
          refine bodyPost_ret (v := .agg #[.int .i64 ck, .int .i64 wt, .int .i64 (gn + 1), .slice (some ⟨gm, 0, none⟩) j c, .slice B no d]) ?_ ?_ ⟨_, rfl, ?_, mF, pF, p2, grown_three HB2.out HY.out hbF⟩
          · simp [results, Try.results102, go_sem, y0, y1, y2, y3, y4]
          · rfl
          · rw [HNS.out, ← HL.out]
            exact rowsAt_all rows _ vs
end Go.Proofs.Ytjkoceacjbhblaa
namespace Go.Proofs.Ytjkoceacjbhblaa
open Go.RowKit

def Counted (gn parts : Int) : Prop := 0 ≤ parts ∧ parts ≤ 4 ∧ gn < 1073741824
noncomputable def nextG (g : GroupD) (ms : List MemD) (parts : Int) : GroupD := ⟨g.clock, g.wait, g.gen + 1, asgM ms parts.toNat, g.offs⟩
theorem nextG_fits {g : GroupD} (h : GroupOk g) {ms : List MemD} (hl : ms.length ≤ 6) {parts : Int} (hc : Counted g.gen parts) : (nextG g ms parts).Fits := by
  refine ⟨⟨?_, h.bounds.2.2.1⟩, fun t ht => ?_⟩
  · show (asgM ms parts.toNat).length ≤ _
    rw [asgM_len]; omega
  · have := asgM_parts t ht
    have := hc.2.1
    omega
def JoinTo (g : GroupD) (s : ByteArray) (parts : Int) (g' : GroupD) (n : Int) : Prop :=
  (NameFaultM g s n ∧ g' = zeroG) ∨ (GroupOk g ∧ NameOk s ∧ ((¬ Counted g.gen parts ∧ n = 2 ∧ g' = zeroG) ∨ (Counted g.gen parts ∧ (((∃ i, idxM g.mems s = some i) ∧ n = 6 ∧ g' = zeroG) ∨
    (idxM g.mems s = none ∧ ((g.mems.length = 6 ∧ n = 16 ∧ g' = zeroG) ∨ (g.mems.length < 6 ∧ n = 0 ∧ g' = nextG g (g.mems ++ [⟨s, g.clock, []⟩]) parts)))))))
theorem JoinTo.fits {g : GroupD} {s : ByteArray} {parts : Int} {g' : GroupD} {n : Int} (h : JoinTo g s parts g' n) : g'.Fits := by
  rcases h with ⟨-, rfl⟩ | ⟨h1, -, ⟨-, -, rfl⟩ | ⟨h3, ⟨-, -, rfl⟩ | ⟨-, ⟨-, -, rfl⟩ | ⟨h4, -, rfl⟩⟩⟩⟩
  all_goals first | exact zeroG_fits | exact nextG_fits h1 (by simp; omega) h3

set_option maxRecDepth 100000 in
set_option maxHeartbeats 2000000 in
theorem counted_any (ck wt gn parts : Int) (A B : Option Addr) (n c k d : Nat) (w : World) :
    Calls Try.prog 99 #[.agg #[.int .i64 ck, .int .i64 wt, .int .i64 gn, .slice A n c, .slice B k d], .int .i64 parts] w (Tells (Counted gn parts) w) := by
  have hb : Below w.heap.size w (w.alloc (.cells #[.int .i64 ck, .int .i64 wt, .int .i64 gn, .slice A n c, .slice B k d] 36)) := (Below.refl _ _).alloc (Nat.le_refl _) _
  have HB := Lib.hid hb
  clear hb
  by_cases h1 : 0 ≤ parts
  · by_cases h2 : parts ≤ 4
    · go_enter Try.func99, Try.ntmps99
      go_wp2
      go_ret
      exact ⟨_, rfl, by simp [Counted, h1, h2], HB.out⟩
    · go_enter Try.func99, Try.ntmps99
      go_wp2
      go_ret
      exact ⟨_, rfl, by simp [Counted]; omega, HB.out⟩
  · go_enter Try.func99, Try.ntmps99
    go_wp2
    go_ret
    exact ⟨_, rfl, by simp [Counted]; omega, HB.out⟩

set_option maxRecDepth 100000 in
set_option maxHeartbeats 2000000 in
theorem partsMay_any (ck wt gn parts : Int) (A B : Option Addr) (n c k d : Nat) (w : World) :
    Calls Try.prog 101 #[.agg #[.int .i64 ck, .int .i64 wt, .int .i64 gn, .slice A n c, .slice B k d], .int .i64 parts] w (Tells (Counted gn parts) w) := by
  have hb : Below w.heap.size w (w.alloc (.cells #[.int .i64 ck, .int .i64 wt, .int .i64 gn, .slice A n c, .slice B k d] 36)) := (Below.refl _ _).alloc (Nat.le_refl _) _
  have HB := Lib.hid hb
  clear hb
  by_cases h1 : 0 ≤ parts ∧ parts ≤ 4
  · have hd : inB parts 0 4 = true := by simp [inB, h1]
    go_enter Try.func101, Try.ntmps101
    go_wp2_with (go_at_call 64; refine (In_any _ _ _ _).mono ?_; rintro e w' ⟨rfl, rfl⟩)
    go_ret
    exact ⟨_, rfl, by simp [Counted, h1], HB.out⟩
  · have hd : inB parts 0 4 = false := by
      rcases Int.lt_or_le parts 0 with h | h
      · simp [inB]; omega
      · simp [inB]; omega
    go_enter Try.func101, Try.ntmps101
    go_wp2_with (go_at_call 64; refine (In_any _ _ _ _).mono ?_; rintro e w' ⟨rfl, rfl⟩)
    go_ret
    exact ⟨_, rfl, by simp [Counted]; omega, HB.out⟩
end Go.Proofs.Ytjkoceacjbhblaa
namespace Go.Proofs.Ytjkoceacjbhblaa
open Go.RowKit

theorem own_block {w : World} {base size n : Nat} {e : TypeId} {v : Value} {xs : List Value} (h : w.ownsRow base e size v n xs) (hn : 0 < n) : ∃ g c, v = .slice (some ⟨g, 0, none⟩) n c := by
  rcases h.2 with ⟨_, e0⟩ | ⟨g, c, cur, e, -⟩
  · omega
  · exact ⟨g, c, e⟩
theorem own_off {w : World} {base size n g : Nat} {e t : TypeId} {v : Value} {xs : List Value} {cs : Array Value} (h : w.ownsRow base e size v n xs) (b : Blk w g t cs) (ht : t ≠ e) : some g ≠ v.ownBlock := by
  rcases h.2 with ⟨e1, _⟩ | ⟨k, c, cur, e1, _, hk, _⟩
  · rw [e1]; simp [Value.ownBlock]
  · rw [e1]
    intro q
    injection q with q
    subst q
    unfold Blk at b
    rw [hk] at b
    injection b with b
    injection b with _ b _
    exact ht b.symm
theorem own_apart2 {w : World} {b1 b2 : Nat} {e1 e2 : TypeId} {s1 s2 n1 n2 g n c : Nat} {v1 : Value} {x1 x2 : List Value} (h1 : w.ownsRow b1 e1 s1 v1 n1 x1) (h2 : w.ownsRow b2 e2 s2 (.slice (some ⟨g, 0, none⟩) n c) n2 x2) (he : e1 ≠ e2) : v1.ownBlock = none ∨ v1.ownBlock ≠ some g := own_apart h1 h2 he
theorem AsgdPost.ownM {w W W' : World} {ck wt gn : Int} {gm n c P base : Nat} {ov : Value} {ms0 ms : List MemD} {e : Ending} (h : AsgdPost ck wt gn gm n c ov ms0 P base W e W') (hms : ms0 = ms) (hn : ms.length = n) (hb0 : w.heap.size ≤ base) (hb : base ≤ W.heap.size) (hB : Below w.heap.size w W) :
    ∃ rows, e = .returned (.agg #[.int .i64 ck, .int .i64 wt, .int .i64 (gn + 1), .slice (some ⟨gm, 0, none⟩) n c, ov]) ∧ OwnM w W' base (.slice (some ⟨gm, 0, none⟩) n c) (asgM ms P) rows (asgM ms P).length ∧ W.grownBy W' (some gm) := by
  subst hms
  obtain ⟨rows, rfl, h1, h2, h3, h4, h5⟩ := h
  have hl : rows.length = (asgM ms0 P).length := by rw [← h1]; simp
  refine ⟨rows, rfl, ⟨h1, ?_, hB.grown h5 hB.size fun k hk => ?_, fun t ht => ?_, fun t ht => ?_, ?_⟩, h5⟩
  · rw [asgM_len, hn]; exact h2
  · injection hk with hk
    subst hk
    exact Nat.le_trans hb0 (h2.lt gm rfl).1
  · rw [List.drop_of_length_le (by omega)] at ht
    simp at ht
  · rw [List.take_of_length_le (by omega)] at ht
    exact own_base (h3 t ht) hb
  · rw [List.take_of_length_le (by omega)]
    exact h4
end Go.Proofs.Ytjkoceacjbhblaa
namespace Go.Proofs.Ytjkoceacjbhblaa
open Go.RowKit Go.Shelf

def shelfRen : Go.Shelf.Ren := ⟨fun | 25 => 93 | 31 => 117 | 32 => 118 | 37 => 126 | 23 => 94 | 21 => 98 | 27 => 122 | 28 => 123 | 35 => 130 | 39 => 133 | n => n,
  fun | 0 => 0 | 3 => 3 | 4 => 4 | 22 => 24 | 40 => 126 | n => n, fun n => n⟩
theorem setCells_row (g : Nat) : ∀ (vs : List Value) (o : Nat) (w : World) (cur : Array Value) (t : TypeId), w.heap[g]? = some (.cells cur t (0, 0)) → o + vs.length ≤ cur.size → ∃ cur' : Array Value, (w.setCells g o vs).heap[g]? = some (.cells cur' t (0, 0)) ∧ cur'.toList = cur.toList.take o ++ vs ++ cur.toList.drop (o + vs.length)
  | [], o, w, cur, t, h, _ => ⟨cur, h, by simp⟩
  | v :: r, o, w, cur, t, h, hl => by
    simp only [List.length_cons] at hl
    obtain ⟨cur', h1, h2⟩ := setCells_row g r (o + 1) (w.setCell ⟨g, o, none⟩ v) (cur.setIfInBounds o v) t (heap_setCell_same w g o cur t v h) (by simp; omega)
    refine ⟨cur', h1, ?_⟩
    rw [h2, Array.toList_setIfInBounds, List.drop_set_of_lt (by omega)]
    have hl2 : o < cur.toList.length := by simp; omega
    rw [List.take_succ_eq_append_getElem (by simpa using hl2), List.take_set, List.getElem_set_self, List.set_eq_of_length_le (by simp; omega)]
    simp [show o + 1 + r.length = o + (r.length + 1) by omega]
def delAt (ps : List Int) (i : Nat) : List Int := ps.take i ++ ps.drop (i + 1)
def insAt (ps : List Int) (i : Nat) (x : Int) : List Int := ps.take i ++ x :: ps.drop i
end Go.Proofs.Ytjkoceacjbhblaa
namespace Go.Proofs.Ytjkoceacjbhblaa
open Go.RowKit Go.Shelf

/-- cells of a row of elements of k cells set, and the number of its elements set anew -/
theorem own_cutk {w : World} {base g n m c o k : Nat} {t : TypeId} {xs vs ys : List Value} (h : w.ownsRow base t k (.slice (some ⟨g, 0, none⟩) n c) n xs) (hm : m ≤ c) (ho : o ≤ n * k) (hvs : o + vs.length ≤ c * k) (hml : m * k ≤ n * k ∨ m * k ≤ o + vs.length) (hy : (xs.take o ++ vs ++ xs.drop (o + vs.length)).take (m * k) = ys) :
    (w.setCells g o vs).ownsRow base t k (.slice (some ⟨g, 0, none⟩) m c) m ys := by
  obtain ⟨hl, h2⟩ := h
  rcases h2 with ⟨e, _⟩ | ⟨g', c', cur, e, hb, hg, hnc, hcm, hcs, htake⟩
  · cases e
  · injection e with e1 _ e3
    injection e1 with e1
    injection e1 with e1
    subst e1 e3
    obtain ⟨cur', h1, h2⟩ := setCells_row g vs o w cur t hg (by omega)
    have hcl : cur.toList.length = c * k := by simp; omega
    have hnk : n * k ≤ c * k := Nat.mul_le_mul_right k hnc
    have hmk : m * k ≤ c * k := Nat.mul_le_mul_right k hm
    have hs : cur'.size = c * k := by
      rw [← Array.length_toList, h2]
      simp only [List.length_append, List.length_take, List.length_drop, hcl]
      omega
    have key : (cur.toList.take o ++ vs ++ cur.toList.drop (o + vs.length)).take (m * k) = ys := by
      rw [← hy]
      have e1 : cur.toList.take o = xs.take o := by rw [← htake, List.take_take]; congr 1; omega
      rw [e1]
      have hP : (xs.take o ++ vs).length = o + vs.length := by simp only [List.length_append, List.length_take]; omega
      generalize xs.take o ++ vs = P at hP
      rcases hml with hmn | hmo
      · apply List.ext_getElem?
        intro j
        rw [List.getElem?_take, List.getElem?_take]
        split
        · rename_i hj
          by_cases c1 : j < o + vs.length
          · rw [List.getElem?_append_left (by omega), List.getElem?_append_left (by omega)]
          · rw [List.getElem?_append_right (by omega), List.getElem?_append_right (by omega)]
            have hq : (cur.toList.drop (o + vs.length))[j - P.length]? = ((cur.toList.take (n * k)).drop (o + vs.length))[j - P.length]? := by
              rw [List.getElem?_drop, List.getElem?_drop, List.getElem?_take, if_pos]
              omega
            rw [hq, htake]
        · rfl
      · rw [List.take_append_of_le_length (by omega), List.take_append_of_le_length (by omega)]
    refine ⟨?_, Or.inr ⟨g, c, cur', rfl, hb, h1, hm, hcm, hs, by rw [h2]; exact key⟩⟩
    rw [← key]
    simp only [List.length_append, List.length_take, List.length_drop, hcl]
    omega
def insC (cs : List Value) (j : Nat) (vs : List Value) : List Value := cs.take j ++ vs ++ cs.drop j
end Go.Proofs.Ytjkoceacjbhblaa
namespace Go.Proofs.Ytjkoceacjbhblaa
open Go.RowKit Go.Shelf

def zeroM : List Value := [.string .empty, .int .i64 0, .slice none 0 0]
theorem run_clear_m (w : World) (ty : TypeId) (b o c : Nat) (hc : ∀ j, j < 3 → (w.cell? ⟨b, o + j, none⟩).isSome = true) (hf : ∀ j, j < 3 → w.frozen? ⟨b, o + j, none⟩ = false) :
    (Builtin.clear_ #[33] ty #[.slice (some ⟨b, o, none⟩) 1 c]).run Try.prog w = .ok (.tuple #[]) (w.setCells b o zeroM) := by
  obtain ⟨i0, hi0, hz0, -, -⟩ := info_parts CloneMem_info
  have hst := run_storeCells_cells (P := Try.prog) b o zeroM 0 w (by simpa [zeroM] using hc) (by simpa [zeroM] using hf) (by intro v hv; simp [zeroM] at hv; rcases hv with rfl | rfl | rfl <;> rfl)
  simp only [Nat.add_zero] at hst
  have hv : ∀ w, (zeroValue 79).run Try.prog w = .ok (.agg #[.string .empty, .int .i64 0, .slice none 0 0]) w := fun w => by simp [zeroValue, typeInfo, hi0, hz0]
  have hzc : (Builtin.zeroCells (Value.agg #[.string .empty, .int .i64 0, .slice none 0 0]).cells 1).toList = zeroM := by kernel_rfl
  simp [Builtin.clear_, run_underlying Try.underlying33, hv, hzc, hst]

set_option maxHeartbeats 4000000 in
set_option maxRecDepth 100000 in
theorem delM_any (b n c i : Nat) (cs : List Value) (w : World) {base : Nat} (h : w.ownsRow base 79 3 (.slice (some ⟨b, 0, none⟩) n c) n cs) (hi : i < n) (hn : n < 1000) (h1c : ∀ u ∈ cs, u.oneCell' = true) :
    Calls Try.prog 107 #[.slice (some ⟨b, 0, none⟩) n c, .int .i64 i, .int .i64 ((i : Int) + 1)] w fun e w' => e = .returned (.slice (some ⟨b, 0, none⟩) (n - 1) c) ∧ w' = (w.drew.setCells b (i * 3) (cs.drop ((i + 1) * 3))).setCells b ((n - 1) * 3) zeroM := by
  obtain ⟨i0, hi0, hz0, hzs, hzb⟩ := info_parts CloneMem_info
  obtain ⟨hcl, cur, hg, hcur, hnc, hc63⟩ : cs.length = n * 3 ∧ ∃ cur, w.heap[b]? = some (.cells cur 79 (0, 0)) ∧ cur.size = c * 3 ∧ n ≤ c ∧ c ≤ 9223372036854775807 := by
    rcases h with ⟨h1, ⟨e, _⟩ | ⟨g, c', cur, e, -, hg, hnc, hcm, hcs, -⟩⟩
    · cases e
    · injection e with e1 _ e3
      injection e1 with e1
      injection e1 with e1
      subst e1 e3
      exact ⟨h1, cur, hg, hcs, hnc, hcm⟩
  have hcells : ∀ j u, cs[j]? = some u → w.cell? ⟨b, j, none⟩ = some u := by
    intro j u hj
    have hjn : j < n * 3 := by have := (List.getElem?_eq_some_iff.1 hj).1; omega
    rw [World.ownsRow.cellAt h j hjn]
    exact hj
  have hsome : ∀ j, j < c * 3 → (w.cell? ⟨b, j, none⟩).isSome = true := by
    intro j hj
    rw [cell_of_row w b j cur 79 (0, 0) hg, Array.getElem?_eq_getElem (by omega)]
    rfl
  have hfz : ∀ j, w.frozen? ⟨b, j, none⟩ = false := fun j => World.ownsRow.frozenAt h j
  have mixed : Try.prog.follows .mixedOrders = true := by kernel_rfl
  obtain ⟨news, hnews⟩ : ∃ news, news = cs.drop ((i + 1) * 3) := ⟨_, rfl⟩
  have hlen : news.length = (n - (i + 1)) * 3 := by rw [hnews, List.length_drop, hcl]; omega
  obtain ⟨A, hA, hsrc⟩ : ∃ A : Addr, (if c = i + 1 then some (⟨b, 0, none⟩ : Addr) else some ⟨b, (i + 1) * 3, none⟩) = some A ∧ Hid (∀ t u, news[t]? = some u → w.drew.cell? (A.add t) = some u) := by
    by_cases e : c = i + 1
    · refine ⟨⟨b, 0, none⟩, by simp [e], fun t u hu => ?_⟩
      have h0 : news.length = 0 := by rw [hlen]; omega
      rw [List.length_eq_zero_iff.1 h0] at hu
      simp at hu
    · refine ⟨⟨b, (i + 1) * 3, none⟩, by simp [e], fun t u hu => ?_⟩
      rw [hnews, List.getElem?_drop] at hu
      rw [Addr.add_lit]
      exact hcells _ _ hu
  have s1 : Hid (news.length = (n - (i + 1)) * 3) := hlen
  have s2 : Hid (∀ u ∈ news, u.oneCell' = true) := fun u hu => h1c u (by rw [hnews] at hu; exact List.mem_of_mem_drop hu)
  have s3 : Hid (∀ t, t < news.length → (w.drew.cell? ⟨b, 0 + i * 3 + t, none⟩).isSome = true ∧ w.drew.frozen? ⟨b, 0 + i * 3 + t, none⟩ = false) := fun t ht => ⟨hsome _ (by rw [hlen] at ht; omega), hfz _⟩
  obtain ⟨W1, hW1⟩ : ∃ W1, W1 = w.drew.setCells b (i * 3) news := ⟨_, rfl⟩
  have hc1 : ∀ k, k < c * 3 → (W1.cell? ⟨b, k, none⟩).isSome = true := fun k hk => by
    rw [hW1]
    exact isSome_setCells b news (i * 3) w.drew (fun j hj => hsome _ (by rw [hlen] at hj; omega)) k (hsome k hk)
  have hf1 : ∀ k, W1.frozen? ⟨b, k, none⟩ = false := fun k => by rw [hW1, World.frozen?_setCells]; exact hfz k
  have hclr : ∀ ty o l d, o = (n - 1) * 3 → l = 1 → (Builtin.clear_ #[33] ty #[.slice (some ⟨b, o, none⟩) l d]).run Try.prog W1 = .ok (.tuple #[]) (W1.setCells b ((n - 1) * 3) zeroM) := fun ty o l d e1 e2 => by
    subst e1 e2
    exact run_clear_m W1 ty b _ _ (fun j hj => hc1 _ (by omega)) (fun j _ => hf1 _)
  have hW : Hid (W1 = w.drew.setCells b (0 + i * 3) news) := by rw [Nat.zero_add]; exact hW1
  have HN : Hid (news = cs.drop ((i + 1) * 3)) := hnews
  have hw1 : IntKind.i64.wrap ((i : Int) + 1) = (i : Int) + 1 := by rw [IntKind.wrap_i64]; omega
  have hne : ((i : Int) == (i : Int) + 1) = false := by simp; omega
  have htn : ((i : Int) + 1).toNat = i + 1 := by omega
  have hin : (i : Int) + 1 ≤ (n : Int) := by omega
  have hic : i ≤ c := by omega
  have hb1 : (0 : Int) ≤ (i : Int) + 1 := by omega
  clear h hcells hsome hfz hlen hnews hW1 hc1 hf1 hg
  go_enter Try.func107, Try.ntmps107
  go_wp2_with fail
  go_region_law_o (refine step_append_room rfl (.tmp 22) (.tmp 25) 33 rfl 79 i0 3 Try.underlying33 hi0 hzs b 0 i c (by simp [Act.eval, Act.put]) A (n - (i + 1)) (c - (i + 1)) news (by simp [Act.eval, Act.put]) s1.out hsrc.out s2.out (by omega) s3.out ?_; rw [← hW.out])
  have hlz : i + (n - (i + 1)) = n - 1 := by omega
  have hcl2 := fun ty => hclr ty ((n - 1) * 3) (n - (n - 1)) (c - (n - 1)) rfl (by omega)
  have hcn : ¬ c = n - 1 := by omega
  have hn1 : n - 1 ≤ n := by omega
  have hn2 : n - 1 ≤ c := by omega
  clear hclr
  go_wp2_with fail
  go_ret
  exact ⟨rfl, by rw [hW.out, Nat.zero_add, HN.out]⟩
end Go.Proofs.Ytjkoceacjbhblaa
namespace Go.Proofs.Ytjkoceacjbhblaa
open Go.RowKit

theorem OnlyB.setCells {w0 : World} {b : Nat} : ∀ (vs : List Value) (o : Nat) {W : World}, OnlyB w0 b W → OnlyB w0 b (W.setCells b o vs)
  | [], _, _, h => h
  | v :: r, o, _, h => OnlyB.setCells r (o + 1) (h.set_ o v)
theorem mcells_len (rows : List (MemD × Value)) : (rows.flatMap mcells).length = rows.length * 3 := by
  induction rows with
  | nil => rfl
  | cons t r ih => rw [List.flatMap_cons, List.length_append, ih]; simp [mcells]; omega
theorem mcells_take (rows : List (MemD × Value)) : ∀ k, (rows.take k).flatMap mcells = (rows.flatMap mcells).take (k * 3) := by
  induction rows with
  | nil => intro k; simp
  | cons o os ih =>
    intro k
    rcases k with _ | k
    · simp
    · have e : (k + 1) * 3 = (mcells o).length + k * 3 := by simp [mcells]; omega
      rw [List.take_succ_cons, List.flatMap_cons, List.flatMap_cons, e, List.take_length_add_append, ih k]
theorem mcells_drop (rows : List (MemD × Value)) : ∀ k, (rows.drop k).flatMap mcells = (rows.flatMap mcells).drop (k * 3) := by
  induction rows with
  | nil => intro k; simp
  | cons o os ih =>
    intro k
    rcases k with _ | k
    · simp
    · have e : (k + 1) * 3 = (mcells o).length + k * 3 := by simp [mcells]; omega
      rw [List.drop_succ_cons, List.flatMap_cons, e, List.drop_length_add_append, ih k]
theorem mcells_erase (rows : List (MemD × Value)) (i : Nat) : (rows.eraseIdx i).flatMap mcells = (rows.flatMap mcells).take (i * 3) ++ (rows.flatMap mcells).drop ((i + 1) * 3) := by
  rw [List.eraseIdx_eq_take_drop_succ, List.flatMap_append, mcells_take, mcells_drop]
theorem delM_own (b n c i : Nat) (rows : List (MemD × Value)) (w : World) {base : Nat} (h : w.ownsRow base 79 3 (.slice (some ⟨b, 0, none⟩) n c) n (rows.flatMap mcells)) (hl : rows.length = n) (hi : i < n) (hn : n < 1000) (h1c : ∀ t ∈ rows, t.2.oneCell' = true) :
    Calls Try.prog 107 #[.slice (some ⟨b, 0, none⟩) n c, .int .i64 i, .int .i64 ((i : Int) + 1)] w fun e w' => e = .returned (.slice (some ⟨b, 0, none⟩) (n - 1) c) ∧ w'.ownsRow base 79 3 (.slice (some ⟨b, 0, none⟩) (n - 1) c) (n - 1) ((rows.eraseIdx i).flatMap mcells) ∧ OnlyB w b w' := by
  refine (delM_any b n c i _ w h hi hn (mcells_one rows h1c)).mono ?_
  rintro e w' ⟨rfl, rfl⟩
  have hc : n ≤ c := by
    rcases h.2 with ⟨e, _⟩ | ⟨g, c', cur, e, -, -, hnc, -⟩
    · cases e
    · injection e with _ _ e3; omega
  have hxl := mcells_len rows
  rw [hl] at hxl
  have hdl : ((rows.flatMap mcells).drop ((i + 1) * 3)).length = (n - (i + 1)) * 3 := by rw [List.length_drop, hxl]; omega
  have hd : w.drew.ownsRow base 79 3 (.slice (some ⟨b, 0, none⟩) n c) n (rows.flatMap mcells) := h
  refine ⟨rfl, ?_, OnlyB.setCells _ _ (OnlyB.setCells _ _ (OnlyB.refl w b).drew)⟩
  have h1 := own_cutk (m := n - 1) (o := i * 3) (vs := (rows.flatMap mcells).drop ((i + 1) * 3)) (ys := (rows.eraseIdx i).flatMap mcells) hd (by omega) (by omega) (by rw [hdl]; omega) (Or.inl (by omega)) (by
    rw [mcells_erase, List.take_append_of_le_length (by rw [List.length_append, List.length_take, hdl, hxl]; omega), List.take_of_length_le (by rw [List.length_append, List.length_take, hdl, hxl]; omega)])
  refine own_cutk (m := n - 1) (o := (n - 1) * 3) (vs := zeroM) h1 (by omega) (by omega) (by show (n - 1) * 3 + 3 ≤ c * 3; omega) (Or.inl (by omega)) ?_
  have hel : ((rows.eraseIdx i).flatMap mcells).length = (n - 1) * 3 := by rw [mcells_len, List.length_eraseIdx, if_pos (by omega), hl]
  rw [List.append_assoc, List.take_append_of_le_length (by rw [List.length_take, hel]; omega), List.take_of_length_le (by rw [List.length_take, hel]; omega), List.take_of_length_le (by omega)]

theorem map_erase {α β : Type} (f : α → β) (l : List α) (i : Nat) : (l.eraseIdx i).map f = (l.map f).eraseIdx i := by
  rw [List.eraseIdx_eq_take_drop_succ, List.eraseIdx_eq_take_drop_succ, List.map_append, List.map_take, List.map_drop]
def LeaveTo (g : GroupD) (s : ByteArray) (parts : Int) (g' : GroupD) (n : Int) : Prop :=
  (NameFaultM g s n ∧ g' = zeroG) ∨ (GroupOk g ∧ NameOk s ∧ ((¬ Counted g.gen parts ∧ n = 2 ∧ g' = zeroG) ∨ (Counted g.gen parts ∧ ((idxM g.mems s = none ∧ n = 5 ∧ g' = zeroG) ∨ ∃ i, idxM g.mems s = some i ∧ n = 0 ∧ g' = nextG g (g.mems.eraseIdx i) parts))))
theorem leave_to (g : GroupD) (s : ByteArray) (parts : Int) : ∃ g' n, LeaveTo g s parts g' n := by
  rcases name_faultM_or g s with ⟨n, h⟩ | ⟨h1, h2⟩
  · exact ⟨_, n, Or.inl ⟨h, rfl⟩⟩
  · by_cases h3 : Counted g.gen parts
    · cases h4 : idxM g.mems s with
      | some i => exact ⟨_, 0, Or.inr ⟨h1, h2, Or.inr ⟨h3, Or.inr ⟨i, h4, rfl, rfl⟩⟩⟩⟩
      | none => exact ⟨_, 5, Or.inr ⟨h1, h2, Or.inr ⟨h3, Or.inl ⟨h4, rfl, rfl⟩⟩⟩⟩
    · exact ⟨_, 2, Or.inr ⟨h1, h2, Or.inl ⟨h3, rfl, rfl⟩⟩⟩
theorem LeaveTo.fits {g : GroupD} {s : ByteArray} {parts : Int} {g' : GroupD} {n : Int} (h : LeaveTo g s parts g' n) : g'.Fits := by
  rcases h with ⟨-, rfl⟩ | ⟨h1, -, ⟨-, -, rfl⟩ | ⟨h3, ⟨-, -, rfl⟩ | ⟨i, -, -, rfl⟩⟩⟩
  · exact zeroG_fits
  · exact zeroG_fits
  · exact zeroG_fits
  · refine nextG_fits h1 ?_ h3
    have := List.length_eraseIdx_le g.mems i
    have := h1.many
    omega
end Go.Proofs.Ytjkoceacjbhblaa
