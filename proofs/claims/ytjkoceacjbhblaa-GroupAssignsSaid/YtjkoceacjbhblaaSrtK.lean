/- group.Assign: each member is given every n-th part, by the order of names. -/
import Derived.Test.YtjkoceacjbhblaaSrtJ
import Derived.Test.YtjkoceacjbhblaaCloneInt
import Derived.Deep.OwnRows
namespace Go.Proofs.Ytjkoceacjbhblaa
open Go.RowKit

def AsgPost (N : List ByteArray) (n P : Nat) (w : World) (e : Ending) (w' : World) : Prop := ∃ bo vs, e = .returned (.slice (some ⟨bo, 0, none⟩) n n) ∧ Lst w w' w.heap.size bo n vs (fun i => pts (Lt (cmpF N)) n P i)
theorem Ord.cong {w0 W : World} {b n : Nat} {f g : Nat → Nat} (h : Ord w0 b n f W) (e : ∀ k, k < n → f k = g k) : Ord w0 b n g W := by
  refine ⟨h.os, h.tape, h.output, h.size, h.far, ?_⟩
  rw [h.row]
  congr 2
  unfold rowOf
  congr 1
  exact List.map_congr_left fun k hk => by rw [e k (List.mem_range.1 hk)]
theorem Ord.fill {w0 W : World} {b n k : Nat} (h : Ord w0 b n (fun j => if j < k then j else 0) W) : Ord w0 b n (fun j => if j < k + 1 then j else 0) (W.setCell ⟨b, k, none⟩ (.int .i64 k)) := by
  refine (h.set_ k k).cong fun j _ => ?_
  repeat' split
  all_goals omega
theorem Ord.below {w0 W : World} {b n B : Nat} {f : Nat → Nat} (h : Ord w0 b n f W) (hB : B ≤ b) : Below B w0 W :=
  ⟨h.os, h.tape, h.output, by rw [h.size]; exact Nat.le_refl _, fun k hk => h.far k (by omega)⟩
theorem slices_info : (Try.prog.info? 24).map (fun i => (i.zero, i.size, i.bytes)) = some (some (.slice none 0 0), 1, 24) := by kernel_rfl

theorem Lst.rebase {w w1 w' : World} {base base' bo n : Nat} {vs : Nat → Value} {ls : Nat → List Int} (h : Lst w1 w' base bo n vs ls) (hb : Below base' w w1) (hs : base' ≤ base) : Lst w w' base' bo n vs ls :=
  ⟨hb.trans (h.bel.mono hs), Nat.le_trans hs h.ge, h.blk, fun i hi => own_base (h.own i hi) hs, h.apart⟩

set_option maxRecDepth 100000 in
set_option maxHeartbeats 8000000 in
theorem assign_any (N : List ByteArray) (n : Nat) (A : Option Addr) (c : Nat) (pt : Int) (w : World) (hv : Ss w (.slice A n c) N) (hl : N.length = n) (hn : n < 8796093022208) (hp : -1000 ≤ pt ∧ pt ≤ 1000) :
    Calls Try.prog 51 #[.slice A n c, .int .i64 pt] w (AsgPost N n pt.toNat w) := by
  have hcell : 0 < n → ∃ b off, A = some ⟨b, off, none⟩ ∧ b < w.heap.size ∧ ∀ i (hi : i < N.length), w.cell? ⟨b, off + i, none⟩ = some (.string N[i]) := by
    obtain ⟨A', c', hA, -, hcell⟩ := hv.at_
    injection hA with e1 _ _
    subst e1
    rw [← hl]
    exact hcell
  obtain ⟨i0, hi0, hz0, hz1, hz2⟩ := info_parts CloneInt_info
  have hmk : ∀ W, (Instr.makeSlice 24 (.int .i64 n) (.int .i64 n)).run Try.prog W = .ok (.slice (some ⟨W.heap.size, 0, none⟩) n n) (W.alloc (.cells (madeCells #[.int .i64 0] n) 3)) := fun W => run_make_row' 24 3 (.int .i64 0) 8 Try.underlying24 (by kernel_rfl) rfl .i64 .i64 n (by omega) (by omega) W
  have hmk2 : ∀ W, (Instr.makeSlice 64 (.int .i64 n) (.int .i64 n)).run Try.prog W = .ok (.slice (some ⟨W.heap.size, 0, none⟩) n n) (W.alloc (.cells (madeCells #[.slice none 0 0] n) 24)) := fun W => run_make_row' 64 24 (.slice none 0 0) 24 Try.underlying64 slices_info rfl .i64 .i64 n (by omega) (by omega) W
  have HCELL := Lib.hid hcell
  have HLN := Lib.hid hl
  clear hv hcell hl
  rw [made_zero] at hmk
  rw [made_nil] at hmk2
  go_enter Try.func51, Try.ntmps51
  go_wp2_with fail
  have hn0 : ((w.alloc (.cells #[.slice A n c] 63)).alloc (.cells (rowOf (fun _ => 0) n) 3)).heap[w.heap.size + 1]? = some (.cells (rowOf (fun _ => 0) n) 3 (0, 0)) := Blk.new_ _ _ _ (by simp)
  have hb0 : Below w.heap.size w ((w.alloc (.cells #[.slice A n c] 63)).alloc (.cells (rowOf (fun _ => 0) n) 3)) := ((Below.refl _ _).alloc (Nat.le_refl _) _).alloc (by simp) _
  have hp0 : Blk ((w.alloc (.cells #[.slice A n c] 63)).alloc (.cells (rowOf (fun _ => 0) n) 3)) w.heap.size 63 #[.slice A n c] := (Blk.new _ _ _).alloc _
  have hz0' : ((w.alloc (.cells #[.slice A n c] 63)).alloc (.cells (rowOf (fun _ => 0) n) 3)).heap.size = w.heap.size + 2 := by simp
  generalize (w.alloc (.cells #[.slice A n c] 63)).alloc (.cells (rowOf (fun _ => 0) n) 3) = W0 at *
  have hnm : NamesAt W0 w.heap.size (w.heap.size + 1) n N A c := by
    refine ⟨HLN.out, hp0.cell 0, by omega, fun h0 => ?_⟩
    obtain ⟨nb, off, e1, e2, e3⟩ := HCELL.out h0
    exact ⟨nb, off, e1, by omega, fun k hk => (hb0.cell (p := ⟨nb, off + k, none⟩) e2).trans (e3 k hk)⟩
  have HNM := Lib.hid hnm
  have HN0 := Lib.hid hn0
  have HB0 := Lib.hid hb0
  have HZ0 := Lib.hid hz0'
  clear hn0 hb0 hp0 hz0' hnm HCELL
  go_loopw [15] (fun i wr => ∃ k : Nat, k ≤ n ∧ i = .int .i64 k ∧ Hid (Ord W0 (w.heap.size + 1) n (fun j => if j < k then j else 0) wr)) (fun i _ => n - (intOf i).toNat)
  case atStart => exact ⟨0, by omega, rfl, Ord.start HN0.out⟩
  case round =>
    obtain ⟨k, hk, rfl, HW⟩ := hrel
    by_cases hlt : k < n
    · have hz : (k : Int) < (n : Int) := by omega
      have ck := HW.out.cell hlt
      have fk := HW.out.frozen k
      have S := HW.out.fill
      have HS := Lib.hid S
      clear S HW
      go_wp2_with fail
      go_light
      exact ⟨⟨k + 1, by omega, by go_num, HS.out⟩, by simp [intOf]; omega⟩
    · obtain rfl : k = n := by omega
      have hz : ¬ (k : Int) < (k : Int) := by omega
      have HOS := Lib.hid (HW.out.cong (g := id) fun j hj => by rw [if_pos hj]; rfl)
      clear HW HN0
      have cp : wr.cell? ⟨w.heap.size, 0, none⟩ = some (.slice A k c) := by
        rw [World.cell?_of_block (HOS.out.far w.heap.size (by omega))]
        exact HNM.out.ptr
      go_wp2_with fail
      go_at_call 95
      refine (sortStable_any k (w.heap.size + 1) k w.heap.size (cmpF N) W0 wr (cmp_names W0 w.heap.size (w.heap.size + 1) k c N A (by omega) HNM.out) (ordr_cmpF N) HOS.out (by omega)).mono ?_
      rintro e1 W1 ⟨rfl, g, G, X, Y⟩
      have HG := Lib.hid G
      have HX := Lib.hid X
      have HY := Lib.hid Y
      have hb1 : Below w.heap.size w W1 := HB0.out.trans (G.below (by omega))
      have HB1 := Lib.hid hb1
      have hz1' : W1.heap.size = w.heap.size + 2 := by rw [G.size, HZ0.out]
      have cp : W1.cell? ⟨w.heap.size, 0, none⟩ = some (.slice A k c) := by
        rw [World.cell?_of_block (G.far w.heap.size (by omega))]
        exact HNM.out.ptr
      clear G X Y hb1 HOS HB0 HZ0
      have HZ1 := Lib.hid hz1'
      clear hz1'
      obtain ⟨P, hP⟩ : ∃ P : Nat, pt.toNat = P := ⟨_, rfl⟩
      have hP2 : P ≤ 1000 := by omega
      have hPn : pt < 0 → P = 0 := by omega
      have hPp : ¬ pt < 0 → pt = (P : Int) := by omega
      rw [hP]
      have HPN := Lib.hid hPn
      have HPP := Lib.hid hPp
      clear hP hp hPn hPp
      have hlt1 : w.heap.size < W1.heap.size := by have := HZ1.out; omega
      have hb2 : Below w.heap.size w (W1.alloc (.cells (rowV (fun _ => .slice none 0 0) k) 24)) := HB1.out.alloc (by omega) _
      have hl2 := Lst.made W1 W1 W1.heap.size k (Below.refl _ _) (Nat.le_refl _)
      have HL2 := Lib.hid hl2
      clear hl2 hb2
      by_cases h0 : 0 < k
      · have z0 : ((k : Int) == 0) = false := by simp; omega
        by_cases hneg : pt < 0
        · go_wp2
          clear z0 hmk hmk2 cp
          go_loopw [35] (fun i wr2 => i = .int .i64 0 ∧ Hid (Lst W1 wr2 W1.heap.size W1.heap.size k (fun _ => .slice none 0 0) (fun i => prg g k 0 i))) (fun _ _ => 0)
          case atStart => exact ⟨rfl, HL2.out⟩
          case round =>
            clear HL2
            obtain ⟨rfl, HL⟩ := hrel
            go_wp2
            go_ret
            refine ⟨W1.heap.size, fun _ => .slice none 0 0, rfl, (HL.out.rebase HB1.out (by omega)).cong fun i hi => ?_⟩
            rw [show pt.toNat = 0 by omega]
            exact prg_pts (ordr_cmpF N) HX.out HY.out 0 i hi
        · have hq := HPP.out hneg
          subst hq
          go_wp2
          clear z0 hmk hmk2 cp
          go_loopw [35] (fun i wr2 => ∃ (j : Nat) (vs : Nat → Value), j ≤ P ∧ i = .int .i64 j ∧ Hid (Lst W1 wr2 W1.heap.size W1.heap.size k vs (fun i => prg g k j i))) (fun i _ => P - (intOf i).toNat)
          case atStart => exact ⟨0, fun _ => .slice none 0 0, by omega, rfl, HL2.out⟩
          case round =>
            clear HL2
            obtain ⟨j, vs, hj, rfl, HL⟩ := hrel
            by_cases hjP : j < P
            · have hz : (j : Int) < (P : Int) := by omega
              have hq : j % k < k := Nat.mod_lt _ h0
              obtain ⟨q, hjq⟩ : ∃ q, q = j % k := ⟨_, rfl⟩
              have hqz : (j : Int).tmod (k : Int) = (q : Int) := by rw [hjq]; rfl
              rw [← hjq] at hq
              have hqn : (q : Int) < (k : Int) := by omega
              obtain ⟨x, hx⟩ : ∃ x, x = g q := ⟨_, rfl⟩
              have hxk : x < k := by rw [hx]; exact HY.out q hq
              have hxz : (x : Int) < (k : Int) := by omega
              have cq : wr.cell? ⟨w.heap.size + 1, q, none⟩ = some (.int .i64 x) := by
                rw [HL.out.bel.cell (p := ⟨w.heap.size + 1, q, none⟩) (by have := HZ1.out; show w.heap.size + 1 < _; omega), hx]
                exact HG.out.cell hq
              have cx := HL.out.cell hxk
              have own := HL.out.own x hxk
              obtain ⟨A5, c5, hv5, -⟩ := (Sl.of_own own).form
              rw [hv5] at cx own
              have hlen : (prg g k j x).length ≤ j := by
                unfold prg casts
                rw [List.length_map]
                exact Nat.le_trans (List.length_filter_le _ _) (by simp)
              have lb := HL.out.lt
              have HO := Lib.hid own
              have HV5 := Lib.hid hv5
              have HJQ := Lib.hid hjq
              have HXG := Lib.hid hx
              clear own hv5 hjq hx
              go_wp2_with (at_builtin; go_must (refine wpList_append_sl _ rfl (.tmp 50) (.tmp 52) 24 rfl W1.heap.size 3 i0 (.int .i64 0) 1 8 Try.underlying24 hi0 hz0 hz1 hz2 rfl (by decide) _ _ _ (by rfl) (HO.out.alloc _) _ 1 _ (by rfl) (Sl.lit _ _ _ 1 1 rfl) (by intro x hx; simp at hx; subst hx; rfl) (by simp only [maxLen]; omega) (by omega) (by simp; omega) ?_; intro v4 w4 ho4 hg4 ha4; obtain ⟨A4, c4, rfl, -⟩ := (Sl.of_own ho4).form; obtain ⟨hbl, hl⟩ := HL.out.push hxk (by rw [HV5.out]; exact hg4) ho4 (by rw [HV5.out]; exact ha4); have cb := (hbl.cell x).trans (rowV_get hxk); have fb := hbl.frozen x; have HL4 := Lib.hid hl; clear ho4 hg4 ha4 hbl hl))
              go_light
              refine ⟨⟨j + 1, _, by omega, by go_num, HL4.out.cong fun i hi => ?_⟩, by simp [intOf]; omega⟩
              rw [prg_succ, ← HJQ.out, ← HXG.out]
            · obtain rfl : j = P := by omega
              have hz : ¬ (j : Int) < (j : Int) := by omega
              go_wp2
              go_ret
              refine ⟨W1.heap.size, vs, rfl, (HL.out.rebase HB1.out (by omega)).cong fun i hi => ?_⟩
              exact prg_pts (ordr_cmpF N) HX.out HY.out j i hi
      · have z0 : ((k : Int) == 0) = true := by simp; omega
        have H0 := Lib.hid h0
        clear h0
        go_wp2
        go_ret
        exact ⟨W1.heap.size, fun _ => .slice none 0 0, rfl, (HL2.out.rebase HB1.out (by omega)).cong fun i hi => absurd hi (by have := H0.out; omega)⟩
end Go.Proofs.Ytjkoceacjbhblaa
