/- slices.Grow of nil and slices.Concat at []uint8: a row of its own. -/
import Derived.Test.YtpjjfnpdopdnkaaSegD
import Derived.Lib.AppendZerosOnto
import Derived.Lib.SliceRun
namespace Go.Proofs.Ytpjjfnpdopdnkaa
open Go.RowKit

theorem zeros_size (n : Nat) : (Builtin.zeroCells #[Value.int .u8 0] n).size = n := by
  have := size_zeroCells #[Value.int .u8 0] n
  simpa using this
set_option maxRecDepth 100000 in
set_option maxHeartbeats 1000000 in
theorem grow_nil (n : Nat) (w : World) (hn : 0 < n) (hb : n ≤ 140737488355328) :
    Calls Try.prog 103 #[.slice none 0 0, .int .i64 n] w fun e w' => ∃ v', e = .returned v' ∧ w'.ownsRow w.heap.size 5 1 v' 0 [] ∧ Below w.heap.size w w' := by
  obtain ⟨i0, hi0, hz0, hz1, hz2⟩ := info_parts CloneByte_info
  have hold : (Builtin.firstCells i0.size 0 (.slice none 0 0)).run Try.prog w.drew = .ok ([] : List Value).toArray w.drew := run_firstCells_none w.drew i0.size 0 0 0
  have hrz : ∀ ty, (Builtin.append_ #[34, 3] ty #[.slice none 0 0, .int .i64 (n : Int)]).run Try.prog w =
      .ok (.slice (some ⟨w.heap.size, 0, none⟩) n (grownCap w n 0 5)) (w.drew.alloc (.cells ((#[] : Array Value) ++ Builtin.zeroCells #[.int .u8 0] n ++ Builtin.zeroCells #[.int .u8 0] (grownCap w n 0 5 - n)) 5)) := fun ty => by
    have h := Lib.run_append_grow_zeros (P := Try.prog) w 34 3 ty 5 i0 (.int .u8 0) .i64 .i64 Try.underlying34 Try.underlying3 hi0 hz0 none 0 0 [] hold n hn (by omega) (by omega) (by omega) (by rw [hz2]; omega) (by rw [Nat.zero_add]; exact growslice_fits (by omega) (by rw [hz2]; omega))
    simpa [Value.cells] using h
  have hGn : n ≤ grownCap w n 0 5 := grownCap_ge w _ _ _
  have hGm : grownCap w n 0 5 ≤ maxLen := grownCap_le_maxLen w n 0 5 (by unfold maxLen; omega)
  have hG63 : grownCap w n 0 5 ≤ 9223372036854775807 := by unfold maxLen at hGm; omega
  generalize grownCap w n 0 5 = G at *
  have hsz : ((#[] : Array Value) ++ Builtin.zeroCells #[.int .u8 0] n ++ Builtin.zeroCells #[.int .u8 0] (G - n)).size = G := by
    simp only [Array.size_append, zeros_size]
    simp
    omega
  generalize (#[] : Array Value) ++ Builtin.zeroCells #[.int .u8 0] n ++ Builtin.zeroCells #[.int .u8 0] (G - n) = cs at *
  have hbw : Below w.heap.size w (w.drew.alloc (.cells cs 5)) := ((Below.refl w.heap.size w).drew).alloc (Nat.le_refl _) _
  have how : (w.drew.alloc (.cells cs 5)).ownsRow w.heap.size 5 1 (.slice (some ⟨w.heap.size, 0, none⟩) 0 G) 0 [] :=
    ⟨rfl, Or.inr ⟨w.heap.size, G, cs, rfl, Nat.le_refl _, Blk.new w.drew 5 cs, Nat.zero_le _, hGm, by omega, rfl⟩⟩
  have HOW := Lib.hid how
  have HBW := Lib.hid hbw
  have h1 : ¬ ((n : Int) < 0) := by omega
  have h4 : (0 : Int) < (n : Int) := by omega
  clear how hbw hold hsz
  go_enter Try.func103, Try.ntmps103
  go_wp2_with (at_builtin; refine Lib.wpList_append_run _ rfl _ _ _ _ rfl _ _ rfl rfl _ _ (hrz _) ?_)
  all_goals (go_ret; exact ⟨_, rfl, HOW.out, HBW.out⟩)

set_option maxRecDepth 100000 in
set_option maxHeartbeats 1000000 in
theorem concat_any (v : Value) (rows : List (List UInt8)) (vs : List Value) (w : World) (hvl : vs.length = rows.length) (h : Sl w 1 v rows.length vs) (hr : ∀ k (h1 : k < rows.length) (h2 : k < vs.length), By w vs[k] rows[k]) (hm : rows.flatten.length ≤ 140737488355328) (hpos : 0 < rows.flatten.length) (hn : rows.length ≤ 9223372036854775807) :
    Calls Try.prog 84 #[v] w fun e w' => ∃ v', e = .returned v' ∧ w'.ownsRow w.heap.size 5 1 v' rows.flatten.length (bvs rows.flatten) ∧ Below w.heap.size w w' := by
  obtain ⟨i0, hi0, hz0, hz1, hz2⟩ := info_parts CloneByte_info
  obtain ⟨hl, A, c, rfl, hc, hcell⟩ := h
  have HC := Lib.hid hcell
  have HR := Lib.hid hr
  have HP := Lib.hid hpos
  clear hcell hr hl hpos
  go_enter Try.func84, Try.ntmps84
  go_wp2
  obtain ⟨f, hf⟩ : ∃ f : Nat → Nat, ∀ k, f k = (rows.take k).flatten.length := ⟨_, fun _ => rfl⟩
  have hf0 : f 0 = 0 := by rw [hf]; rfl
  have HF := Lib.hid hf
  clear hf
  go_loopw [3, 11] (fun o i wr => ∃ k : Nat, k ≤ rows.length ∧ o = .int .i64 ((f k : Nat) : Int) ∧ i = .int .i64 k ∧ w = wr) (fun _ i _ => rows.length - (intOf i).toNat)
  case atStart => exact ⟨0, Nat.zero_le _, by rw [hf0]; rfl, rfl, rfl⟩
  case round =>
    clear hf0
    obtain ⟨k, hk, rfl, rfl, rfl⟩ := hrel
    by_cases hlt : k < rows.length
    · obtain ⟨b, off, rfl, hbl, hcs⟩ := HC.out (by omega)
      have hlt' : k < vs.length := by omega
      have X0 := hcs k vs[k] (by simp [List.getElem?_eq_getElem hlt'])
      have hy := HR.out k hlt hlt'
      obtain ⟨A2, c2, e2, hc2, -⟩ := hy.at_
      rw [e2] at X0 hy
      have i0' : (0 : Int) ≤ (k : Int) := by omega
      have i1 : (k : Int) < (rows.length : Int) := by omega
      have hfl : f k + rows[k].length ≤ 140737488355328 := by have := flat_le' rows k hlt; rw [HF.out]; omega
      have HL := Lib.hid (show f (k + 1) = f k + rows[k].length by
        have := congrArg List.length (flat_bvs rows k hlt)
        rw [HF.out, HF.out]
        simpa only [List.length_append, bvs_length] using this)
      have z0 : decide (((f k : Nat) : Int) + (rows[k].length : Int) < 0) = false := decide_eq_false (by omega)
      clear hcs e2 hy
      generalize rows[k] = r at *
      go_wp2
      go_roundw
      case rel => exact ⟨k + 1, by omega, by rw [HL.out]; go_num, by go_num, by trivial⟩
      case measure => simp [intOf]; omega
    · obtain rfl : k = rows.length := by omega
      have hfe : f rows.length = rows.flatten.length := by rw [HF.out, List.take_length]
      have HFE := Lib.hid hfe
      have hfm : f rows.length ≤ 140737488355328 := by omega
      have hfp : 0 < f rows.length := by rw [hfe]; exact HP.out
      clear hfe
      go_wp2_with fail
      refine (grow_nil _ w hfp hfm).mono ?_
      rintro e w1 ⟨v1, rfl, ho1, hb1⟩
      have HO1 := Lib.hid ho1
      have HB1 := Lib.hid hb1
      clear ho1 hb1
      go_wp2
      go_loopw [6, 27] (fun o i wr => ∃ (k : Nat) (x : Value), k ≤ rows.length ∧ o = x ∧ i = .int .i64 k ∧ wr.ownsRow w.heap.size 5 1 x (rows.take k).flatten.length (bvs (rows.take k).flatten) ∧ Below w.heap.size w wr) (fun _ i _ => rows.length - (intOf i).toNat)
      case atStart => exact ⟨0, _, Nat.zero_le _, rfl, rfl, HO1.out, HB1.out⟩
      case round =>
        obtain ⟨k, x, hk, rfl, rfl, ho, hb⟩ := hrel
        by_cases hlt : k < rows.length
        · obtain ⟨b, off, rfl, hbl, hcs⟩ := HC.out (by omega)
          have hlt' : k < vs.length := by omega
          have X0 := (hb.cell (p := ⟨b, off + k, none⟩) hbl).trans (hcs k vs[k] (by simp [List.getElem?_eq_getElem hlt']))
          have hy := (HR.out k hlt hlt').below hb
          obtain ⟨A2, c2, e2, hc2, -⟩ := hy.at_
          rw [e2] at X0 hy
          have i0' : (0 : Int) ≤ (k : Int) := by omega
          have i1 : (k : Int) < (rows.length : Int) := by omega
          have hfl := flat_le' rows k hlt
          have HE := Lib.hid (flat_bvs rows k hlt)
          have HL := Lib.hid (show (rows.take (k + 1)).flatten.length = (rows.take k).flatten.length + rows[k].length by
            have := congrArg List.length (flat_bvs rows k hlt)
            simpa only [List.length_append, bvs_length] using this)
          have HB := Lib.hid hb
          have hsz := hb.size
          clear hcs e2 hb
          generalize rows[k] = r at *
          go_wp2_with (at_builtin; go_must (refine wpList_append_sl _ rfl (.tmp 31) (.tmp 32) 34 rfl w.heap.size 5 i0 (.int .u8 0) 1 1 Try.underlying34 hi0 hz0 hz1 hz2 rfl (by decide) _ _ _ (by rfl) ho _ r.length (bvs r) (by rfl) hy (bvs_one r) (by simp only [maxLen]; omega) (by omega) hsz ?_; intro v4 w4 ho4 hg4 ha4))
          go_roundw
          case rel => exact ⟨k + 1, v4, by omega, rfl, by go_num, own_eq ho4 HL.out.symm HE.out.symm, own_below' HB.out (Nat.le_refl _) ho hg4⟩
          case measure => simp [intOf]; omega
        · obtain rfl : k = rows.length := by omega
          rw [List.take_length] at ho
          go_wp2
          go_ret
          exact ⟨_, rfl, ho, hb⟩
end Go.Proofs.Ytpjjfnpdopdnkaa
