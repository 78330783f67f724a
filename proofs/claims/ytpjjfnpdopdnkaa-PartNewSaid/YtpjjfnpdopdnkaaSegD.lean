/- What the calls that answer a log share: a log that is stored in a block of its own; tailraceref.bytesCopy. -/
import Derived.Test.YtpjjfnpdopdnkaaSegC
import Derived.Test.YtpjjfnpdopdnkaaMemX
import Derived.Test.YtpjjfnpdopdnkaaCloneByte
namespace Go.Proofs.Ytpjjfnpdopdnkaa
open Go.RowKit

/-- a log as an answer, with a code -/
def LogPost (l' : LogD) (code : Int) (w : World) (e : Ending) (w' : World) : Prop := ∃ v', e = .returned (.tuple #[.agg #[v', .int .i64 l'.synced], .int .i64 code]) ∧ w'.ownsRow w.heap.size 5 1 v' l'.bytes.length (bvs l'.bytes) ∧ Below w.heap.size w w'
theorem log_stored {w W : World} {g : Nat} {a b v : Value} {s : Int} (hz : Blk w g 42 #[a, b]) (hW : W = (w.setCell ⟨g, 0, none⟩ v).setCell ⟨g, 1, none⟩ (.int .i64 s)) :
    W.cell? ⟨g, 0, none⟩ = some v ∧ W.cell? ⟨g, 1, none⟩ = some (.int .i64 s) ∧ (∀ base n x xs, w.ownsRow base 5 1 x n xs → W.ownsRow base 5 1 x n xs) ∧ (∀ B w0, B ≤ g → Below B w0 w → Below B w0 W) := by
  subst hW
  have h := (hz.set_ 0 v).set_ 1 (.int .i64 s)
  simp only [List.setIfInBounds_toArray, List.set_cons_succ, List.set_cons_zero] at h
  exact ⟨h.cell 0, h.cell 1, fun base n x xs ho => own_far (own_far ho hz (by decide) 0 v) (hz.set_ 0 v) (by decide) 1 _, fun B w0 hB hb => (hb.setCell (p := ⟨g, 0, none⟩) hB v).setCell (p := ⟨g, 1, none⟩) hB _⟩
theorem flat_bvs (rows : List (List UInt8)) (k : Nat) (h : k < rows.length) : bvs (rows.take (k + 1)).flatten = bvs (rows.take k).flatten ++ bvs rows[k] := by
  rw [List.take_succ_eq_append_getElem h, List.flatten_append, bvs_append]
  simp
theorem flat_le (rows : List (List UInt8)) (k : Nat) : (rows.take k).flatten.length ≤ rows.flatten.length := by
  have h : rows.flatten.length = (rows.take k).flatten.length + (rows.drop k).flatten.length := by
    rw [← List.length_append, ← List.flatten_append, List.take_append_drop]
  omega
theorem flat_le' (rows : List (List UInt8)) (k : Nat) (h : k < rows.length) : (rows.take k).flatten.length + rows[k].length ≤ rows.flatten.length := by
  have h1 := flat_le rows (k + 1)
  rw [List.take_succ_eq_append_getElem h, List.flatten_append, List.length_append] at h1
  simp at h1 ⊢
  omega

set_option maxRecDepth 100000 in
set_option maxHeartbeats 1000000 in
theorem bytesCopy_any (v : Value) (rows : List (List UInt8)) (vs : List Value) (w : World) (hvl : vs.length = rows.length) (h : Sl w 1 v rows.length vs) (hr : ∀ k (h1 : k < rows.length) (h2 : k < vs.length), By w vs[k] rows[k]) (hm : rows.flatten.length ≤ 140737488355328) (hn : rows.length ≤ 9223372036854775807) :
    Calls Try.prog 79 #[v] w fun e w' => ∃ v', e = .returned v' ∧ w'.ownsRow w.heap.size 5 1 v' rows.flatten.length (bvs rows.flatten) ∧ Below w.heap.size w w' := by
  obtain ⟨i0, hi0, hz0, hz1, hz2⟩ := info_parts CloneByte_info
  obtain ⟨hl, A, c, rfl, hc, hcell⟩ := h
  have HC := Lib.hid hcell
  have HR := Lib.hid hr
  clear hcell hr hl
  go_enter Try.func79, Try.ntmps79
  go_wp2
  go_loopw [3, 4] (fun o i wr => ∃ (k : Nat) (x : Value), k ≤ rows.length ∧ o = x ∧ i = .int .i64 k ∧ wr.ownsRow w.heap.size 5 1 x (rows.take k).flatten.length (bvs (rows.take k).flatten) ∧ Below w.heap.size w wr) (fun _ i _ => rows.length - (intOf i).toNat)
  case atStart => exact ⟨0, _, Nat.zero_le _, rfl, rfl, World.ownsRow_nil _ _ _ _, Below.refl _ _⟩
  case round =>
    obtain ⟨k, x, hk, rfl, rfl, ho, hb⟩ := hrel
    by_cases hlt : k < rows.length
    · obtain ⟨b, off, rfl, hbl, hcs⟩ := HC.out (by omega)
      have hlt' : k < vs.length := by omega
      have X0 := (hb.cell (p := ⟨b, off + k, none⟩) hbl).trans (hcs k vs[k] (by simp [List.getElem?_eq_getElem hlt']))
      have hy := (HR.out k hlt hlt').below hb
      obtain ⟨A2, c2, e2, hc2, -⟩ := hy.at_
      rw [e2] at X0 hy
      have i0' : (0 : Int) ≤ (k : Int) := by omega
      have i1 : (k : Int) < (rows.length : Int) := by omega
      have hfl := flat_le' rows k hlt
      have HE := Lib.hid (flat_bvs rows k hlt)
      have HL := Lib.hid (show (rows.take (k + 1)).flatten.length = (rows.take k).flatten.length + rows[k].length by
        have := congrArg List.length (flat_bvs rows k hlt)
        simpa only [List.length_append, bvs_length] using this)
      have HB := Lib.hid hb
      have hsz := hb.size
      clear hcs e2 hb
      generalize rows[k] = r at *
      go_wp2_with (at_builtin; go_must (refine wpList_append_sl _ rfl (.tmp 11) (.tmp 15) 34 rfl w.heap.size 5 i0 (.int .u8 0) 1 1 Try.underlying34 hi0 hz0 hz1 hz2 rfl (by decide) _ _ _ (by rfl) ho _ r.length (bvs r) (by rfl) hy (bvs_one r) (by simp only [maxLen]; omega) (by omega) hsz ?_; intro v4 w4 ho4 hg4 ha4))
      go_light
      exact ⟨⟨k + 1, v4, by omega, rfl, by go_num, own_eq ho4 HL.out.symm HE.out.symm, own_below' HB.out (Nat.le_refl _) ho hg4⟩, by simp [intOf]; omega⟩
    · obtain rfl : k = rows.length := by omega
      rw [List.take_length] at ho
      go_wp2
      go_ret
      exact ⟨_, rfl, ho, hb⟩
theorem By.take_n {w : World} {A : Option Addr} {c n : Nat} {l : List UInt8} (h : By w (.slice A l.length c) l) (hn : n ≤ l.length) : Sl w 1 (.slice A n c) n (bvs (l.take n)) := by
  have hx := By.take_ h hn
  have e : (l.take n).length = n := by rw [List.length_take]; omega
  unfold By at hx
  rw [e] at hx
  exact hx
theorem By.take_b {w : World} {A : Option Addr} {c n : Nat} {l : List UInt8} (h : By w (.slice A l.length c) l) (hn : n ≤ l.length) : By w (.slice A n c) (l.take n) := by
  have hx := By.take_n h hn
  have e : (l.take n).length = n := by rw [List.length_take]; omega
  unfold By
  rw [e]
  exact hx
theorem bytesCopy_one {A : Option Addr} {l : List UInt8} {c n : Nat} {w0 w : World} (hn : n = l.length) (h : By w0 (.slice A n c) l) (hw : Below w0.heap.size w0 w) (hm : l.length ≤ 140737488355328) :
    Calls Try.prog 79 #[.slice (some ⟨w.heap.size, 0, none⟩) 1 1] (w.alloc (.cells #[.slice A n c] 34)) fun e w' => ∃ v', e = .returned v' ∧ w'.ownsRow w.heap.size 5 1 v' l.length (bvs l) ∧ Below w.heap.size w w' := by
  subst hn
  have hbl : Below w.heap.size w (w.alloc (.cells #[.slice A l.length c] 34)) := (Below.refl _ _).alloc (Nat.le_refl _) _
  refine (bytesCopy_any _ [l] [.slice A l.length c] _ rfl (Sl.lit' w 34 #[.slice A l.length c] 1 1 _ rfl rfl) (fun k h1 h2 => ?_) (by simpa using hm) (by simp)).mono ?_
  · obtain rfl : k = 0 := by simpa using h1
    exact (h.below hw).below hbl
  · rintro e w' ⟨v', rfl, ho, hb⟩
    exact ⟨v', rfl, own_base (own_eq ho (by simp) (by simp)) hbl.size, hbl.trans (hb.mono hbl.size)⟩
theorem bytesCopy_two {A B : Option Addr} {l r : List UInt8} {c d : Nat} {w0 w : World} (h : By w0 (.slice A l.length c) l) (k : By w0 (.slice B r.length d) r) (hw : Below w0.heap.size w0 w) (hm : l.length + r.length ≤ 140737488355328) :
    Calls Try.prog 79 #[.slice (some ⟨w.heap.size, 0, none⟩) 2 2] (w.alloc (.cells #[.slice A l.length c, .slice B r.length d] 34)) fun e w' => ∃ v', e = .returned v' ∧ w'.ownsRow w.heap.size 5 1 v' (l.length + r.length) (bvs (l ++ r)) ∧ Below w.heap.size w w' := by
  have hbl : Below w.heap.size w (w.alloc (.cells #[.slice A l.length c, .slice B r.length d] 34)) := (Below.refl _ _).alloc (Nat.le_refl _) _
  refine (bytesCopy_any _ [l, r] [.slice A l.length c, .slice B r.length d] _ rfl (Sl.lit' w 34 #[.slice A l.length c, .slice B r.length d] 1 2 _ rfl rfl) (fun i h1 h2 => ?_) (by simpa using hm) (by simp)).mono ?_
  · rcases i with _ | _ | i
    · exact (h.below hw).below hbl
    · exact (k.below hw).below hbl
    · exact absurd h1 (by simp)
  · rintro e w' ⟨v', rfl, ho, hb⟩
    exact ⟨v', rfl, own_base (own_eq ho (by simp) (by simp)) hbl.size, hbl.trans (hb.mono hbl.size)⟩
end Go.Proofs.Ytpjjfnpdopdnkaa
