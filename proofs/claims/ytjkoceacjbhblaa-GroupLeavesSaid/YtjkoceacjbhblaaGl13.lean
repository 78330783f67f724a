/- Parts of a proof, merged: AsgE, LeaI. No condition. -/
import Derived.Test.YtjkoceacjbhblaaGl9
import Derived.Test.YtjkoceacjbhblaaGl12
namespace Go.Proofs.Ytjkoceacjbhblaa
open Go.RowKit

set_option maxRecDepth 100000 in
set_option maxHeartbeats 8000000 in
theorem anew_none (ck wt gn : Int) (A : Option Addr) (c : Nat) (B : Option Addr) (no d : Nat) (pt : Int) (w : World) (hg : -1000000000000 ≤ gn ∧ gn ≤ 1000000000000) (hp : 0 ≤ pt ∧ pt ≤ 4) :
    Calls Try.prog 102 #[.agg #[.int .i64 ck, .int .i64 wt, .int .i64 gn, .slice A 0 c, .slice B no d], .int .i64 pt] w fun e w' => e = .returned (.agg #[.int .i64 ck, .int .i64 wt, .int .i64 (gn + 1), .slice A 0 c, .slice B no d]) ∧ Below w.heap.size w w' := by
  go_enter Try.func102, Try.ntmps102
  go_wp2_with fail
  have hb0 : Below w.heap.size w ((w.alloc (.cells #[.int .i64 ck, .int .i64 wt, .int .i64 (gn + 1), .slice A 0 c, .slice B no d] 36)).alloc (.cells #[.int .i64 0, .int .i64 0, .int .i64 0, .slice none 0 0, .slice none 0 0] 36)) := ((Below.refl _ _).alloc (Nat.le_refl _) _).alloc (by simp) _
  have bx0 : Blk ((w.alloc (.cells #[.int .i64 ck, .int .i64 wt, .int .i64 (gn + 1), .slice A 0 c, .slice B no d] 36)).alloc (.cells #[.int .i64 0, .int .i64 0, .int .i64 0, .slice none 0 0, .slice none 0 0] 36)) w.heap.size 36 #[.int .i64 ck, .int .i64 wt, .int .i64 (gn + 1), .slice A 0 c, .slice B no d] := (Blk.new _ _ _).alloc _
  have bz0 : Blk ((w.alloc (.cells #[.int .i64 ck, .int .i64 wt, .int .i64 (gn + 1), .slice A 0 c, .slice B no d] 36)).alloc (.cells #[.int .i64 0, .int .i64 0, .int .i64 0, .slice none 0 0, .slice none 0 0] 36)) (w.heap.size + 1) 36 #[.int .i64 0, .int .i64 0, .int .i64 0, .slice none 0 0, .slice none 0 0] := Blk.new_ _ _ _ (by simp)
  have hz0 : ((w.alloc (.cells #[.int .i64 ck, .int .i64 wt, .int .i64 (gn + 1), .slice A 0 c, .slice B no d] 36)).alloc (.cells #[.int .i64 0, .int .i64 0, .int .i64 0, .slice none 0 0, .slice none 0 0] 36)).heap.size = w.heap.size + 2 := by simp
  generalize (w.alloc (.cells #[.int .i64 ck, .int .i64 wt, .int .i64 (gn + 1), .slice A 0 c, .slice B no d] 36)).alloc (.cells #[.int .i64 0, .int .i64 0, .int .i64 0, .slice none 0 0, .slice none 0 0] 36) = W0 at *
  have HB0 := Lib.hid hb0
  have BX0 := Lib.hid bx0
  have BZ0 := Lib.hid bz0
  have HZ0 := Lib.hid hz0
  clear hb0 bx0 bz0 hz0
  go_loopw [5, 6] (fun x y wr => x = .slice none 0 0 ∧ y = .int .i64 0 ∧ Hid (wr = W0)) (fun _ _ _ => 0)
  case atStart => exact ⟨rfl, rfl, rfl⟩
  case round =>
    obtain ⟨rfl, rfl, HW⟩ := hrel
    have hwe := HW.out
    subst hwe
    clear HW
    have c3 := BX0.out.cell 3
    have hzl : w.heap.size < wr.heap.size := BX0.out.lt
    go_wp2_with fail
    go_at_call 52
    refine (assignedOf_any [] 0 none 0 pt wr (Sl.nil_ _ _) rfl (by omega) (by omega)).mono ?_
    rintro e1 W2 ⟨bo, vs, rfl, hls⟩
    have hb2 := hls.bel
    have bx2 := BX0.out.below hb2 BX0.out.lt
    have bz2 := BZ0.out.below hb2 BZ0.out.lt
    have HB2 := Lib.hid (HB0.out.trans (hb2.mono (by have := HZ0.out; omega)))
    have BX2 := Lib.hid bx2
    have BZ2 := Lib.hid bz2
    clear hls hb2 bx2 bz2 c3 hzl
    have c3 := BX2.out.cell 3
    have lx := BX2.out.lt
    go_wp2_with fail
    go_loopw [8] (fun x wr3 => x = .int .i64 0 ∧ Hid (wr3 = W2)) (fun _ _ => 0)
    case atStart => exact ⟨rfl, rfl⟩
    case round =>
      obtain ⟨rfl, HW⟩ := hrel
      have hwe := HW.out
      clear HW
      have cx := BX2.out
      have cz := BZ2.out
      rw [← hwe] at cx cz
      have HWE := Lib.hid hwe
      clear hwe c3 lx
      have x0 := cx.cell 0
      have z0 := cz.cell 0
      have f0 := cz.frozen 0
      have x1 := cx.cell 1
      have z1 := cz.cell 1
      have f1 := cz.frozen 1
      have x2 := cx.cell 2
      have z2 := cz.cell 2
      have f2 := cz.frozen 2
      have x3 := cx.cell 3
      have z3 := cz.cell 3
      have f3 := cz.frozen 3
      have x4 := cx.cell 4
      have z4 := cz.cell 4
      have f4 := cz.frozen 4
      have lx := cx.lt
      have lz := cz.lt
      clear cx cz
      go_wp2_with fail
      have hwe := HWE.out
      subst hwe
      clear HWE x0 x1 x2 x3 x4 z0 z1 z2 z3 z4 f0 f1 f2 f3 f4 lx lz
      have bzF : Blk (((((wr.setCell ⟨w.heap.size + 1, 0, none⟩ (.int .i64 ck)).setCell ⟨w.heap.size + 1, 1, none⟩ (.int .i64 wt)).setCell ⟨w.heap.size + 1, 2, none⟩ (.int .i64 (gn + 1))).setCell ⟨w.heap.size + 1, 3, none⟩ (.slice A 0 c)).setCell ⟨w.heap.size + 1, 4, none⟩ (.slice B no d)) (w.heap.size + 1) 36 #[.int .i64 ck, .int .i64 wt, .int .i64 (gn + 1), .slice A 0 c, .slice B no d] := (((((BZ2.out.set_ 0 (.int .i64 ck)).set_ 1 (.int .i64 wt)).set_ 2 (.int .i64 (gn + 1))).set_ 3 (.slice A 0 c)).set_ 4 (.slice B no d))
      have hbF : Below w.heap.size w (((((wr.setCell ⟨w.heap.size + 1, 0, none⟩ (.int .i64 ck)).setCell ⟨w.heap.size + 1, 1, none⟩ (.int .i64 wt)).setCell ⟨w.heap.size + 1, 2, none⟩ (.int .i64 (gn + 1))).setCell ⟨w.heap.size + 1, 3, none⟩ (.slice A 0 c)).setCell ⟨w.heap.size + 1, 4, none⟩ (.slice B no d)) := (((((HB2.out.setCell (by show w.heap.size ≤ w.heap.size + 1; omega) (.int .i64 ck)).setCell (by show w.heap.size ≤ w.heap.size + 1; omega) (.int .i64 wt)).setCell (by show w.heap.size ≤ w.heap.size + 1; omega) (.int .i64 (gn + 1))).setCell (by show w.heap.size ≤ w.heap.size + 1; omega) (.slice A 0 c)).setCell (by show w.heap.size ≤ w.heap.size + 1; omega) (.slice B no d))
      have y0 := bzF.cell 0
      have y1 := bzF.cell 1
      have y2 := bzF.cell 2
      have y3 := bzF.cell 3
      have y4 := bzF.cell 4
      exact bodyPost_ret (v := .agg #[.int .i64 ck, .int .i64 wt, .int .i64 (gn + 1), .slice A 0 c, .slice B no d]) (by simp [results, Try.results102, go_sem, y0, y1, y2, y3, y4]) rfl ⟨rfl, hbF⟩
end Go.Proofs.Ytjkoceacjbhblaa
namespace Go.Proofs.Ytjkoceacjbhblaa
open Go.RowKit

theorem filter_erase {α : Type} (p : α → Bool) : ∀ (l : List α) (i : Nat) (hi : i < l.length), p l[i] = false → (∀ j (hj : j < l.length), j ≠ i → p l[j] = true) → l.filter p = l.eraseIdx i
  | [], _, hi, _, _ => by simp at hi
  | a :: l, 0, _, h, k => by
    have h0 : p a = false := h
    rw [List.filter_cons_of_neg (by simp [h0]), List.eraseIdx_cons_zero, List.filter_eq_self]
    intro x hx
    obtain ⟨j, hj, rfl⟩ := List.mem_iff_getElem.1 hx
    exact k (j + 1) (by simpa using hj) (by omega)
  | a :: l, i + 1, hi, h, k => by
    have h0 : p a = true := k 0 (by simp) (by omega)
    rw [List.filter_cons_of_pos h0, List.eraseIdx_cons_succ, filter_erase p l i (by simpa using hi) h fun j hj hji => k (j + 1) (by simpa using hj) (by omega)]
theorem kept_erase {g : GroupD} {s : ByteArray} {i : Nat} (hk : GroupOk g) (hi : idxM g.mems s = some i) : keptM (fun t => decide (t.name = s)) g.mems g.mems.length = g.mems.eraseIdx i := by
  have hl := (ixM_some hi).1
  have hs : g.mems[i].name = s := by
    unfold idxM at hi
    rw [List.findIdx?_eq_some_iff_getElem] at hi
    simpa using hi.2.1
  unfold keptM
  rw [List.take_length]
  refine filter_erase _ _ i hl (by simp [hs]) fun j hj hji => ?_
  have key : ∀ a b (ha : a < g.mems.length) (hb : b < g.mems.length), a < b → g.mems[a].name ≠ g.mems[b].name := fun a b ha hb hab => (hk.all b hb hb).2 a hab
  have : g.mems[j].name ≠ s := by
    rw [← hs]
    rcases Nat.lt_or_gt_of_ne hji with c | c
    · exact key j i hj hl c
    · exact fun e => key i j hl hj c e.symm
  simp [this]
def keep (w W' : World) : Prop := (∀ g t cs, t ≠ 79 → Blk w g t cs → Blk W' g t cs) ∧ w.heap.size ≤ W'.heap.size
/-- behind tailraceref.anew of a group of the call's own -/
def AnewPost (ck wt gn : Int) (ds : List MemD) (ov : Value) (os : List OffD) (P base : Nat) (w W : World) (e : Ending) (W' : World) : Prop :=
  ∃ A c rows, e = .returned (.agg #[.int .i64 ck, .int .i64 wt, .int .i64 (gn + 1), .slice A ds.length c, ov]) ∧ OwnM w W' base (.slice A ds.length c) (asgM ds P) rows (asgM ds P).length ∧ OwnO W' base ov os ∧ keep W W'
theorem anew_own (ck wt gn pt : Int) {w W : World} {base : Nat} {A B : Option Addr} {n c no d : Nat} {ds : List MemD} {rows : List (MemD × Value)} {os : List OffD} (h : OwnM w W base (.slice A n c) ds rows ds.length) (hn : ds.length = n) (ho : OwnO W base (.slice B no d) os) (hl : ds.length ≤ 6) (hb0 : w.heap.size ≤ base) (hb : base ≤ W.heap.size)
    (hg : -1000000000000 ≤ gn ∧ gn ≤ 1000000000000) (hp : 0 ≤ pt ∧ pt ≤ 4) :
    Calls Try.prog 102 #[.agg #[.int .i64 ck, .int .i64 wt, .int .i64 gn, .slice A n c, .slice B no d], .int .i64 pt] W (AnewPost ck wt gn ds (.slice B no d) os pt.toNat base w W) := by
  have hrl : rows.length = n := by rw [ownM_rows h.fst]; exact hn
  rcases Nat.eq_zero_or_pos n with h0 | h0
  · subst h0
    refine (anew_none ck wt gn A c B no d pt W hg hp).mono ?_
    rintro e W' ⟨rfl, hbel⟩
    have hd : ds = [] := List.eq_nil_of_length_eq_zero hn
    subst hd
    refine ⟨A, c, rows, rfl, ?_, own_keep ho hbel fun b hb => (ho.lt b hb).2, fun g t cs _ hk => hk.below hbel hk.lt, hbel.size⟩
    exact h.keep hbel
  · have hown := h.own
    rw [hn] at hown
    obtain ⟨gm, c', e⟩ := own_block hown h0
    injection e with e1 _ e3
    subst e1 e3
    refine (anew_any ck wt gn gm n c B no d rows pt base W hown hrl (by omega) hg hp).mono ?_
    intro e W' hA
    obtain ⟨rows6, rfl, hom6, hg6⟩ := hA.ownM (w := w) (ms := ds) h.fst hn hb0 hb h.bel
    refine ⟨_, c, rows6, by rw [hn], by rw [hn]; exact hom6, World.ownsRow.kept ho hg6 (own_apart2 ho hown (by decide)), fun g t cs ht hk => hk.grown hg6 (own_off hown hk ht), hg6.size⟩

set_option maxRecDepth 100000 in
set_option maxHeartbeats 1000000 in
theorem left_at (x0 : ByteArray) (x1 : Int) (A : Option Addr) (n c : Nat) (nm : ByteArray) (b : Nat) (w : World) (hlt : b < w.heap.size) (h0 : w.cell? ⟨b, 0, none⟩ = some (.string nm)) :
    Calls Try.prog 108 #[.agg #[.string x0, .int .i64 x1, .slice A n c], .pointer (some ⟨b, 0, none⟩)] w (Tells (decide (x0 = nm) = true) w) := by
  have hx : (x0.toList == nm.toList) = true ↔ decide (x0 = nm) = true := ⟨fun h => by simp [toList_inj (eq_of_beq h)], fun h => by simp [of_decide_eq_true h]⟩
  have HX := Lib.hid hx
  clear hx
  go_enter Try.func108, Try.ntmps108
  go_wp2
  go_ret
  exact ⟨_, rfl, HX.out, (Below.refl _ _).alloc (Nat.le_refl _) _⟩
end Go.Proofs.Ytjkoceacjbhblaa
