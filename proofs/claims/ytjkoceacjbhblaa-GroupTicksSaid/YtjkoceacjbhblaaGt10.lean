/- Parts of a proof, merged: AsgE, LeaI, TicH. No condition. -/
import Derived.Test.YtjkoceacjbhblaaGt7
import Derived.Test.YtjkoceacjbhblaaGt9
import Derived.Test.YtjkoceacjbhblaaGt8
namespace Go.Proofs.Ytjkoceacjbhblaa
open Go.RowKit

set_option maxRecDepth 100000 in
set_option maxHeartbeats 8000000 in
theorem anew_none (ck wt gn : Int) (A : Option Addr) (c : Nat) (B : Option Addr) (no d : Nat) (pt : Int) (w : World) (hg : -1000000000000 ≤ gn ∧ gn ≤ 1000000000000) (hp : 0 ≤ pt ∧ pt ≤ 4) :
    Calls Try.prog 102 #[.agg #[.int .i64 ck, .int .i64 wt, .int .i64 gn, .slice A 0 c, .slice B no d], .int .i64 pt] w fun e w' => e = .returned (.agg #[.int .i64 ck, .int .i64 wt, .int .i64 (gn + 1), .slice A 0 c, .slice B no d]) ∧ Below w.heap.size w w' := by
  go_enter Try.func102, Try.ntmps102
  go_wp2_with fail
  have hb0 : Below w.heap.size w ((w.alloc (.cells #[.int .i64 ck, .int .i64 wt, .int .i64 (gn + 1), .slice A 0 c, .slice B no d] 36)).alloc (.cells #[.int .i64 0, .int .i64 0, .int .i64 0, .slice none 0 0, .slice none 0 0] 36)) := ((Below.refl _ _).alloc (Nat.le_refl _) _).alloc (by simp) _
  have bx0 : Blk ((w.alloc (.cells #[.int .i64 ck, .int .i64 wt, .int .i64 (gn + 1), .slice A 0 c, .slice B no d] 36)).alloc (.cells #[.int .i64 0, .int .i64 0, .int .i64 0, .slice none 0 0, .slice none 0 0] 36)) w.heap.size 36 #[.int .i64 ck, .int .i64 wt, .int .i64 (gn + 1), .slice A 0 c, .slice B no d] := (Blk.new _ _ _).alloc _
  have bz0 : Blk ((w.alloc (.cells #[.int .i64 ck, .int .i64 wt, .int .i64 (gn + 1), .slice A 0 c, .slice B no d] 36)).alloc (.cells #[.int .i64 0, .int .i64 0, .int .i64 0, .slice none 0 0, .slice none 0 0] 36)) (w.heap.size + 1) 36 #[.int .i64 0, .int .i64 0, .int .i64 0, .slice none 0 0, .slice none 0 0] := Blk.new_ _ _ _ (by simp)
  have hz0 : ((w.alloc (.cells #[.int .i64 ck, .int .i64 wt, .int .i64 (gn + 1), .slice A 0 c, .slice B no d] 36)).alloc (.cells #[.int .i64 0, .int .i64 0, .int .i64 0, .slice none 0 0, .slice none 0 0] 36)).heap.size = w.heap.size + 2 := by simp
  generalize (w.alloc (.cells #[.int .i64 ck, .int .i64 wt, .int .i64 (gn + 1), .slice A 0 c, .slice B no d] 36)).alloc (.cells #[.int .i64 0, .int .i64 0, .int .i64 0, .slice none 0 0, .slice none 0 0] 36) = W0 at *
  have HB0 := Lib.hid hb0
  have BX0 := Lib.hid bx0
  have BZ0 := Lib.hid bz0
  have HZ0 := Lib.hid hz0
  clear hb0 bx0 bz0 hz0
  go_loopw [5, 6] (fun x y wr => x = .slice none 0 0 ∧ y = .int .i64 0 ∧ Hid (wr = W0)) (fun _ _ _ => 0)
  case atStart => exact ⟨rfl, rfl, rfl⟩
  case round =>
    obtain ⟨rfl, rfl, HW⟩ := hrel
    have hwe := HW.out
    subst hwe
    clear HW
    have c3 := BX0.out.cell 3
    have hzl : w.heap.size < wr.heap.size := BX0.out.lt
    go_wp2_with fail
    go_at_call 52
    refine (assignedOf_any [] 0 none 0 pt wr (Sl.nil_ _ _) rfl (by omega) (by omega)).mono ?_
    rintro e1 W2 ⟨bo, vs, rfl, hls⟩
    have hb2 := hls.bel
    have bx2 := BX0.out.below hb2 BX0.out.lt
    have bz2 := BZ0.out.below hb2 BZ0.out.lt
    have HB2 := Lib.hid (HB0.out.trans (hb2.mono (by have := HZ0.out; omega)))
    have BX2 := Lib.hid bx2
    have BZ2 := Lib.hid bz2
    clear hls hb2 bx2 bz2 c3 hzl
    have c3 := BX2.out.cell 3
    have lx := BX2.out.lt
    go_wp2_with fail
    go_loopw [8] (fun x wr3 => x = .int .i64 0 ∧ Hid (wr3 = W2)) (fun _ _ => 0)
    case atStart => exact ⟨rfl, rfl⟩
    case round =>
      obtain ⟨rfl, HW⟩ := hrel
      have hwe := HW.out
      clear HW
      have cx := BX2.out
      have cz := BZ2.out
      rw [← hwe] at cx cz
      have HWE := Lib.hid hwe
      clear hwe c3 lx
      have x0 := cx.cell 0
      have z0 := cz.cell 0
      have f0 := cz.frozen 0
      have x1 := cx.cell 1
      have z1 := cz.cell 1
      have f1 := cz.frozen 1
      have x2 := cx.cell 2
      have z2 := cz.cell 2
      have f2 := cz.frozen 2
      have x3 := cx.cell 3
      have z3 := cz.cell 3
      have f3 := cz.frozen 3
      have x4 := cx.cell 4
      have z4 := cz.cell 4
      have f4 := cz.frozen 4
      have lx := cx.lt
      have lz := cz.lt
      clear cx cz
      go_wp2_with fail
      have hwe := HWE.out
      subst hwe
      clear HWE x0 x1 x2 x3 x4 z0 z1 z2 z3 z4 f0 f1 f2 f3 f4 lx lz
      have bzF : Blk (((((wr.setCell ⟨w.heap.size + 1, 0, none⟩ (.int .i64 ck)).setCell ⟨w.heap.size + 1, 1, none⟩ (.int .i64 wt)).setCell ⟨w.heap.size + 1, 2, none⟩ (.int .i64 (gn + 1))).setCell ⟨w.heap.size + 1, 3, none⟩ (.slice A 0 c)).setCell ⟨w.heap.size + 1, 4, none⟩ (.slice B no d)) (w.heap.size + 1) 36 #[.int .i64 ck, .int .i64 wt, .int .i64 (gn + 1), .slice A 0 c, .slice B no d] := (((((BZ2.out.set_ 0 (.int .i64 ck)).set_ 1 (.int .i64 wt)).set_ 2 (.int .i64 (gn + 1))).set_ 3 (.slice A 0 c)).set_ 4 (.slice B no d))
      have hbF : Below w.heap.size w (((((wr.setCell ⟨w.heap.size + 1, 0, none⟩ (.int .i64 ck)).setCell ⟨w.heap.size + 1, 1, none⟩ (.int .i64 wt)).setCell ⟨w.heap.size + 1, 2, none⟩ (.int .i64 (gn + 1))).setCell ⟨w.heap.size + 1, 3, none⟩ (.slice A 0 c)).setCell ⟨w.heap.size + 1, 4, none⟩ (.slice B no d)) := (((((HB2.out.setCell (by show w.heap.size ≤ w.heap.size + 1; omega) (.int .i64 ck)).setCell (by show w.heap.size ≤ w.heap.size + 1; omega) (.int .i64 wt)).setCell (by show w.heap.size ≤ w.heap.size + 1; omega) (.int .i64 (gn + 1))).setCell (by show w.heap.size ≤ w.heap.size + 1; omega) (.slice A 0 c)).setCell (by show w.heap.size ≤ w.heap.size + 1; omega) (.slice B no d))
      have y0 := bzF.cell 0
      have y1 := bzF.cell 1
      have y2 := bzF.cell 2
      have y3 := bzF.cell 3
      have y4 := bzF.cell 4
      exact bodyPost_ret (v := .agg #[.int .i64 ck, .int .i64 wt, .int .i64 (gn + 1), .slice A 0 c, .slice B no d]) (by simp [results, Try.results102, go_sem, y0, y1, y2, y3, y4]) rfl ⟨rfl, hbF⟩
end Go.Proofs.Ytjkoceacjbhblaa
namespace Go.Proofs.Ytjkoceacjbhblaa
open Go.RowKit

def keep (w W' : World) : Prop := (∀ g t cs, t ≠ 79 → Blk w g t cs → Blk W' g t cs) ∧ w.heap.size ≤ W'.heap.size
/-- behind tailraceref.anew of a group of the call's own -/
def AnewPost (ck wt gn : Int) (ds : List MemD) (ov : Value) (os : List OffD) (P base : Nat) (w W : World) (e : Ending) (W' : World) : Prop :=
  ∃ A c rows, e = .returned (.agg #[.int .i64 ck, .int .i64 wt, .int .i64 (gn + 1), .slice A ds.length c, ov]) ∧ OwnM w W' base (.slice A ds.length c) (asgM ds P) rows (asgM ds P).length ∧ OwnO W' base ov os ∧ keep W W'
theorem anew_own (ck wt gn pt : Int) {w W : World} {base : Nat} {A B : Option Addr} {n c no d : Nat} {ds : List MemD} {rows : List (MemD × Value)} {os : List OffD} (h : OwnM w W base (.slice A n c) ds rows ds.length) (hn : ds.length = n) (ho : OwnO W base (.slice B no d) os) (hl : ds.length ≤ 6) (hb0 : w.heap.size ≤ base) (hb : base ≤ W.heap.size)
    (hg : -1000000000000 ≤ gn ∧ gn ≤ 1000000000000) (hp : 0 ≤ pt ∧ pt ≤ 4) :
    Calls Try.prog 102 #[.agg #[.int .i64 ck, .int .i64 wt, .int .i64 gn, .slice A n c, .slice B no d], .int .i64 pt] W (AnewPost ck wt gn ds (.slice B no d) os pt.toNat base w W) := by
  have hrl : rows.length = n := by rw [ownM_rows h.fst]; exact hn
  rcases Nat.eq_zero_or_pos n with h0 | h0
  · subst h0
    refine (anew_none ck wt gn A c B no d pt W hg hp).mono ?_
    rintro e W' ⟨rfl, hbel⟩
    have hd : ds = [] := List.eq_nil_of_length_eq_zero hn
    subst hd
    refine ⟨A, c, rows, rfl, ?_, own_keep ho hbel fun b hb => (ho.lt b hb).2, fun g t cs _ hk => hk.below hbel hk.lt, hbel.size⟩
    exact h.keep hbel
  · have hown := h.own
    rw [hn] at hown
    obtain ⟨gm, c', e⟩ := own_block hown h0
    injection e with e1 _ e3
    subst e1 e3
    refine (anew_any ck wt gn gm n c B no d rows pt base W hown hrl (by omega) hg hp).mono ?_
    intro e W' hA
    obtain ⟨rows6, rfl, hom6, hg6⟩ := hA.ownM (w := w) (ms := ds) h.fst hn hb0 hb h.bel
    refine ⟨_, c, rows6, by rw [hn], by rw [hn]; exact hom6, World.ownsRow.kept ho hg6 (own_apart2 ho hown (by decide)), fun g t cs ht hk => hk.grown hg6 (own_off hown hk ht), hg6.size⟩

end Go.Proofs.Ytjkoceacjbhblaa
namespace Go.Proofs.Ytjkoceacjbhblaa
open Go.RowKit

/-- silent for too long -/
def goneM (ck wt : Int) (t : MemD) : Bool := decide (t.heard + wt ≤ ck)
def TickGOk (g : GroupD) (t parts : Int) : Prop := 0 ≤ t ∧ t ≤ 1000 ∧ g.clock + t ≤ 1073741824 ∧ Counted g.gen parts
def stayM (g : GroupD) (t : Int) : List MemD := keptM (goneM (g.clock + t) g.wait) g.mems g.mems.length
noncomputable def tickedG (g : GroupD) (t parts : Int) : GroupD := if (stayM g t).length = g.mems.length then ⟨g.clock + t, g.wait, g.gen, g.mems, g.offs⟩ else ⟨g.clock + t, g.wait, g.gen + 1, asgM (stayM g t) parts.toNat, g.offs⟩
def TickGTo (g : GroupD) (t parts : Int) (g' : GroupD) (n : Int) : Prop :=
  (¬ GroupOk g ∧ n = 12 ∧ g' = zeroG) ∨ (GroupOk g ∧ ((¬ TickGOk g t parts ∧ n = 2 ∧ g' = zeroG) ∨ (TickGOk g t parts ∧ n = 0 ∧ g' = tickedG g t parts)))
theorem tickG_to (g : GroupD) (t parts : Int) : ∃ g' n, TickGTo g t parts g' n := by
  by_cases h1 : GroupOk g
  · by_cases h2 : TickGOk g t parts
    · exact ⟨_, 0, Or.inr ⟨h1, Or.inr ⟨h2, rfl, rfl⟩⟩⟩
    · exact ⟨_, 2, Or.inr ⟨h1, Or.inl ⟨h2, rfl, rfl⟩⟩⟩
  · exact ⟨_, 12, Or.inl ⟨h1, rfl, rfl⟩⟩
theorem stayM_le (g : GroupD) (t : Int) : (stayM g t).length ≤ g.mems.length := keptM_le _ _ _
theorem stayM_all {g : GroupD} {t : Int} (h : (stayM g t).length = g.mems.length) : stayM g t = g.mems := by
  unfold stayM keptM at *
  rw [List.take_length] at *
  exact List.filter_eq_self.2 (List.length_filter_eq_length_iff.1 h)
theorem TickGTo.fits {g : GroupD} {t parts : Int} {g' : GroupD} {n : Int} (h : TickGTo g t parts g' n) : g'.Fits := by
  rcases h with ⟨-, -, rfl⟩ | ⟨h1, ⟨-, -, rfl⟩ | ⟨h2, -, rfl⟩⟩
  · exact zeroG_fits
  · exact zeroG_fits
  · unfold tickedG
    split
    · exact ⟨⟨h1.bounds.2.1, h1.bounds.2.2.1⟩, h1.bounds.2.2.2⟩
    · have hle := stayM_le g t
      have hm := h1.many
      refine ⟨⟨?_, h1.bounds.2.2.1⟩, fun t' ht => ?_⟩
      · show (asgM _ _).length ≤ _
        rw [asgM_len]; omega
      · have := asgM_parts t' ht
        have := h2.2.2.2.2.1
        omega
theorem keptR_fst (q : MemD → Bool) (rows : List (MemD × Value)) (k : Nat) : (keptR q rows k).map Prod.fst = keptM q (rows.map Prod.fst) k := by
  unfold keptR keptM
  rw [← List.map_take, List.filter_map]
  rfl
/-- behind slices.DeleteFunc of the members of a group of the call's own -/
def DelMPost (q : MemD → Bool) (ds : List MemD) (base : Nat) (w W : World) (e : Ending) (W' : World) : Prop :=
  ∃ A c rows, e = .returned (.slice A (keptM q ds ds.length).length c) ∧ OwnM w W' base (.slice A (keptM q ds ds.length).length c) (keptM q ds ds.length) rows (keptM q ds ds.length).length ∧ (0 < ds.length → ∃ g, A = some ⟨g, 0, none⟩) ∧ keep W W'
theorem delM_group (q : MemD → Bool) (fn : Nat) (lb : Array Value) {w W : World} {base : Nat} {A : Option Addr} {n c : Nat} {ds : List MemD} {rows : List (MemD × Value)} (h : OwnM w W base (.slice A n c) ds rows ds.length) (hn : ds.length = n) (hl : ds.length ≤ 6) (hb0 : w.heap.size ≤ base)
    (eg : ∀ args w, (callFunc fn args).run Try.prog w = .ok (.enter fn args) w)
    (hf : ∀ t ∈ ds, ∀ (A : Option Addr) (k m : Nat) (W' : World), keep W W' → Calls Try.prog fn (#[.agg #[.string t.name, .int .i64 t.heard, .slice A k m]] ++ lb) W' (Tells (q t = true) W')) :
    Calls Try.prog 103 #[.slice A n c, .func (.func fn) #[] lb] W (DelMPost q ds base w W) := by
  have hrl : rows.length = n := by rw [ownM_rows h.fst]; exact hn
  rcases Nat.eq_zero_or_pos n with h0 | h0
  · subst h0
    have hd : ds = [] := List.eq_nil_of_length_eq_zero hn
    subst hd
    have hr : rows = [] := List.eq_nil_of_length_eq_zero hrl
    subst hr
    have hidx := IdxMem_any (.slice A 0 c) 0 [] (fun _ => False) fn lb W (Sl.of_own h.own) (by omega) eg (fun j _ _ _ hj => by omega)
    have HIDX := Lib.hid hidx
    have H := Lib.hid h
    clear hidx h hf
    go_enter Try.func103, Try.ntmps103
    go_wp2_with fail
    go_at_call 111
    refine HIDX.out.mono ?_
    rintro e W1 ⟨r, rfl, hb1, hr⟩
    rcases hr with ⟨k, hk, -⟩ | ⟨rfl, -⟩
    · omega
    have HB1 := Lib.hid hb1
    clear hb1
    go_wp2
    go_ret
    exact ⟨A, c, [], rfl, H.out.keep HB1.out, fun h => by simp at h, fun g t cs _ hk => hk.below HB1.out hk.lt, HB1.out.size⟩
  · have hown := h.own
    rw [hn] at hown
    obtain ⟨gm, c', e⟩ := own_block hown h0
    injection e with e1 _ e3
    subst e1 e3
    have hgm := (hown.lt gm rfl)
    have hpart : ∀ r ∈ rows, W.ownsRow base 3 1 r.2 r.1.parts.length (r.1.parts.map (Value.int .i64)) := fun r hr => h.parts r (by rw [List.take_of_length_le (by omega)]; exact hr)
    refine (delF_any q gm n c fn lb rows base W hown hrl (by omega) (fun t ht => ?_) eg (fun t ht A k m W' hW => hf t.1 (by rw [← h.fst]; exact List.mem_map_of_mem ht) A k m W' ⟨fun g ty cs hty hk => hk.grown hW (fun e => by injection e with e; subst e; exact own_off hown hk hty rfl), hW.size⟩)).mono ?_
    · obtain ⟨A9, c9, e9, -⟩ := (Sl.of_own (hpart t ht)).form
      exact ⟨A9, _, c9, e9⟩
    · rintro e W' ⟨rfl, ho, hg⟩
      have hk : keptM q ds ds.length = (keptR q rows n).map Prod.fst := by rw [keptR_fst, h.fst, hn]
      have hkl : (keptM q ds ds.length).length = (keptR q rows n).length := by rw [hk, List.length_map]
      have hsub : (keptR q rows n).Sublist rows := List.filter_sublist.trans (List.take_sublist _ _)
      refine ⟨some ⟨gm, 0, none⟩, c, keptR q rows n, by rw [hkl], ⟨hk.symm, by rw [hkl]; exact ho, h.bel.grown hg h.bel.size (fun k hk => by injection hk with hk; omega), fun t ht => ?_, fun t ht => ?_, ?_⟩, fun _ => ⟨gm, rfl⟩, fun g ty cs hty hk => hk.grown hg (fun e => by injection e with e; subst e; exact own_off hown hk hty rfl), hg.size⟩
      · rw [hkl, List.drop_length] at ht
        simp at ht
      · rw [hkl, List.take_length] at ht
        have hr := hsub.subset ht
        exact (hpart t hr).kept hg (own_apart2 (hpart t hr) hown (by decide))
      · rw [hkl, List.take_length]
        have ha := h.apart
        rw [List.take_of_length_le (by omega)] at ha
        exact ha.sublist hsub

set_option maxRecDepth 100000 in
set_option maxHeartbeats 1000000 in
theorem tick_at (x0 : ByteArray) (x1 ck wt : Int) (A : Option Addr) (n c : Nat) (b : Nat) (w : World) (hlt : b < w.heap.size) (h0 : w.cell? ⟨b, 0, none⟩ = some (.int .i64 ck)) (h1 : w.cell? ⟨b, 1, none⟩ = some (.int .i64 wt)) (hx : 0 ≤ x1 ∧ x1 ≤ 10000000000) (hc : 0 ≤ ck ∧ ck ≤ 10000000000) :
    Calls Try.prog 104 #[.agg #[.string x0, .int .i64 x1, .slice A n c], .pointer (some ⟨b, 0, none⟩)] w (Tells (decide (x1 + wt ≤ ck) = true) w) := by
  go_enter Try.func104, Try.ntmps104
  go_wp2
  go_ret
  exact ⟨_, rfl, by simp; omega, (Below.refl _ _).alloc (Nat.le_refl _) _⟩

set_option maxRecDepth 100000 in
set_option maxHeartbeats 1000000 in
theorem ticked_at (x0 : ByteArray) (x1 ck wt t : Int) (A : Option Addr) (n c : Nat) (b bn : Nat) (w : World) (hlt : b < w.heap.size) (hlt2 : bn < w.heap.size) (h0 : w.cell? ⟨b, 0, none⟩ = some (.int .i64 ck)) (h1 : w.cell? ⟨b, 1, none⟩ = some (.int .i64 wt)) (h2 : w.cell? ⟨bn, 0, none⟩ = some (.int .i64 t)) (hx : 0 ≤ x1 ∧ x1 ≤ 10000000000) (hc : 0 ≤ ck ∧ ck ≤ 10000000000) (hw : 0 ≤ wt ∧ wt ≤ 10000) (ht : 0 ≤ t ∧ t ≤ 10000) :
    Calls Try.prog 106 #[.agg #[.string x0, .int .i64 x1, .slice A n c], .pointer (some ⟨b, 0, none⟩), .pointer (some ⟨bn, 0, none⟩)] w (Tells (decide (x1 + wt ≤ ck + t) = true) w) := by
  go_enter Try.func106, Try.ntmps106
  go_wp2
  go_ret
  exact ⟨_, rfl, by simp, (Below.refl _ _).alloc (Nat.le_refl _) _⟩
theorem own_kept2 {W W' : World} {base size n : Nat} {e : TypeId} {v : Value} {xs : List Value} (h : W.ownsRow base e size v n xs) (hk : keep W W') (he : e ≠ 79) : W'.ownsRow base e size v n xs := by
  refine ⟨h.1, ?_⟩
  rcases h.2 with hn | ⟨g, cap, cur, hv, hb, hg, r⟩
  · exact Or.inl hn
  · exact Or.inr ⟨g, cap, cur, hv, hb, hk.1 g e cur he hg, r⟩
theorem assigned_own (ck wt gn pt : Int) {w W : World} {base g : Nat} {B : Option Addr} {n c no d : Nat} {ds : List MemD} {rows : List (MemD × Value)} {os : List OffD} (h : OwnM w W base (.slice (some ⟨g, 0, none⟩) n c) ds rows ds.length) (hn : ds.length = n) (ho : OwnO W base (.slice B no d) os) (hl : ds.length ≤ 6) (hb0 : w.heap.size ≤ base) (hb : base ≤ W.heap.size)
    (hg : -1000000000000 ≤ gn ∧ gn ≤ 1000000000000) (hp : 0 ≤ pt ∧ pt ≤ 4) :
    Calls Try.prog 100 #[.agg #[.int .i64 ck, .int .i64 wt, .int .i64 gn, .slice (some ⟨g, 0, none⟩) n c, .slice B no d], .int .i64 pt] W (AnewPost ck wt gn ds (.slice B no d) os pt.toNat base w W) := by
  have hrl : rows.length = n := by rw [ownM_rows h.fst]; exact hn
  have hown := h.own
  rw [hn] at hown
  refine (assigned_any ck wt gn g n c B no d rows pt base W hown hrl (by omega) (fun t ht => ?_) hg hp).mono ?_
  · obtain ⟨A9, c9, e9, -⟩ := (Sl.of_own (h.parts t (by rw [List.take_of_length_le (by omega)]; exact ht))).form
    exact ⟨A9, _, c9, e9⟩
  · intro e W' hA
    obtain ⟨rows6, rfl, hom6, hg6⟩ := hA.ownM (w := w) (ms := ds) h.fst hn hb0 hb h.bel
    refine ⟨_, c, rows6, by rw [hn], by rw [hn]; exact hom6, World.ownsRow.kept ho hg6 (own_apart2 ho hown (by decide)), fun g t cs ht hk => hk.grown hg6 (own_off hown hk ht), hg6.size⟩
end Go.Proofs.Ytjkoceacjbhblaa
