/- view.kept, view.Read. -/
import Derived.Test.YtpjjfnpdopdnkaaViewE
import Derived.Test.YtpjjfnpdopdnkaaTells
namespace Go.Proofs.Ytpjjfnpdopdnkaa
open Go.RowKit

/-- an entry that ends a transaction of pid's -/
def EndAt (es : List Ent) (pid : Int) (k : Nat) : Prop := ∃ h : k < es.length, es[k].pid = pid ∧ es[k].kind ≠ 1
/-- the entry y at i is of no transaction, or of one that was done -/
def KeptIs (es : List Ent) (h : Nat) (y : Ent) (i : Nat) (b : Bool) : Prop := y.txn = false ∧ b = true ∨ y.txn = true ∧ ((∃ k : Nat, ∃ hk : k < es.length, i < k ∧ k < h ∧ EndAt es y.pid k ∧ (∀ j : Nat, i < j → j < k → ¬ EndAt es y.pid j) ∧ b = decide (es[k].kind = 2)) ∨ (∀ j : Nat, i < j → j < h → ¬ EndAt es y.pid j) ∧ b = false)
theorem KeptIs.unique {es : List Ent} {h i : Nat} {y : Ent} {b c : Bool} (h1 : KeptIs es h y i b) (h2 : KeptIs es h y i c) : b = c := by
  rcases h1 with ⟨h1, rfl⟩ | ⟨h1, h1'⟩ <;> rcases h2 with ⟨h2, rfl⟩ | ⟨h2, h2'⟩
  · rfl
  · rw [h1] at h2; cases h2
  · rw [h1] at h2; cases h2
  · rcases h1' with ⟨k, hk, a1, a2, a3, a4, rfl⟩ | ⟨a1, rfl⟩ <;> rcases h2' with ⟨k', hk', b1, b2, b3, b4, rfl⟩ | ⟨b1, rfl⟩
    · rcases Nat.lt_trichotomy k k' with h3 | h3 | h3
      · exact absurd a3 (b4 k a1 h3)
      · subst h3; rfl
      · exact absurd b3 (a4 k' b1 h3)
    · exact absurd a3 (b1 k a1 a2)
    · exact absurd b3 (a1 k' b1 b2)
    · rfl
theorem keptIs_ex (es : List Ent) (h : Nat) (y : Ent) (i : Nat) (hh : h ≤ es.length) : ∃ b, KeptIs es h y i b := by
  cases ht : y.txn with
  | false => exact ⟨true, Or.inl ⟨ht, rfl⟩⟩
  | true =>
    by_cases hx : ∃ k : Nat, i < k ∧ k < h ∧ EndAt es y.pid k
    · obtain ⟨k, hk⟩ := hx
      induction k using Nat.strongRecOn with
      | ind k ih =>
        by_cases hj : ∃ j : Nat, j < k ∧ i < j ∧ EndAt es y.pid j
        · obtain ⟨j, j1, j2, j3⟩ := hj
          exact ih j j1 ⟨j2, by omega, j3⟩
        · exact ⟨decide (es[k].kind = 2), Or.inr ⟨ht, Or.inl ⟨k, by omega, hk.1, hk.2.1, hk.2.2, fun j j1 j2 j3 => hj ⟨j, j2, j1, j3⟩, rfl⟩⟩⟩
    · exact ⟨false, Or.inr ⟨ht, Or.inr ⟨fun j j1 j2 j3 => hx ⟨j, j1, j2, j3⟩, rfl⟩⟩⟩
/-- the entry at i is shown -/
def ShowsP (es : List Ent) (h i : Nat) : Prop := ∃ hi : i < es.length, es[i].kind = 1 ∧ KeptIs es h es[i] i true
open Classical in
noncomputable def textsTo (es : List Ent) (h frm : Nat) : Nat → List ByteArray
  | 0 => []
  | n + 1 => textsTo es h frm n ++ (match es[frm + n]? with | some y => if ShowsP es h (frm + n) then [y.text] else [] | none => [])
theorem textsTo_yes {es : List Ent} {h frm n : Nat} (hi : frm + n < es.length) (hk : es[frm + n].kind = 1) (hb : KeptIs es h es[frm + n] (frm + n) true) : textsTo es h frm (n + 1) = textsTo es h frm n ++ [es[frm + n].text] := by
  have hs : ShowsP es h (frm + n) := ⟨hi, hk, hb⟩
  rw [textsTo, List.getElem?_eq_getElem hi]
  simp only [if_pos hs]
theorem textsTo_no {es : List Ent} {h frm n : Nat} (hi : frm + n < es.length) (hb : ¬ (es[frm + n].kind = 1 ∧ KeptIs es h es[frm + n] (frm + n) true)) : textsTo es h frm (n + 1) = textsTo es h frm n := by
  have hs : ¬ ShowsP es h (frm + n) := fun ⟨_, h2⟩ => hb h2
  rw [textsTo, List.getElem?_eq_getElem hi]
  simp only [if_neg hs, List.append_nil]
theorem textsTo_len {es : List Ent} {h frm : Nat} : ∀ n, (textsTo es h frm n).length ≤ n
  | 0 => Nat.le_refl _
  | n + 1 => by
    have := textsTo_len (es := es) (h := h) (frm := frm) n
    rw [textsTo, List.length_append]
    split
    · split <;> simp <;> omega
    · simp; omega
/-- the reading stops behind n entries -/
def StopsAt (es : List Ent) (h frm : Nat) (end_ most : Int) (n : Nat) : Prop := (∀ m : Nat, m < n → ((frm + m : Nat) : Int) < end_ ∧ ((textsTo es h frm m).length : Int) < most) ∧ ¬ (((frm + n : Nat) : Int) < end_ ∧ ((textsTo es h frm n).length : Int) < most)
theorem StopsAt.unique {es : List Ent} {h frm : Nat} {end_ most : Int} {n m : Nat} (h1 : StopsAt es h frm end_ most n) (h2 : StopsAt es h frm end_ most m) : n = m := by
  rcases Nat.lt_trichotomy n m with h3 | h3 | h3
  · exact absurd (h2.1 n h3) h1.2
  · exact h3
  · exact absurd (h1.1 m h3) h2.2
def strs (l : List ByteArray) : List Value := l.map Value.string
theorem strs_one (l : List ByteArray) : ∀ x ∈ strs l, x.oneCell' = true := by
  intro x hx
  obtain ⟨b, _, rfl⟩ := List.mem_map.1 hx
  rfl
theorem str_info : (Try.prog.info? 9).map (fun i => (i.zero, i.size, i.bytes)) = some (some (.string .empty), 1, 16) := by kernel_rfl
def KeptPost (es : List Ent) (h : Nat) (y : Ent) (i : Nat) (w : World) (e : Ending) (w' : World) : Prop := ∃ b, e = .returned (.bool b) ∧ KeptIs es h y i b ∧ Below w.heap.size w w'
set_option maxRecDepth 100000 in
set_option maxHeartbeats 4000000 in
theorem kept_any (A : Option Addr) (c : Nat) (es : List Ent) (hh i : Nat) (w : World) (h : Es w (.slice A es.length c) es) (hle : hh ≤ es.length) (hi : i < hh) (hl : es.length ≤ 9223372036854775806) (hil : i < es.length) :
    Calls Try.prog 106 #[.slice A hh c, .int .i64 i] w (KeptPost es hh es[i] i w) := by
  obtain ⟨A', c', he, hc, hx⟩ := h.at_
  injection he with e1 e2 e3
  subst e1 e3
  obtain ⟨b1, o1, rfl, hb1, hcell⟩ := hx (by omega)
  obtain ⟨-, x1, -, -, -, x5, -⟩ := hcell i hil
  have i0 : (0 : Int) ≤ (i : Int) := by omega
  have i1 : (i : Int) < (hh : Int) := by omega
  have i2 : (i : Int) + 1 ≤ (hh : Int) := by omega
  have i3 : (hh : Int) ≤ (c : Int) := by omega
  have HC := Lib.hid hcell
  generalize hy : es[i] = y at *
  clear hy h hx hcell
  obtain ⟨yep, ypid, yver, yseq, ykind, ytxn, ytext⟩ := y
  simp only at *
  rcases ytxn with _ | _
  · go_enter Try.func106, Try.ntmps106
    go_wp2
    go_ret
    exact ⟨true, rfl, Or.inl ⟨rfl, rfl⟩, Below.refl _ _⟩
  · have X1 := Lib.hid x1
    clear x1
    obtain ⟨sn, hsn⟩ : ∃ sn : Nat, sn = hh - (i + 1) := ⟨_, rfl⟩
    by_cases hci : c = i + 1
    · subst hci
      go_enter Try.func106, Try.ntmps106
      go_wp2
      rw [← hsn]
      go_loopw [18] (fun y wr => ∃ k : Nat, k ≤ sn ∧ y = .int .i64 k ∧ Hid (Below w.heap.size w wr) ∧ Hid (∀ j : Nat, i < j → j < i + 1 + k → ¬ EndAt es ypid j)) (fun y _ => sn - (intOf y).toNat)
      case atStart => exact ⟨0, Nat.zero_le _, rfl, Lib.hid (Below.refl _ _), Lib.hid (fun j j1 j2 => by omega)⟩
      case round =>
        obtain ⟨k, hk, rfl, HB2, HN⟩ := hrel
        by_cases hlt : k < sn
        · exact absurd hlt (by omega)
        · obtain rfl : k = sn := by omega
          have HKE := Lib.hid (show KeptIs es hh ⟨yep, ypid, yver, yseq, ykind, true, ytext⟩ i false from Or.inr ⟨rfl, Or.inr ⟨fun j j1 j2 => HN.out j j1 (by omega), rfl⟩⟩)
          go_wp2
          go_ret
          exact ⟨false, rfl, HKE.out, HB2.out⟩
    · skip
      go_enter Try.func106, Try.ntmps106
      go_wp2
      rw [← hsn]
      go_loopw [18] (fun y wr => ∃ k : Nat, k ≤ sn ∧ y = .int .i64 k ∧ Hid (Below w.heap.size w wr) ∧ Hid (∀ j : Nat, i < j → j < i + 1 + k → ¬ EndAt es ypid j)) (fun y _ => sn - (intOf y).toNat)
      case atStart => exact ⟨0, Nat.zero_le _, rfl, Lib.hid (Below.refl _ _), Lib.hid (fun j j1 j2 => by omega)⟩
      case round =>
        obtain ⟨k, hk, rfl, HB2, HN⟩ := hrel
        by_cases hlt : k < sn
        · have hkl : i + 1 + k < es.length := by omega
          obtain ⟨y0, y1, y2, y3, y4, y5, y6⟩ := HC.out (i + 1 + k) hkl
          rw [show o1 + (i + 1 + k) * 7 = o1 + (i + 1) * 7 + k * 7 by omega] at y0 y1 y2 y3 y4 y5 y6
          have hnext : ¬ EndAt es ypid (i + 1 + k) → ∀ j : Nat, i < j → j < i + 1 + (k + 1) → ¬ EndAt es ypid j := fun hn j j1 j2 => by
            by_cases hj : j = i + 1 + k
            · subst hj; exact hn
            · exact HN.out j j1 (by omega)
          have HNX := Lib.hid hnext
          have HAT := Lib.hid (show EndAt es ypid (i + 1 + k) ↔ es[i + 1 + k].pid = ypid ∧ es[i + 1 + k].kind ≠ 1 from ⟨fun ⟨_, h⟩ => h, fun h => ⟨hkl, h⟩⟩)
          have HKP := Lib.hid (show ∀ b, EndAt es ypid (i + 1 + k) → b = decide (es[i + 1 + k].kind = 2) → KeptIs es hh ⟨yep, ypid, yver, yseq, ykind, true, ytext⟩ i b from fun b h1 h2 => Or.inr ⟨rfl, Or.inl ⟨i + 1 + k, hkl, by omega, by omega, h1, fun j j1 j2 => HN.out j j1 j2, h2⟩⟩)
          clear hnext
          generalize es[i + 1 + k] = z at *
          obtain ⟨e0, e1, e2, e3, e4, e5, e6⟩ := z
          simp only at *
          have Y0 := (HB2.out.cell (p := ⟨b1, o1 + (i + 1) * 7 + k * 7, none⟩) hb1).trans y0
          have Y1 := (HB2.out.cell (p := ⟨b1, o1 + (i + 1) * 7 + k * 7 + 1, none⟩) hb1).trans y1
          have Y2 := (HB2.out.cell (p := ⟨b1, o1 + (i + 1) * 7 + k * 7 + 2, none⟩) hb1).trans y2
          have Y3 := (HB2.out.cell (p := ⟨b1, o1 + (i + 1) * 7 + k * 7 + 3, none⟩) hb1).trans y3
          have Y4 := (HB2.out.cell (p := ⟨b1, o1 + (i + 1) * 7 + k * 7 + 4, none⟩) hb1).trans y4
          have Y5 := (HB2.out.cell (p := ⟨b1, o1 + (i + 1) * 7 + k * 7 + 5, none⟩) hb1).trans y5
          have Y6 := (HB2.out.cell (p := ⟨b1, o1 + (i + 1) * 7 + k * 7 + 6, none⟩) hb1).trans y6
          have X2 := (HB2.out.cell (p := ⟨b1, o1 + i * 7 + 1, none⟩) hb1).trans X1.out
          have yl := Nat.lt_of_lt_of_le hb1 HB2.out.size
          have kk0 : (0 : Int) ≤ (k : Int) := by omega
          have kk1 : (k : Int) < (sn : Int) := by omega
          clear y0 y1 y2 y3 y4 y5 y6
          have hal := (Below.refl wr.heap.size wr).alloc (Nat.le_refl _) (.cells #[.int .i64 e0, .int .i64 e1, .int .i64 e2, .int .i64 e3, .int .i64 e4, .bool e5, .string e6] 55)
          have HB3 := Lib.hid (below_then HB2.out hal)
          have hbe := Blk.new wr 55 #[.int .i64 e0, .int .i64 e1, .int .i64 e2, .int .i64 e3, .int .i64 e4, .bool e5, .string e6]
          clear hal
          by_cases g0 : e4 = 1
          · have u0 : (e4 != 1) = false := by simpa using g0
            have H2 := Lib.hid (HNX.out (fun h => (HAT.out.1 h).2 g0))
            clear HNX HAT HKP g0
            go_wp2_with fail
            generalize wr.alloc (.cells #[.int .i64 e0, .int .i64 e1, .int .i64 e2, .int .i64 e3, .int .i64 e4, .bool e5, .string e6] 55) = W3 at *
            have q1 := hbe.cell 1
            have q4 := hbe.cell 4
            have ql := hbe.lt
            have X3 := (HB3.out.cell (p := ⟨b1, o1 + i * 7 + 1, none⟩) hb1).trans X1.out
            have yl3 := Nat.lt_of_lt_of_le hb1 HB3.out.size
            go_quiet (fail)
            generalize hd : World.drewN W3 _ = W4 at *
            have hb : Below W3.heap.size W3 W4 := by rw [← hd]; exact below_dn _ _
            have hbe4 := hbe.below hb hbe.lt
            have HB4 := Lib.hid (below_then HB3.out hb)
            have r4 := hbe4.cell 4
            have rl := hbe4.lt
            clear hd hb hbe hbe4 q1 q4 ql X3 yl3
            go_wp2
            go_light
            exact ⟨⟨k + 1, by omega, by go_num, HB4, H2⟩, by simp [intOf]; omega⟩
          · have u0 : (e4 != 1) = true := by simpa using g0
            by_cases g1 : e1 = ypid
            · have u1 : (e1 == ypid) = true := beq_iff_eq.2 g1
              by_cases g2 : e4 = 2
              · have u2 : (e4 == 2) = true := beq_iff_eq.2 g2
                have HKE := Lib.hid (HKP.out true (HAT.out.2 ⟨g1, g0⟩) (decide_eq_true g2).symm)
                clear HNX HAT HKP g0 g1 g2
                go_wp2_with fail
                generalize wr.alloc (.cells #[.int .i64 e0, .int .i64 e1, .int .i64 e2, .int .i64 e3, .int .i64 e4, .bool e5, .string e6] 55) = W3 at *
                have q1 := hbe.cell 1
                have q4 := hbe.cell 4
                have ql := hbe.lt
                have X3 := (HB3.out.cell (p := ⟨b1, o1 + i * 7 + 1, none⟩) hb1).trans X1.out
                have yl3 := Nat.lt_of_lt_of_le hb1 HB3.out.size
                go_quiet (fail)
                generalize hd : World.drewN W3 _ = W4 at *
                have hb : Below W3.heap.size W3 W4 := by rw [← hd]; exact below_dn _ _
                have hbe4 := hbe.below hb hbe.lt
                have HB4 := Lib.hid (below_then HB3.out hb)
                have r4 := hbe4.cell 4
                have rl := hbe4.lt
                clear hd hb hbe hbe4 q1 q4 ql X3 yl3
                go_wp2
                go_ret
                exact ⟨true, rfl, HKE.out, HB4.out⟩
              · have u2 : (e4 == 2) = false := beq_eq_false_iff_ne.2 g2
                have HKE := Lib.hid (HKP.out false (HAT.out.2 ⟨g1, g0⟩) (decide_eq_false g2).symm)
                clear HNX HAT HKP g0 g1 g2
                go_wp2_with fail
                generalize wr.alloc (.cells #[.int .i64 e0, .int .i64 e1, .int .i64 e2, .int .i64 e3, .int .i64 e4, .bool e5, .string e6] 55) = W3 at *
                have q1 := hbe.cell 1
                have q4 := hbe.cell 4
                have ql := hbe.lt
                have X3 := (HB3.out.cell (p := ⟨b1, o1 + i * 7 + 1, none⟩) hb1).trans X1.out
                have yl3 := Nat.lt_of_lt_of_le hb1 HB3.out.size
                go_quiet (fail)
                generalize hd : World.drewN W3 _ = W4 at *
                have hb : Below W3.heap.size W3 W4 := by rw [← hd]; exact below_dn _ _
                have hbe4 := hbe.below hb hbe.lt
                have HB4 := Lib.hid (below_then HB3.out hb)
                have r4 := hbe4.cell 4
                have rl := hbe4.lt
                clear hd hb hbe hbe4 q1 q4 ql X3 yl3
                go_wp2
                go_ret
                exact ⟨false, rfl, HKE.out, HB4.out⟩
            · have u1 : (e1 == ypid) = false := beq_eq_false_iff_ne.2 g1
              have H2 := Lib.hid (HNX.out (fun h => g1 (HAT.out.1 h).1))
              clear HNX HAT HKP g0 g1
              go_wp2_with fail
              generalize wr.alloc (.cells #[.int .i64 e0, .int .i64 e1, .int .i64 e2, .int .i64 e3, .int .i64 e4, .bool e5, .string e6] 55) = W3 at *
              have q1 := hbe.cell 1
              have q4 := hbe.cell 4
              have ql := hbe.lt
              have X3 := (HB3.out.cell (p := ⟨b1, o1 + i * 7 + 1, none⟩) hb1).trans X1.out
              have yl3 := Nat.lt_of_lt_of_le hb1 HB3.out.size
              go_quiet (fail)
              generalize hd : World.drewN W3 _ = W4 at *
              have hb : Below W3.heap.size W3 W4 := by rw [← hd]; exact below_dn _ _
              have hbe4 := hbe.below hb hbe.lt
              have HB4 := Lib.hid (below_then HB3.out hb)
              have r4 := hbe4.cell 4
              have rl := hbe4.lt
              clear hd hb hbe hbe4 q1 q4 ql X3 yl3
              go_wp2
              go_light
              exact ⟨⟨k + 1, by omega, by go_num, HB4, H2⟩, by simp [intOf]; omega⟩
        · obtain rfl : k = sn := by omega
          have HKE := Lib.hid (show KeptIs es hh ⟨yep, ypid, yver, yseq, ykind, true, ytext⟩ i false from Or.inr ⟨rfl, Or.inr ⟨fun j j1 j2 => HN.out j j1 (by omega), rfl⟩⟩)
          go_wp2
          go_ret
          exact ⟨false, rfl, HKE.out, HB2.out⟩

theorem lit_w (w : World) (e : TypeId) (cs : Array Value) (size n g : Nat) (h : cs.size = n * size) (hg : g = w.heap.size) : Sl (w.alloc (.cells cs e)) size (.slice (some ⟨g, 0, none⟩) n n) n cs.toList := by
  subst hg
  exact Sl.lit w e cs size n h
def ReadBad (w : World) (e : Ending) (w' : World) : Prop := e = .returned (.tuple #[.slice none 0 0, .int .i64 0, .int .i64 2]) ∧ Below w.heap.size w w'
def ReadPost (es : List Ent) (h frm : Nat) (end_ most : Int) (w : World) (e : Ending) (w' : World) : Prop := ∃ (v : Value) (n a : Nat), a = frm + n ∧ e = .returned (.tuple #[v, .int .i64 a, .int .i64 0]) ∧ w'.ownsRow w.heap.size 9 1 v (textsTo es h frm n).length (strs (textsTo es h frm n)) ∧ StopsAt es h frm end_ most n ∧ Below w.heap.size w w'
set_option maxRecDepth 100000 in
set_option maxHeartbeats 4000000 in
theorem read_high (v : Value) (es : List Ent) (hi frm most : Int) (w : World) (h : Es w v es) (hr : hi < 0 ∨ (es.length : Int) < hi) (hl : es.length ≤ 9223372036854775806) :
    Calls Try.prog 93 #[v, .int .i64 hi, .int .i64 frm, .int .i64 most] w (ReadBad w) := by
  obtain ⟨A, c, rfl, hc, hx⟩ := h.at_
  have H := Lib.hid h
  have HR := Lib.hid hr
  clear h hx hr
  go_enter Try.func93, Try.ntmps93
  go_wp2_with fail
  refine (stable_bad _ es hi _ H.out HR.out hl).mono ?_
  rintro e W1 ⟨rfl, hb⟩
  have HB1 := Lib.hid hb
  clear hb
  go_wp2
  exact bodyPost_ret (v := .tuple #[.slice none 0 0, .int .i64 0, .int .i64 2]) (by simp [results, Try.results93, go_sem]) rfl ⟨rfl, HB1.out⟩
set_option maxRecDepth 100000 in
set_option maxHeartbeats 4000000 in
theorem read_range (v : Value) (es : List Ent) (hi frm most : Int) (w : World) (h : Es w v es) (n : Nat) (hn : hi = n) (hle : n ≤ es.length) (hp : PlainE es) (hr : frm < 0 ∨ (es.length : Int) < frm ∨ most < 1 ∨ 20 < most) (hl : es.length ≤ 9223372036854775806) :
    Calls Try.prog 93 #[v, .int .i64 hi, .int .i64 frm, .int .i64 most] w (ReadBad w) := by
  obtain ⟨A, c, rfl, hc, hx⟩ := h.at_
  have H := Lib.hid h
  have HP := Lib.hid hp
  subst hn
  clear h hx hp
  by_cases h0 : frm < 0
  · have z0 : decide (frm < 0) = true := decide_eq_true h0
    clear hr h0
    go_enter Try.func93, Try.ntmps93
    go_wp2_with fail
    refine (stable_ok _ es n _ H.out n rfl hle HP.out hl).mono ?_
    rintro e W1 ⟨r, rfl, -, hb⟩
    have HB1 := Lib.hid hb
    clear hb
    go_wp2
    exact bodyPost_ret (v := .tuple #[.slice none 0 0, .int .i64 0, .int .i64 2]) (by simp [results, Try.results93, go_sem]) rfl ⟨rfl, HB1.out⟩
  have z0 : decide (frm < 0) = false := decide_eq_false h0
  by_cases h1 : (es.length : Int) < frm
  · have z1 : decide ((es.length : Int) < frm) = true := decide_eq_true h1
    clear hr h0 h1
    go_enter Try.func93, Try.ntmps93
    go_wp2_with fail
    refine (stable_ok _ es n _ H.out n rfl hle HP.out hl).mono ?_
    rintro e W1 ⟨r, rfl, -, hb⟩
    have HB1 := Lib.hid hb
    clear hb
    go_wp2
    exact bodyPost_ret (v := .tuple #[.slice none 0 0, .int .i64 0, .int .i64 2]) (by simp [results, Try.results93, go_sem]) rfl ⟨rfl, HB1.out⟩
  have z1 : decide ((es.length : Int) < frm) = false := decide_eq_false h1
  by_cases h2 : most < 1
  · have z2 : decide (most < 1) = true := decide_eq_true h2
    clear hr h0 h1 h2
    go_enter Try.func93, Try.ntmps93
    go_wp2_with fail
    refine (stable_ok _ es n _ H.out n rfl hle HP.out hl).mono ?_
    rintro e W1 ⟨r, rfl, -, hb⟩
    have HB1 := Lib.hid hb
    clear hb
    go_wp2
    exact bodyPost_ret (v := .tuple #[.slice none 0 0, .int .i64 0, .int .i64 2]) (by simp [results, Try.results93, go_sem]) rfl ⟨rfl, HB1.out⟩
  have z2 : decide (most < 1) = false := decide_eq_false h2
  have h3 : 20 < most := by omega
  have z3 : decide (20 < most) = true := decide_eq_true h3
  clear hr h0 h1 h2 h3
  go_enter Try.func93, Try.ntmps93
  go_wp2_with fail
  refine (stable_ok _ es n _ H.out n rfl hle HP.out hl).mono ?_
  rintro e W1 ⟨r, rfl, -, hb⟩
  have HB1 := Lib.hid hb
  clear hb
  go_wp2
  exact bodyPost_ret (v := .tuple #[.slice none 0 0, .int .i64 0, .int .i64 2]) (by simp [results, Try.results93, go_sem]) rfl ⟨rfl, HB1.out⟩
set_option maxRecDepth 100000 in
set_option maxHeartbeats 4000000 in
theorem read_ok (v : Value) (es : List Ent) (hi frm most : Int) (w : World) (h : Es w v es) (n : Nat) (hn : hi = n) (hle : n ≤ es.length) (hp : PlainE es) (f : Nat) (hf : frm = f) (hfl : f ≤ es.length) (hm1 : 1 ≤ most) (hm2 : most ≤ 20) {r : Int} (hr : StabIs es n r) (hl : es.length ≤ 9223372036854775806) :
    Calls Try.prog 93 #[v, .int .i64 hi, .int .i64 frm, .int .i64 most] w (ReadPost es n f r most w) := by
  obtain ⟨A, c, rfl, hc, hx⟩ := h.at_
  have H := Lib.hid h
  have HP := Lib.hid hp
  have HX := Lib.hid hx
  subst hn hf
  have z1 : decide ((f : Int) < 0) = false := decide_eq_false (by omega)
  have z2 : decide ((es.length : Int) < (f : Int)) = false := decide_eq_false (by omega)
  have z2n : decide (es.length < f) = false := decide_eq_false (by omega)
  have z3 : decide (most < 1) = false := decide_eq_false (by omega)
  have z4 : decide (20 < most) = false := decide_eq_false (by omega)
  have n0 : (0 : Int) ≤ (n : Int) := by omega
  have n1 : (n : Int) ≤ (c : Int) := by omega
  obtain ⟨i0, j0, j1, j2, j3⟩ := info_parts str_info
  clear h hx hp
  go_enter Try.func93, Try.ntmps93
  go_wp2_with fail
  refine (stable_ok _ es n _ H.out n rfl hle HP.out hl).mono ?_
  rintro e W1 ⟨r', rfl, hs, hb⟩
  obtain rfl := hs.unique hr
  have hrn : r' ≤ n := hr.1
  have HB1 := Lib.hid hb
  clear hs hb hr
  go_wp2
  go_loopw [13, 14] (fun o x wr => ∃ (k a : Nat), Hid (a = f + k) ∧ x = .int .i64 a ∧ f ≤ a ∧ a ≤ es.length ∧ wr.ownsRow w.heap.size 9 1 o (textsTo es n f k).length (strs (textsTo es n f k)) ∧ Hid (∀ m : Nat, m < k → ((f + m : Nat) : Int) < r' ∧ ((textsTo es n f m).length : Int) < most) ∧ Hid (Below w.heap.size w wr)) (fun _ x _ => es.length - (intOf x).toNat)
  case atStart => exact ⟨0, f, Lib.hid rfl, rfl, Nat.le_refl _, hfl, World.ownsRow_nil _ _ _ _, Lib.hid (fun m h => by omega), HB1⟩
  case round =>
    clear HB1
    obtain ⟨k, a, HA, rfl, hfa, hal, ho, HM, HB⟩ := hrel
    obtain ⟨A7, c7, rfl, hc7⟩ := (Sl.of_own ho).form
    have hstop : ¬ ((a : Int) < r' ∧ ((textsTo es n f k).length : Int) < most) → StopsAt es n f r' most k := fun h => ⟨HM.out, by rw [← HA.out]; exact h⟩
    have hmore : (a : Int) < r' ∧ ((textsTo es n f k).length : Int) < most → ∀ m : Nat, m < k + 1 → ((f + m : Nat) : Int) < r' ∧ ((textsTo es n f m).length : Int) < most := fun h m hm => by
      rcases Nat.lt_succ_iff_lt_or_eq.1 hm with h' | rfl
      · exact HM.out m h'
      · rw [← HA.out]; exact h
    have HSTOP := Lib.hid hstop
    have HMORE := Lib.hid hmore
    have HTY := Lib.hid (fun (hi : a < es.length) (hk : es[a].kind = 1) (hb : KeptIs es n es[a] a true) => show textsTo es n f (k + 1) = textsTo es n f k ++ [es[a].text] by have e := HA.out; subst e; exact textsTo_yes hi hk hb)
    have HTN := Lib.hid (fun (hi : a < es.length) (hb : ¬ (es[a].kind = 1 ∧ KeptIs es n es[a] a true)) => show textsTo es n f (k + 1) = textsTo es n f k by have e := HA.out; subst e; exact textsTo_no hi hb)
    have HA2 := Lib.hid (show a + 1 = f + (k + 1) by have := HA.out; omega)
    clear hstop hmore
    have HFIN := Lib.hid (show ∀ hs : StopsAt es n f r' most k, ∀ (h1 : Below w.heap.size w wr), ReadPost es n f r' most w (.returned (.tuple #[.slice A7 (textsTo es n f k).length c7, .int .i64 a, .int .i64 0])) wr from fun hs h1 => ⟨_, k, a, HA.out, rfl, ho, hs, h1⟩)
    have HO := Lib.hid ho
    clear ho
    by_cases ha : (a : Int) < r'
    · have y1 : decide ((a : Int) < r') = true := decide_eq_true ha
      by_cases hlen : ((textsTo es n f k).length : Int) < most
      · have y2 : decide (((textsTo es n f k).length : Int) < most) = true := decide_eq_true hlen
        have HMO := Lib.hid (HMORE.out ⟨ha, hlen⟩)
        have han : a < n := by omega
        have hae : a < es.length := by omega
        clear HMORE HSTOP HFIN
        obtain ⟨b1, o1, rfl, hb1, hcell⟩ := HX.out (by omega)
        obtain ⟨q0, q1, q2, q3, q4, q5, q6⟩ := hcell a hae
        have X4 := (HB.out.cell (p := ⟨b1, o1 + a * 7 + 4, none⟩) hb1).trans q4
        have yl := Nat.lt_of_lt_of_le hb1 HB.out.size
        have a0 : (0 : Int) ≤ (a : Int) := by omega
        have a1 : (a : Int) < (es.length : Int) := by omega
        have X6 := Lib.hid q6
        have HKC := Lib.hid (fun W (hW : Es W (.slice (some ⟨b1, o1, none⟩) es.length c) es) => kept_any (some ⟨b1, o1, none⟩) c es n a W hW hle han hl hae)
        have HTY2 := Lib.hid (HTY.out hae)
        have HTN2 := Lib.hid (HTN.out hae)
        clear hcell q0 q1 q2 q3 q4 q5 q6 HTY HTN
        generalize es[a] = y at *
        obtain ⟨yep, ypid, yver, yseq, ykind, ytxn, ytext⟩ := y
        simp only at *
        by_cases hk : ykind = 1
        · have y3 : (ykind == 1) = true := beq_iff_eq.2 hk
          have HK := Lib.hid hk
          clear hk
          go_wp2_with fail
          refine (HKC.out _ (H.out.below HB.out)).mono ?_
          rintro e W2 ⟨b, rfl, hkb, hb⟩
          have HO2 := Lib.hid (own_keep HO.out hb (fun b hb => (HO.out.lt b hb).2))
          have HB2 := Lib.hid (below_then HB.out hb)
          have X6' := (HB2.out.cell (p := ⟨b1, o1 + a * 7 + 6, none⟩) hb1).trans X6.out
          have yl2 := Nat.lt_of_lt_of_le hb1 HB2.out.size
          clear hb HKC X4 yl
          rcases b with _ | _
          · have HT := Lib.hid (HTN2.out (fun h => by have := hkb.unique h.2; cases this))
            clear HTY2 HTN2 hkb
            go_wp2
            go_roundw
            case rel => exact ⟨k + 1, a + 1, HA2, by go_num, by omega, by omega, by rw [HT.out]; exact HO2.out, HMO, HB2⟩
            case measure => simp [intOf]; omega
          · have HT := Lib.hid (HTY2.out HK.out hkb)
            clear HTY2 HTN2 hkb
            have HNE := Lib.hid (show ∀ g, (Value.slice A7 (textsTo es n f k).length c7).ownBlock = some g → w.heap.size ≤ g from fun g hg => (HO2.out.lt g hg).1)
            have hws : w.heap.size ≤ W2.heap.size := HB2.out.size
            go_wp2_with (at_builtin; go_must (refine wpList_append_sl _ rfl (.tmp 65) (.tmp 71) 62 rfl w.heap.size 9 i0 (.string .empty) 1 16 Try.underlying62 j0 j1 j2 j3 rfl (by decide) _ _ _ (by rfl) (HO2.out.alloc _) _ 1 _ (by rfl) (lit_w _ _ _ 1 1 _ rfl (by simp)) (strs_one [ytext]) (by simp only [maxLen]; omega) (by omega) (by simp; omega) ?_; intro v7 w7 ho7 hg7 ha7; obtain ⟨A8, c8, rfl, hc8⟩ := (Sl.of_own ho7).form))
            have hb7 : Below w.heap.size w w7 := (HB2.out.alloc (by omega) _).grown hg7 (by simp; omega) (fun b hb => HNE.out b hb)
            have ho8 := own_eq ho7 (show (textsTo es n f k).length + 1 = (textsTo es n f (k + 1)).length by rw [HT.out]; simp) (show strs (textsTo es n f k) ++ _ = strs (textsTo es n f (k + 1)) by rw [HT.out]; simp [strs])
            go_light
            exact ⟨⟨k + 1, a + 1, HA2, by go_num, by omega, by omega, ho8, HMO, Lib.hid hb7⟩, by simp [intOf]; omega⟩
        · have y3 : (ykind == 1) = false := beq_eq_false_iff_ne.2 hk
          have HT := Lib.hid (HTN2.out (fun h => hk h.1))
          clear hk HTY2 HTN2 HKC
          go_wp2
          go_light
          exact ⟨⟨k + 1, a + 1, HA2, by go_num, by omega, by omega, by rw [HT.out]; exact HO.out, HMO, HB⟩, by simp [intOf]; omega⟩
      · have y2 : decide (((textsTo es n f k).length : Int) < most) = false := decide_eq_false hlen
        have HS := Lib.hid (HFIN.out (HSTOP.out (fun h => hlen h.2)) HB.out)
        clear HTY HTN
        go_wp2
        exact bodyPost_ret (v := .tuple #[.slice A7 (textsTo es n f k).length c7, .int .i64 a, .int .i64 0]) (by simp [results, Try.results93, go_sem]) rfl HS.out
    · have y1 : decide ((a : Int) < r') = false := decide_eq_false ha
      have HS := Lib.hid (HFIN.out (HSTOP.out (fun h => ha h.1)) HB.out)
      clear HTY HTN
      go_wp2
      exact bodyPost_ret (v := .tuple #[.slice A7 (textsTo es n f k).length c7, .int .i64 a, .int .i64 0]) (by simp [results, Try.results93, go_sem]) rfl HS.out
end Go.Proofs.Ytpjjfnpdopdnkaa
