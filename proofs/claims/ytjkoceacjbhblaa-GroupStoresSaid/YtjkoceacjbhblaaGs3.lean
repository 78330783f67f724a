/- Parts of a proof, merged: GFind, GWh, RefCopyG, CoordE, GrpR, CoordI, ParI. No condition. -/
import Derived.Test.YtjkoceacjbhblaaGs2
import Derived.Test.YtjkoceacjbhblaaGs1
import Derived.Deep.RegionLaw
import Derived.Shelf.Slices.SearchI
import Derived.Shelf.Slices.Cells
import Derived.Shelf.Slices.Empties
import Derived.Shelf.Spec.SlicesInsertGrow
namespace Go.Proofs.Ytjkoceacjbhblaa
open Go.RowKit

def idxM (ms : List MemD) (s : ByteArray) : Option Nat := ms.findIdx? fun t => decide (t.name = s)
def ixM (ms : List MemD) (s : ByteArray) : Int := match idxM ms s with | none => -1 | some k => k
theorem idxM_some {ms : List MemD} {s : ByteArray} {k : Nat} (hk : k < ms.length) (h : ms[k].name = s) (hn : ∀ j (hj : j < ms.length), j < k → ms[j].name ≠ s) : idxM ms s = some k := by
  unfold idxM
  rw [List.findIdx?_eq_some_iff_getElem]
  exact ⟨hk, by simpa using h, fun j hj => by simpa using hn j (by omega) hj⟩
theorem idxM_none {ms : List MemD} {s : ByteArray} (hn : ∀ j (hj : j < ms.length), ms[j].name ≠ s) : idxM ms s = none := by
  unfold idxM
  rw [List.findIdx?_eq_none_iff]
  intro t ht
  obtain ⟨j, hj, rfl⟩ := List.mem_iff_getElem.1 ht
  simpa using hn j hj
theorem ixM_of_finds {ms : List MemD} {s : ByteArray} {r : Int} (h : (∃ k : Nat, k < ms.length ∧ r = k ∧ NamedAt ms s k ∧ ∀ j, j < k → ¬ NamedAt ms s j) ∨ (r = -1 ∧ ∀ j, j < ms.length → ¬ NamedAt ms s j)) : r = ixM ms s := by
  unfold ixM
  rcases h with ⟨k, hk, rfl, ⟨_, h1⟩, h2⟩ | ⟨rfl, h2⟩
  · rw [idxM_some hk h1 fun j hj hjk e => h2 j hjk ⟨hj, e⟩]
  · rw [idxM_none fun j hj e => h2 j hj ⟨hj, e⟩]
theorem ixM_some {ms : List MemD} {s : ByteArray} {i : Nat} (h : idxM ms s = some i) : i < ms.length ∧ ixM ms s = i :=
  ⟨(List.findIdx?_eq_some_iff_getElem.1 h).1, by simp [ixM, h]⟩
theorem OwnM.keep {w0 w w' : World} {base k : Nat} {v : Value} {ds : List MemD} {rows : List (MemD × Value)} (h : OwnM w0 w base v ds rows k) (hb : Below w.heap.size w w') : OwnM w0 w' base v ds rows k :=
  ⟨h.fst, own_keep h.own hb (fun b hb => (h.own.lt b hb).2), h.bel.trans (hb.mono h.bel.size), h.old, fun t ht => own_keep (h.parts t ht) hb (fun b hb => ((h.parts t ht).lt b hb).2), h.apart⟩
theorem OwnM.rebase {w0 w1 w : World} {base base' n : Nat} {v : Value} {ds : List MemD} {rows : List (MemD × Value)} (h : OwnM w1 w base v ds rows n) (hn : n = ds.length) (hb : base' ≤ base) (hw : Below w0.heap.size w0 w) : OwnM w0 w base' v ds rows n := by
  have hl : rows.length = ds.length := by rw [← h.fst]; simp
  refine ⟨h.fst, own_base h.own hb, hw, fun t ht => ?_, fun t ht => own_base (h.parts t ht) hb, h.apart⟩
  rw [List.drop_of_length_le (by omega)] at ht
  simp at ht
/-- a refusal: no group, an error number -/
def RefusesM (n : Int) (w : World) (e : Ending) (w' : World) : Prop := e = .returned (.tuple #[.agg #[.int .i64 0, .int .i64 0, .int .i64 0, .slice none 0 0, .slice none 0 0], .int .i64 0, .int .i64 n]) ∧ Below w.heap.size w w'
def FoundM (c : GroupD) (i : Int) (w : World) (e : Ending) (w' : World) : Prop :=
  ∃ mv ov rows, e = .returned (.tuple #[groupV c mv ov, .int .i64 i, .int .i64 0]) ∧ OwnM w w' w.heap.size mv c.mems rows c.mems.length ∧ w'.ownsRow w.heap.size 81 2 ov c.offs.length (c.offs.flatMap ocells) ∧ Below w.heap.size w w'

set_option maxRecDepth 100000 in
set_option maxHeartbeats 1000000 in
theorem group_at (x0 : ByteArray) (x1 : Int) (x2 : Value) (nm : ByteArray) (b : Nat) (w : World) (hlt : b < w.heap.size) (h0 : w.cell? ⟨b, 0, none⟩ = some (.string nm)) (_ho : x2.oneCell' = true) :
    Calls Try.prog 115 #[.agg #[.string x0, .int .i64 x1, x2], .pointer (some ⟨b, 0, none⟩)] w (Tells (x0 = nm) w) := by
  have hx : (x0.toList == nm.toList) = true ↔ x0 = nm := ⟨fun h => toList_inj (eq_of_beq h), fun h => by simp [h]⟩
  have HX := Lib.hid hx
  clear hx
  go_enter Try.func115, Try.ntmps115
  go_wp2
  go_ret
  exact ⟨_, rfl, HX.out, (Below.refl _ _).alloc (Nat.le_refl _) _⟩

theorem findm_idx (ms : List MemD) (A : Option Addr) (m : Nat) (s : ByteArray) (bs : Nat) (w : World) (hx : Mems w (.slice A ms.length m) ms) (hm : ms.length ≤ 6) (hlt : bs < w.heap.size) (h0 : w.cell? ⟨bs, 0, none⟩ = some (.string s)) :
    Calls Try.prog 111 #[.slice A ms.length m, .func (.func 115) #[] #[.pointer (some ⟨bs, 0, none⟩)]] w fun e w' => e = .returned (.int .i64 (ixM ms s)) ∧ Below w.heap.size w w' := by
  obtain ⟨rows, hr, hsl, hp⟩ := hx
  refine (IdxMem_any _ ms.length _ (NamedAt ms s) 115 #[.pointer (some ⟨bs, 0, none⟩)] w hsl (by omega) (enters_of Try.func115 (by kernel_rfl) rfl) ?_).mono ?_
  · intro j u0 u1 u2 hj g0 g1 g2 W hW
    have hjr : j < rows.length := by
      have : rows.length = ms.length := by rw [← hr]; simp
      omega
    have key : ∀ i, i < 3 → (rows.flatMap mcells)[j * 3 + i]? = (mcells rows[j])[i]? := fun i hi => cells_get mcells 3 (fun _ => rfl) rows j hjr i hi
    rw [key _ (by omega)] at g0 g1 g2
    simp only [mcells, List.getElem?_cons_zero, List.getElem?_cons_succ, Option.some.injEq] at g0 g1 g2
    subst g0 g1 g2
    have hone : rows[j].2.oneCell' = true := Sl.oneCell (hp _ (List.getElem_mem _)).1
    refine (group_at _ _ _ s bs W (Nat.lt_of_lt_of_le hlt hW.size) ((hW.cell (p := ⟨bs, 0, none⟩) hlt).trans h0) hone).mono fun e w' h => h.cong ?_
    subst hr
    unfold NamedAt
    simp [hjr]
  · rintro e w' ⟨r, rfl, hb, h⟩
    exact ⟨by rw [ixM_of_finds h], hb⟩

set_option maxRecDepth 100000 in
set_option maxHeartbeats 4000000 in
theorem memberOf_any (v : Value) (g : GroupD) (s : ByteArray) (w : World) (h : Gv w v g) :
    Calls Try.prog 83 #[v, .string s] w fun e w' => e = .returned (.int .i64 (ixM g.mems s)) ∧ Below w.heap.size w w' := by
  obtain ⟨mv, ov, rfl, hx, hy, hl1, hl2⟩ := id h
  obtain ⟨A, m, rfl, -⟩ := hx.at_
  obtain ⟨A', m', rfl, -⟩ := hy.at_
  have H := Lib.hid h
  have HX := Lib.hid hx
  have HY := Lib.hid hy
  clear h hx hy
  unfold groupV at *
  obtain ⟨ck, wt, gn, ms, os⟩ := g
  simp only at *
  obtain ⟨A1, m1, hv, hm, hcell⟩ := HX.out.at_
  injection hv with e1 e2 e3
  subst e1 e3
  have HC := Lib.hid hcell
  clear hcell
  go_enter Try.func83, Try.ntmps83
  go_wp2
  have hbl := (Below.refl w.heap.size w).alloc (Nat.le_refl _) (.cells #[.int .i64 ck, .int .i64 wt, .int .i64 gn, .slice A ms.length m, .slice A' os.length m'] 36)
  have bx := Blk.new w 36 #[.int .i64 ck, .int .i64 wt, .int .i64 gn, .slice A ms.length m, .slice A' os.length m']
  generalize w.alloc (.cells #[.int .i64 ck, .int .i64 wt, .int .i64 gn, .slice A ms.length m, .slice A' os.length m'] 36) = W0 at *
  have HBL := Lib.hid hbl
  have HB := Lib.hid bx
  clear hbl bx
  go_loopw [5] (fun i wr => ∃ k : Nat, k ≤ ms.length ∧ i = .int .i64 k ∧ Hid (∀ j (hj : j < ms.length), j < k → ms[j].name ≠ s) ∧ Hid (Below W0.heap.size W0 wr)) (fun i _ => ms.length - (intOf i).toNat)
  case atStart => exact ⟨0, by omega, rfl, fun j _ hj => by omega, Below.refl _ _⟩
  case round =>
    obtain ⟨k, hk, rfl, HJ, HW⟩ := hrel
    have hbw := below_then HBL.out HW.out
    have bw := HB.out.below HW.out HB.out.lt
    have g3 := bw.cell 3
    have gl := bw.lt
    by_cases hlt : k < ms.length
    · obtain ⟨b, off, rfl, hb, hcell⟩ := HC.out (by omega)
      obtain ⟨pv, x0, -⟩ := hcell k hlt
      have X0 := (hbw.cell (p := ⟨b, off + k * 3, none⟩) hb).trans x0
      have i0 : (0 : Int) ≤ (k : Int) := by omega
      have i1 : (k : Int) < (ms.length : Int) := by omega
      have HBW := Lib.hid hbw
      clear x0 hcell bw hbw
      by_cases hn : ms[k].name = s
      · have m1 : (ms[k].name.toList == s.toList) = true := by simp [hn]
        have hix : ixM ms s = k := (ixM_some (idxM_some hlt hn HJ.out)).2
        have HIX := Lib.hid hix
        clear hn hix
        go_wp2
        go_ret
        refine ⟨?_, HBW.out⟩
        rw [HIX.out]
        rfl
      · have m1 : (ms[k].name.toList == s.toList) = false := beq_eq_false_iff_ne.2 fun h => hn (toList_inj h)
        have hj : ∀ j (hj : j < ms.length), j < k + 1 → ms[j].name ≠ s := fun j hj hjk => by
          rcases Nat.lt_succ_iff_lt_or_eq.1 hjk with h' | rfl
          · exact HJ.out j hj h'
          · exact hn
        have HJ2 := Lib.hid hj
        clear hn hj
        go_wp2
        go_light
        exact ⟨⟨k + 1, by omega, by go_num, HJ2.out, HW.out⟩, by simp [intOf]; omega⟩
    · obtain rfl : k = ms.length := by omega
      have hix : ixM ms s = -1 := by simp [ixM, idxM_none fun j hj => HJ.out j hj hj]
      have HIX := Lib.hid hix
      clear hix
      go_wp2
      go_ret
      refine ⟨?_, hbw⟩
      rw [HIX.out]
      rfl

/-- the fault of a call that names a member: n is not 0 -/
def NameFaultM (g : GroupD) (s : ByteArray) (n : Int) : Prop := (¬ GroupOk g ∧ n = 12) ∨ (GroupOk g ∧ ¬ NameOk s ∧ n = 4)
theorem name_faultM_or (g : GroupD) (s : ByteArray) : (∃ n, NameFaultM g s n) ∨ (GroupOk g ∧ NameOk s) := by
  by_cases h1 : GroupOk g
  · by_cases h2 : NameOk s
    · exact Or.inr ⟨h1, h2⟩
    · exact Or.inl ⟨4, Or.inr ⟨h1, h2, rfl⟩⟩
  · exact Or.inl ⟨12, Or.inl ⟨h1, rfl⟩⟩
theorem NameFaultM.ne {g : GroupD} {s : ByteArray} {n : Int} (h : NameFaultM g s n) : n ≠ 0 := by
  rcases h with ⟨-, rfl⟩ | ⟨-, -, rfl⟩ <;> decide
set_option maxRecDepth 100000 in
set_option maxHeartbeats 4000000 in
theorem groupFault_state (v : Value) (g : GroupD) (s : ByteArray) (hk : ¬ GroupOk g) (w : World) (h : Gv w v g) (hnm : ∀ t ∈ g.mems, t.name.size ≤ 9223372036854775807) (_hs : s.size ≤ 9223372036854775807) :
    Calls Try.prog 89 #[v, .string s] w fun e w' => e = .returned (.int .i64 12) ∧ Below w.heap.size w w' := by
  obtain ⟨mv, ov, rfl, hx, hy, hl1, hl2⟩ := id h
  obtain ⟨A, m, rfl, -⟩ := hx.at_
  obtain ⟨A', m', rfl, -⟩ := hy.at_
  have H := Lib.hid h
  have HX := Lib.hid hx
  have HY := Lib.hid hy
  clear h hx hy
  unfold groupV at *
  obtain ⟨ck, wt, gn, ms, os⟩ := g
  simp only at *
  have HK := Lib.hid hk
  have HNM := Lib.hid hnm
  clear hk hnm
  go_enter Try.func89, Try.ntmps89
  go_wp2_with fail
  have hb1 : Below w.heap.size w (w.alloc (.cells #[.int .i64 ck, .int .i64 wt, .int .i64 gn, .slice A ms.length m, .slice A' os.length m'] 36)) := (Below.refl _ _).alloc (by first | omega | (simp; done) | (simp; omega)) _
  have hal1 : Below w.heap.size w (w.alloc (.cells #[.int .i64 ck, .int .i64 wt, .int .i64 gn, .slice A ms.length m, .slice A' os.length m'] 36)) := (Below.refl _ _).alloc (by first | omega | (simp; done) | (simp; omega)) _
  have b_bx1 : Blk (w.alloc (.cells #[.int .i64 ck, .int .i64 wt, .int .i64 gn, .slice A ms.length m, .slice A' os.length m'] 36)) (w.heap.size) 36 #[.int .i64 ck, .int .i64 wt, .int .i64 gn, .slice A ms.length m, .slice A' os.length m'] := Blk.new_ _ 36 #[.int .i64 ck, .int .i64 wt, .int .i64 gn, .slice A ms.length m, .slice A' os.length m'] (by first | rfl | (simp; done) | (simp; omega))
  have hz1 : w.heap.size + 1 ≤ (w.alloc (.cells #[.int .i64 ck, .int .i64 wt, .int .i64 gn, .slice A ms.length m, .slice A' os.length m'] 36)).heap.size := by first | omega | (simp; done) | (simp; omega)
  generalize w.alloc (.cells #[.int .i64 ck, .int .i64 wt, .int .i64 gn, .slice A ms.length m, .slice A' os.length m'] 36) = W1 at *
  have HB1 := Lib.hid hb1
  have B1_bx := Lib.hid b_bx1
  clear hb1 b_bx1
  refine (group_may_any _ ⟨ck, wt, gn, ms, os⟩ _ (H.out.below hal1) HNM.out).mono ?_
  rintro e W2 hT
  obtain ⟨rfl, hb⟩ := hT.no HK.out
  clear hT
  have hb2 : Below w.heap.size w W2 := below_then HB1.out hb
  have b_bx2 := B1_bx.out.below hb B1_bx.out.lt
  have hz2 := hb.size
  have HB2 := Lib.hid hb2
  have B2_bx := Lib.hid b_bx2
  clear hb2 b_bx2
  clear B1_bx HB1
  go_wp2
  go_ret
  exact ⟨rfl, HB2.out⟩
set_option maxRecDepth 100000 in
set_option maxHeartbeats 4000000 in
theorem groupFault_form (v : Value) (g : GroupD) (s : ByteArray) (hk : GroupOk g) (hn : ¬ NameOk s) (w : World) (h : Gv w v g) (hnm : ∀ t ∈ g.mems, t.name.size ≤ 9223372036854775807) (hs : s.size ≤ 9223372036854775807) :
    Calls Try.prog 89 #[v, .string s] w fun e w' => e = .returned (.int .i64 4) ∧ Below w.heap.size w w' := by
  obtain ⟨mv, ov, rfl, hx, hy, hl1, hl2⟩ := id h
  obtain ⟨A, m, rfl, -⟩ := hx.at_
  obtain ⟨A', m', rfl, -⟩ := hy.at_
  have H := Lib.hid h
  have HX := Lib.hid hx
  have HY := Lib.hid hy
  clear h hx hy
  unfold groupV at *
  obtain ⟨ck, wt, gn, ms, os⟩ := g
  simp only at *
  have HK := Lib.hid hk
  have HN := Lib.hid hn
  have HNM := Lib.hid hnm
  clear hk hn hnm
  go_enter Try.func89, Try.ntmps89
  go_wp2_with fail
  have hb1 : Below w.heap.size w (w.alloc (.cells #[.int .i64 ck, .int .i64 wt, .int .i64 gn, .slice A ms.length m, .slice A' os.length m'] 36)) := (Below.refl _ _).alloc (by first | omega | (simp; done) | (simp; omega)) _
  have hal1 : Below w.heap.size w (w.alloc (.cells #[.int .i64 ck, .int .i64 wt, .int .i64 gn, .slice A ms.length m, .slice A' os.length m'] 36)) := (Below.refl _ _).alloc (by first | omega | (simp; done) | (simp; omega)) _
  have b_bx1 : Blk (w.alloc (.cells #[.int .i64 ck, .int .i64 wt, .int .i64 gn, .slice A ms.length m, .slice A' os.length m'] 36)) (w.heap.size) 36 #[.int .i64 ck, .int .i64 wt, .int .i64 gn, .slice A ms.length m, .slice A' os.length m'] := Blk.new_ _ 36 #[.int .i64 ck, .int .i64 wt, .int .i64 gn, .slice A ms.length m, .slice A' os.length m'] (by first | rfl | (simp; done) | (simp; omega))
  have hz1 : w.heap.size + 1 ≤ (w.alloc (.cells #[.int .i64 ck, .int .i64 wt, .int .i64 gn, .slice A ms.length m, .slice A' os.length m'] 36)).heap.size := by first | omega | (simp; done) | (simp; omega)
  generalize w.alloc (.cells #[.int .i64 ck, .int .i64 wt, .int .i64 gn, .slice A ms.length m, .slice A' os.length m'] 36) = W1 at *
  have HB1 := Lib.hid hb1
  have B1_bx := Lib.hid b_bx1
  clear hb1 b_bx1
  refine (group_may_any _ ⟨ck, wt, gn, ms, os⟩ _ (H.out.below hal1) HNM.out).mono ?_
  rintro e W2 hT
  obtain ⟨rfl, hb⟩ := hT.yes HK.out
  clear hT
  have hb2 : Below w.heap.size w W2 := below_then HB1.out hb
  have b_bx2 := B1_bx.out.below hb B1_bx.out.lt
  have hz2 := hb.size
  have HB2 := Lib.hid hb2
  have B2_bx := Lib.hid b_bx2
  clear hb2 b_bx2
  clear B1_bx HB1
  go_wp2_with fail
  refine (nameMay_any s _ hs).mono ?_
  rintro e W3 hT
  obtain ⟨rfl, hb⟩ := hT.no HN.out
  clear hT
  have hb3 : Below w.heap.size w W3 := below_then HB2.out hb
  have b_bx3 := B2_bx.out.below hb B2_bx.out.lt
  have hz3 := hb.size
  have HB3 := Lib.hid hb3
  have B3_bx := Lib.hid b_bx3
  clear hb3 b_bx3
  clear B2_bx HB2
  go_wp2
  go_ret
  exact ⟨rfl, HB3.out⟩
set_option maxRecDepth 100000 in
set_option maxHeartbeats 4000000 in
theorem groupFault_good (v : Value) (g : GroupD) (s : ByteArray) (hk : GroupOk g) (hn : NameOk s) (w : World) (h : Gv w v g) (hnm : ∀ t ∈ g.mems, t.name.size ≤ 9223372036854775807) (hs : s.size ≤ 9223372036854775807) :
    Calls Try.prog 89 #[v, .string s] w fun e w' => e = .returned (.int .i64 0) ∧ Below w.heap.size w w' := by
  obtain ⟨mv, ov, rfl, hx, hy, hl1, hl2⟩ := id h
  obtain ⟨A, m, rfl, -⟩ := hx.at_
  obtain ⟨A', m', rfl, -⟩ := hy.at_
  have H := Lib.hid h
  have HX := Lib.hid hx
  have HY := Lib.hid hy
  clear h hx hy
  unfold groupV at *
  obtain ⟨ck, wt, gn, ms, os⟩ := g
  simp only at *
  have HK := Lib.hid hk
  have HN := Lib.hid hn
  have HNM := Lib.hid hnm
  clear hk hn hnm
  go_enter Try.func89, Try.ntmps89
  go_wp2_with fail
  have hb1 : Below w.heap.size w (w.alloc (.cells #[.int .i64 ck, .int .i64 wt, .int .i64 gn, .slice A ms.length m, .slice A' os.length m'] 36)) := (Below.refl _ _).alloc (by first | omega | (simp; done) | (simp; omega)) _
  have hal1 : Below w.heap.size w (w.alloc (.cells #[.int .i64 ck, .int .i64 wt, .int .i64 gn, .slice A ms.length m, .slice A' os.length m'] 36)) := (Below.refl _ _).alloc (by first | omega | (simp; done) | (simp; omega)) _
  have b_bx1 : Blk (w.alloc (.cells #[.int .i64 ck, .int .i64 wt, .int .i64 gn, .slice A ms.length m, .slice A' os.length m'] 36)) (w.heap.size) 36 #[.int .i64 ck, .int .i64 wt, .int .i64 gn, .slice A ms.length m, .slice A' os.length m'] := Blk.new_ _ 36 #[.int .i64 ck, .int .i64 wt, .int .i64 gn, .slice A ms.length m, .slice A' os.length m'] (by first | rfl | (simp; done) | (simp; omega))
  have hz1 : w.heap.size + 1 ≤ (w.alloc (.cells #[.int .i64 ck, .int .i64 wt, .int .i64 gn, .slice A ms.length m, .slice A' os.length m'] 36)).heap.size := by first | omega | (simp; done) | (simp; omega)
  generalize w.alloc (.cells #[.int .i64 ck, .int .i64 wt, .int .i64 gn, .slice A ms.length m, .slice A' os.length m'] 36) = W1 at *
  have HB1 := Lib.hid hb1
  have B1_bx := Lib.hid b_bx1
  clear hb1 b_bx1
  refine (group_may_any _ ⟨ck, wt, gn, ms, os⟩ _ (H.out.below hal1) HNM.out).mono ?_
  rintro e W2 hT
  obtain ⟨rfl, hb⟩ := hT.yes HK.out
  clear hT
  have hb2 : Below w.heap.size w W2 := below_then HB1.out hb
  have b_bx2 := B1_bx.out.below hb B1_bx.out.lt
  have hz2 := hb.size
  have HB2 := Lib.hid hb2
  have B2_bx := Lib.hid b_bx2
  clear hb2 b_bx2
  clear B1_bx HB1
  go_wp2_with fail
  refine (nameMay_any s _ hs).mono ?_
  rintro e W3 hT
  obtain ⟨rfl, hb⟩ := hT.yes HN.out
  clear hT
  have hb3 : Below w.heap.size w W3 := below_then HB2.out hb
  have b_bx3 := B2_bx.out.below hb B2_bx.out.lt
  have hz3 := hb.size
  have HB3 := Lib.hid hb3
  have B3_bx := Lib.hid b_bx3
  clear hb3 b_bx3
  clear B2_bx HB2
  go_wp2
  go_ret
  exact ⟨rfl, HB3.out⟩
theorem groupFault_any (v : Value) (g : GroupD) (s : ByteArray) (n : Int) (w : World) (h : Gv w v g) (hnm : ∀ t ∈ g.mems, t.name.size ≤ 9223372036854775807) (hs : s.size ≤ 9223372036854775807) (hf : NameFaultM g s n ∨ (GroupOk g ∧ NameOk s ∧ n = 0)) :
    Calls Try.prog 89 #[v, .string s] w fun e w' => e = .returned (.int .i64 n) ∧ Below w.heap.size w w' := by
  rcases hf with (⟨h1, rfl⟩ | ⟨h1, h2, rfl⟩) | ⟨h1, h2, rfl⟩
  · exact groupFault_state v g s h1 w h hnm hs
  · exact groupFault_form v g s h1 h2 w h hnm hs
  · exact groupFault_good v g s h1 h2 w h hnm hs
set_option maxRecDepth 100000 in
set_option maxHeartbeats 4000000 in
theorem gfind_state (v : Value) (g : GroupD) (s : ByteArray) (hk : ¬ GroupOk g) (w : World) (h : Gv w v g) : Calls Try.prog 87 #[v, .string s] w (RefusesM 12 w) := by
  obtain ⟨mv, ov, rfl, hx, hy, hl1, hl2⟩ := id h
  obtain ⟨A, m, rfl, -⟩ := hx.at_
  obtain ⟨A', m', rfl, -⟩ := hy.at_
  have H := Lib.hid h
  have HX := Lib.hid hx
  have HY := Lib.hid hy
  clear h hx hy
  unfold groupV at *
  obtain ⟨ck, wt, gn, ms, os⟩ := g
  simp only at *
  have HK := Lib.hid hk
  clear hk
  go_enter Try.func87, Try.ntmps87
  go_wp2_with fail
  have hb1 : Below w.heap.size w (((w.alloc (.cells #[.int .i64 ck, .int .i64 wt, .int .i64 gn, .slice A ms.length m, .slice A' os.length m'] 36)).alloc (.cells #[.string s] 9)).alloc (.cells #[.int .i64 0, .int .i64 0, .int .i64 0, .slice none 0 0, .slice none 0 0] 36)) := (((Below.refl _ _).alloc (by first | omega | (simp; done) | (simp; omega)) _).alloc (by first | omega | (simp; done) | (simp; omega)) _).alloc (by first | omega | (simp; done) | (simp; omega)) _
  have hal1 : Below w.heap.size w (((w.alloc (.cells #[.int .i64 ck, .int .i64 wt, .int .i64 gn, .slice A ms.length m, .slice A' os.length m'] 36)).alloc (.cells #[.string s] 9)).alloc (.cells #[.int .i64 0, .int .i64 0, .int .i64 0, .slice none 0 0, .slice none 0 0] 36)) := (((Below.refl _ _).alloc (by first | omega | (simp; done) | (simp; omega)) _).alloc (by first | omega | (simp; done) | (simp; omega)) _).alloc (by first | omega | (simp; done) | (simp; omega)) _
  have b_bx1 : Blk (((w.alloc (.cells #[.int .i64 ck, .int .i64 wt, .int .i64 gn, .slice A ms.length m, .slice A' os.length m'] 36)).alloc (.cells #[.string s] 9)).alloc (.cells #[.int .i64 0, .int .i64 0, .int .i64 0, .slice none 0 0, .slice none 0 0] 36)) (w.heap.size) 36 #[.int .i64 ck, .int .i64 wt, .int .i64 gn, .slice A ms.length m, .slice A' os.length m'] := ((Blk.new_ _ 36 #[.int .i64 ck, .int .i64 wt, .int .i64 gn, .slice A ms.length m, .slice A' os.length m'] (by first | rfl | (simp; done) | (simp; omega))).alloc _).alloc _
  have b_bs1 : Blk (((w.alloc (.cells #[.int .i64 ck, .int .i64 wt, .int .i64 gn, .slice A ms.length m, .slice A' os.length m'] 36)).alloc (.cells #[.string s] 9)).alloc (.cells #[.int .i64 0, .int .i64 0, .int .i64 0, .slice none 0 0, .slice none 0 0] 36)) (w.heap.size + 1) 9 #[.string s] := (Blk.new_ _ 9 #[.string s] (by first | rfl | (simp; done) | (simp; omega))).alloc _
  have b_bz1 : Blk (((w.alloc (.cells #[.int .i64 ck, .int .i64 wt, .int .i64 gn, .slice A ms.length m, .slice A' os.length m'] 36)).alloc (.cells #[.string s] 9)).alloc (.cells #[.int .i64 0, .int .i64 0, .int .i64 0, .slice none 0 0, .slice none 0 0] 36)) (w.heap.size + 1 + 1) 36 #[.int .i64 0, .int .i64 0, .int .i64 0, .slice none 0 0, .slice none 0 0] := Blk.new_ _ 36 #[.int .i64 0, .int .i64 0, .int .i64 0, .slice none 0 0, .slice none 0 0] (by first | rfl | (simp; done) | (simp; omega))
  have hz1 : w.heap.size + 3 ≤ (((w.alloc (.cells #[.int .i64 ck, .int .i64 wt, .int .i64 gn, .slice A ms.length m, .slice A' os.length m'] 36)).alloc (.cells #[.string s] 9)).alloc (.cells #[.int .i64 0, .int .i64 0, .int .i64 0, .slice none 0 0, .slice none 0 0] 36)).heap.size := by first | omega | (simp; done) | (simp; omega)
  generalize ((w.alloc (.cells #[.int .i64 ck, .int .i64 wt, .int .i64 gn, .slice A ms.length m, .slice A' os.length m'] 36)).alloc (.cells #[.string s] 9)).alloc (.cells #[.int .i64 0, .int .i64 0, .int .i64 0, .slice none 0 0, .slice none 0 0] 36) = W1 at *
  have HB1 := Lib.hid hb1
  have B1_bx := Lib.hid b_bx1
  have B1_bs := Lib.hid b_bs1
  have B1_bz := Lib.hid b_bz1
  clear hb1 b_bx1 b_bs1 b_bz1
  refine (group_check_any _ ⟨ck, wt, gn, ms, os⟩ _ (H.out.below hal1)).mono ?_
  rintro e W2 hA
  obtain ⟨rfl, hb⟩ := hA.no HK.out
  clear hA
  have hb2 : Below w.heap.size w W2 := below_then HB1.out hb
  have b_bx2 := B1_bx.out.below hb B1_bx.out.lt
  have b_bs2 := B1_bs.out.below hb B1_bs.out.lt
  have b_bz2 := B1_bz.out.below hb B1_bz.out.lt
  have hz2 := hb.size
  have HB2 := Lib.hid hb2
  have B2_bx := Lib.hid b_bx2
  have B2_bs := Lib.hid b_bs2
  have B2_bz := Lib.hid b_bz2
  clear hb2 b_bx2 b_bs2 b_bz2
  clear B1_bx B1_bs B1_bz HB1
  have c_bz0 := B2_bz.out.cell 0
  have f_bz0 := B2_bz.out.frozen 0
  have c_bz1 := B2_bz.out.cell 1
  have f_bz1 := B2_bz.out.frozen 1
  have c_bz2 := B2_bz.out.cell 2
  have f_bz2 := B2_bz.out.frozen 2
  have c_bz3 := B2_bz.out.cell 3
  have f_bz3 := B2_bz.out.frozen 3
  have c_bz4 := B2_bz.out.cell 4
  have f_bz4 := B2_bz.out.frozen 4
  have l_bz := B2_bz.out.lt
  go_wp2_with fail
  clear c_bz0 f_bz0 c_bz1 f_bz1 c_bz2 f_bz2 c_bz3 f_bz3 c_bz4 f_bz4 l_bz
  have hszF := HB2.out.size
  have hbF : Below w.heap.size w (((((W2.setCell ⟨w.heap.size + 1 + 1, 0, none⟩ (.int .i64 0)).setCell ⟨w.heap.size + 1 + 1, 1, none⟩ (.int .i64 0)).setCell ⟨w.heap.size + 1 + 1, 2, none⟩ (.int .i64 0)).setCell ⟨w.heap.size + 1 + 1, 3, none⟩ (.slice none 0 0)).setCell ⟨w.heap.size + 1 + 1, 4, none⟩ (.slice none 0 0)) := (((((HB2.out).setCell (by show w.heap.size ≤ w.heap.size + 1 + 1; omega) _).setCell (by show w.heap.size ≤ w.heap.size + 1 + 1; omega) _).setCell (by show w.heap.size ≤ w.heap.size + 1 + 1; omega) _).setCell (by show w.heap.size ≤ w.heap.size + 1 + 1; omega) _).setCell (by show w.heap.size ≤ w.heap.size + 1 + 1; omega) _
  have b_bxF : Blk (((((W2.setCell ⟨w.heap.size + 1 + 1, 0, none⟩ (.int .i64 0)).setCell ⟨w.heap.size + 1 + 1, 1, none⟩ (.int .i64 0)).setCell ⟨w.heap.size + 1 + 1, 2, none⟩ (.int .i64 0)).setCell ⟨w.heap.size + 1 + 1, 3, none⟩ (.slice none 0 0)).setCell ⟨w.heap.size + 1 + 1, 4, none⟩ (.slice none 0 0)) (w.heap.size) 36 #[.int .i64 ck, .int .i64 wt, .int .i64 gn, .slice A ms.length m, .slice A' os.length m'] := (((((B2_bx.out).far (p := ⟨w.heap.size + 1 + 1, 0, none⟩) (by show w.heap.size ≠ w.heap.size + 1 + 1; omega) _).far (p := ⟨w.heap.size + 1 + 1, 1, none⟩) (by show w.heap.size ≠ w.heap.size + 1 + 1; omega) _).far (p := ⟨w.heap.size + 1 + 1, 2, none⟩) (by show w.heap.size ≠ w.heap.size + 1 + 1; omega) _).far (p := ⟨w.heap.size + 1 + 1, 3, none⟩) (by show w.heap.size ≠ w.heap.size + 1 + 1; omega) _).far (p := ⟨w.heap.size + 1 + 1, 4, none⟩) (by show w.heap.size ≠ w.heap.size + 1 + 1; omega) _
  have b_bsF : Blk (((((W2.setCell ⟨w.heap.size + 1 + 1, 0, none⟩ (.int .i64 0)).setCell ⟨w.heap.size + 1 + 1, 1, none⟩ (.int .i64 0)).setCell ⟨w.heap.size + 1 + 1, 2, none⟩ (.int .i64 0)).setCell ⟨w.heap.size + 1 + 1, 3, none⟩ (.slice none 0 0)).setCell ⟨w.heap.size + 1 + 1, 4, none⟩ (.slice none 0 0)) (w.heap.size + 1) 9 #[.string s] := (((((B2_bs.out).far (p := ⟨w.heap.size + 1 + 1, 0, none⟩) (by show w.heap.size + 1 ≠ w.heap.size + 1 + 1; omega) _).far (p := ⟨w.heap.size + 1 + 1, 1, none⟩) (by show w.heap.size + 1 ≠ w.heap.size + 1 + 1; omega) _).far (p := ⟨w.heap.size + 1 + 1, 2, none⟩) (by show w.heap.size + 1 ≠ w.heap.size + 1 + 1; omega) _).far (p := ⟨w.heap.size + 1 + 1, 3, none⟩) (by show w.heap.size + 1 ≠ w.heap.size + 1 + 1; omega) _).far (p := ⟨w.heap.size + 1 + 1, 4, none⟩) (by show w.heap.size + 1 ≠ w.heap.size + 1 + 1; omega) _
  have b_bzF : Blk (((((W2.setCell ⟨w.heap.size + 1 + 1, 0, none⟩ (.int .i64 0)).setCell ⟨w.heap.size + 1 + 1, 1, none⟩ (.int .i64 0)).setCell ⟨w.heap.size + 1 + 1, 2, none⟩ (.int .i64 0)).setCell ⟨w.heap.size + 1 + 1, 3, none⟩ (.slice none 0 0)).setCell ⟨w.heap.size + 1 + 1, 4, none⟩ (.slice none 0 0)) (w.heap.size + 1 + 1) 36 #[.int .i64 0, .int .i64 0, .int .i64 0, .slice none 0 0, .slice none 0 0] := (((((B2_bz.out).set_ 0 _).set_ 1 _).set_ 2 _).set_ 3 _).set_ 4 _
  have y0 := b_bzF.cell 0
  have y1 := b_bzF.cell 1
  have y2 := b_bzF.cell 2
  have y3 := b_bzF.cell 3
  have y4 := b_bzF.cell 4
  exact bodyPost_ret (v := .tuple #[.agg #[.int .i64 0, .int .i64 0, .int .i64 0, .slice none 0 0, .slice none 0 0], .int .i64 0, .int .i64 12]) (by simp [results, Try.results87, go_sem, y0, y1, y2, y3, y4]) rfl (⟨rfl, hbF⟩)
set_option maxRecDepth 100000 in
set_option maxHeartbeats 4000000 in
theorem gfind_form (v : Value) (g : GroupD) (s : ByteArray) (hk : GroupOk g) (hn : ¬ NameOk s) (w : World) (h : Gv w v g) : Calls Try.prog 87 #[v, .string s] w (RefusesM 4 w) := by
  obtain ⟨mv, ov, rfl, hx, hy, hl1, hl2⟩ := id h
  obtain ⟨A, m, rfl, -⟩ := hx.at_
  obtain ⟨A', m', rfl, -⟩ := hy.at_
  have H := Lib.hid h
  have HX := Lib.hid hx
  have HY := Lib.hid hy
  clear h hx hy
  unfold groupV at *
  obtain ⟨ck, wt, gn, ms, os⟩ := g
  simp only at *
  have HK := Lib.hid hk
  have HN := Lib.hid hn
  clear hk hn
  go_enter Try.func87, Try.ntmps87
  go_wp2_with fail
  have hb1 : Below w.heap.size w (((w.alloc (.cells #[.int .i64 ck, .int .i64 wt, .int .i64 gn, .slice A ms.length m, .slice A' os.length m'] 36)).alloc (.cells #[.string s] 9)).alloc (.cells #[.int .i64 0, .int .i64 0, .int .i64 0, .slice none 0 0, .slice none 0 0] 36)) := (((Below.refl _ _).alloc (by first | omega | (simp; done) | (simp; omega)) _).alloc (by first | omega | (simp; done) | (simp; omega)) _).alloc (by first | omega | (simp; done) | (simp; omega)) _
  have hal1 : Below w.heap.size w (((w.alloc (.cells #[.int .i64 ck, .int .i64 wt, .int .i64 gn, .slice A ms.length m, .slice A' os.length m'] 36)).alloc (.cells #[.string s] 9)).alloc (.cells #[.int .i64 0, .int .i64 0, .int .i64 0, .slice none 0 0, .slice none 0 0] 36)) := (((Below.refl _ _).alloc (by first | omega | (simp; done) | (simp; omega)) _).alloc (by first | omega | (simp; done) | (simp; omega)) _).alloc (by first | omega | (simp; done) | (simp; omega)) _
  have b_bx1 : Blk (((w.alloc (.cells #[.int .i64 ck, .int .i64 wt, .int .i64 gn, .slice A ms.length m, .slice A' os.length m'] 36)).alloc (.cells #[.string s] 9)).alloc (.cells #[.int .i64 0, .int .i64 0, .int .i64 0, .slice none 0 0, .slice none 0 0] 36)) (w.heap.size) 36 #[.int .i64 ck, .int .i64 wt, .int .i64 gn, .slice A ms.length m, .slice A' os.length m'] := ((Blk.new_ _ 36 #[.int .i64 ck, .int .i64 wt, .int .i64 gn, .slice A ms.length m, .slice A' os.length m'] (by first | rfl | (simp; done) | (simp; omega))).alloc _).alloc _
  have b_bs1 : Blk (((w.alloc (.cells #[.int .i64 ck, .int .i64 wt, .int .i64 gn, .slice A ms.length m, .slice A' os.length m'] 36)).alloc (.cells #[.string s] 9)).alloc (.cells #[.int .i64 0, .int .i64 0, .int .i64 0, .slice none 0 0, .slice none 0 0] 36)) (w.heap.size + 1) 9 #[.string s] := (Blk.new_ _ 9 #[.string s] (by first | rfl | (simp; done) | (simp; omega))).alloc _
  have b_bz1 : Blk (((w.alloc (.cells #[.int .i64 ck, .int .i64 wt, .int .i64 gn, .slice A ms.length m, .slice A' os.length m'] 36)).alloc (.cells #[.string s] 9)).alloc (.cells #[.int .i64 0, .int .i64 0, .int .i64 0, .slice none 0 0, .slice none 0 0] 36)) (w.heap.size + 1 + 1) 36 #[.int .i64 0, .int .i64 0, .int .i64 0, .slice none 0 0, .slice none 0 0] := Blk.new_ _ 36 #[.int .i64 0, .int .i64 0, .int .i64 0, .slice none 0 0, .slice none 0 0] (by first | rfl | (simp; done) | (simp; omega))
  have hz1 : w.heap.size + 3 ≤ (((w.alloc (.cells #[.int .i64 ck, .int .i64 wt, .int .i64 gn, .slice A ms.length m, .slice A' os.length m'] 36)).alloc (.cells #[.string s] 9)).alloc (.cells #[.int .i64 0, .int .i64 0, .int .i64 0, .slice none 0 0, .slice none 0 0] 36)).heap.size := by first | omega | (simp; done) | (simp; omega)
  generalize ((w.alloc (.cells #[.int .i64 ck, .int .i64 wt, .int .i64 gn, .slice A ms.length m, .slice A' os.length m'] 36)).alloc (.cells #[.string s] 9)).alloc (.cells #[.int .i64 0, .int .i64 0, .int .i64 0, .slice none 0 0, .slice none 0 0] 36) = W1 at *
  have HB1 := Lib.hid hb1
  have B1_bx := Lib.hid b_bx1
  have B1_bs := Lib.hid b_bs1
  have B1_bz := Lib.hid b_bz1
  clear hb1 b_bx1 b_bs1 b_bz1
  refine (group_check_any _ ⟨ck, wt, gn, ms, os⟩ _ (H.out.below hal1)).mono ?_
  rintro e W2 hA
  obtain ⟨rfl, hb⟩ := hA.yes HK.out
  clear hA
  have hb2 : Below w.heap.size w W2 := below_then HB1.out hb
  have b_bx2 := B1_bx.out.below hb B1_bx.out.lt
  have b_bs2 := B1_bs.out.below hb B1_bs.out.lt
  have b_bz2 := B1_bz.out.below hb B1_bz.out.lt
  have hz2 := hb.size
  have HB2 := Lib.hid hb2
  have B2_bx := Lib.hid b_bx2
  have B2_bs := Lib.hid b_bs2
  have B2_bz := Lib.hid b_bz2
  clear hb2 b_bx2 b_bs2 b_bz2
  clear B1_bx B1_bs B1_bz HB1
  have c_bs0 := B2_bs.out.cell 0
  have l_bs := B2_bs.out.lt
  go_wp2_with fail
  clear c_bs0 l_bs
  refine (group_name_any s _).mono ?_
  rintro e W3 hT
  obtain ⟨rfl, hb⟩ := hT.no HN.out
  clear hT
  have hb3 : Below w.heap.size w W3 := below_then HB2.out hb
  have b_bx3 := B2_bx.out.below hb B2_bx.out.lt
  have b_bs3 := B2_bs.out.below hb B2_bs.out.lt
  have b_bz3 := B2_bz.out.below hb B2_bz.out.lt
  have hz3 := hb.size
  have HB3 := Lib.hid hb3
  have B3_bx := Lib.hid b_bx3
  have B3_bs := Lib.hid b_bs3
  have B3_bz := Lib.hid b_bz3
  clear hb3 b_bx3 b_bs3 b_bz3
  clear B2_bx B2_bs B2_bz HB2
  have c_bz0 := B3_bz.out.cell 0
  have f_bz0 := B3_bz.out.frozen 0
  have c_bz1 := B3_bz.out.cell 1
  have f_bz1 := B3_bz.out.frozen 1
  have c_bz2 := B3_bz.out.cell 2
  have f_bz2 := B3_bz.out.frozen 2
  have c_bz3 := B3_bz.out.cell 3
  have f_bz3 := B3_bz.out.frozen 3
  have c_bz4 := B3_bz.out.cell 4
  have f_bz4 := B3_bz.out.frozen 4
  have l_bz := B3_bz.out.lt
  go_wp2_with fail
  clear c_bz0 f_bz0 c_bz1 f_bz1 c_bz2 f_bz2 c_bz3 f_bz3 c_bz4 f_bz4 l_bz
  have hszF := HB3.out.size
  have hbF : Below w.heap.size w (((((W3.setCell ⟨w.heap.size + 1 + 1, 0, none⟩ (.int .i64 0)).setCell ⟨w.heap.size + 1 + 1, 1, none⟩ (.int .i64 0)).setCell ⟨w.heap.size + 1 + 1, 2, none⟩ (.int .i64 0)).setCell ⟨w.heap.size + 1 + 1, 3, none⟩ (.slice none 0 0)).setCell ⟨w.heap.size + 1 + 1, 4, none⟩ (.slice none 0 0)) := (((((HB3.out).setCell (by show w.heap.size ≤ w.heap.size + 1 + 1; omega) _).setCell (by show w.heap.size ≤ w.heap.size + 1 + 1; omega) _).setCell (by show w.heap.size ≤ w.heap.size + 1 + 1; omega) _).setCell (by show w.heap.size ≤ w.heap.size + 1 + 1; omega) _).setCell (by show w.heap.size ≤ w.heap.size + 1 + 1; omega) _
  have b_bxF : Blk (((((W3.setCell ⟨w.heap.size + 1 + 1, 0, none⟩ (.int .i64 0)).setCell ⟨w.heap.size + 1 + 1, 1, none⟩ (.int .i64 0)).setCell ⟨w.heap.size + 1 + 1, 2, none⟩ (.int .i64 0)).setCell ⟨w.heap.size + 1 + 1, 3, none⟩ (.slice none 0 0)).setCell ⟨w.heap.size + 1 + 1, 4, none⟩ (.slice none 0 0)) (w.heap.size) 36 #[.int .i64 ck, .int .i64 wt, .int .i64 gn, .slice A ms.length m, .slice A' os.length m'] := (((((B3_bx.out).far (p := ⟨w.heap.size + 1 + 1, 0, none⟩) (by show w.heap.size ≠ w.heap.size + 1 + 1; omega) _).far (p := ⟨w.heap.size + 1 + 1, 1, none⟩) (by show w.heap.size ≠ w.heap.size + 1 + 1; omega) _).far (p := ⟨w.heap.size + 1 + 1, 2, none⟩) (by show w.heap.size ≠ w.heap.size + 1 + 1; omega) _).far (p := ⟨w.heap.size + 1 + 1, 3, none⟩) (by show w.heap.size ≠ w.heap.size + 1 + 1; omega) _).far (p := ⟨w.heap.size + 1 + 1, 4, none⟩) (by show w.heap.size ≠ w.heap.size + 1 + 1; omega) _
  have b_bsF : Blk (((((W3.setCell ⟨w.heap.size + 1 + 1, 0, none⟩ (.int .i64 0)).setCell ⟨w.heap.size + 1 + 1, 1, none⟩ (.int .i64 0)).setCell ⟨w.heap.size + 1 + 1, 2, none⟩ (.int .i64 0)).setCell ⟨w.heap.size + 1 + 1, 3, none⟩ (.slice none 0 0)).setCell ⟨w.heap.size + 1 + 1, 4, none⟩ (.slice none 0 0)) (w.heap.size + 1) 9 #[.string s] := (((((B3_bs.out).far (p := ⟨w.heap.size + 1 + 1, 0, none⟩) (by show w.heap.size + 1 ≠ w.heap.size + 1 + 1; omega) _).far (p := ⟨w.heap.size + 1 + 1, 1, none⟩) (by show w.heap.size + 1 ≠ w.heap.size + 1 + 1; omega) _).far (p := ⟨w.heap.size + 1 + 1, 2, none⟩) (by show w.heap.size + 1 ≠ w.heap.size + 1 + 1; omega) _).far (p := ⟨w.heap.size + 1 + 1, 3, none⟩) (by show w.heap.size + 1 ≠ w.heap.size + 1 + 1; omega) _).far (p := ⟨w.heap.size + 1 + 1, 4, none⟩) (by show w.heap.size + 1 ≠ w.heap.size + 1 + 1; omega) _
  have b_bzF : Blk (((((W3.setCell ⟨w.heap.size + 1 + 1, 0, none⟩ (.int .i64 0)).setCell ⟨w.heap.size + 1 + 1, 1, none⟩ (.int .i64 0)).setCell ⟨w.heap.size + 1 + 1, 2, none⟩ (.int .i64 0)).setCell ⟨w.heap.size + 1 + 1, 3, none⟩ (.slice none 0 0)).setCell ⟨w.heap.size + 1 + 1, 4, none⟩ (.slice none 0 0)) (w.heap.size + 1 + 1) 36 #[.int .i64 0, .int .i64 0, .int .i64 0, .slice none 0 0, .slice none 0 0] := (((((B3_bz.out).set_ 0 _).set_ 1 _).set_ 2 _).set_ 3 _).set_ 4 _
  have y0 := b_bzF.cell 0
  have y1 := b_bzF.cell 1
  have y2 := b_bzF.cell 2
  have y3 := b_bzF.cell 3
  have y4 := b_bzF.cell 4
  exact bodyPost_ret (v := .tuple #[.agg #[.int .i64 0, .int .i64 0, .int .i64 0, .slice none 0 0, .slice none 0 0], .int .i64 0, .int .i64 4]) (by simp [results, Try.results87, go_sem, y0, y1, y2, y3, y4]) rfl (⟨rfl, hbF⟩)
theorem gfind_fault (v : Value) (g : GroupD) (s : ByteArray) (n : Int) (w : World) (h : Gv w v g) (hf : NameFaultM g s n) : Calls Try.prog 87 #[v, .string s] w (RefusesM n w) := by
  rcases hf with ⟨h1, rfl⟩ | ⟨h1, h2, rfl⟩
  · exact gfind_state v g s h1 w h
  · exact gfind_form v g s h1 h2 w h
set_option maxRecDepth 100000 in
set_option maxHeartbeats 4000000 in
theorem gfind_good (v : Value) (g : GroupD) (s : ByteArray) (w : World) (h : Gv w v g) (hk : GroupOk g) (hn : NameOk s) : Calls Try.prog 87 #[v, .string s] w (FoundM g (ixM g.mems s) w) := by
  obtain ⟨⟨k1, k2, k3⟩, -⟩ := hk.bounds
  have k4 := hk.many
  obtain ⟨mv, ov, rfl, hx, hy, hl1, hl2⟩ := id h
  obtain ⟨A, m, rfl, -⟩ := hx.at_
  obtain ⟨A', m', rfl, -⟩ := hy.at_
  have H := Lib.hid h
  have HX := Lib.hid hx
  have HY := Lib.hid hy
  clear h hx hy
  unfold groupV at *
  obtain ⟨ck, wt, gn, ms, os⟩ := g
  simp only at *
  have HK := Lib.hid hk
  have HN := Lib.hid hn
  have K2 := Lib.hid k2
  clear hk hn k2
  go_enter Try.func87, Try.ntmps87
  go_wp2_with fail
  have hb1 : Below w.heap.size w (((w.alloc (.cells #[.int .i64 ck, .int .i64 wt, .int .i64 gn, .slice A ms.length m, .slice A' os.length m'] 36)).alloc (.cells #[.string s] 9)).alloc (.cells #[.int .i64 0, .int .i64 0, .int .i64 0, .slice none 0 0, .slice none 0 0] 36)) := (((Below.refl _ _).alloc (by first | omega | (simp; done) | (simp; omega)) _).alloc (by first | omega | (simp; done) | (simp; omega)) _).alloc (by first | omega | (simp; done) | (simp; omega)) _
  have hal1 : Below w.heap.size w (((w.alloc (.cells #[.int .i64 ck, .int .i64 wt, .int .i64 gn, .slice A ms.length m, .slice A' os.length m'] 36)).alloc (.cells #[.string s] 9)).alloc (.cells #[.int .i64 0, .int .i64 0, .int .i64 0, .slice none 0 0, .slice none 0 0] 36)) := (((Below.refl _ _).alloc (by first | omega | (simp; done) | (simp; omega)) _).alloc (by first | omega | (simp; done) | (simp; omega)) _).alloc (by first | omega | (simp; done) | (simp; omega)) _
  have b_bx1 : Blk (((w.alloc (.cells #[.int .i64 ck, .int .i64 wt, .int .i64 gn, .slice A ms.length m, .slice A' os.length m'] 36)).alloc (.cells #[.string s] 9)).alloc (.cells #[.int .i64 0, .int .i64 0, .int .i64 0, .slice none 0 0, .slice none 0 0] 36)) (w.heap.size) 36 #[.int .i64 ck, .int .i64 wt, .int .i64 gn, .slice A ms.length m, .slice A' os.length m'] := ((Blk.new_ _ 36 #[.int .i64 ck, .int .i64 wt, .int .i64 gn, .slice A ms.length m, .slice A' os.length m'] (by first | rfl | (simp; done) | (simp; omega))).alloc _).alloc _
  have b_bs1 : Blk (((w.alloc (.cells #[.int .i64 ck, .int .i64 wt, .int .i64 gn, .slice A ms.length m, .slice A' os.length m'] 36)).alloc (.cells #[.string s] 9)).alloc (.cells #[.int .i64 0, .int .i64 0, .int .i64 0, .slice none 0 0, .slice none 0 0] 36)) (w.heap.size + 1) 9 #[.string s] := (Blk.new_ _ 9 #[.string s] (by first | rfl | (simp; done) | (simp; omega))).alloc _
  have b_bz1 : Blk (((w.alloc (.cells #[.int .i64 ck, .int .i64 wt, .int .i64 gn, .slice A ms.length m, .slice A' os.length m'] 36)).alloc (.cells #[.string s] 9)).alloc (.cells #[.int .i64 0, .int .i64 0, .int .i64 0, .slice none 0 0, .slice none 0 0] 36)) (w.heap.size + 1 + 1) 36 #[.int .i64 0, .int .i64 0, .int .i64 0, .slice none 0 0, .slice none 0 0] := Blk.new_ _ 36 #[.int .i64 0, .int .i64 0, .int .i64 0, .slice none 0 0, .slice none 0 0] (by first | rfl | (simp; done) | (simp; omega))
  have hz1 : w.heap.size + 3 ≤ (((w.alloc (.cells #[.int .i64 ck, .int .i64 wt, .int .i64 gn, .slice A ms.length m, .slice A' os.length m'] 36)).alloc (.cells #[.string s] 9)).alloc (.cells #[.int .i64 0, .int .i64 0, .int .i64 0, .slice none 0 0, .slice none 0 0] 36)).heap.size := by first | omega | (simp; done) | (simp; omega)
  generalize ((w.alloc (.cells #[.int .i64 ck, .int .i64 wt, .int .i64 gn, .slice A ms.length m, .slice A' os.length m'] 36)).alloc (.cells #[.string s] 9)).alloc (.cells #[.int .i64 0, .int .i64 0, .int .i64 0, .slice none 0 0, .slice none 0 0] 36) = W1 at *
  have HB1 := Lib.hid hb1
  have B1_bx := Lib.hid b_bx1
  have B1_bs := Lib.hid b_bs1
  have B1_bz := Lib.hid b_bz1
  clear hb1 b_bx1 b_bs1 b_bz1
  refine (group_check_any _ ⟨ck, wt, gn, ms, os⟩ _ (H.out.below hal1)).mono ?_
  rintro e W2 hA
  obtain ⟨rfl, hb⟩ := hA.yes HK.out
  clear hA
  have hb2 : Below w.heap.size w W2 := below_then HB1.out hb
  have b_bx2 := B1_bx.out.below hb B1_bx.out.lt
  have b_bs2 := B1_bs.out.below hb B1_bs.out.lt
  have b_bz2 := B1_bz.out.below hb B1_bz.out.lt
  have hz2 := hb.size
  have HB2 := Lib.hid hb2
  have B2_bx := Lib.hid b_bx2
  have B2_bs := Lib.hid b_bs2
  have B2_bz := Lib.hid b_bz2
  clear hb2 b_bx2 b_bs2 b_bz2
  clear B1_bx B1_bs B1_bz HB1
  have c_bs0 := B2_bs.out.cell 0
  have l_bs := B2_bs.out.lt
  go_wp2_with fail
  clear c_bs0 l_bs
  refine (group_name_any s _).mono ?_
  rintro e W3 hT
  obtain ⟨rfl, hb⟩ := hT.yes HN.out
  clear hT
  have hb3 : Below w.heap.size w W3 := below_then HB2.out hb
  have b_bx3 := B2_bx.out.below hb B2_bx.out.lt
  have b_bs3 := B2_bs.out.below hb B2_bs.out.lt
  have b_bz3 := B2_bz.out.below hb B2_bz.out.lt
  have hz3 := hb.size
  have HB3 := Lib.hid hb3
  have B3_bx := Lib.hid b_bx3
  have B3_bs := Lib.hid b_bs3
  have B3_bz := Lib.hid b_bz3
  clear hb3 b_bx3 b_bs3 b_bz3
  clear B2_bx B2_bs B2_bz HB2
  have c_bx0 := B3_bx.out.cell 0
  have c_bx1 := B3_bx.out.cell 1
  have c_bx2 := B3_bx.out.cell 2
  have c_bx3 := B3_bx.out.cell 3
  have c_bx4 := B3_bx.out.cell 4
  have l_bx := B3_bx.out.lt
  have c_bs0 := B3_bs.out.cell 0
  have l_bs := B3_bs.out.lt
  have hbd : Below W3.heap.size W3 W3.drew := (Below.refl _ _).drew
  go_wp2_with fail
  go_region_with (first | (go_at_call 30; refine (groupCopy_any _ ⟨ck, wt, gn, ms, os⟩ _ (H.out.below (below_then HB3.out hbd)) k1 K2.out k3).mono ?_; rintro e w5 ⟨mv5, ov5, rows, rfl, hown, hoff, hb5⟩; obtain ⟨A5, c5, rfl, hc5⟩ := (Sl.of_own hown.own).form; obtain ⟨B5, d5, rfl, hd5⟩ := (Sl.of_own hoff).form; have hA := below_then hbd hb5; have bx5 := B3_bx.out.below hA B3_bx.out.lt; have bs5 := B3_bs.out.below hA B3_bs.out.lt; have bz5 := B3_bz.out.below hA B3_bz.out.lt; have q3 := bx5.cell 3; have ql := bx5.lt; have r0 := bs5.cell 0; have rl := bs5.lt; unfold groupV) | (go_at_call 111; refine (findm_idx ms A m s (w.heap.size + 1) w5 (HX.out.below (below_then HB3.out hA)) k4 rl r0).mono ?_; rintro e w6 ⟨rfl, hb6⟩; have bz6 := bz5.below hb6 bz5.lt; have z0 : w6.cell? ⟨w.heap.size + 1 + 1, 0, none⟩ = some (.int .i64 0) := bz6.cell 0; have z1 : w6.cell? ⟨w.heap.size + 1 + 1, 1, none⟩ = some (.int .i64 0) := bz6.cell 1; have z2 : w6.cell? ⟨w.heap.size + 1 + 1, 2, none⟩ = some (.int .i64 0) := bz6.cell 2; have z3 : w6.cell? ⟨w.heap.size + 1 + 1, 3, none⟩ = some (.slice none 0 0) := bz6.cell 3; have z4 : w6.cell? ⟨w.heap.size + 1 + 1, 4, none⟩ = some (.slice none 0 0) := bz6.cell 4; have zf0 : w6.frozen? ⟨w.heap.size + 1 + 1, 0, none⟩ = false := bz6.frozen 0; have zf1 : w6.frozen? ⟨w.heap.size + 1 + 1, 1, none⟩ = false := bz6.frozen 1; have zf2 : w6.frozen? ⟨w.heap.size + 1 + 1, 2, none⟩ = false := bz6.frozen 2; have zf3 : w6.frozen? ⟨w.heap.size + 1 + 1, 3, none⟩ = false := bz6.frozen 3; have zf4 : w6.frozen? ⟨w.heap.size + 1 + 1, 4, none⟩ = false := bz6.frozen 4; have zl : w.heap.size + 1 + 1 < w6.heap.size := bz6.lt))
  all_goals go_wp2
  all_goals
    have hw6 := below_then (below_then HB3.out hA) hb6
    have hsz : w.heap.size + 1 + 1 < W3.drew.heap.size := Nat.lt_of_lt_of_le B3_bz.out.lt hbd.size
    have hsw : w.heap.size ≤ w.heap.size + 1 + 1 := by omega
    have hun := (hown.rebase (w0 := w) rfl (Nat.le_refl _) (below_then HB3.out hA)).keep hb6
    have hof := own_keep hoff hb6 (fun b hb => (hoff.lt b hb).2)
    have HO5 := (((((hun).under (a := ⟨w.heap.size + 1 + 1, 0, none⟩) ⟨hsz, hsw⟩ (.int .i64 ck)).under (a := ⟨w.heap.size + 1 + 1, 1, none⟩) ⟨hsz, hsw⟩ (.int .i64 wt)).under (a := ⟨w.heap.size + 1 + 1, 2, none⟩) ⟨hsz, hsw⟩ (.int .i64 gn)).under (a := ⟨w.heap.size + 1 + 1, 3, none⟩) ⟨hsz, hsw⟩ (.slice A5 ms.length c5)).under (a := ⟨w.heap.size + 1 + 1, 4, none⟩) ⟨hsz, hsw⟩ (.slice B5 os.length d5)
    have HF5 := ownsRow_setCell_below (ownsRow_setCell_below (ownsRow_setCell_below (ownsRow_setCell_below (ownsRow_setCell_below (hof) (a := ⟨w.heap.size + 1 + 1, 0, none⟩) hsz (.int .i64 ck)) (a := ⟨w.heap.size + 1 + 1, 1, none⟩) hsz (.int .i64 wt)) (a := ⟨w.heap.size + 1 + 1, 2, none⟩) hsz (.int .i64 gn)) (a := ⟨w.heap.size + 1 + 1, 3, none⟩) hsz (.slice A5 ms.length c5)) (a := ⟨w.heap.size + 1 + 1, 4, none⟩) hsz (.slice B5 os.length d5)
    have HB5 := (((((bz6).set_ 0 (.int .i64 ck)).set_ 1 (.int .i64 wt)).set_ 2 (.int .i64 gn)).set_ 3 (.slice A5 ms.length c5)).set_ 4 (.slice B5 os.length d5)
    have HL5 : Below w.heap.size w (((((w6.setCell ⟨w.heap.size + 1 + 1, 0, none⟩ (.int .i64 ck)).setCell ⟨w.heap.size + 1 + 1, 1, none⟩ (.int .i64 wt)).setCell ⟨w.heap.size + 1 + 1, 2, none⟩ (.int .i64 gn)).setCell ⟨w.heap.size + 1 + 1, 3, none⟩ (.slice A5 ms.length c5)).setCell ⟨w.heap.size + 1 + 1, 4, none⟩ (.slice B5 os.length d5)) := (((((hw6).setCell hsw _).setCell hsw _).setCell hsw _).setCell hsw _).setCell hsw _
    generalize (((((w6.setCell ⟨w.heap.size + 1 + 1, 0, none⟩ (.int .i64 ck)).setCell ⟨w.heap.size + 1 + 1, 1, none⟩ (.int .i64 wt)).setCell ⟨w.heap.size + 1 + 1, 2, none⟩ (.int .i64 gn)).setCell ⟨w.heap.size + 1 + 1, 3, none⟩ (.slice A5 ms.length c5)).setCell ⟨w.heap.size + 1 + 1, 4, none⟩ (.slice B5 os.length d5)) = W5 at *
    simp only [List.setIfInBounds_toArray, List.set_cons_succ, List.set_cons_zero] at HB5
    have y0 := HB5.cell 0
    have y1 := HB5.cell 1
    have y2 := HB5.cell 2
    have y3 := HB5.cell 3
    have y4 := HB5.cell 4
    have hbase : w.heap.size ≤ W3.drew.heap.size := by have := hbd.size; have := HB3.out.size; omega
    exact bodyPost_ret (v := .tuple #[.agg #[.int .i64 ck, .int .i64 wt, .int .i64 gn, .slice A5 ms.length c5, .slice B5 os.length d5], .int .i64 (ixM ms s), .int .i64 0]) (by simp [results, Try.results87, go_sem, y0, y1, y2, y3, y4]) rfl ⟨.slice A5 ms.length c5, .slice B5 os.length d5, rows, rfl, HO5.rebase rfl hbase HL5, own_base HF5 hbase, HL5⟩

end Go.Proofs.Ytjkoceacjbhblaa
namespace Go.Proofs.Ytjkoceacjbhblaa
open Go.RowKit

set_option maxRecDepth 100000 in
set_option maxHeartbeats 1000000 in
theorem index_int (v : Value) (l : List Int) (x : Int) (w : World) (h : Is w v l) (hl : l.length ≤ 9223372036854775807) :
    Calls Try.prog 116 #[v, .int .i64 x] w (Finds (fun j => ∃ h : j < l.length, l[j] = x) l.length w) := by
  obtain ⟨A, c, rfl, hc, hcell⟩ := h.at_
  have HC := Lib.hid hcell
  clear h hcell
  go_enter Try.func116, Try.ntmps116
  go_wp2
  go_loopw [5, 8] (fun _ i wr => ∃ k : Nat, k ≤ l.length ∧ i = .int .i64 k ∧ Hid (∀ j, j < k → ¬ ∃ h : j < l.length, l[j] = x) ∧ ∃ n, wr = w.drewN n) (fun _ i _ => l.length - (intOf i).toNat)
  case atStart => exact ⟨0, by omega, rfl, fun j hj => by omega, 0, rfl⟩
  case round =>
    obtain ⟨k, hk, rfl, HN, n, rfl⟩ := hrel
    have HBE := Lib.hid (below_drewN_ w n)
    by_cases hlt : k < l.length
    · obtain ⟨b, off, rfl, hb, hcell⟩ := HC.out (by omega)
      have X := hcell k hlt
      have i0 : (0 : Int) ≤ (k : Int) := by omega
      have i1 : (k : Int) < (l.length : Int) := by omega
      clear hcell
      by_cases hx : x = l[k]
      · have d : (x == l[k]) = true := by simp [hx]
        have HX := Lib.hid hx
        clear hx
        go_wp2
        go_ret
        exact ⟨_, rfl, HBE.out, Or.inl ⟨k, hlt, rfl, ⟨hlt, HX.out.symm⟩, HN.out⟩⟩
      · have d : (x == l[k]) = false := beq_eq_false_iff_ne.2 hx
        have hn : ∀ j, j < k + 1 → ¬ ∃ h : j < l.length, l[j] = x := fun j hj => by
          rcases Nat.lt_succ_iff_lt_or_eq.1 hj with h' | rfl
          · exact HN.out j h'
          · exact fun ⟨_, e⟩ => hx e.symm
        have HN2 := Lib.hid hn
        clear hx hn
        go_wp2
        go_light
        exact ⟨⟨k + 1, by omega, by go_num, HN2.out, _, rfl⟩, by simp [intOf]; omega⟩
    · obtain rfl : k = l.length := by omega
      go_wp2
      go_ret
      exact ⟨_, rfl, HBE.out, Or.inr ⟨rfl, HN.out⟩⟩
set_option maxRecDepth 100000 in
set_option maxHeartbeats 1000000 in
theorem contains_int (v : Value) (l : List Int) (x : Int) (w : World) (h : Is w v l) (hl : l.length ≤ 9223372036854775807) :
    Calls Try.prog 88 #[v, .int .i64 x] w (Tells (x ∈ l) w) := by
  obtain ⟨A, c, rfl, -⟩ := h.at_
  have H := Lib.hid h
  clear h
  go_enter Try.func88, Try.ntmps88
  go_wp2_with fail
  refine (index_int _ l x w H.out hl).mono ?_
  rintro e w1 ⟨r, rfl, hb, hr⟩
  have HB := Lib.hid hb
  clear hb
  rcases hr with ⟨k, hk, rfl, ⟨_, hx⟩, -⟩ | ⟨rfl, hn⟩
  · have i0 : (0 : Int) ≤ (k : Int) := by omega
    have hm : x ∈ l := by rw [← hx]; exact List.getElem_mem _
    have HM := Lib.hid hm
    have d : decide ((0 : Int) ≤ (k : Int)) = true := decide_eq_true i0
    clear hx hm
    go_wp2
    go_ret
    exact Tells.mk_yes HM.out HB.out
  · have hm : x ∉ l := fun h => by
      obtain ⟨j, hj, he⟩ := List.mem_iff_getElem.1 h
      exact hn j hj ⟨hj, he⟩
    have HM := Lib.hid hm
    clear hn hm
    go_wp2
    go_ret
    exact Tells.mk_no HM.out HB.out

set_option maxRecDepth 100000 in
set_option maxHeartbeats 1000000 in
theorem ownsPart_any (nm : ByteArray) (hd : Int) (v : Value) (l : List Int) (x : Int) (w : World) (h : Is w v l) (hl : l.length ≤ 9223372036854775807) :
    Calls Try.prog 90 #[.agg #[.string nm, .int .i64 hd, v], .int .i64 x] w (Tells (x ∈ l) w) := by
  obtain ⟨A, c, rfl, hc, hcell⟩ := h.at_
  have HC := Lib.hid hcell
  clear h hcell
  go_enter Try.func90, Try.ntmps90
  go_wp2
  have hbl := (Below.refl w.heap.size w).alloc (Nat.le_refl _) (.cells #[.string nm, .int .i64 hd, .slice A l.length c] 79)
  have bx := Blk.new w 79 #[.string nm, .int .i64 hd, .slice A l.length c]
  generalize w.alloc (.cells #[.string nm, .int .i64 hd, .slice A l.length c] 79) = W0 at *
  have HBL := Lib.hid hbl
  have b2 := bx.cell 2
  have bl := bx.lt
  clear hbl bx
  go_loopw [5] (fun i wr => ∃ k : Nat, k ≤ l.length ∧ i = .int .i64 k ∧ Hid (∀ j (hj : j < l.length), j < k → l[j] ≠ x) ∧ ∃ n, wr = W0.drewN n) (fun i _ => l.length - (intOf i).toNat)
  case atStart => exact ⟨0, by omega, rfl, fun j _ hj => by omega, 0, rfl⟩
  case round =>
    obtain ⟨k, hk, rfl, HN, n, rfl⟩ := hrel
    have HBE := Lib.hid (below_then HBL.out (below_drewN_ W0 n))
    by_cases hlt : k < l.length
    · obtain ⟨b, off, rfl, hb, hcell⟩ := HC.out (by omega)
      have X := (HBL.out.cell (p := ⟨b, off + k, none⟩) hb).trans (hcell k hlt)
      have i0 : (0 : Int) ≤ (k : Int) := by omega
      have i1 : (k : Int) < (l.length : Int) := by omega
      clear hcell
      by_cases hx : l[k] = x
      · have d : (l[k] == x) = true := by simp [hx]
        have hm : x ∈ l := by rw [← hx]; exact List.getElem_mem _
        have HM := Lib.hid hm
        clear hx hm
        go_wp2
        go_ret
        exact Tells.mk_yes HM.out HBE.out
      · have d : (l[k] == x) = false := beq_eq_false_iff_ne.2 hx
        have hn : ∀ j (hj : j < l.length), j < k + 1 → l[j] ≠ x := fun j hj hjk => by
          rcases Nat.lt_succ_iff_lt_or_eq.1 hjk with h' | rfl
          · exact HN.out j hj h'
          · exact hx
        have HN2 := Lib.hid hn
        clear hx hn
        go_wp2
        go_light
        exact ⟨⟨k + 1, by omega, by go_num, HN2.out, _, rfl⟩, by simp [intOf]; omega⟩
    · obtain rfl : k = l.length := by omega
      have hm : x ∉ l := fun h => by
        obtain ⟨j, hj, he⟩ := List.mem_iff_getElem.1 h
        exact HN.out j hj hj he
      have HM := Lib.hid hm
      clear hm
      go_wp2
      go_ret
      exact Tells.mk_no HM.out HBE.out

def whereOf (os : List OffD) (p : Int) : Int := match os.find? fun o => decide (o.part = p) with | some o => o.at_ | none => 0
def WhereTo (g : GroupD) (s : ByteArray) (p : Int) (r0 r1 : Int) : Prop :=
  (NameFaultM g s r1 ∧ r0 = 0) ∨ (GroupOk g ∧ NameOk s ∧ ((idxM g.mems s = none ∧ r0 = 0 ∧ r1 = 5) ∨ ∃ i, idxM g.mems s = some i ∧ ∃ h : i < g.mems.length, (p ∉ g.mems[i].parts ∧ r0 = 0 ∧ r1 = 12) ∨ (p ∈ g.mems[i].parts ∧ r0 = whereOf g.offs p ∧ r1 = 0)))
/-- two plain values -/
def Two (x y : Int) (w : World) (e : Ending) (w' : World) : Prop := e = .returned (.tuple #[.int .i64 x, .int .i64 y]) ∧ Below w.heap.size w w'
theorem OwnM.mems {w0 w : World} {base n : Nat} {v : Value} {ds : List MemD} {rows : List (MemD × Value)} (h : OwnM w0 w base v ds rows n) (hn : n = ds.length) (hp : ∀ t ∈ ds, t.parts.length ≤ 9223372036854775807) : Mems w v ds := by
  have hl : rows.length = ds.length := by rw [← h.fst]; simp
  refine ⟨rows, h.fst, Sl.of_own h.own, fun t ht => ?_⟩
  have ht' : t ∈ rows.take n := by rw [hn, ← hl, List.take_length]; exact ht
  exact ⟨Sl.of_own (h.parts t ht'), hp _ (by rw [← h.fst]; exact List.mem_map_of_mem ht)⟩
/-- offsets of the call's own -/
def OwnO (w : World) (base : Nat) (v : Value) (os : List OffD) : Prop := w.ownsRow base 81 2 v os.length (os.flatMap ocells)
theorem OwnO.keep {w w' : World} {base : Nat} {v : Value} {os : List OffD} (h : OwnO w base v os) (hb : Below w.heap.size w w') : OwnO w' base v os := own_keep h hb (fun b hb => (h.lt b hb).2)
theorem OwnO.under {w : World} {base : Nat} {v : Value} {os : List OffD} (h : OwnO w base v os) {a : Addr} (ha : a.block < base) (u : Value) : OwnO (w.setCell a u) base v os := ownsRow_setCell_below h ha u
theorem OwnO.offs {w : World} {base : Nat} {v : Value} {os : List OffD} (h : OwnO w base v os) : Offs w v os := Sl.of_own h
end Go.Proofs.Ytjkoceacjbhblaa
namespace Go.Proofs.Ytjkoceacjbhblaa
open Go.RowKit

theorem OwnM.push {w0 w w6 w7 : World} {base k : Nat} {tv v5 v7 : Value} {ds : List MemD} {rows : List (MemD × Value)} {t : MemD} {o : Obj} (h : OwnM w0 w base tv ds rows k) (hk : k = ds.length) (hb0 : w0.heap.size ≤ base) (hb : base ≤ w.heap.size)
    (h6 : Below w.heap.size w w6) (ho5 : w6.ownsRow w.heap.size 3 1 v5 t.parts.length (t.parts.map (Value.int .i64))) (ho7 : w7.ownsRow base 79 3 v7 (k + 1) (rows.flatMap mcells ++ mcells (t, v5))) (hg : (w6.alloc o).grownBy w7 tv.ownBlock) :
    OwnM w0 w7 base v7 (ds ++ [t]) (rows ++ [(t, v5)]) (k + 1) := by
  subst hk
  have hl : rows.length = ds.length := by rw [← h.fst]; simp
  have e1 : rows.take ds.length = rows := by rw [← hl, List.take_length]
  have e2 : (rows ++ [(t, v5)]).take (ds.length + 1) = rows ++ [(t, v5)] := by rw [List.take_of_length_le]; simp [hl]
  have hown6 := (own_keep h.own h6 (fun b hb => (h.own.lt b hb).2)).alloc o
  refine ⟨by simp [h.fst], own_eq ho7 (by simp) (by simp), ?_, ?_, ?_, ?_⟩
  · exact ((h.bel.trans (h6.mono h.bel.size)).alloc (Nat.le_trans h.bel.size h6.size) o).grown hg (by have := h.bel.size; have := h6.size; simp; omega) fun b hb => by have := (h.own.lt b hb).1; omega
  · intro t' ht'
    rw [List.drop_of_length_le (by simp [hl])] at ht'
    simp at ht'
  · intro t' ht'
    rw [e2] at ht'
    rcases List.mem_append.1 ht' with ht' | ht'
    · have hp := h.parts t' (by rw [e1]; exact ht')
      have hp6 := (own_keep hp h6 (fun b hb => (hp.lt b hb).2)).alloc o
      exact hp6.kept hg (own_apart hp6 hown6 (by decide))
    · simp only [List.mem_singleton] at ht'
      subst ht'
      exact own_base ((ho5.alloc o).kept hg (own_apart (ho5.alloc o) hown6 (by decide))) hb
  · rw [e2]
    have ha := h.apart
    rw [e1] at ha
    refine List.pairwise_append.2 ⟨ha, by simp, fun a ha' b hb' => ?_⟩
    simp only [List.mem_singleton] at hb'
    subst hb'
    rcases hab : a.2.ownBlock with _ | x
    · exact Or.inl rfl
    · refine Or.inr fun e => ?_
      have h1 := (h.parts a (by rw [e1]; exact ha')).lt x hab
      have h2 := ho5.lt x e.symm
      omega

theorem OwnM.grow {w0 w w7 : World} {base n k : Nat} {v ov : Value} {ds : List MemD} {rows : List (MemD × Value)} {xs : List Value} {o : Obj} (h : OwnM w0 w base v ds rows n) (hn : n = ds.length) (hb0 : w0.heap.size ≤ base) (_hb : base ≤ w.heap.size) (ho : w.ownsRow base 81 2 ov k xs) (hg : (w.alloc o).grownBy w7 ov.ownBlock) : OwnM w0 w7 base v ds rows n := by
  have hl : rows.length = ds.length := by rw [← h.fst]; simp
  have ho' := ho.alloc o
  refine ⟨h.fst, (h.own.alloc o).kept hg (own_apart (h.own.alloc o) ho' (by decide)), ?_, fun t ht => ?_, fun t ht => ?_, h.apart⟩
  · exact ((h.bel).alloc h.bel.size o).grown hg (by have := h.bel.size; simp; omega) fun b hb => by have := (ho.lt b hb).1; omega
  · rw [List.drop_of_length_le (by omega)] at ht
    simp at ht
  · exact ((h.parts t ht).alloc o).kept hg (own_apart ((h.parts t ht).alloc o) ho' (by decide))
theorem step_append_sl {w : World} {ops : Array Oper} {o : Oper} {a : Act} {K : Act → World → Prop} {Q : Exit → Act → World → Prop} {E : Prop} (hgd : o.guard = none) (s x : Operand) (t : TypeId)
    (ho : o.op = .call { callee := .builtin .append, args := #[s, x], argTypes := #[t, t] })
    (base : Nat) (e : TypeId) (i : TypeInfo) (z : Value) (size bytes : Nat) (ht : Try.prog.underlying t = some (.slice e)) (hi : Try.prog.info? e = some i) (hz : i.zero = some z)
    (hsize : i.size = size) (hby : i.bytes = bytes) (hzs : z.cells.size = size) (hsz : 0 < size)
    (v : Value) (n : Nat) (xs : List Value) (hs : a.eval s = v) (hown : w.ownsRow base e size v n xs)
    (u : Value) (m : Nat) (news : List Value) (hx : a.eval x = u) (hr : Sl w size u m news) (h1 : ∀ x ∈ news, x.oneCell' = true)
    (h63 : n + m ≤ maxLen) (hbytes : (n + m) * bytes ≤ 140737488355328) (hbase : base ≤ w.heap.size)
    (h : ∀ v' w', w'.ownsRow base e size v' (n + m) (xs ++ news) → w.grownBy w' v.ownBlock → (v'.ownBlock = v.ownBlock ∨ v'.ownBlock = some w.heap.size) → K (a.put o.dst v') w') :
    if Region.wanted o (yielded ops a.tmps) = true then Oper.wp Try.prog o a w K Q else E := by
  have hw : Region.wanted o (yielded ops a.tmps) = true := by simp [Region.wanted, hgd]
  rw [if_pos hw]
  exact wp_append_sl w s x t ho base e i z size bytes ht hi hz hsize hby hzs hsz v n xs hs hown u m news hx hr h1 h63 hbytes hbase h
/-- the loops of tailraceref.GroupCopy -/
def RgLp (w : World) (bc zc : Array Value) (ck wt gn : Int) (ms : List MemD) (i : Value) (wr : World) : Prop :=
  ∃ (k : Nat) (rows : List (MemD × Value)) (tv : Value), k ≤ ms.length ∧ i = .int .i64 k ∧ OwnM w wr (w.heap.size + 3) tv (ms.take k) rows k ∧ Blk wr w.heap.size 36 bc ∧ Blk wr (w.heap.size + 1) 36 zc ∧ Blk wr (w.heap.size + 2) 36 #[.int .i64 ck, .int .i64 wt, .int .i64 gn, tv, .slice none 0 0] ∧ Below w.heap.size w wr
def RhLp (w : World) (bc zc : Array Value) (ck wt gn : Int) (ms : List MemD) (rows : List (MemD × Value)) (tv : Value) (os : List OffD) (i : Value) (wr : World) : Prop :=
  ∃ (k : Nat) (ov : Value), k ≤ os.length ∧ i = .int .i64 k ∧ OwnM w wr (w.heap.size + 3) tv ms rows ms.length ∧ wr.ownsRow (w.heap.size + 3) 81 2 ov k ((os.take k).flatMap ocells) ∧ Blk wr w.heap.size 36 bc ∧ Blk wr (w.heap.size + 1) 36 zc ∧ Blk wr (w.heap.size + 2) 36 #[.int .i64 ck, .int .i64 wt, .int .i64 gn, tv, ov] ∧ Below w.heap.size w wr ∧ w.heap.size + 3 ≤ wr.heap.size
theorem mem_info : (Try.prog.info? 79).map (fun i => (i.zero, i.size, i.bytes)) = some (some (.agg #[.string .empty, .int .i64 0, .slice none 0 0]), 3, 48) := by kernel_rfl
theorem off_info : (Try.prog.info? 81).map (fun i => (i.zero, i.size, i.bytes)) = some (some (.agg #[.int .i64 0, .int .i64 0]), 2, 16) := by kernel_rfl

set_option maxRecDepth 100000 in
set_option maxHeartbeats 8000000 in
theorem refGroupCopy_any (v : Value) (c : GroupD) (w : World) (h : Gv w v c) (hb : c.mems.length * 48 ≤ 140737488355328) (hp : ∀ t ∈ c.mems, t.parts.length * 8 ≤ 140737488355328) (hob : c.offs.length * 16 ≤ 140737488355328) :
    Calls Try.prog 40 #[v] w (CopyPostM w c) := by
  obtain ⟨i0, hi0, hz0, hz1, hz2'⟩ := info_parts mem_info
  obtain ⟨j0, hj0, hy0, hy1, hy2'⟩ := info_parts off_info
  obtain ⟨mv, ov, rfl, hx, hy, hl1, hl2⟩ := h
  obtain ⟨A, c1, rfl, hc1, hx1⟩ := hx.at_
  obtain ⟨A', c2, rfl, hc2, hy1'⟩ := hy.at_
  unfold groupV
  obtain ⟨ck, wt, gn, ms, os⟩ := c
  simp only at *
  have HX := Lib.hid hx1
  have HY := Lib.hid hy1'
  have HP := Lib.hid hp
  clear hx1 hy1' hx hy hp
  go_enter Try.func40, Try.ntmps40
  go_wp2
  have bx := ((Blk.new w 36 #[.int .i64 ck, .int .i64 wt, .int .i64 gn, .slice A ms.length c1, .slice A' os.length c2]).alloc (.cells #[.int .i64 0, .int .i64 0, .int .i64 0, .slice none 0 0, .slice none 0 0] 36)).alloc (.cells #[.int .i64 ck, .int .i64 wt, .int .i64 gn, .slice none 0 0, .slice none 0 0] 36)
  have bz := (Blk.new (w.alloc (.cells #[.int .i64 ck, .int .i64 wt, .int .i64 gn, .slice A ms.length c1, .slice A' os.length c2] 36)) 36 #[.int .i64 0, .int .i64 0, .int .i64 0, .slice none 0 0, .slice none 0 0]).alloc (.cells #[.int .i64 ck, .int .i64 wt, .int .i64 gn, .slice none 0 0, .slice none 0 0] 36)
  have bn := Blk.new ((w.alloc (.cells #[.int .i64 ck, .int .i64 wt, .int .i64 gn, .slice A ms.length c1, .slice A' os.length c2] 36)).alloc (.cells #[.int .i64 0, .int .i64 0, .int .i64 0, .slice none 0 0, .slice none 0 0] 36)) 36 #[.int .i64 ck, .int .i64 wt, .int .i64 gn, .slice none 0 0, .slice none 0 0]
  have hbl : Below w.heap.size w (((w.alloc (.cells #[.int .i64 ck, .int .i64 wt, .int .i64 gn, .slice A ms.length c1, .slice A' os.length c2] 36)).alloc (.cells #[.int .i64 0, .int .i64 0, .int .i64 0, .slice none 0 0, .slice none 0 0] 36)).alloc (.cells #[.int .i64 ck, .int .i64 wt, .int .i64 gn, .slice none 0 0, .slice none 0 0] 36)) := ((((Below.refl _ _).alloc (Nat.le_refl _) _).alloc (by simp) _).alloc (by simp; omega) _)
  simp only [World.size_alloc] at bz bn
  generalize ((w.alloc (.cells #[.int .i64 ck, .int .i64 wt, .int .i64 gn, .slice A ms.length c1, .slice A' os.length c2] 36)).alloc (.cells #[.int .i64 0, .int .i64 0, .int .i64 0, .slice none 0 0, .slice none 0 0] 36)).alloc (.cells #[.int .i64 ck, .int .i64 wt, .int .i64 gn, .slice none 0 0, .slice none 0 0] 36) = W0 at *
  have HBX := Lib.hid bx
  have HBZ := Lib.hid bz
  have HBN := Lib.hid bn
  have HBL := Lib.hid hbl
  clear bx bz bn hbl
  go_loopw [4] (fun i wr => RgLp w #[.int .i64 ck, .int .i64 wt, .int .i64 gn, .slice A ms.length c1, .slice A' os.length c2] #[.int .i64 0, .int .i64 0, .int .i64 0, .slice none 0 0, .slice none 0 0] ck wt gn ms i wr) (fun i _ => ms.length - (intOf i).toNat)
  case atStart => exact ⟨0, [], .slice none 0 0, by omega, rfl, ⟨by simp, by simpa using World.ownsRow_nil _ _ _ _, HBL.out, by simp, by simp, by simp⟩, HBX.out, HBZ.out, HBN.out, HBL.out⟩
  case round =>
    obtain ⟨k, rows, tv, hk, rfl, ho, hbx, hbz, hbn, hbw⟩ := hrel
    have g3 := hbx.cell 3
    have HBW := Lib.hid hbw
    have HO := Lib.hid ho
    clear hbw ho
    by_cases hlt : k < ms.length
    · obtain ⟨b, off, rfl, hbb, hcell⟩ := HX.out (by omega)
      obtain ⟨pv, x0, x1, x2, xi, xl⟩ := hcell k hlt
      have X0 := (HBW.out.cell (p := ⟨b, off + k * 3, none⟩) hbb).trans x0
      have X1 := (HBW.out.cell (p := ⟨b, off + k * 3 + 1, none⟩) hbb).trans x1
      have X2 := (HBW.out.cell (p := ⟨b, off + k * 3 + 2, none⟩) hbb).trans x2
      have i0' : (0 : Int) ≤ (k : Int) := by omega
      have i1' : (k : Int) < (ms.length : Int) := by omega
      obtain ⟨A3, c3, rfl, hc3, -⟩ := xi.at_
      have XI := Lib.hid (xi.below HBW.out)
      have hble : b < wr.heap.size := by have := HBW.out.size; omega
      have hsz : w.heap.size + 3 ≤ wr.heap.size := by have := hbn.lt; omega
      clear x0 x1 x2 hcell xi
      go_wp2_with fail
      have bt := Blk.new wr 79 #[.string ms[k].name, .int .i64 ms[k].heard, .slice A3 ms[k].parts.length c3]
      have hal := (Below.refl wr.heap.size wr).alloc (Nat.le_refl _) (.cells #[.string ms[k].name, .int .i64 ms[k].heard, .slice A3 ms[k].parts.length c3] 79)
      have hz2 : (wr.alloc (.cells #[.string ms[k].name, .int .i64 ms[k].heard, .slice A3 ms[k].parts.length c3] 79)).heap.size = wr.heap.size + 1 := by simp
      generalize wr.alloc (.cells #[.string ms[k].name, .int .i64 ms[k].heard, .slice A3 ms[k].parts.length c3] 79) = w2 at *
      refine (intsCopy_any _ ms[k].parts w2 (XI.out.below hal) (HP.out _ (List.getElem_mem _))).mono ?_
      rintro e w5 ⟨v5, rfl, ho5, hb5⟩
      obtain ⟨A5, c5, rfl, hc5⟩ := (Sl.of_own ho5).form
      have hb6 := below_then hal hb5
      have bt5 := bt.below hb5 bt.lt
      have bx5 := hbx.below hb6 hbx.lt
      have bz5 := hbz.below hb6 hbz.lt
      have bn5 := hbn.below hb6 hbn.lt
      have f4 := bt5.frozen 2
      have t4 := bt5.cell 2
      have tlt := bt5.lt
      have bt6 := bt5.set_ 2 (.slice A5 ms[k].parts.length c5)
      have bn6 := bn5.far (p := ⟨wr.heap.size, 2, none⟩) (by show w.heap.size + 2 ≠ wr.heap.size; omega) (.slice A5 ms[k].parts.length c5)
      have bx6 := bx5.far (p := ⟨wr.heap.size, 2, none⟩) (by show w.heap.size ≠ wr.heap.size; omega) (.slice A5 ms[k].parts.length c5)
      have bz6 := bz5.far (p := ⟨wr.heap.size, 2, none⟩) (by show w.heap.size + 1 ≠ wr.heap.size; omega) (.slice A5 ms[k].parts.length c5)
      have hb6' : Below wr.heap.size wr (w5.setCell ⟨wr.heap.size, 2, none⟩ (.slice A5 ms[k].parts.length c5)) := hb6.setCell (Nat.le_refl _) _
      have ho5' := own_base (ownsRow_setCell_below ho5 (a := ⟨wr.heap.size, 2, none⟩) (by rw [hz2]; exact Nat.lt_succ_self _) (.slice A5 ms[k].parts.length c5)) (show wr.heap.size ≤ w2.heap.size by omega)
      simp only [List.setIfInBounds_toArray, List.set_cons_succ, List.set_cons_zero] at bt6
      have htl : (ms.take k).length = k := by simp; omega
      have hot := own_eq (own_keep HO.out.own hb6' (fun b hb => (HO.out.own.lt b hb).2)) htl rfl
      obtain ⟨At, ct, rfl, hct⟩ := (Sl.of_own hot).form
      have y0 := bt6.cell 0
      have y1 := bt6.cell 1
      have y2 := bt6.cell 2
      have n3 : (w5.setCell ⟨wr.heap.size, 2, none⟩ (.slice A5 ms[k].parts.length c5)).cell? ⟨w.heap.size + 1 + 1, 3, none⟩ = some (.slice At k ct) := bn6.cell 3
      have hlen6 : w.heap.size + 3 ≤ (w5.setCell ⟨wr.heap.size, 2, none⟩ (.slice A5 ms[k].parts.length c5)).heap.size := Nat.le_trans hsz hb6'.size
      have hne : ∀ g, (Value.slice At k ct).ownBlock = some g → w.heap.size + 3 ≤ g := fun g hg => (hot.lt g hg).1
      have HBT := Lib.hid bt6
      have HNX := Lib.hid bx6
      have HNZ := Lib.hid bz6
      have HNN := Lib.hid bn6
      have HW6 := Lib.hid hb6'
      have HO5 := Lib.hid ho5'
      have HNE := Lib.hid hne
      clear bt bt5 bt6 bx5 bz5 bn5 bn6 bx6 bz6 hb6 hb6' ho5 ho5' hb5 hal hne hbx hbz hbn
      go_wp2_with (at_builtin; go_must (refine wpList_append_sl _ rfl (.tmp 31) (.tmp 33) 33 rfl (w.heap.size + 3) 79 i0 (.agg #[.string .empty, .int .i64 0, .slice none 0 0]) 3 48 Try.underlying33 hi0 hz0 hz1 hz2' rfl (by decide) _ _ _ (by rfl) (hot.alloc _) _ 1 _ (by rfl) (Sl.lit' _ _ _ 3 1 _ rfl (by simp)) (mcells_one [(ms[k], .slice A5 ms[k].parts.length c5)] (by intro t ht; simp only [List.mem_singleton] at ht; subst ht; rfl)) (by simp only [maxLen]; omega) (by omega) (by simp; omega) ?_; intro v7 w7 ho7 hg7 ha7; obtain ⟨A7, c7, rfl, hc7⟩ := (Sl.of_own ho7).form; have bn7 := (HNN.out.alloc _).grown hg7 (fun e => by have := HNE.out _ e.symm; omega); have c7' : w7.cell? ⟨w.heap.size + 1 + 1, 3, none⟩ = some (.slice At k ct) := bn7.cell 3; have f7 : w7.frozen? ⟨w.heap.size + 1 + 1, 3, none⟩ = false := bn7.frozen 3; have l7 : w.heap.size + 1 + 1 < w7.heap.size := bn7.lt))
      have hpush := (HO.out.push (t := ms[k]) htl.symm (Nat.le_add_right _ 3) hsz HW6.out HO5.out ho7 hg7).under (a := ⟨w.heap.size + 2, 3, none⟩) ⟨Nat.lt_succ_self _, Nat.le_add_right _ 2⟩ (.slice A7 (k + 1) c7)
      rw [← List.take_succ_eq_append_getElem hlt] at hpush
      have bx7 := ((HNX.out.alloc _).grown hg7 (fun e => by have := HNE.out _ e.symm; omega)).far (p := ⟨w.heap.size + 2, 3, none⟩) (by show w.heap.size ≠ w.heap.size + 2; omega) (.slice A7 (k + 1) c7)
      have bz7 := ((HNZ.out.alloc _).grown hg7 (fun e => by have := HNE.out _ e.symm; omega)).far (p := ⟨w.heap.size + 2, 3, none⟩) (by show w.heap.size + 1 ≠ w.heap.size + 2; omega) (.slice A7 (k + 1) c7)
      have bn8 := bn7.set_ 3 (.slice A7 (k + 1) c7)
      simp only [List.setIfInBounds_toArray, List.set_cons_succ, List.set_cons_zero] at bn8
      go_light
      exact ⟨⟨k + 1, _, _, by omega, by go_num, hpush, bx7, bz7, bn8, hpush.bel⟩, by simp [intOf]; omega⟩
    · obtain rfl : k = ms.length := by omega
      have ho := HO.out
      rw [List.take_length] at ho
      have hsz : w.heap.size + 3 ≤ wr.heap.size := by have := hbn.lt; omega
      obtain ⟨w9, hw9⟩ : ∃ w9, w9 = wr := ⟨_, rfl⟩
      subst hw9
      have HO9 := Lib.hid ho
      have NX := Lib.hid hbx
      have NZ := Lib.hid hbz
      have NN := Lib.hid hbn
      clear ho
      go_wp2_with fail
      clear hbx hbz hbn g3 HO
      go_loopw [6] (fun j wq => RhLp w #[.int .i64 ck, .int .i64 wt, .int .i64 gn, .slice A ms.length c1, .slice A' os.length c2] #[.int .i64 0, .int .i64 0, .int .i64 0, .slice none 0 0, .slice none 0 0] ck wt gn ms rows tv os j wq) (fun j _ => os.length - (intOf j).toNat)
      case atStart => exact ⟨0, .slice none 0 0, by omega, rfl, HO9.out, by simpa using World.ownsRow_nil _ _ _ _, NX.out, NZ.out, NN.out, HBW.out, hsz⟩
      case round =>
        obtain ⟨k, ov, hk, rfl, ho, hoff, hbx, hbz, hbn, hbw, hsz⟩ := hrel
        have HO := Lib.hid ho
        have HBW := Lib.hid hbw
        clear ho hbw
        obtain ⟨At, ct, rfl, hct⟩ := (Sl.of_own hoff).form
        by_cases hlt : k < os.length
        · obtain ⟨b, off, rfl, hbb, hcell⟩ := HY.out (by omega)
          obtain ⟨x0, x1⟩ := hcell k hlt
          have X0 := (HBW.out.cell (p := ⟨b, off + k * 2, none⟩) hbb).trans x0
          have X1 := (HBW.out.cell (p := ⟨b, off + k * 2 + 1, none⟩) hbb).trans x1
          have i0' : (0 : Int) ≤ (k : Int) := by omega
          have i1' : (k : Int) < (os.length : Int) := by omega
          have hble : b < wr.heap.size := by have := HBW.out.size; omega
          have g4 := hbx.cell 4
          have gl := hbx.lt
          have n4 : wr.cell? ⟨w.heap.size + 1 + 1, 4, none⟩ = some (.slice At k ct) := hbn.cell 4
          have nl : w.heap.size + 1 + 1 < wr.heap.size := hbn.lt
          have hdr : Below wr.heap.size wr wr.drew := (Below.refl _ _).drew
          have hod := own_keep hoff hdr (fun b hb => (hoff.lt b hb).2)
          have hne : ∀ g, (Value.slice At k ct).ownBlock = some g → w.heap.size + 3 ≤ g := fun g hg => (hoff.lt g hg).1
          have hszd := hdr.size
          have HND := Lib.hid (hbn.below hdr hbn.lt)
          have HXD := Lib.hid (hbx.below hdr hbx.lt)
          have HZD := Lib.hid (hbz.below hdr hbz.lt)
          have HOD := Lib.hid (HO.out.keep hdr)
          have HBD := Lib.hid (below_then HBW.out hdr)
          have HNE := Lib.hid hne
          have HFD := Lib.hid hod
          clear x0 x1 hcell hbn hbx hbz hne hod hdr hoff
          go_wp2_with fail
          go_region_law ((refine step_append_sl rfl (.tmp 44) (.tmp 50) 34 rfl (w.heap.size + 3) 81 j0 (.agg #[.int .i64 0, .int .i64 0]) 2 16 Try.underlying34 hj0 hy0 hy1 hy2' rfl (by decide) _ _ _ (by first | rfl | simp [Act.eval, Act.put]) (HFD.out.alloc _) _ 1 _ (by first | rfl | simp [Act.eval, Act.put]) (Sl.lit' _ _ _ 2 1 _ rfl (by simp)) (ocells_one [os[k]]) (by simp only [maxLen]; omega) (by omega) (by simp; omega) ?_; intro v7 w7 ho7 hg7 ha7; obtain ⟨A7, c7, rfl, hc7⟩ := (Sl.of_own ho7).form; have bn7 := (HND.out.alloc _).grown hg7 (fun e => by have := HNE.out _ e.symm; omega); have c7' : w7.cell? ⟨w.heap.size + 1 + 1, 4, none⟩ = some (.slice At k ct) := bn7.cell 4; have f7 : w7.frozen? ⟨w.heap.size + 1 + 1, 4, none⟩ = false := bn7.frozen 4; have l7 : w.heap.size + 1 + 1 < w7.heap.size := bn7.lt))
          all_goals
            have hgr := (HOD.out.grow rfl (Nat.le_add_right _ 3) (by omega) HFD.out hg7).under (a := ⟨w.heap.size + 2, 4, none⟩) ⟨Nat.lt_succ_self _, Nat.le_add_right _ 2⟩ (.slice A7 (k + 1) c7)
            have bx7 := ((HXD.out.alloc _).grown hg7 (fun e => by have := HNE.out _ e.symm; omega)).far (p := ⟨w.heap.size + 2, 4, none⟩) (by show w.heap.size ≠ w.heap.size + 2; omega) (.slice A7 (k + 1) c7)
            have bz7 := ((HZD.out.alloc _).grown hg7 (fun e => by have := HNE.out _ e.symm; omega)).far (p := ⟨w.heap.size + 2, 4, none⟩) (by show w.heap.size + 1 ≠ w.heap.size + 2; omega) (.slice A7 (k + 1) c7)
            have bn8 := bn7.set_ 4 (.slice A7 (k + 1) c7)
            simp only [List.setIfInBounds_toArray, List.set_cons_succ, List.set_cons_zero] at bn8
            have hof8 := own_eq (ownsRow_setCell_below ho7 (a := ⟨w.heap.size + 2, 4, none⟩) (Nat.lt_succ_self _) (.slice A7 (k + 1) c7)) rfl (show (os.take k).flatMap ocells ++ _ = (os.take (k + 1)).flatMap ocells by rw [List.take_succ_eq_append_getElem hlt, List.flatMap_append]; simp [ocells])
            have hs7 := hgr.bel.size
            go_wp2
            go_light
            exact ⟨⟨k + 1, _, by omega, by go_num, hgr, hof8, bx7, bz7, bn8, hgr.bel, by have := hg7.size; simp at this ⊢; omega⟩, by simp [intOf]; omega⟩
        · obtain rfl : k = os.length := by omega
          obtain ⟨Am, cm, rfl, hcm⟩ := (Sl.of_own HO.out.own).form
          rw [List.take_length] at hoff
          have HF := Lib.hid hoff
          have g4 := hbx.cell 4
          have gl := hbx.lt
          have q0 := hbn.cell 0
          have q1 := hbn.cell 1
          have q2 := hbn.cell 2
          have q3 := hbn.cell 3
          have q4 := hbn.cell 4
          have ql := hbn.lt
          have z0 := hbz.cell 0
          have z1 := hbz.cell 1
          have z2 := hbz.cell 2
          have z3 := hbz.cell 3
          have z4 := hbz.cell 4
          have f0 := hbz.frozen 0
          have f1 := hbz.frozen 1
          have f2 := hbz.frozen 2
          have f3 := hbz.frozen 3
          have f4 := hbz.frozen 4
          have zl := hbz.lt
          have BZ := Lib.hid hbz
          clear hoff hbx hbz hbn
          go_wp2
          have HB5 := (((((BZ.out).set_ 0 (.int .i64 ck)).set_ 1 (.int .i64 wt)).set_ 2 (.int .i64 gn)).set_ 3 (.slice Am ms.length cm)).set_ 4 (.slice At os.length ct)
          have HO5 := (((((HO.out).under (a := ⟨w.heap.size + 1, 0, none⟩) (by simp) (.int .i64 ck)).under (a := ⟨w.heap.size + 1, 1, none⟩) (by simp) (.int .i64 wt)).under (a := ⟨w.heap.size + 1, 2, none⟩) (by simp) (.int .i64 gn)).under (a := ⟨w.heap.size + 1, 3, none⟩) (by simp) (.slice Am ms.length cm)).under (a := ⟨w.heap.size + 1, 4, none⟩) (by simp) (.slice At os.length ct)
          have HF5 := ownsRow_setCell_below (ownsRow_setCell_below (ownsRow_setCell_below (ownsRow_setCell_below (ownsRow_setCell_below (HF.out) (a := ⟨w.heap.size + 1, 0, none⟩) (by simp) (.int .i64 ck)) (a := ⟨w.heap.size + 1, 1, none⟩) (by simp) (.int .i64 wt)) (a := ⟨w.heap.size + 1, 2, none⟩) (by simp) (.int .i64 gn)) (a := ⟨w.heap.size + 1, 3, none⟩) (by simp) (.slice Am ms.length cm)) (a := ⟨w.heap.size + 1, 4, none⟩) (by simp) (.slice At os.length ct)
          have HL5 : Below w.heap.size w (((((wr.setCell ⟨w.heap.size + 1, 0, none⟩ (.int .i64 ck)).setCell ⟨w.heap.size + 1, 1, none⟩ (.int .i64 wt)).setCell ⟨w.heap.size + 1, 2, none⟩ (.int .i64 gn)).setCell ⟨w.heap.size + 1, 3, none⟩ (.slice Am ms.length cm)).setCell ⟨w.heap.size + 1, 4, none⟩ (.slice At os.length ct)) := (((((HBW.out).setCell (Nat.le_succ _) _).setCell (Nat.le_succ _) _).setCell (Nat.le_succ _) _).setCell (Nat.le_succ _) _).setCell (Nat.le_succ _) _
          generalize (((((wr.setCell ⟨w.heap.size + 1, 0, none⟩ (.int .i64 ck)).setCell ⟨w.heap.size + 1, 1, none⟩ (.int .i64 wt)).setCell ⟨w.heap.size + 1, 2, none⟩ (.int .i64 gn)).setCell ⟨w.heap.size + 1, 3, none⟩ (.slice Am ms.length cm)).setCell ⟨w.heap.size + 1, 4, none⟩ (.slice At os.length ct)) = W5 at *
          simp only [List.setIfInBounds_toArray, List.set_cons_succ, List.set_cons_zero] at HB5
          have y0 := HB5.cell 0
          have y1 := HB5.cell 1
          have y2 := HB5.cell 2
          have y3 := HB5.cell 3
          have y4 := HB5.cell 4
          exact bodyPost_ret (v := .agg #[.int .i64 ck, .int .i64 wt, .int .i64 gn, .slice Am ms.length cm, .slice At os.length ct]) (by simp [results, Try.results40, go_sem, y0, y1, y2, y3, y4]) rfl ⟨.slice Am ms.length cm, .slice At os.length ct, rows, rfl, HO5.more (by omega), own_base HF5 (by omega), HL5⟩

end Go.Proofs.Ytjkoceacjbhblaa
namespace Go.Proofs.Ytjkoceacjbhblaa
open Go.RowKit

theorem Txs.row {w w' : World} {A : Option Addr} {n m : Nat} {ds : List TxnD} (h : Txs w (.slice A n m) ds) (hb : Below w.heap.size w w') (i : Nat) (hi : i < ds.length) :
    ∃ b off A3 m3, A = some ⟨b, off, none⟩ ∧ b < w.heap.size ∧ w'.cell? ⟨b, off + i * 7, none⟩ = some (.string ds[i].name) ∧ w'.cell? ⟨b, off + i * 7 + 1, none⟩ = some (.int .i64 ds[i].pid) ∧ w'.cell? ⟨b, off + i * 7 + 2, none⟩ = some (.int .i64 ds[i].ver) ∧ w'.cell? ⟨b, off + i * 7 + 3, none⟩ = some (.int .i64 ds[i].state) ∧
      w'.cell? ⟨b, off + i * 7 + 4, none⟩ = some (.slice A3 ds[i].parts.length m3) ∧ w'.cell? ⟨b, off + i * 7 + 5, none⟩ = some (.int .i64 ds[i].since) ∧ w'.cell? ⟨b, off + i * 7 + 6, none⟩ = some (.int .i64 ds[i].done) ∧ Is w (.slice A3 ds[i].parts.length m3) ds[i].parts := by
  obtain ⟨A', m', hv, -, hq⟩ := h.at_
  injection hv with h1 h2 h3
  subst h1
  obtain ⟨b, off, rfl, hbl, hcell⟩ := hq (by omega)
  obtain ⟨pv, x0, x1, x2, x3, x4, x5, x6, xi, -⟩ := hcell i hi
  obtain ⟨A3, m3, rfl, -⟩ := Sl.form xi
  have k : ∀ o, w'.cell? ⟨b, o, none⟩ = w.cell? ⟨b, o, none⟩ := fun o => hb.cell (p := ⟨b, o, none⟩) hbl
  exact ⟨b, off, A3, m3, rfl, hbl, (k _).trans x0, (k _).trans x1, (k _).trans x2, (k _).trans x3, (k _).trans x4, (k _).trans x5, (k _).trans x6, xi⟩
theorem Own.row {w0 w : World} {base n : Nat} {g m : Nat} {ds : List TxnD} {rows : List (TxnD × Value)} (h : Own w0 w base (.slice (some ⟨g, 0, none⟩) n m) ds rows n) (hn : n = ds.length) (i : Nat) (hi : i < ds.length) :
    base ≤ g ∧ g < w.heap.size ∧ ∃ A3 m3, (w.cell? ⟨g, i * 7, none⟩ = some (.string ds[i].name) ∧ w.cell? ⟨g, i * 7 + 1, none⟩ = some (.int .i64 ds[i].pid) ∧ w.cell? ⟨g, i * 7 + 2, none⟩ = some (.int .i64 ds[i].ver) ∧ w.cell? ⟨g, i * 7 + 3, none⟩ = some (.int .i64 ds[i].state) ∧
      w.cell? ⟨g, i * 7 + 4, none⟩ = some (.slice A3 ds[i].parts.length m3) ∧ w.cell? ⟨g, i * 7 + 5, none⟩ = some (.int .i64 ds[i].since) ∧ w.cell? ⟨g, i * 7 + 6, none⟩ = some (.int .i64 ds[i].done)) ∧ (∀ j, j < 7 → w.frozen? ⟨g, i * 7 + j, none⟩ = false) ∧
      w.ownsRow base 3 1 (.slice A3 ds[i].parts.length m3) ds[i].parts.length (ds[i].parts.map (Value.int .i64)) := by
  subst hn
  have hl := own_rows h.fst
  have hi' : i < rows.length := by omega
  have he := fst_get h.fst hi' hi
  obtain ⟨g', m', hv, hg1, hg2, -, hcell⟩ := h.at_ (by omega)
  injection hv with h1 _ _
  injection h1 with h1
  injection h1 with h1 _ _
  subst h1
  have ho := h.parts rows[i] (List.mem_take_iff_getElem.2 ⟨i, by omega, rfl⟩)
  rw [he] at ho
  obtain ⟨A3, m3, hp, -⟩ := (Sl.of_own ho).form
  rw [hp] at ho
  have k := fun j hj => (hcell i hi' j hj).1
  have k0 := k 0 (by decide)
  have k1 := k 1 (by decide)
  have k2 := k 2 (by decide)
  have k3 := k 3 (by decide)
  have k4 := k 4 (by decide)
  have k5 := k 5 (by decide)
  have k6 := k 6 (by decide)
  simp only [tcells, List.getElem?_cons_zero, List.getElem?_cons_succ, he, hp, Nat.add_zero] at k0 k1 k2 k3 k4 k5 k6
  exact ⟨hg1, hg2, A3, m3, ⟨k0, k1, k2, k3, k4, k5, k6⟩, fun j hj => (hcell i hi' j hj).2, ho⟩
theorem upd_fits {c : CoordD} (h : CoordOk c) (i : Nat) (f : TxnD → TxnD) (hf : ∀ t, (f t).parts.length ≤ 4 ∨ (f t).parts = t.parts) : (c.upd i f).Fits := by
  have hc : c.Fits := h.fits
  have hm := h.many
  have key : ∀ t ∈ c.txns.modify i f, t.parts.length ≤ 4 := by
    intro t ht
    obtain ⟨j, hj, rfl⟩ := List.mem_iff_getElem.1 ht
    have hj' : j < c.txns.length := by simpa using hj
    have h4 := (h.all j hj' hj').1.rises.small
    rw [List.getElem_modify]
    split
    · rcases hf c.txns[j] with h1 | h1
      · exact h1
      · rw [h1]; exact h4
    · exact h4
  have hl : (c.txns.modify i f).length ≤ 8 := by simpa using hm
  refine ⟨?_, fun t ht => ?_, ?_, fun t ht => ?_⟩
  · show (c.txns.modify i f).length * 80 ≤ _; omega
  · have := key t ht; omega
  · show (c.txns.modify i f).length ≤ _; omega
  · have := key t ht; omega

def setState (x : Int) (t : TxnD) : TxnD := ⟨t.name, t.pid, t.ver, x, t.parts, t.since, t.done⟩
def setDone (x : Int) (t : TxnD) : TxnD := ⟨t.name, t.pid, t.ver, t.state, t.parts, t.since, x⟩
def wantOf (commit : Bool) : Int := bif commit then 3 else 4
def EndAt (c : CoordD) (i : Nat) (x : Int) (c' : CoordD) (code : Int) : Prop :=
  ∃ h : i < c.txns.length, (c.txns[i].state = 2 ∧ c' = c.upd i (setState x) ∧ code = 0) ∨ (c.txns[i].state = 1 ∧ (c.txns[i].done = 0 ∨ c.txns[i].done = x) ∧ c' = c.upd i (setDone x) ∧ code = 0) ∨
    (c.txns[i].state = 1 ∧ c.txns[i].done = 7 - x ∧ c' = zeroC ∧ code = 12) ∨ (c.txns[i].state = x ∧ c' = c ∧ code = 0) ∨ (c.txns[i].state = 7 - x ∧ c' = zeroC ∧ code = 12)
def EndTo (c : CoordD) (s : ByteArray) (ver : Int) (commit : Bool) (c' : CoordD) (code : Int) : Prop :=
  (KnownFault c s ver code ∧ c' = zeroC) ∨ ∃ i, Known c s ver i ∧ EndAt c i (wantOf commit) c' code
theorem EndTo.fits {c : CoordD} {s : ByteArray} {ver : Int} {commit : Bool} {c' : CoordD} {code : Int} (h : EndTo c s ver commit c' code) : c'.Fits := by
  rcases h with ⟨-, rfl⟩ | ⟨i, ⟨hk, -⟩, hl, h⟩
  · exact zero_fits
  · rcases h with ⟨-, rfl, -⟩ | ⟨-, -, rfl, -⟩ | ⟨-, -, rfl, -⟩ | ⟨-, rfl, -⟩ | ⟨-, rfl, -⟩
    · exact upd_fits hk i _ fun _ => Or.inr rfl
    · exact upd_fits hk i _ fun _ => Or.inr rfl
    · exact zero_fits
    · exact hk.fits
    · exact zero_fits

end Go.Proofs.Ytjkoceacjbhblaa
namespace Go.Proofs.Ytjkoceacjbhblaa
open Go.RowKit

/-- one cell of a row written, but for its parts -/
def setRowM (rows : List (MemD × Value)) (i : Nat) (f : MemD → MemD) : List (MemD × Value) := rows.modify i fun t => (f t.1, t.2)
theorem setRowM_fst (rows : List (MemD × Value)) (i : Nat) (f : MemD → MemD) : (setRowM rows i f).map Prod.fst = (rows.map Prod.fst).modify i f := by
  induction rows generalizing i with
  | nil => cases i <;> simp [setRowM]
  | cons t rows ih =>
    rcases i with _ | i
    · simp [setRowM]
    · have := ih i
      simp only [setRowM] at *
      simp [this]
theorem setRowM_snd (rows : List (MemD × Value)) (i : Nat) (f : MemD → MemD) : (setRowM rows i f).map Prod.snd = rows.map Prod.snd := by
  induction rows generalizing i with
  | nil => cases i <;> simp [setRowM]
  | cons t rows ih =>
    rcases i with _ | i
    · simp [setRowM]
    · have := ih i
      simp only [setRowM] at *
      simp [this]
theorem setRowM_cells : ∀ (rows : List (MemD × Value)) (i : Nat) (f : MemD → MemD) (j : Nat) (u : Value) (hi : i < rows.length) (_ : j < 3) (_ : mcells (f rows[i].1, rows[i].2) = (mcells rows[i]).set j u), (setRowM rows i f).flatMap mcells = (rows.flatMap mcells).set (i * 3 + j) u
  | [], i, f, j, u, hi, _, _ => by simp at hi
  | t :: rows, 0, f, j, u, _, hj, h => by
    have hl : (mcells t).length = 3 := rfl
    simp only [List.getElem_cons_zero] at h
    simp only [setRowM, List.modify_zero_cons, List.flatMap_cons, Nat.zero_mul, Nat.zero_add]
    rw [List.set_append_left _ _ (by omega), h]
  | t :: rows, i + 1, f, j, u, hi, hj, h => by
    have hl : (mcells t).length = 3 := rfl
    have ih := setRowM_cells rows i f j u (by simpa using hi) hj (by simpa using h)
    simp only [setRowM] at ih
    simp only [setRowM, List.modify_succ_cons, List.flatMap_cons, ih]
    rw [List.set_append_right _ _ (by rw [hl]; omega), hl, show (i + 1) * 3 + j - 3 = i * 3 + j from by omega]

theorem OwnM.put {w0 w : World} {base n : Nat} {g c : Nat} {ds : List MemD} {rows : List (MemD × Value)} (h : OwnM w0 w base (.slice (some ⟨g, 0, none⟩) n c) ds rows n) (hn : n = ds.length) (hg : w0.heap.size ≤ g) (i j : Nat) (u : Value) (f : MemD → MemD)
    (hi : i < rows.length) (hj : j < 3) (hc : mcells (f rows[i].1, rows[i].2) = (mcells rows[i]).set j u) (hp : (f rows[i].1).parts = rows[i].1.parts) :
    OwnM w0 (w.setCell ⟨g, i * 3 + j, none⟩ u) base (.slice (some ⟨g, 0, none⟩) n c) (ds.modify i f) (setRowM rows i f) n := by
  subst hn
  have hl : rows.length = ds.length := by rw [← h.fst]; simp
  have hg5 : ∃ cs fr, w.heap[g]? = some (.cells cs 79 fr) := by
    rcases h.own.2 with ⟨e, _⟩ | ⟨g', cap, cur, e, _, hh, _⟩
    · cases e
    · injection e with e1
      injection e1 with e1
      injection e1 with e1
      subst e1
      exact ⟨_, _, hh⟩
  obtain ⟨cs, fr, hg5⟩ := hg5
  have hlen : (ds.modify i f).length = ds.length := by simp
  have key : ∀ t ∈ setRowM rows i f, ∃ t' ∈ rows, t.2 = t'.2 ∧ t.1.parts = t'.1.parts := by
    intro t ht
    obtain ⟨m, hm, rfl⟩ := List.mem_iff_getElem.1 ht
    have hm' : m < rows.length := by simpa [setRowM] using hm
    refine ⟨rows[m], List.getElem_mem _, ?_⟩
    simp only [setRowM, List.getElem_modify]
    split
    · rename_i e
      subst e
      exact ⟨rfl, hp⟩
    · exact ⟨rfl, rfl⟩
  have e1 : rows.take ds.length = rows := by rw [← hl, List.take_length]
  have e2 : (setRowM rows i f).take ds.length = setRowM rows i f := by rw [← hl, ← show (setRowM rows i f).length = rows.length from by simp [setRowM], List.take_length]
  refine ⟨(setRowM_fst rows i f).trans (by rw [h.fst]), ?_, h.bel.setCell hg _, ?_, ?_, ?_⟩
  · rw [setRowM_cells rows i f j u hi hj hc, hlen]
    exact (World.ownsRow.stored h.own _ _).1
  · intro t ht
    rw [← hl, ← show (setRowM rows i f).length = rows.length from by simp [setRowM], List.drop_length] at ht
    simp at ht
  · intro t ht
    rw [e2] at ht
    obtain ⟨t', ht', h1, h2⟩ := key t ht
    rw [h1, h2]
    exact own_far (h.parts t' (by rw [e1]; exact ht')) hg5 (by decide) _ _
  · rw [e2]
    have ha := h.apart
    rw [e1] at ha
    have : ((setRowM rows i f).map Prod.snd).Pairwise fun a b => a.ownBlock = none ∨ a.ownBlock ≠ b.ownBlock := by
      rw [setRowM_snd]
      exact List.pairwise_map.2 ha
    exact List.pairwise_map.1 this

theorem ownM_rows {rows : List (MemD × Value)} {ts : List MemD} (h : rows.map Prod.fst = ts) : rows.length = ts.length := by
  rw [← h]
  simp
theorem fstM_get {rows : List (MemD × Value)} {ts : List MemD} (h : rows.map Prod.fst = ts) {i : Nat} (hi : i < rows.length) (hi' : i < ts.length) : rows[i].1 = ts[i] := by
  subst h
  simp
theorem OwnM.row {w0 w : World} {base n : Nat} {g m : Nat} {ds : List MemD} {rows : List (MemD × Value)} (h : OwnM w0 w base (.slice (some ⟨g, 0, none⟩) n m) ds rows n) (hn : n = ds.length) (i : Nat) (hi : i < ds.length) :
    base ≤ g ∧ g < w.heap.size ∧ w.cell? ⟨g, i * 3 + 1, none⟩ = some (.int .i64 ds[i].heard) ∧ w.frozen? ⟨g, i * 3 + 1, none⟩ = false := by
  subst hn
  have hl := ownM_rows h.fst
  have hi' : i < rows.length := by omega
  have he := fstM_get h.fst hi' hi
  obtain ⟨g', m', hv, hg1, hg2, -, hcell⟩ := h.at_ (by omega)
  injection hv with h1 _ _
  injection h1 with h1
  injection h1 with h1 _ _
  subst h1
  have k := hcell i hi' 1 (by decide)
  have k1 := k.1
  simp only [mcells, List.getElem?_cons_zero, List.getElem?_cons_succ, he] at k1
  exact ⟨hg1, hg2, k1, k.2⟩
theorem OwnM.alloc {w0 w : World} {base n : Nat} {v : Value} {ds : List MemD} {rows : List (MemD × Value)} (h : OwnM w0 w base v ds rows n) (o : Obj) : OwnM w0 (w.alloc o) base v ds rows n :=
  h.keep ((Below.refl _ _).alloc (Nat.le_refl _) o)
theorem OwnO.alloc {w : World} {base : Nat} {v : Value} {os : List OffD} (h : OwnO w base v os) (o : Obj) : OwnO (w.alloc o) base v os :=
  h.keep ((Below.refl _ _).alloc (Nat.le_refl _) o)
def zeroG : GroupD := ⟨0, 0, 0, [], []⟩
def GroupD.Fits (c : GroupD) : Prop := (c.mems.length ≤ 9223372036854775807 ∧ c.offs.length ≤ 9223372036854775807) ∧ ∀ t ∈ c.mems, t.parts.length ≤ 9223372036854775807
theorem zeroG_fits : zeroG.Fits := by simp [GroupD.Fits, zeroG]
theorem GroupOk.fits {c : GroupD} (h : GroupOk c) : c.Fits := ⟨⟨h.bounds.2.1, h.bounds.2.2.1⟩, h.bounds.2.2.2⟩
def GroupD.upd (c : GroupD) (i : Nat) (f : MemD → MemD) : GroupD := ⟨c.clock, c.wait, c.gen, c.mems.modify i f, c.offs⟩
theorem updG_fits {c : GroupD} (h : GroupOk c) (i : Nat) (f : MemD → MemD) (hf : ∀ t, (f t).parts = t.parts) : (c.upd i f).Fits := by
  obtain ⟨⟨h1, h2⟩, h3⟩ := h.fits
  refine ⟨⟨?_, h2⟩, fun t ht => ?_⟩
  · show (c.mems.modify i f).length ≤ _
    simpa using h1
  · obtain ⟨j, hj, rfl⟩ := List.mem_iff_getElem.1 (show t ∈ c.mems.modify i f from ht)
    have hj' : j < c.mems.length := by simpa using hj
    rw [List.getElem_modify]
    split
    · rw [hf]; exact h3 _ (List.getElem_mem _)
    · exact h3 _ (List.getElem_mem _)
/-- a group in memory of its own, and an error number -/
def GRes (c : GroupD) (n : Int) (w : World) (e : Ending) (w' : World) : Prop :=
  ∃ mv ov rows, e = .returned (.tuple #[groupV c mv ov, .int .i64 n]) ∧ OwnM w w' w.heap.size mv c.mems rows c.mems.length ∧ OwnO w' w.heap.size ov c.offs ∧ Below w.heap.size w w'
theorem GRes.zero {n : Int} {w w' : World} (hb : Below w.heap.size w w') : GRes zeroG n w (.returned (.tuple #[.agg #[.int .i64 0, .int .i64 0, .int .i64 0, .slice none 0 0, .slice none 0 0], .int .i64 n])) w' :=
  ⟨.slice none 0 0, .slice none 0 0, [], rfl, ⟨rfl, World.ownsRow_nil _ _ _ _, hb, by simp, by simp, by simp⟩, World.ownsRow_nil _ _ _ _, hb⟩
theorem OwnM.gv {w0 w : World} {base : Nat} {mv ov : Value} {c : GroupD} {rows : List (MemD × Value)} (h : OwnM w0 w base mv c.mems rows c.mems.length) (ho : OwnO w base ov c.offs) (hf : c.Fits) : Gv w (groupV c mv ov) c :=
  ⟨mv, ov, rfl, h.mems rfl hf.2, ho.offs, hf.1.1, hf.1.2⟩
theorem GRes.open_ {c : GroupD} {n : Int} {w w' : World} {e : Ending} (h : GRes c n w e w') (hf : c.Fits) : ∃ A m B k, e = .returned (.tuple #[.agg #[.int .i64 c.clock, .int .i64 c.wait, .int .i64 c.gen, .slice A c.mems.length m, .slice B c.offs.length k], .int .i64 n]) ∧ Gv w' (.agg #[.int .i64 c.clock, .int .i64 c.wait, .int .i64 c.gen, .slice A c.mems.length m, .slice B c.offs.length k]) c ∧ Below w.heap.size w w' := by
  obtain ⟨mv, ov, rows, rfl, ho, hf', hb⟩ := h
  obtain ⟨A, m, rfl, -⟩ := (Sl.of_own ho.own).form
  obtain ⟨B, k, rfl, -⟩ := (Sl.of_own hf').form
  exact ⟨A, m, B, k, rfl, ho.gv hf' hf, hb⟩
theorem CopyPostM.open_ {c : GroupD} {w w' : World} {e : Ending} (h : CopyPostM w c e w') (hf : c.Fits) : ∃ A m B k, e = .returned (.agg #[.int .i64 c.clock, .int .i64 c.wait, .int .i64 c.gen, .slice A c.mems.length m, .slice B c.offs.length k]) ∧ Gv w' (.agg #[.int .i64 c.clock, .int .i64 c.wait, .int .i64 c.gen, .slice A c.mems.length m, .slice B c.offs.length k]) c ∧ Below w.heap.size w w' := by
  obtain ⟨mv, ov, rows, rfl, ho, hf', hb⟩ := h
  have hf2 : OwnO w' w.heap.size ov c.offs := hf'
  obtain ⟨A, m, rfl, -⟩ := (Sl.of_own ho.own).form
  obtain ⟨B, k, rfl, -⟩ := (Sl.of_own hf').form
  exact ⟨A, m, B, k, rfl, ho.gv hf2 hf, hb⟩

def HereFault (g : GroupD) (s : ByteArray) (gen n : Int) : Prop := NameFaultM g s n ∨ (GroupOk g ∧ NameOk s ∧ ((idxM g.mems s = none ∧ n = 5) ∨ ∃ i, ∃ _h : i < g.mems.length, idxM g.mems s = some i ∧ g.gen ≠ gen ∧ n = 10))
def Here (g : GroupD) (s : ByteArray) (gen : Int) (i : Nat) : Prop := GroupOk g ∧ NameOk s ∧ idxM g.mems s = some i ∧ i < g.mems.length ∧ g.gen = gen
theorem here_or (g : GroupD) (s : ByteArray) (gen : Int) : (∃ n, HereFault g s gen n) ∨ ∃ i, Here g s gen i := by
  rcases name_faultM_or g s with ⟨n, h⟩ | ⟨h1, h2⟩
  · exact Or.inl ⟨n, Or.inl h⟩
  · rcases hi : idxM g.mems s with _ | i
    · exact Or.inl ⟨5, Or.inr ⟨h1, h2, Or.inl ⟨hi, rfl⟩⟩⟩
    · have hl := (ixM_some hi).1
      by_cases hv : g.gen = gen
      · exact Or.inr ⟨i, h1, h2, hi, hl, hv⟩
      · exact Or.inl ⟨10, Or.inr ⟨h1, h2, Or.inr ⟨i, hl, hi, hv, rfl⟩⟩⟩
theorem HereFault.ne {g : GroupD} {s : ByteArray} {gen n : Int} (h : HereFault g s gen n) : n ≠ 0 := by
  rcases h with h | ⟨_, _, ⟨_, rfl⟩ | ⟨_, _, _, _, rfl⟩⟩
  · exact h.ne
  · decide
  · decide
def heardT (x : Int) (t : MemD) : MemD := ⟨t.name, x, t.parts⟩
def BeatTo (g : GroupD) (s : ByteArray) (gen : Int) (g' : GroupD) (n : Int) : Prop := (HereFault g s gen n ∧ g' = zeroG) ∨ ∃ i, Here g s gen i ∧ g' = g.upd i (heardT g.clock) ∧ n = 0
theorem BeatTo.fits {g : GroupD} {s : ByteArray} {gen : Int} {g' : GroupD} {n : Int} (h : BeatTo g s gen g' n) : g'.Fits := by
  rcases h with ⟨-, rfl⟩ | ⟨i, h, rfl, -⟩
  · exact zeroG_fits
  · exact updG_fits h.1 i _ fun _ => rfl

end Go.Proofs.Ytjkoceacjbhblaa
namespace Go.Proofs.Ytjkoceacjbhblaa
open Go.RowKit

/-- block g holds a coordinator -/
def IsC (w : World) (g : Nat) : Prop := ∃ cs fr, w.heap[g]? = some (.cells cs 28 fr)
theorem IsC.set_ {w : World} {g : Nat} (h : IsC w g) (i : Nat) (u : Value) : IsC (w.setCell ⟨g, i, none⟩ u) g := by
  obtain ⟨cs, fr, h⟩ := h
  refine ⟨cs.setIfInBounds i u, fr, ?_⟩
  simp [World.setCell, Array.getElem?_modify, h]
def bumpT (t : TxnD) : TxnD := ⟨t.name, t.pid, t.ver + 1, t.state, t.parts, t.since, t.done⟩
def raiseT (t : TxnD) : TxnD := ⟨t.name, t.pid, t.ver + 1, 4, t.parts, t.since, t.done⟩
def newT (s : ByteArray) (n : Int) : TxnD := ⟨s, n, 0, 1, [], 0, 0⟩
def pushC (c : CoordD) (s : ByteArray) : CoordD := ⟨c.clock, c.next + 1, c.wait, c.txns ++ [newT s c.next]⟩
def InitNew (c : CoordD) (s : ByteArray) (c' : CoordD) (r0 r1 r2 : Int) : Prop :=
  (c.txns.length = 8 ∧ c' = zeroC ∧ r0 = 0 ∧ r1 = 0 ∧ r2 = 16) ∨ (c.txns.length < 8 ∧ c.next = 1073741824 ∧ c' = zeroC ∧ r0 = 0 ∧ r1 = 0 ∧ r2 = 16) ∨ (c.txns.length < 8 ∧ c.next < 1073741824 ∧ c' = pushC c s ∧ r0 = c.next ∧ r1 = 0 ∧ r2 = 0)
def InitAt (c : CoordD) (i : Nat) (c' : CoordD) (r0 r1 r2 : Int) : Prop := ∃ h : i < c.txns.length,
  (c.txns[i].state = 3 ∧ c' = zeroC ∧ r0 = 0 ∧ r1 = 0 ∧ r2 = 12) ∨ (c.txns[i].state = 4 ∧ c' = zeroC ∧ r0 = 0 ∧ r1 = 0 ∧ r2 = 12) ∨
    (c.txns[i].state = 1 ∧ c.txns[i].ver = 1073741824 ∧ c' = zeroC ∧ r0 = 0 ∧ r1 = 0 ∧ r2 = 2) ∨ (c.txns[i].state = 2 ∧ c.txns[i].ver = 1073741824 ∧ c' = zeroC ∧ r0 = 0 ∧ r1 = 0 ∧ r2 = 2) ∨
    (c.txns[i].state = 1 ∧ c.txns[i].ver < 1073741824 ∧ c' = c.upd i bumpT ∧ r0 = c.txns[i].pid ∧ r1 = c.txns[i].ver + 1 ∧ r2 = 0) ∨
    (c.txns[i].state = 2 ∧ c.txns[i].ver < 1073741824 ∧ c' = c.upd i raiseT ∧ r0 = c.txns[i].pid ∧ r1 = c.txns[i].ver + 1 ∧ r2 = 0)
def InitTo (c : CoordD) (s : ByteArray) (c' : CoordD) (r0 r1 r2 : Int) : Prop :=
  (NameFault c s r2 ∧ c' = zeroC ∧ r0 = 0 ∧ r1 = 0) ∨ (CoordOk c ∧ NameOk s ∧ ((idxOf c.txns s = none ∧ InitNew c s c' r0 r1 r2) ∨ ∃ i, idxOf c.txns s = some i ∧ InitAt c i c' r0 r1 r2))
theorem push_fits {c : CoordD} (h : CoordOk c) (s : ByteArray) : (pushC c s).Fits := by
  have hm := h.many
  obtain ⟨-, h2, -, h4⟩ := h.fits
  have hl : (pushC c s).txns.length ≤ 9 := by simp [pushC]; omega
  refine ⟨by omega, fun t ht => ?_, by omega, fun t ht => ?_⟩
  · rcases List.mem_append.1 ht with ht | ht
    · exact h2 t ht
    · simp only [List.mem_singleton] at ht; subst ht; simp [newT]
  · rcases List.mem_append.1 ht with ht | ht
    · exact h4 t ht
    · simp only [List.mem_singleton] at ht; subst ht; simp [newT]
theorem InitTo.fits {c : CoordD} {s : ByteArray} {c' : CoordD} {r0 r1 r2 : Int} (h : InitTo c s c' r0 r1 r2) : c'.Fits := by
  rcases h with ⟨-, rfl, -⟩ | ⟨hk, -, ⟨-, h⟩ | ⟨i, -, hl, h⟩⟩
  · exact zero_fits
  · rcases h with ⟨-, rfl, -⟩ | ⟨-, -, rfl, -⟩ | ⟨-, -, rfl, -⟩
    · exact zero_fits
    · exact zero_fits
    · exact push_fits hk s
  · rcases h with ⟨-, rfl, -⟩ | ⟨-, rfl, -⟩ | ⟨-, -, rfl, -⟩ | ⟨-, -, rfl, -⟩ | ⟨-, -, rfl, -⟩ | ⟨-, -, rfl, -⟩
    · exact zero_fits
    · exact zero_fits
    · exact zero_fits
    · exact zero_fits
    · exact upd_fits hk i _ fun _ => Or.inr rfl
    · exact upd_fits hk i _ fun _ => Or.inr rfl

end Go.Proofs.Ytjkoceacjbhblaa
namespace Go.Proofs.Ytjkoceacjbhblaa
open Go.RowKit Go.Shelf

def shelfRen : Go.Shelf.Ren := ⟨fun | 25 => 93 | 31 => 117 | 32 => 118 | 37 => 126 | 23 => 94 | 21 => 98 | 27 => 122 | 28 => 123 | 35 => 130 | 39 => 133 | n => n,
  fun | 0 => 0 | 3 => 3 | 4 => 4 | 22 => 24 | 40 => 126 | n => n, fun n => n⟩
theorem setCells_row (g : Nat) : ∀ (vs : List Value) (o : Nat) (w : World) (cur : Array Value) (t : TypeId), w.heap[g]? = some (.cells cur t (0, 0)) → o + vs.length ≤ cur.size → ∃ cur' : Array Value, (w.setCells g o vs).heap[g]? = some (.cells cur' t (0, 0)) ∧ cur'.toList = cur.toList.take o ++ vs ++ cur.toList.drop (o + vs.length)
  | [], o, w, cur, t, h, _ => ⟨cur, h, by simp⟩
  | v :: r, o, w, cur, t, h, hl => by
    simp only [List.length_cons] at hl
    obtain ⟨cur', h1, h2⟩ := setCells_row g r (o + 1) (w.setCell ⟨g, o, none⟩ v) (cur.setIfInBounds o v) t (heap_setCell_same w g o cur t v h) (by simp; omega)
    refine ⟨cur', h1, ?_⟩
    rw [h2, Array.toList_setIfInBounds, List.drop_set_of_lt (by omega)]
    have hl2 : o < cur.toList.length := by simp; omega
    rw [List.take_succ_eq_append_getElem (by simpa using hl2), List.take_set, List.getElem_set_self, List.set_eq_of_length_le (by simp; omega)]
    simp [show o + 1 + r.length = o + (r.length + 1) by omega]
theorem grown_setCells (g : Nat) : ∀ (vs : List Value) (o : Nat) (w : World), w.grownBy (w.setCells g o vs) (some g)
  | [], _, w => World.grownBy.refl w _
  | v :: r, o, w => by
    have h := grown_setCells g r (o + 1) (w.setCell ⟨g, o, none⟩ v)
    exact ⟨h.os, h.tape, h.output, Nat.le_trans (by simp) h.size, fun k hk hne => (h.block k (by simpa using hk) hne).trans (heap_setCell_other w ⟨g, o, none⟩ k v (fun e => hne (by simp [e])))⟩
theorem grown_drewN (w : World) (n : Nat) (row : Option Nat) : w.grownBy (w.drewN n) row := ⟨rfl, rfl, rfl, Nat.le_refl _, fun _ _ _ => rfl⟩
theorem grown_trans {w w1 w2 : World} {row : Option Nat} (h : w.grownBy w1 row) (k : w1.grownBy w2 row) : w.grownBy w2 row :=
  ⟨k.os.trans h.os, k.tape.trans h.tape, k.output.trans h.output, Nat.le_trans h.size k.size, fun i hi hne => (k.block i (Nat.lt_of_lt_of_le hi h.size) hne).trans (h.block i hi hne)⟩
theorem grown_high {w w1 w2 : World} {row : Option Nat} {B : Nat} (h : w.grownBy w1 row) (k : w1.grownBy w2 (some B)) (hB : w.heap.size ≤ B) : w.grownBy w2 row :=
  ⟨k.os.trans h.os, k.tape.trans h.tape, k.output.trans h.output, Nat.le_trans h.size k.size, fun i hi hne => (k.block i (Nat.lt_of_lt_of_le hi h.size) (by simp; omega)).trans (h.block i hi hne)⟩
theorem own_drewN {base : Nat} {w : World} {e : TypeId} {size n : Nat} {v : Value} {xs : List Value} (h : w.ownsRow base e size v n xs) (q : Nat) : (w.drewN q).ownsRow base e size v n xs := h
def delAt (ps : List Int) (i : Nat) : List Int := ps.take i ++ ps.drop (i + 1)
def insAt (ps : List Int) (i : Nat) (x : Int) : List Int := ps.take i ++ x :: ps.drop i
theorem shape_blk {w : World} {g : Nat} {t : TypeId} {cs : Array Value} (h : w.heap[g]? = some (.cells cs t (0, 0))) : w.shape? g = some (t, cs.size) := by simp [World.shape?, h]
end Go.Proofs.Ytjkoceacjbhblaa
