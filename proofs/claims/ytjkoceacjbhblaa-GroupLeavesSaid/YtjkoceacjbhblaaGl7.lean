/- Parts of a proof, merged: GFind. No condition. -/
import Derived.Test.YtjkoceacjbhblaaGl5
import Derived.Test.YtjkoceacjbhblaaGl6
namespace Go.Proofs.Ytjkoceacjbhblaa
open Go.RowKit

def idxM (ms : List MemD) (s : ByteArray) : Option Nat := ms.findIdx? fun t => decide (t.name = s)
def ixM (ms : List MemD) (s : ByteArray) : Int := match idxM ms s with | none => -1 | some k => k
theorem idxM_some {ms : List MemD} {s : ByteArray} {k : Nat} (hk : k < ms.length) (h : ms[k].name = s) (hn : ∀ j (hj : j < ms.length), j < k → ms[j].name ≠ s) : idxM ms s = some k := by
  unfold idxM
  rw [List.findIdx?_eq_some_iff_getElem]
  exact ⟨hk, by simpa using h, fun j hj => by simpa using hn j (by omega) hj⟩
theorem idxM_none {ms : List MemD} {s : ByteArray} (hn : ∀ j (hj : j < ms.length), ms[j].name ≠ s) : idxM ms s = none := by
  unfold idxM
  rw [List.findIdx?_eq_none_iff]
  intro t ht
  obtain ⟨j, hj, rfl⟩ := List.mem_iff_getElem.1 ht
  simpa using hn j hj
theorem ixM_of_finds {ms : List MemD} {s : ByteArray} {r : Int} (h : (∃ k : Nat, k < ms.length ∧ r = k ∧ NamedAt ms s k ∧ ∀ j, j < k → ¬ NamedAt ms s j) ∨ (r = -1 ∧ ∀ j, j < ms.length → ¬ NamedAt ms s j)) : r = ixM ms s := by
  unfold ixM
  rcases h with ⟨k, hk, rfl, ⟨_, h1⟩, h2⟩ | ⟨rfl, h2⟩
  · rw [idxM_some hk h1 fun j hj hjk e => h2 j hjk ⟨hj, e⟩]
  · rw [idxM_none fun j hj e => h2 j hj ⟨hj, e⟩]
theorem ixM_some {ms : List MemD} {s : ByteArray} {i : Nat} (h : idxM ms s = some i) : i < ms.length ∧ ixM ms s = i :=
  ⟨(List.findIdx?_eq_some_iff_getElem.1 h).1, by simp [ixM, h]⟩
theorem OwnM.keep {w0 w w' : World} {base k : Nat} {v : Value} {ds : List MemD} {rows : List (MemD × Value)} (h : OwnM w0 w base v ds rows k) (hb : Below w.heap.size w w') : OwnM w0 w' base v ds rows k :=
  ⟨h.fst, own_keep h.own hb (fun b hb => (h.own.lt b hb).2), h.bel.trans (hb.mono h.bel.size), h.old, fun t ht => own_keep (h.parts t ht) hb (fun b hb => ((h.parts t ht).lt b hb).2), h.apart⟩
theorem OwnM.rebase {w0 w1 w : World} {base base' n : Nat} {v : Value} {ds : List MemD} {rows : List (MemD × Value)} (h : OwnM w1 w base v ds rows n) (hn : n = ds.length) (hb : base' ≤ base) (hw : Below w0.heap.size w0 w) : OwnM w0 w base' v ds rows n := by
  have hl : rows.length = ds.length := by rw [← h.fst]; simp
  refine ⟨h.fst, own_base h.own hb, hw, fun t ht => ?_, fun t ht => own_base (h.parts t ht) hb, h.apart⟩
  rw [List.drop_of_length_le (by omega)] at ht
  simp at ht
/-- a refusal: no group, an error number -/
def RefusesM (n : Int) (w : World) (e : Ending) (w' : World) : Prop := e = .returned (.tuple #[.agg #[.int .i64 0, .int .i64 0, .int .i64 0, .slice none 0 0, .slice none 0 0], .int .i64 0, .int .i64 n]) ∧ Below w.heap.size w w'
def FoundM (c : GroupD) (i : Int) (w : World) (e : Ending) (w' : World) : Prop :=
  ∃ mv ov rows, e = .returned (.tuple #[groupV c mv ov, .int .i64 i, .int .i64 0]) ∧ OwnM w w' w.heap.size mv c.mems rows c.mems.length ∧ w'.ownsRow w.heap.size 81 2 ov c.offs.length (c.offs.flatMap ocells) ∧ Below w.heap.size w w'

set_option maxRecDepth 100000 in
set_option maxHeartbeats 1000000 in
theorem group_at (x0 : ByteArray) (x1 : Int) (x2 : Value) (nm : ByteArray) (b : Nat) (w : World) (hlt : b < w.heap.size) (h0 : w.cell? ⟨b, 0, none⟩ = some (.string nm)) (_ho : x2.oneCell' = true) :
    Calls Try.prog 115 #[.agg #[.string x0, .int .i64 x1, x2], .pointer (some ⟨b, 0, none⟩)] w (Tells (x0 = nm) w) := by
  have hx : (x0.toList == nm.toList) = true ↔ x0 = nm := ⟨fun h => toList_inj (eq_of_beq h), fun h => by simp [h]⟩
  have HX := Lib.hid hx
  clear hx
  go_enter Try.func115, Try.ntmps115
  go_wp2
  go_ret
  exact ⟨_, rfl, HX.out, (Below.refl _ _).alloc (Nat.le_refl _) _⟩

theorem findm_idx (ms : List MemD) (A : Option Addr) (m : Nat) (s : ByteArray) (bs : Nat) (w : World) (hx : Mems w (.slice A ms.length m) ms) (hm : ms.length ≤ 6) (hlt : bs < w.heap.size) (h0 : w.cell? ⟨bs, 0, none⟩ = some (.string s)) :
    Calls Try.prog 111 #[.slice A ms.length m, .func (.func 115) #[] #[.pointer (some ⟨bs, 0, none⟩)]] w fun e w' => e = .returned (.int .i64 (ixM ms s)) ∧ Below w.heap.size w w' := by
  obtain ⟨rows, hr, hsl, hp⟩ := hx
  refine (IdxMem_any _ ms.length _ (NamedAt ms s) 115 #[.pointer (some ⟨bs, 0, none⟩)] w hsl (by omega) (enters_of Try.func115 (by kernel_rfl) rfl) ?_).mono ?_
  · intro j u0 u1 u2 hj g0 g1 g2 W hW
    have hjr : j < rows.length := by
      have : rows.length = ms.length := by rw [← hr]; simp
      omega
    have key : ∀ i, i < 3 → (rows.flatMap mcells)[j * 3 + i]? = (mcells rows[j])[i]? := fun i hi => cells_get mcells 3 (fun _ => rfl) rows j hjr i hi
    rw [key _ (by omega)] at g0 g1 g2
    simp only [mcells, List.getElem?_cons_zero, List.getElem?_cons_succ, Option.some.injEq] at g0 g1 g2
    subst g0 g1 g2
    have hone : rows[j].2.oneCell' = true := Sl.oneCell (hp _ (List.getElem_mem _)).1
    refine (group_at _ _ _ s bs W (Nat.lt_of_lt_of_le hlt hW.size) ((hW.cell (p := ⟨bs, 0, none⟩) hlt).trans h0) hone).mono fun e w' h => h.cong ?_
    subst hr
    unfold NamedAt
    simp [hjr]
  · rintro e w' ⟨r, rfl, hb, h⟩
    exact ⟨by rw [ixM_of_finds h], hb⟩

set_option maxRecDepth 100000 in
set_option maxHeartbeats 4000000 in
theorem memberOf_any (v : Value) (g : GroupD) (s : ByteArray) (w : World) (h : Gv w v g) :
    Calls Try.prog 83 #[v, .string s] w fun e w' => e = .returned (.int .i64 (ixM g.mems s)) ∧ Below w.heap.size w w' := by
  obtain ⟨mv, ov, rfl, hx, hy, hl1, hl2⟩ := id h
  obtain ⟨A, m, rfl, -⟩ := hx.at_
  obtain ⟨A', m', rfl, -⟩ := hy.at_
  have H := Lib.hid h
  have HX := Lib.hid hx
  have HY := Lib.hid hy
  clear h hx hy
  unfold groupV at *
  obtain ⟨ck, wt, gn, ms, os⟩ := g
  simp only at *
  obtain ⟨A1, m1, hv, hm, hcell⟩ := HX.out.at_
  injection hv with e1 e2 e3
  subst e1 e3
  have HC := Lib.hid hcell
  clear hcell
  go_enter Try.func83, Try.ntmps83
  go_wp2
  have hbl := (Below.refl w.heap.size w).alloc (Nat.le_refl _) (.cells #[.int .i64 ck, .int .i64 wt, .int .i64 gn, .slice A ms.length m, .slice A' os.length m'] 36)
  have bx := Blk.new w 36 #[.int .i64 ck, .int .i64 wt, .int .i64 gn, .slice A ms.length m, .slice A' os.length m']
  generalize w.alloc (.cells #[.int .i64 ck, .int .i64 wt, .int .i64 gn, .slice A ms.length m, .slice A' os.length m'] 36) = W0 at *
  have HBL := Lib.hid hbl
  have HB := Lib.hid bx
  clear hbl bx
  go_loopw [5] (fun i wr => ∃ k : Nat, k ≤ ms.length ∧ i = .int .i64 k ∧ Hid (∀ j (hj : j < ms.length), j < k → ms[j].name ≠ s) ∧ Hid (Below W0.heap.size W0 wr)) (fun i _ => ms.length - (intOf i).toNat)
  case atStart => exact ⟨0, by omega, rfl, fun j _ hj => by omega, Below.refl _ _⟩
  case round =>
    obtain ⟨k, hk, rfl, HJ, HW⟩ := hrel
    have hbw := below_then HBL.out HW.out
    have bw := HB.out.below HW.out HB.out.lt
    have g3 := bw.cell 3
    have gl := bw.lt
    by_cases hlt : k < ms.length
    · obtain ⟨b, off, rfl, hb, hcell⟩ := HC.out (by omega)
      obtain ⟨pv, x0, -⟩ := hcell k hlt
      have X0 := (hbw.cell (p := ⟨b, off + k * 3, none⟩) hb).trans x0
      have i0 : (0 : Int) ≤ (k : Int) := by omega
      have i1 : (k : Int) < (ms.length : Int) := by omega
      have HBW := Lib.hid hbw
      clear x0 hcell bw hbw
      by_cases hn : ms[k].name = s
      · have m1 : (ms[k].name.toList == s.toList) = true := by simp [hn]
        have hix : ixM ms s = k := (ixM_some (idxM_some hlt hn HJ.out)).2
        have HIX := Lib.hid hix
        clear hn hix
        go_wp2
        go_ret
        refine ⟨?_, HBW.out⟩
        rw [HIX.out]
        rfl
      · have m1 : (ms[k].name.toList == s.toList) = false := beq_eq_false_iff_ne.2 fun h => hn (toList_inj h)
        have hj : ∀ j (hj : j < ms.length), j < k + 1 → ms[j].name ≠ s := fun j hj hjk => by
          rcases Nat.lt_succ_iff_lt_or_eq.1 hjk with h' | rfl
          · exact HJ.out j hj h'
          · exact hn
        have HJ2 := Lib.hid hj
        clear hn hj
        go_wp2
        go_light
        exact ⟨⟨k + 1, by omega, by go_num, HJ2.out, HW.out⟩, by simp [intOf]; omega⟩
    · obtain rfl : k = ms.length := by omega
      have hix : ixM ms s = -1 := by simp [ixM, idxM_none fun j hj => HJ.out j hj hj]
      have HIX := Lib.hid hix
      clear hix
      go_wp2
      go_ret
      refine ⟨?_, hbw⟩
      rw [HIX.out]
      rfl

/-- the fault of a call that names a member: n is not 0 -/
def NameFaultM (g : GroupD) (s : ByteArray) (n : Int) : Prop := (¬ GroupOk g ∧ n = 12) ∨ (GroupOk g ∧ ¬ NameOk s ∧ n = 4)
theorem name_faultM_or (g : GroupD) (s : ByteArray) : (∃ n, NameFaultM g s n) ∨ (GroupOk g ∧ NameOk s) := by
  by_cases h1 : GroupOk g
  · by_cases h2 : NameOk s
    · exact Or.inr ⟨h1, h2⟩
    · exact Or.inl ⟨4, Or.inr ⟨h1, h2, rfl⟩⟩
  · exact Or.inl ⟨12, Or.inl ⟨h1, rfl⟩⟩
theorem NameFaultM.ne {g : GroupD} {s : ByteArray} {n : Int} (h : NameFaultM g s n) : n ≠ 0 := by
  rcases h with ⟨-, rfl⟩ | ⟨-, -, rfl⟩ <;> decide
set_option maxRecDepth 100000 in
set_option maxHeartbeats 4000000 in
theorem groupFault_state (v : Value) (g : GroupD) (s : ByteArray) (hk : ¬ GroupOk g) (w : World) (h : Gv w v g) (hnm : ∀ t ∈ g.mems, t.name.size ≤ 9223372036854775807) (_hs : s.size ≤ 9223372036854775807) :
    Calls Try.prog 89 #[v, .string s] w fun e w' => e = .returned (.int .i64 12) ∧ Below w.heap.size w w' := by
  obtain ⟨mv, ov, rfl, hx, hy, hl1, hl2⟩ := id h
  obtain ⟨A, m, rfl, -⟩ := hx.at_
  obtain ⟨A', m', rfl, -⟩ := hy.at_
  have H := Lib.hid h
  have HX := Lib.hid hx
  have HY := Lib.hid hy
  clear h hx hy
  unfold groupV at *
  obtain ⟨ck, wt, gn, ms, os⟩ := g
  simp only at *
  have HK := Lib.hid hk
  have HNM := Lib.hid hnm
  clear hk hnm
  go_enter Try.func89, Try.ntmps89
  go_wp2_with fail
  have hb1 : Below w.heap.size w (w.alloc (.cells #[.int .i64 ck, .int .i64 wt, .int .i64 gn, .slice A ms.length m, .slice A' os.length m'] 36)) := (Below.refl _ _).alloc (by first | omega | (simp; done) | (simp; omega)) _
  have hal1 : Below w.heap.size w (w.alloc (.cells #[.int .i64 ck, .int .i64 wt, .int .i64 gn, .slice A ms.length m, .slice A' os.length m'] 36)) := (Below.refl _ _).alloc (by first | omega | (simp; done) | (simp; omega)) _
  have b_bx1 : Blk (w.alloc (.cells #[.int .i64 ck, .int .i64 wt, .int .i64 gn, .slice A ms.length m, .slice A' os.length m'] 36)) (w.heap.size) 36 #[.int .i64 ck, .int .i64 wt, .int .i64 gn, .slice A ms.length m, .slice A' os.length m'] := Blk.new_ _ 36 #[.int .i64 ck, .int .i64 wt, .int .i64 gn, .slice A ms.length m, .slice A' os.length m'] (by first | rfl | (simp; done) | (simp; omega))
  have hz1 : w.heap.size + 1 ≤ (w.alloc (.cells #[.int .i64 ck, .int .i64 wt, .int .i64 gn, .slice A ms.length m, .slice A' os.length m'] 36)).heap.size := by first | omega | (simp; done) | (simp; omega)
  generalize w.alloc (.cells #[.int .i64 ck, .int .i64 wt, .int .i64 gn, .slice A ms.length m, .slice A' os.length m'] 36) = W1 at *
  have HB1 := Lib.hid hb1
  have B1_bx := Lib.hid b_bx1
  clear hb1 b_bx1
  refine (group_may_any _ ⟨ck, wt, gn, ms, os⟩ _ (H.out.below hal1) HNM.out).mono ?_
  rintro e W2 hT
  obtain ⟨rfl, hb⟩ := hT.no HK.out
  clear hT
  have hb2 : Below w.heap.size w W2 := below_then HB1.out hb
  have b_bx2 := B1_bx.out.below hb B1_bx.out.lt
  have hz2 := hb.size
  have HB2 := Lib.hid hb2
  have B2_bx := Lib.hid b_bx2
  clear hb2 b_bx2
  clear B1_bx HB1
  go_wp2
  go_ret
  exact ⟨rfl, HB2.out⟩
set_option maxRecDepth 100000 in
set_option maxHeartbeats 4000000 in
theorem groupFault_form (v : Value) (g : GroupD) (s : ByteArray) (hk : GroupOk g) (hn : ¬ NameOk s) (w : World) (h : Gv w v g) (hnm : ∀ t ∈ g.mems, t.name.size ≤ 9223372036854775807) (hs : s.size ≤ 9223372036854775807) :
    Calls Try.prog 89 #[v, .string s] w fun e w' => e = .returned (.int .i64 4) ∧ Below w.heap.size w w' := by
  obtain ⟨mv, ov, rfl, hx, hy, hl1, hl2⟩ := id h
  obtain ⟨A, m, rfl, -⟩ := hx.at_
  obtain ⟨A', m', rfl, -⟩ := hy.at_
  have H := Lib.hid h
  have HX := Lib.hid hx
  have HY := Lib.hid hy
  clear h hx hy
  unfold groupV at *
  obtain ⟨ck, wt, gn, ms, os⟩ := g
  simp only at *
  have HK := Lib.hid hk
  have HN := Lib.hid hn
  have HNM := Lib.hid hnm
  clear hk hn hnm
  go_enter Try.func89, Try.ntmps89
  go_wp2_with fail
  have hb1 : Below w.heap.size w (w.alloc (.cells #[.int .i64 ck, .int .i64 wt, .int .i64 gn, .slice A ms.length m, .slice A' os.length m'] 36)) := (Below.refl _ _).alloc (by first | omega | (simp; done) | (simp; omega)) _
  have hal1 : Below w.heap.size w (w.alloc (.cells #[.int .i64 ck, .int .i64 wt, .int .i64 gn, .slice A ms.length m, .slice A' os.length m'] 36)) := (Below.refl _ _).alloc (by first | omega | (simp; done) | (simp; omega)) _
  have b_bx1 : Blk (w.alloc (.cells #[.int .i64 ck, .int .i64 wt, .int .i64 gn, .slice A ms.length m, .slice A' os.length m'] 36)) (w.heap.size) 36 #[.int .i64 ck, .int .i64 wt, .int .i64 gn, .slice A ms.length m, .slice A' os.length m'] := Blk.new_ _ 36 #[.int .i64 ck, .int .i64 wt, .int .i64 gn, .slice A ms.length m, .slice A' os.length m'] (by first | rfl | (simp; done) | (simp; omega))
  have hz1 : w.heap.size + 1 ≤ (w.alloc (.cells #[.int .i64 ck, .int .i64 wt, .int .i64 gn, .slice A ms.length m, .slice A' os.length m'] 36)).heap.size := by first | omega | (simp; done) | (simp; omega)
  generalize w.alloc (.cells #[.int .i64 ck, .int .i64 wt, .int .i64 gn, .slice A ms.length m, .slice A' os.length m'] 36) = W1 at *
  have HB1 := Lib.hid hb1
  have B1_bx := Lib.hid b_bx1
  clear hb1 b_bx1
  refine (group_may_any _ ⟨ck, wt, gn, ms, os⟩ _ (H.out.below hal1) HNM.out).mono ?_
  rintro e W2 hT
  obtain ⟨rfl, hb⟩ := hT.yes HK.out
  clear hT
  have hb2 : Below w.heap.size w W2 := below_then HB1.out hb
  have b_bx2 := B1_bx.out.below hb B1_bx.out.lt
  have hz2 := hb.size
  have HB2 := Lib.hid hb2
  have B2_bx := Lib.hid b_bx2
  clear hb2 b_bx2
  clear B1_bx HB1
  go_wp2_with fail
  refine (nameMay_any s _ hs).mono ?_
  rintro e W3 hT
  obtain ⟨rfl, hb⟩ := hT.no HN.out
  clear hT
  have hb3 : Below w.heap.size w W3 := below_then HB2.out hb
  have b_bx3 := B2_bx.out.below hb B2_bx.out.lt
  have hz3 := hb.size
  have HB3 := Lib.hid hb3
  have B3_bx := Lib.hid b_bx3
  clear hb3 b_bx3
  clear B2_bx HB2
  go_wp2
  go_ret
  exact ⟨rfl, HB3.out⟩
set_option maxRecDepth 100000 in
set_option maxHeartbeats 4000000 in
theorem groupFault_good (v : Value) (g : GroupD) (s : ByteArray) (hk : GroupOk g) (hn : NameOk s) (w : World) (h : Gv w v g) (hnm : ∀ t ∈ g.mems, t.name.size ≤ 9223372036854775807) (hs : s.size ≤ 9223372036854775807) :
    Calls Try.prog 89 #[v, .string s] w fun e w' => e = .returned (.int .i64 0) ∧ Below w.heap.size w w' := by
  obtain ⟨mv, ov, rfl, hx, hy, hl1, hl2⟩ := id h
  obtain ⟨A, m, rfl, -⟩ := hx.at_
  obtain ⟨A', m', rfl, -⟩ := hy.at_
  have H := Lib.hid h
  have HX := Lib.hid hx
  have HY := Lib.hid hy
  clear h hx hy
  unfold groupV at *
  obtain ⟨ck, wt, gn, ms, os⟩ := g
  simp only at *
  have HK := Lib.hid hk
  have HN := Lib.hid hn
  have HNM := Lib.hid hnm
  clear hk hn hnm
  go_enter Try.func89, Try.ntmps89
  go_wp2_with fail
  have hb1 : Below w.heap.size w (w.alloc (.cells #[.int .i64 ck, .int .i64 wt, .int .i64 gn, .slice A ms.length m, .slice A' os.length m'] 36)) := (Below.refl _ _).alloc (by first | omega | (simp; done) | (simp; omega)) _
  have hal1 : Below w.heap.size w (w.alloc (.cells #[.int .i64 ck, .int .i64 wt, .int .i64 gn, .slice A ms.length m, .slice A' os.length m'] 36)) := (Below.refl _ _).alloc (by first | omega | (simp; done) | (simp; omega)) _
  have b_bx1 : Blk (w.alloc (.cells #[.int .i64 ck, .int .i64 wt, .int .i64 gn, .slice A ms.length m, .slice A' os.length m'] 36)) (w.heap.size) 36 #[.int .i64 ck, .int .i64 wt, .int .i64 gn, .slice A ms.length m, .slice A' os.length m'] := Blk.new_ _ 36 #[.int .i64 ck, .int .i64 wt, .int .i64 gn, .slice A ms.length m, .slice A' os.length m'] (by first | rfl | (simp; done) | (simp; omega))
  have hz1 : w.heap.size + 1 ≤ (w.alloc (.cells #[.int .i64 ck, .int .i64 wt, .int .i64 gn, .slice A ms.length m, .slice A' os.length m'] 36)).heap.size := by first | omega | (simp; done) | (simp; omega)
  generalize w.alloc (.cells #[.int .i64 ck, .int .i64 wt, .int .i64 gn, .slice A ms.length m, .slice A' os.length m'] 36) = W1 at *
  have HB1 := Lib.hid hb1
  have B1_bx := Lib.hid b_bx1
  clear hb1 b_bx1
  refine (group_may_any _ ⟨ck, wt, gn, ms, os⟩ _ (H.out.below hal1) HNM.out).mono ?_
  rintro e W2 hT
  obtain ⟨rfl, hb⟩ := hT.yes HK.out
  clear hT
  have hb2 : Below w.heap.size w W2 := below_then HB1.out hb
  have b_bx2 := B1_bx.out.below hb B1_bx.out.lt
  have hz2 := hb.size
  have HB2 := Lib.hid hb2
  have B2_bx := Lib.hid b_bx2
  clear hb2 b_bx2
  clear B1_bx HB1
  go_wp2_with fail
  refine (nameMay_any s _ hs).mono ?_
  rintro e W3 hT
  obtain ⟨rfl, hb⟩ := hT.yes HN.out
  clear hT
  have hb3 : Below w.heap.size w W3 := below_then HB2.out hb
  have b_bx3 := B2_bx.out.below hb B2_bx.out.lt
  have hz3 := hb.size
  have HB3 := Lib.hid hb3
  have B3_bx := Lib.hid b_bx3
  clear hb3 b_bx3
  clear B2_bx HB2
  go_wp2
  go_ret
  exact ⟨rfl, HB3.out⟩
theorem groupFault_any (v : Value) (g : GroupD) (s : ByteArray) (n : Int) (w : World) (h : Gv w v g) (hnm : ∀ t ∈ g.mems, t.name.size ≤ 9223372036854775807) (hs : s.size ≤ 9223372036854775807) (hf : NameFaultM g s n ∨ (GroupOk g ∧ NameOk s ∧ n = 0)) :
    Calls Try.prog 89 #[v, .string s] w fun e w' => e = .returned (.int .i64 n) ∧ Below w.heap.size w w' := by
  rcases hf with (⟨h1, rfl⟩ | ⟨h1, h2, rfl⟩) | ⟨h1, h2, rfl⟩
  · exact groupFault_state v g s h1 w h hnm hs
  · exact groupFault_form v g s h1 h2 w h hnm hs
  · exact groupFault_good v g s h1 h2 w h hnm hs
set_option maxRecDepth 100000 in
set_option maxHeartbeats 4000000 in
theorem gfind_state (v : Value) (g : GroupD) (s : ByteArray) (hk : ¬ GroupOk g) (w : World) (h : Gv w v g) : Calls Try.prog 87 #[v, .string s] w (RefusesM 12 w) := by
  obtain ⟨mv, ov, rfl, hx, hy, hl1, hl2⟩ := id h
  obtain ⟨A, m, rfl, -⟩ := hx.at_
  obtain ⟨A', m', rfl, -⟩ := hy.at_
  have H := Lib.hid h
  have HX := Lib.hid hx
  have HY := Lib.hid hy
  clear h hx hy
  unfold groupV at *
  obtain ⟨ck, wt, gn, ms, os⟩ := g
  simp only at *
  have HK := Lib.hid hk
  clear hk
  go_enter Try.func87, Try.ntmps87
  go_wp2_with fail
  have hb1 : Below w.heap.size w (((w.alloc (.cells #[.int .i64 ck, .int .i64 wt, .int .i64 gn, .slice A ms.length m, .slice A' os.length m'] 36)).alloc (.cells #[.string s] 9)).alloc (.cells #[.int .i64 0, .int .i64 0, .int .i64 0, .slice none 0 0, .slice none 0 0] 36)) := (((Below.refl _ _).alloc (by first | omega | (simp; done) | (simp; omega)) _).alloc (by first | omega | (simp; done) | (simp; omega)) _).alloc (by first | omega | (simp; done) | (simp; omega)) _
  have hal1 : Below w.heap.size w (((w.alloc (.cells #[.int .i64 ck, .int .i64 wt, .int .i64 gn, .slice A ms.length m, .slice A' os.length m'] 36)).alloc (.cells #[.string s] 9)).alloc (.cells #[.int .i64 0, .int .i64 0, .int .i64 0, .slice none 0 0, .slice none 0 0] 36)) := (((Below.refl _ _).alloc (by first | omega | (simp; done) | (simp; omega)) _).alloc (by first | omega | (simp; done) | (simp; omega)) _).alloc (by first | omega | (simp; done) | (simp; omega)) _
  have b_bx1 : Blk (((w.alloc (.cells #[.int .i64 ck, .int .i64 wt, .int .i64 gn, .slice A ms.length m, .slice A' os.length m'] 36)).alloc (.cells #[.string s] 9)).alloc (.cells #[.int .i64 0, .int .i64 0, .int .i64 0, .slice none 0 0, .slice none 0 0] 36)) (w.heap.size) 36 #[.int .i64 ck, .int .i64 wt, .int .i64 gn, .slice A ms.length m, .slice A' os.length m'] := ((Blk.new_ _ 36 #[.int .i64 ck, .int .i64 wt, .int .i64 gn, .slice A ms.length m, .slice A' os.length m'] (by first | rfl | (simp; done) | (simp; omega))).alloc _).alloc _
  have b_bs1 : Blk (((w.alloc (.cells #[.int .i64 ck, .int .i64 wt, .int .i64 gn, .slice A ms.length m, .slice A' os.length m'] 36)).alloc (.cells #[.string s] 9)).alloc (.cells #[.int .i64 0, .int .i64 0, .int .i64 0, .slice none 0 0, .slice none 0 0] 36)) (w.heap.size + 1) 9 #[.string s] := (Blk.new_ _ 9 #[.string s] (by first | rfl | (simp; done) | (simp; omega))).alloc _
  have b_bz1 : Blk (((w.alloc (.cells #[.int .i64 ck, .int .i64 wt, .int .i64 gn, .slice A ms.length m, .slice A' os.length m'] 36)).alloc (.cells #[.string s] 9)).alloc (.cells #[.int .i64 0, .int .i64 0, .int .i64 0, .slice none 0 0, .slice none 0 0] 36)) (w.heap.size + 1 + 1) 36 #[.int .i64 0, .int .i64 0, .int .i64 0, .slice none 0 0, .slice none 0 0] := Blk.new_ _ 36 #[.int .i64 0, .int .i64 0, .int .i64 0, .slice none 0 0, .slice none 0 0] (by first | rfl | (simp; done) | (simp; omega))
  have hz1 : w.heap.size + 3 ≤ (((w.alloc (.cells #[.int .i64 ck, .int .i64 wt, .int .i64 gn, .slice A ms.length m, .slice A' os.length m'] 36)).alloc (.cells #[.string s] 9)).alloc (.cells #[.int .i64 0, .int .i64 0, .int .i64 0, .slice none 0 0, .slice none 0 0] 36)).heap.size := by first | omega | (simp; done) | (simp; omega)
  generalize ((w.alloc (.cells #[.int .i64 ck, .int .i64 wt, .int .i64 gn, .slice A ms.length m, .slice A' os.length m'] 36)).alloc (.cells #[.string s] 9)).alloc (.cells #[.int .i64 0, .int .i64 0, .int .i64 0, .slice none 0 0, .slice none 0 0] 36) = W1 at *
  have HB1 := Lib.hid hb1
  have B1_bx := Lib.hid b_bx1
  have B1_bs := Lib.hid b_bs1
  have B1_bz := Lib.hid b_bz1
  clear hb1 b_bx1 b_bs1 b_bz1
  refine (group_check_any _ ⟨ck, wt, gn, ms, os⟩ _ (H.out.below hal1)).mono ?_
  rintro e W2 hA
  obtain ⟨rfl, hb⟩ := hA.no HK.out
  clear hA
  have hb2 : Below w.heap.size w W2 := below_then HB1.out hb
  have b_bx2 := B1_bx.out.below hb B1_bx.out.lt
  have b_bs2 := B1_bs.out.below hb B1_bs.out.lt
  have b_bz2 := B1_bz.out.below hb B1_bz.out.lt
  have hz2 := hb.size
  have HB2 := Lib.hid hb2
  have B2_bx := Lib.hid b_bx2
  have B2_bs := Lib.hid b_bs2
  have B2_bz := Lib.hid b_bz2
  clear hb2 b_bx2 b_bs2 b_bz2
  clear B1_bx B1_bs B1_bz HB1
  have c_bz0 := B2_bz.out.cell 0
  have f_bz0 := B2_bz.out.frozen 0
  have c_bz1 := B2_bz.out.cell 1
  have f_bz1 := B2_bz.out.frozen 1
  have c_bz2 := B2_bz.out.cell 2
  have f_bz2 := B2_bz.out.frozen 2
  have c_bz3 := B2_bz.out.cell 3
  have f_bz3 := B2_bz.out.frozen 3
  have c_bz4 := B2_bz.out.cell 4
  have f_bz4 := B2_bz.out.frozen 4
  have l_bz := B2_bz.out.lt
  go_wp2_with fail
  clear c_bz0 f_bz0 c_bz1 f_bz1 c_bz2 f_bz2 c_bz3 f_bz3 c_bz4 f_bz4 l_bz
  have hszF := HB2.out.size
  have hbF : Below w.heap.size w (((((W2.setCell ⟨w.heap.size + 1 + 1, 0, none⟩ (.int .i64 0)).setCell ⟨w.heap.size + 1 + 1, 1, none⟩ (.int .i64 0)).setCell ⟨w.heap.size + 1 + 1, 2, none⟩ (.int .i64 0)).setCell ⟨w.heap.size + 1 + 1, 3, none⟩ (.slice none 0 0)).setCell ⟨w.heap.size + 1 + 1, 4, none⟩ (.slice none 0 0)) := (((((HB2.out).setCell (by show w.heap.size ≤ w.heap.size + 1 + 1; omega) _).setCell (by show w.heap.size ≤ w.heap.size + 1 + 1; omega) _).setCell (by show w.heap.size ≤ w.heap.size + 1 + 1; omega) _).setCell (by show w.heap.size ≤ w.heap.size + 1 + 1; omega) _).setCell (by show w.heap.size ≤ w.heap.size + 1 + 1; omega) _
  have b_bxF : Blk (((((W2.setCell ⟨w.heap.size + 1 + 1, 0, none⟩ (.int .i64 0)).setCell ⟨w.heap.size + 1 + 1, 1, none⟩ (.int .i64 0)).setCell ⟨w.heap.size + 1 + 1, 2, none⟩ (.int .i64 0)).setCell ⟨w.heap.size + 1 + 1, 3, none⟩ (.slice none 0 0)).setCell ⟨w.heap.size + 1 + 1, 4, none⟩ (.slice none 0 0)) (w.heap.size) 36 #[.int .i64 ck, .int .i64 wt, .int .i64 gn, .slice A ms.length m, .slice A' os.length m'] := (((((B2_bx.out).far (p := ⟨w.heap.size + 1 + 1, 0, none⟩) (by show w.heap.size ≠ w.heap.size + 1 + 1; omega) _).far (p := ⟨w.heap.size + 1 + 1, 1, none⟩) (by show w.heap.size ≠ w.heap.size + 1 + 1; omega) _).far (p := ⟨w.heap.size + 1 + 1, 2, none⟩) (by show w.heap.size ≠ w.heap.size + 1 + 1; omega) _).far (p := ⟨w.heap.size + 1 + 1, 3, none⟩) (by show w.heap.size ≠ w.heap.size + 1 + 1; omega) _).far (p := ⟨w.heap.size + 1 + 1, 4, none⟩) (by show w.heap.size ≠ w.heap.size + 1 + 1; omega) _
  have b_bsF : Blk (((((W2.setCell ⟨w.heap.size + 1 + 1, 0, none⟩ (.int .i64 0)).setCell ⟨w.heap.size + 1 + 1, 1, none⟩ (.int .i64 0)).setCell ⟨w.heap.size + 1 + 1, 2, none⟩ (.int .i64 0)).setCell ⟨w.heap.size + 1 + 1, 3, none⟩ (.slice none 0 0)).setCell ⟨w.heap.size + 1 + 1, 4, none⟩ (.slice none 0 0)) (w.heap.size + 1) 9 #[.string s] := (((((B2_bs.out).far (p := ⟨w.heap.size + 1 + 1, 0, none⟩) (by show w.heap.size + 1 ≠ w.heap.size + 1 + 1; omega) _).far (p := ⟨w.heap.size + 1 + 1, 1, none⟩) (by show w.heap.size + 1 ≠ w.heap.size + 1 + 1; omega) _).far (p := ⟨w.heap.size + 1 + 1, 2, none⟩) (by show w.heap.size + 1 ≠ w.heap.size + 1 + 1; omega) _).far (p := ⟨w.heap.size + 1 + 1, 3, none⟩) (by show w.heap.size + 1 ≠ w.heap.size + 1 + 1; omega) _).far (p := ⟨w.heap.size + 1 + 1, 4, none⟩) (by show w.heap.size + 1 ≠ w.heap.size + 1 + 1; omega) _
  have b_bzF : Blk (((((W2.setCell ⟨w.heap.size + 1 + 1, 0, none⟩ (.int .i64 0)).setCell ⟨w.heap.size + 1 + 1, 1, none⟩ (.int .i64 0)).setCell ⟨w.heap.size + 1 + 1, 2, none⟩ (.int .i64 0)).setCell ⟨w.heap.size + 1 + 1, 3, none⟩ (.slice none 0 0)).setCell ⟨w.heap.size + 1 + 1, 4, none⟩ (.slice none 0 0)) (w.heap.size + 1 + 1) 36 #[.int .i64 0, .int .i64 0, .int .i64 0, .slice none 0 0, .slice none 0 0] := (((((B2_bz.out).set_ 0 _).set_ 1 _).set_ 2 _).set_ 3 _).set_ 4 _
  have y0 := b_bzF.cell 0
  have y1 := b_bzF.cell 1
  have y2 := b_bzF.cell 2
  have y3 := b_bzF.cell 3
  have y4 := b_bzF.cell 4
  exact bodyPost_ret (v := .tuple #[.agg #[.int .i64 0, .int .i64 0, .int .i64 0, .slice none 0 0, .slice none 0 0], .int .i64 0, .int .i64 12]) (by simp [results, Try.results87, go_sem, y0, y1, y2, y3, y4]) rfl (⟨rfl, hbF⟩)
set_option maxRecDepth 100000 in
set_option maxHeartbeats 4000000 in
theorem gfind_form (v : Value) (g : GroupD) (s : ByteArray) (hk : GroupOk g) (hn : ¬ NameOk s) (w : World) (h : Gv w v g) : Calls Try.prog 87 #[v, .string s] w (RefusesM 4 w) := by
  obtain ⟨mv, ov, rfl, hx, hy, hl1, hl2⟩ := id h
  obtain ⟨A, m, rfl, -⟩ := hx.at_
  obtain ⟨A', m', rfl, -⟩ := hy.at_
  have H := Lib.hid h
  have HX := Lib.hid hx
  have HY := Lib.hid hy
  clear h hx hy
  unfold groupV at *
  obtain ⟨ck, wt, gn, ms, os⟩ := g
  simp only at *
  have HK := Lib.hid hk
  have HN := Lib.hid hn
  clear hk hn
  go_enter Try.func87, Try.ntmps87
  go_wp2_with fail
  have hb1 : Below w.heap.size w (((w.alloc (.cells #[.int .i64 ck, .int .i64 wt, .int .i64 gn, .slice A ms.length m, .slice A' os.length m'] 36)).alloc (.cells #[.string s] 9)).alloc (.cells #[.int .i64 0, .int .i64 0, .int .i64 0, .slice none 0 0, .slice none 0 0] 36)) := (((Below.refl _ _).alloc (by first | omega | (simp; done) | (simp; omega)) _).alloc (by first | omega | (simp; done) | (simp; omega)) _).alloc (by first | omega | (simp; done) | (simp; omega)) _
  have hal1 : Below w.heap.size w (((w.alloc (.cells #[.int .i64 ck, .int .i64 wt, .int .i64 gn, .slice A ms.length m, .slice A' os.length m'] 36)).alloc (.cells #[.string s] 9)).alloc (.cells #[.int .i64 0, .int .i64 0, .int .i64 0, .slice none 0 0, .slice none 0 0] 36)) := (((Below.refl _ _).alloc (by first | omega | (simp; done) | (simp; omega)) _).alloc (by first | omega | (simp; done) | (simp; omega)) _).alloc (by first | omega | (simp; done) | (simp; omega)) _
  have b_bx1 : Blk (((w.alloc (.cells #[.int .i64 ck, .int .i64 wt, .int .i64 gn, .slice A ms.length m, .slice A' os.length m'] 36)).alloc (.cells #[.string s] 9)).alloc (.cells #[.int .i64 0, .int .i64 0, .int .i64 0, .slice none 0 0, .slice none 0 0] 36)) (w.heap.size) 36 #[.int .i64 ck, .int .i64 wt, .int .i64 gn, .slice A ms.length m, .slice A' os.length m'] := ((Blk.new_ _ 36 #[.int .i64 ck, .int .i64 wt, .int .i64 gn, .slice A ms.length m, .slice A' os.length m'] (by first | rfl | (simp; done) | (simp; omega))).alloc _).alloc _
  have b_bs1 : Blk (((w.alloc (.cells #[.int .i64 ck, .int .i64 wt, .int .i64 gn, .slice A ms.length m, .slice A' os.length m'] 36)).alloc (.cells #[.string s] 9)).alloc (.cells #[.int .i64 0, .int .i64 0, .int .i64 0, .slice none 0 0, .slice none 0 0] 36)) (w.heap.size + 1) 9 #[.string s] := (Blk.new_ _ 9 #[.string s] (by first | rfl | (simp; done) | (simp; omega))).alloc _
  have b_bz1 : Blk (((w.alloc (.cells #[.int .i64 ck, .int .i64 wt, .int .i64 gn, .slice A ms.length m, .slice A' os.length m'] 36)).alloc (.cells #[.string s] 9)).alloc (.cells #[.int .i64 0, .int .i64 0, .int .i64 0, .slice none 0 0, .slice none 0 0] 36)) (w.heap.size + 1 + 1) 36 #[.int .i64 0, .int .i64 0, .int .i64 0, .slice none 0 0, .slice none 0 0] := Blk.new_ _ 36 #[.int .i64 0, .int .i64 0, .int .i64 0, .slice none 0 0, .slice none 0 0] (by first | rfl | (simp; done) | (simp; omega))
  have hz1 : w.heap.size + 3 ≤ (((w.alloc (.cells #[.int .i64 ck, .int .i64 wt, .int .i64 gn, .slice A ms.length m, .slice A' os.length m'] 36)).alloc (.cells #[.string s] 9)).alloc (.cells #[.int .i64 0, .int .i64 0, .int .i64 0, .slice none 0 0, .slice none 0 0] 36)).heap.size := by first | omega | (simp; done) | (simp; omega)
  generalize ((w.alloc (.cells #[.int .i64 ck, .int .i64 wt, .int .i64 gn, .slice A ms.length m, .slice A' os.length m'] 36)).alloc (.cells #[.string s] 9)).alloc (.cells #[.int .i64 0, .int .i64 0, .int .i64 0, .slice none 0 0, .slice none 0 0] 36) = W1 at *
  have HB1 := Lib.hid hb1
  have B1_bx := Lib.hid b_bx1
  have B1_bs := Lib.hid b_bs1
  have B1_bz := Lib.hid b_bz1
  clear hb1 b_bx1 b_bs1 b_bz1
  refine (group_check_any _ ⟨ck, wt, gn, ms, os⟩ _ (H.out.below hal1)).mono ?_
  rintro e W2 hA
  obtain ⟨rfl, hb⟩ := hA.yes HK.out
  clear hA
  have hb2 : Below w.heap.size w W2 := below_then HB1.out hb
  have b_bx2 := B1_bx.out.below hb B1_bx.out.lt
  have b_bs2 := B1_bs.out.below hb B1_bs.out.lt
  have b_bz2 := B1_bz.out.below hb B1_bz.out.lt
  have hz2 := hb.size
  have HB2 := Lib.hid hb2
  have B2_bx := Lib.hid b_bx2
  have B2_bs := Lib.hid b_bs2
  have B2_bz := Lib.hid b_bz2
  clear hb2 b_bx2 b_bs2 b_bz2
  clear B1_bx B1_bs B1_bz HB1
  have c_bs0 := B2_bs.out.cell 0
  have l_bs := B2_bs.out.lt
  go_wp2_with fail
  clear c_bs0 l_bs
  refine (group_name_any s _).mono ?_
  rintro e W3 hT
  obtain ⟨rfl, hb⟩ := hT.no HN.out
  clear hT
  have hb3 : Below w.heap.size w W3 := below_then HB2.out hb
  have b_bx3 := B2_bx.out.below hb B2_bx.out.lt
  have b_bs3 := B2_bs.out.below hb B2_bs.out.lt
  have b_bz3 := B2_bz.out.below hb B2_bz.out.lt
  have hz3 := hb.size
  have HB3 := Lib.hid hb3
  have B3_bx := Lib.hid b_bx3
  have B3_bs := Lib.hid b_bs3
  have B3_bz := Lib.hid b_bz3
  clear hb3 b_bx3 b_bs3 b_bz3
  clear B2_bx B2_bs B2_bz HB2
  have c_bz0 := B3_bz.out.cell 0
  have f_bz0 := B3_bz.out.frozen 0
  have c_bz1 := B3_bz.out.cell 1
  have f_bz1 := B3_bz.out.frozen 1
  have c_bz2 := B3_bz.out.cell 2
  have f_bz2 := B3_bz.out.frozen 2
  have c_bz3 := B3_bz.out.cell 3
  have f_bz3 := B3_bz.out.frozen 3
  have c_bz4 := B3_bz.out.cell 4
  have f_bz4 := B3_bz.out.frozen 4
  have l_bz := B3_bz.out.lt
  go_wp2_with fail
  clear c_bz0 f_bz0 c_bz1 f_bz1 c_bz2 f_bz2 c_bz3 f_bz3 c_bz4 f_bz4 l_bz
  have hszF := HB3.out.size
  have hbF : Below w.heap.size w (((((W3.setCell ⟨w.heap.size + 1 + 1, 0, none⟩ (.int .i64 0)).setCell ⟨w.heap.size + 1 + 1, 1, none⟩ (.int .i64 0)).setCell ⟨w.heap.size + 1 + 1, 2, none⟩ (.int .i64 0)).setCell ⟨w.heap.size + 1 + 1, 3, none⟩ (.slice none 0 0)).setCell ⟨w.heap.size + 1 + 1, 4, none⟩ (.slice none 0 0)) := (((((HB3.out).setCell (by show w.heap.size ≤ w.heap.size + 1 + 1; omega) _).setCell (by show w.heap.size ≤ w.heap.size + 1 + 1; omega) _).setCell (by show w.heap.size ≤ w.heap.size + 1 + 1; omega) _).setCell (by show w.heap.size ≤ w.heap.size + 1 + 1; omega) _).setCell (by show w.heap.size ≤ w.heap.size + 1 + 1; omega) _
  have b_bxF : Blk (((((W3.setCell ⟨w.heap.size + 1 + 1, 0, none⟩ (.int .i64 0)).setCell ⟨w.heap.size + 1 + 1, 1, none⟩ (.int .i64 0)).setCell ⟨w.heap.size + 1 + 1, 2, none⟩ (.int .i64 0)).setCell ⟨w.heap.size + 1 + 1, 3, none⟩ (.slice none 0 0)).setCell ⟨w.heap.size + 1 + 1, 4, none⟩ (.slice none 0 0)) (w.heap.size) 36 #[.int .i64 ck, .int .i64 wt, .int .i64 gn, .slice A ms.length m, .slice A' os.length m'] := (((((B3_bx.out).far (p := ⟨w.heap.size + 1 + 1, 0, none⟩) (by show w.heap.size ≠ w.heap.size + 1 + 1; omega) _).far (p := ⟨w.heap.size + 1 + 1, 1, none⟩) (by show w.heap.size ≠ w.heap.size + 1 + 1; omega) _).far (p := ⟨w.heap.size + 1 + 1, 2, none⟩) (by show w.heap.size ≠ w.heap.size + 1 + 1; omega) _).far (p := ⟨w.heap.size + 1 + 1, 3, none⟩) (by show w.heap.size ≠ w.heap.size + 1 + 1; omega) _).far (p := ⟨w.heap.size + 1 + 1, 4, none⟩) (by show w.heap.size ≠ w.heap.size + 1 + 1; omega) _
  have b_bsF : Blk (((((W3.setCell ⟨w.heap.size + 1 + 1, 0, none⟩ (.int .i64 0)).setCell ⟨w.heap.size + 1 + 1, 1, none⟩ (.int .i64 0)).setCell ⟨w.heap.size + 1 + 1, 2, none⟩ (.int .i64 0)).setCell ⟨w.heap.size + 1 + 1, 3, none⟩ (.slice none 0 0)).setCell ⟨w.heap.size + 1 + 1, 4, none⟩ (.slice none 0 0)) (w.heap.size + 1) 9 #[.string s] := (((((B3_bs.out).far (p := ⟨w.heap.size + 1 + 1, 0, none⟩) (by show w.heap.size + 1 ≠ w.heap.size + 1 + 1; omega) _).far (p := ⟨w.heap.size + 1 + 1, 1, none⟩) (by show w.heap.size + 1 ≠ w.heap.size + 1 + 1; omega) _).far (p := ⟨w.heap.size + 1 + 1, 2, none⟩) (by show w.heap.size + 1 ≠ w.heap.size + 1 + 1; omega) _).far (p := ⟨w.heap.size + 1 + 1, 3, none⟩) (by show w.heap.size + 1 ≠ w.heap.size + 1 + 1; omega) _).far (p := ⟨w.heap.size + 1 + 1, 4, none⟩) (by show w.heap.size + 1 ≠ w.heap.size + 1 + 1; omega) _
  have b_bzF : Blk (((((W3.setCell ⟨w.heap.size + 1 + 1, 0, none⟩ (.int .i64 0)).setCell ⟨w.heap.size + 1 + 1, 1, none⟩ (.int .i64 0)).setCell ⟨w.heap.size + 1 + 1, 2, none⟩ (.int .i64 0)).setCell ⟨w.heap.size + 1 + 1, 3, none⟩ (.slice none 0 0)).setCell ⟨w.heap.size + 1 + 1, 4, none⟩ (.slice none 0 0)) (w.heap.size + 1 + 1) 36 #[.int .i64 0, .int .i64 0, .int .i64 0, .slice none 0 0, .slice none 0 0] := (((((B3_bz.out).set_ 0 _).set_ 1 _).set_ 2 _).set_ 3 _).set_ 4 _
  have y0 := b_bzF.cell 0
  have y1 := b_bzF.cell 1
  have y2 := b_bzF.cell 2
  have y3 := b_bzF.cell 3
  have y4 := b_bzF.cell 4
  exact bodyPost_ret (v := .tuple #[.agg #[.int .i64 0, .int .i64 0, .int .i64 0, .slice none 0 0, .slice none 0 0], .int .i64 0, .int .i64 4]) (by simp [results, Try.results87, go_sem, y0, y1, y2, y3, y4]) rfl (⟨rfl, hbF⟩)
theorem gfind_fault (v : Value) (g : GroupD) (s : ByteArray) (n : Int) (w : World) (h : Gv w v g) (hf : NameFaultM g s n) : Calls Try.prog 87 #[v, .string s] w (RefusesM n w) := by
  rcases hf with ⟨h1, rfl⟩ | ⟨h1, h2, rfl⟩
  · exact gfind_state v g s h1 w h
  · exact gfind_form v g s h1 h2 w h
set_option maxRecDepth 100000 in
set_option maxHeartbeats 4000000 in
theorem gfind_good (v : Value) (g : GroupD) (s : ByteArray) (w : World) (h : Gv w v g) (hk : GroupOk g) (hn : NameOk s) : Calls Try.prog 87 #[v, .string s] w (FoundM g (ixM g.mems s) w) := by
  obtain ⟨⟨k1, k2, k3⟩, -⟩ := hk.bounds
  have k4 := hk.many
  obtain ⟨mv, ov, rfl, hx, hy, hl1, hl2⟩ := id h
  obtain ⟨A, m, rfl, -⟩ := hx.at_
  obtain ⟨A', m', rfl, -⟩ := hy.at_
  have H := Lib.hid h
  have HX := Lib.hid hx
  have HY := Lib.hid hy
  clear h hx hy
  unfold groupV at *
  obtain ⟨ck, wt, gn, ms, os⟩ := g
  simp only at *
  have HK := Lib.hid hk
  have HN := Lib.hid hn
  have K2 := Lib.hid k2
  clear hk hn k2
  go_enter Try.func87, Try.ntmps87
  go_wp2_with fail
  have hb1 : Below w.heap.size w (((w.alloc (.cells #[.int .i64 ck, .int .i64 wt, .int .i64 gn, .slice A ms.length m, .slice A' os.length m'] 36)).alloc (.cells #[.string s] 9)).alloc (.cells #[.int .i64 0, .int .i64 0, .int .i64 0, .slice none 0 0, .slice none 0 0] 36)) := (((Below.refl _ _).alloc (by first | omega | (simp; done) | (simp; omega)) _).alloc (by first | omega | (simp; done) | (simp; omega)) _).alloc (by first | omega | (simp; done) | (simp; omega)) _
  have hal1 : Below w.heap.size w (((w.alloc (.cells #[.int .i64 ck, .int .i64 wt, .int .i64 gn, .slice A ms.length m, .slice A' os.length m'] 36)).alloc (.cells #[.string s] 9)).alloc (.cells #[.int .i64 0, .int .i64 0, .int .i64 0, .slice none 0 0, .slice none 0 0] 36)) := (((Below.refl _ _).alloc (by first | omega | (simp; done) | (simp; omega)) _).alloc (by first | omega | (simp; done) | (simp; omega)) _).alloc (by first | omega | (simp; done) | (simp; omega)) _
  have b_bx1 : Blk (((w.alloc (.cells #[.int .i64 ck, .int .i64 wt, .int .i64 gn, .slice A ms.length m, .slice A' os.length m'] 36)).alloc (.cells #[.string s] 9)).alloc (.cells #[.int .i64 0, .int .i64 0, .int .i64 0, .slice none 0 0, .slice none 0 0] 36)) (w.heap.size) 36 #[.int .i64 ck, .int .i64 wt, .int .i64 gn, .slice A ms.length m, .slice A' os.length m'] := ((Blk.new_ _ 36 #[.int .i64 ck, .int .i64 wt, .int .i64 gn, .slice A ms.length m, .slice A' os.length m'] (by first | rfl | (simp; done) | (simp; omega))).alloc _).alloc _
  have b_bs1 : Blk (((w.alloc (.cells #[.int .i64 ck, .int .i64 wt, .int .i64 gn, .slice A ms.length m, .slice A' os.length m'] 36)).alloc (.cells #[.string s] 9)).alloc (.cells #[.int .i64 0, .int .i64 0, .int .i64 0, .slice none 0 0, .slice none 0 0] 36)) (w.heap.size + 1) 9 #[.string s] := (Blk.new_ _ 9 #[.string s] (by first | rfl | (simp; done) | (simp; omega))).alloc _
  have b_bz1 : Blk (((w.alloc (.cells #[.int .i64 ck, .int .i64 wt, .int .i64 gn, .slice A ms.length m, .slice A' os.length m'] 36)).alloc (.cells #[.string s] 9)).alloc (.cells #[.int .i64 0, .int .i64 0, .int .i64 0, .slice none 0 0, .slice none 0 0] 36)) (w.heap.size + 1 + 1) 36 #[.int .i64 0, .int .i64 0, .int .i64 0, .slice none 0 0, .slice none 0 0] := Blk.new_ _ 36 #[.int .i64 0, .int .i64 0, .int .i64 0, .slice none 0 0, .slice none 0 0] (by first | rfl | (simp; done) | (simp; omega))
  have hz1 : w.heap.size + 3 ≤ (((w.alloc (.cells #[.int .i64 ck, .int .i64 wt, .int .i64 gn, .slice A ms.length m, .slice A' os.length m'] 36)).alloc (.cells #[.string s] 9)).alloc (.cells #[.int .i64 0, .int .i64 0, .int .i64 0, .slice none 0 0, .slice none 0 0] 36)).heap.size := by first | omega | (simp; done) | (simp; omega)
  generalize ((w.alloc (.cells #[.int .i64 ck, .int .i64 wt, .int .i64 gn, .slice A ms.length m, .slice A' os.length m'] 36)).alloc (.cells #[.string s] 9)).alloc (.cells #[.int .i64 0, .int .i64 0, .int .i64 0, .slice none 0 0, .slice none 0 0] 36) = W1 at *
  have HB1 := Lib.hid hb1
  have B1_bx := Lib.hid b_bx1
  have B1_bs := Lib.hid b_bs1
  have B1_bz := Lib.hid b_bz1
  clear hb1 b_bx1 b_bs1 b_bz1
  refine (group_check_any _ ⟨ck, wt, gn, ms, os⟩ _ (H.out.below hal1)).mono ?_
  rintro e W2 hA
  obtain ⟨rfl, hb⟩ := hA.yes HK.out
  clear hA
  have hb2 : Below w.heap.size w W2 := below_then HB1.out hb
  have b_bx2 := B1_bx.out.below hb B1_bx.out.lt
  have b_bs2 := B1_bs.out.below hb B1_bs.out.lt
  have b_bz2 := B1_bz.out.below hb B1_bz.out.lt
  have hz2 := hb.size
  have HB2 := Lib.hid hb2
  have B2_bx := Lib.hid b_bx2
  have B2_bs := Lib.hid b_bs2
  have B2_bz := Lib.hid b_bz2
  clear hb2 b_bx2 b_bs2 b_bz2
  clear B1_bx B1_bs B1_bz HB1
  have c_bs0 := B2_bs.out.cell 0
  have l_bs := B2_bs.out.lt
  go_wp2_with fail
  clear c_bs0 l_bs
  refine (group_name_any s _).mono ?_
  rintro e W3 hT
  obtain ⟨rfl, hb⟩ := hT.yes HN.out
  clear hT
  have hb3 : Below w.heap.size w W3 := below_then HB2.out hb
  have b_bx3 := B2_bx.out.below hb B2_bx.out.lt
  have b_bs3 := B2_bs.out.below hb B2_bs.out.lt
  have b_bz3 := B2_bz.out.below hb B2_bz.out.lt
  have hz3 := hb.size
  have HB3 := Lib.hid hb3
  have B3_bx := Lib.hid b_bx3
  have B3_bs := Lib.hid b_bs3
  have B3_bz := Lib.hid b_bz3
  clear hb3 b_bx3 b_bs3 b_bz3
  clear B2_bx B2_bs B2_bz HB2
  have c_bx0 := B3_bx.out.cell 0
  have c_bx1 := B3_bx.out.cell 1
  have c_bx2 := B3_bx.out.cell 2
  have c_bx3 := B3_bx.out.cell 3
  have c_bx4 := B3_bx.out.cell 4
  have l_bx := B3_bx.out.lt
  have c_bs0 := B3_bs.out.cell 0
  have l_bs := B3_bs.out.lt
  have hbd : Below W3.heap.size W3 W3.drew := (Below.refl _ _).drew
  go_wp2_with fail
  go_region_with (first | (go_at_call 30; refine (groupCopy_any _ ⟨ck, wt, gn, ms, os⟩ _ (H.out.below (below_then HB3.out hbd)) k1 K2.out k3).mono ?_; rintro e w5 ⟨mv5, ov5, rows, rfl, hown, hoff, hb5⟩; obtain ⟨A5, c5, rfl, hc5⟩ := (Sl.of_own hown.own).form; obtain ⟨B5, d5, rfl, hd5⟩ := (Sl.of_own hoff).form; have hA := below_then hbd hb5; have bx5 := B3_bx.out.below hA B3_bx.out.lt; have bs5 := B3_bs.out.below hA B3_bs.out.lt; have bz5 := B3_bz.out.below hA B3_bz.out.lt; have q3 := bx5.cell 3; have ql := bx5.lt; have r0 := bs5.cell 0; have rl := bs5.lt; unfold groupV) | (go_at_call 111; refine (findm_idx ms A m s (w.heap.size + 1) w5 (HX.out.below (below_then HB3.out hA)) k4 rl r0).mono ?_; rintro e w6 ⟨rfl, hb6⟩; have bz6 := bz5.below hb6 bz5.lt; have z0 : w6.cell? ⟨w.heap.size + 1 + 1, 0, none⟩ = some (.int .i64 0) := bz6.cell 0; have z1 : w6.cell? ⟨w.heap.size + 1 + 1, 1, none⟩ = some (.int .i64 0) := bz6.cell 1; have z2 : w6.cell? ⟨w.heap.size + 1 + 1, 2, none⟩ = some (.int .i64 0) := bz6.cell 2; have z3 : w6.cell? ⟨w.heap.size + 1 + 1, 3, none⟩ = some (.slice none 0 0) := bz6.cell 3; have z4 : w6.cell? ⟨w.heap.size + 1 + 1, 4, none⟩ = some (.slice none 0 0) := bz6.cell 4; have zf0 : w6.frozen? ⟨w.heap.size + 1 + 1, 0, none⟩ = false := bz6.frozen 0; have zf1 : w6.frozen? ⟨w.heap.size + 1 + 1, 1, none⟩ = false := bz6.frozen 1; have zf2 : w6.frozen? ⟨w.heap.size + 1 + 1, 2, none⟩ = false := bz6.frozen 2; have zf3 : w6.frozen? ⟨w.heap.size + 1 + 1, 3, none⟩ = false := bz6.frozen 3; have zf4 : w6.frozen? ⟨w.heap.size + 1 + 1, 4, none⟩ = false := bz6.frozen 4; have zl : w.heap.size + 1 + 1 < w6.heap.size := bz6.lt))
  all_goals go_wp2
  all_goals
    have hw6 := below_then (below_then HB3.out hA) hb6
    have hsz : w.heap.size + 1 + 1 < W3.drew.heap.size := Nat.lt_of_lt_of_le B3_bz.out.lt hbd.size
    have hsw : w.heap.size ≤ w.heap.size + 1 + 1 := by omega
    have hun := (hown.rebase (w0 := w) rfl (Nat.le_refl _) (below_then HB3.out hA)).keep hb6
    have hof := own_keep hoff hb6 (fun b hb => (hoff.lt b hb).2)
    have HO5 := (((((hun).under (a := ⟨w.heap.size + 1 + 1, 0, none⟩) ⟨hsz, hsw⟩ (.int .i64 ck)).under (a := ⟨w.heap.size + 1 + 1, 1, none⟩) ⟨hsz, hsw⟩ (.int .i64 wt)).under (a := ⟨w.heap.size + 1 + 1, 2, none⟩) ⟨hsz, hsw⟩ (.int .i64 gn)).under (a := ⟨w.heap.size + 1 + 1, 3, none⟩) ⟨hsz, hsw⟩ (.slice A5 ms.length c5)).under (a := ⟨w.heap.size + 1 + 1, 4, none⟩) ⟨hsz, hsw⟩ (.slice B5 os.length d5)
    have HF5 := ownsRow_setCell_below (ownsRow_setCell_below (ownsRow_setCell_below (ownsRow_setCell_below (ownsRow_setCell_below (hof) (a := ⟨w.heap.size + 1 + 1, 0, none⟩) hsz (.int .i64 ck)) (a := ⟨w.heap.size + 1 + 1, 1, none⟩) hsz (.int .i64 wt)) (a := ⟨w.heap.size + 1 + 1, 2, none⟩) hsz (.int .i64 gn)) (a := ⟨w.heap.size + 1 + 1, 3, none⟩) hsz (.slice A5 ms.length c5)) (a := ⟨w.heap.size + 1 + 1, 4, none⟩) hsz (.slice B5 os.length d5)
    have HB5 := (((((bz6).set_ 0 (.int .i64 ck)).set_ 1 (.int .i64 wt)).set_ 2 (.int .i64 gn)).set_ 3 (.slice A5 ms.length c5)).set_ 4 (.slice B5 os.length d5)
    have HL5 : Below w.heap.size w (((((w6.setCell ⟨w.heap.size + 1 + 1, 0, none⟩ (.int .i64 ck)).setCell ⟨w.heap.size + 1 + 1, 1, none⟩ (.int .i64 wt)).setCell ⟨w.heap.size + 1 + 1, 2, none⟩ (.int .i64 gn)).setCell ⟨w.heap.size + 1 + 1, 3, none⟩ (.slice A5 ms.length c5)).setCell ⟨w.heap.size + 1 + 1, 4, none⟩ (.slice B5 os.length d5)) := (((((hw6).setCell hsw _).setCell hsw _).setCell hsw _).setCell hsw _).setCell hsw _
    generalize (((((w6.setCell ⟨w.heap.size + 1 + 1, 0, none⟩ (.int .i64 ck)).setCell ⟨w.heap.size + 1 + 1, 1, none⟩ (.int .i64 wt)).setCell ⟨w.heap.size + 1 + 1, 2, none⟩ (.int .i64 gn)).setCell ⟨w.heap.size + 1 + 1, 3, none⟩ (.slice A5 ms.length c5)).setCell ⟨w.heap.size + 1 + 1, 4, none⟩ (.slice B5 os.length d5)) = W5 at *
    simp only [List.setIfInBounds_toArray, List.set_cons_succ, List.set_cons_zero] at HB5
    have y0 := HB5.cell 0
    have y1 := HB5.cell 1
    have y2 := HB5.cell 2
    have y3 := HB5.cell 3
    have y4 := HB5.cell 4
    have hbase : w.heap.size ≤ W3.drew.heap.size := by have := hbd.size; have := HB3.out.size; omega
    exact bodyPost_ret (v := .tuple #[.agg #[.int .i64 ck, .int .i64 wt, .int .i64 gn, .slice A5 ms.length c5, .slice B5 os.length d5], .int .i64 (ixM ms s), .int .i64 0]) (by simp [results, Try.results87, go_sem, y0, y1, y2, y3, y4]) rfl ⟨.slice A5 ms.length c5, .slice B5 os.length d5, rows, rfl, HO5.rebase rfl hbase HL5, own_base HF5 hbase, HL5⟩

end Go.Proofs.Ytjkoceacjbhblaa
