/- coord.known, tailraceref.txnOf, coordFault, knownFault. -/
import Derived.Test.YtjkoceacjbhblaaFindB
import Derived.Test.YtjkoceacjbhblaaPutB
import Derived.Test.YtjkoceacjbhblaaMayB
namespace Go.Proofs.Ytjkoceacjbhblaa
open Go.RowKit

/-- the fault of a call that names a producer: n is not 0 -/
def NameFault (c : CoordD) (s : ByteArray) (n : Int) : Prop := (¬ CoordOk c ∧ n = 12) ∨ (CoordOk c ∧ ¬ NameOk s ∧ n = 4)
theorem name_fault_or (c : CoordD) (s : ByteArray) : (∃ n, NameFault c s n) ∨ (CoordOk c ∧ NameOk s) := by
  by_cases h1 : CoordOk c
  · by_cases h2 : NameOk s
    · exact Or.inr ⟨h1, h2⟩
    · exact Or.inl ⟨4, Or.inr ⟨h1, h2, rfl⟩⟩
  · exact Or.inl ⟨12, Or.inl ⟨h1, rfl⟩⟩
theorem find_fault (v : Value) (c : CoordD) (s : ByteArray) (n : Int) (w : World) (h : Cv w v c) (hf : NameFault c s n) : Calls Try.prog 84 #[v, .string s] w (Refuses n w) := by
  rcases hf with ⟨h1, rfl⟩ | ⟨h1, h2, rfl⟩
  · exact find_state v c s w h h1
  · exact find_form v c s w h h1 h2
/-- the fault of a call that names a producer and a version -/
def KnownFault (c : CoordD) (s : ByteArray) (ver n : Int) : Prop := NameFault c s n ∨ (CoordOk c ∧ NameOk s ∧ ((idxOf c.txns s = none ∧ n = 5) ∨ (∃ i, ∃ h : i < c.txns.length, idxOf c.txns s = some i ∧ c.txns[i].ver ≠ ver ∧ n = 10)))
def Known (c : CoordD) (s : ByteArray) (ver : Int) (i : Nat) : Prop := CoordOk c ∧ NameOk s ∧ idxOf c.txns s = some i ∧ ∃ h : i < c.txns.length, c.txns[i].ver = ver
theorem known_or (c : CoordD) (s : ByteArray) (ver : Int) : (∃ n, KnownFault c s ver n) ∨ ∃ i, Known c s ver i := by
  rcases name_fault_or c s with ⟨n, h⟩ | ⟨h1, h2⟩
  · exact Or.inl ⟨n, Or.inl h⟩
  · rcases hi : idxOf c.txns s with _ | i
    · exact Or.inl ⟨5, Or.inr ⟨h1, h2, Or.inl ⟨hi, rfl⟩⟩⟩
    · have hl := (ix_some hi).1
      by_cases hv : c.txns[i].ver = ver
      · exact Or.inr ⟨i, h1, h2, hi, hl, hv⟩
      · exact Or.inl ⟨10, Or.inr ⟨h1, h2, Or.inr ⟨i, hl, hi, hv, rfl⟩⟩⟩
theorem KnownFault.ne {c : CoordD} {s : ByteArray} {ver n : Int} (h : KnownFault c s ver n) : n ≠ 0 := by
  rcases h with (⟨_, rfl⟩ | ⟨_, _, rfl⟩) | ⟨_, _, ⟨_, rfl⟩ | ⟨_, _, _, _, rfl⟩⟩ <;> decide

set_option maxRecDepth 100000 in
set_option maxHeartbeats 4000000 in
theorem txnOf_any (v : Value) (c : CoordD) (s : ByteArray) (w : World) (h : Cv w v c) :
    Calls Try.prog 86 #[v, .string s] w fun e w' => e = .returned (.int .i64 (ixOf c.txns s)) ∧ Below w.heap.size w w' := by
  obtain ⟨tv, rfl, hx, hlen⟩ := h
  obtain ⟨A, m, rfl, hm, hcell⟩ := hx.at_
  have HC := Lib.hid hcell
  clear hx hcell
  unfold coordV at *
  obtain ⟨ck, nx, wt, ts⟩ := c
  simp only at *
  go_enter Try.func86, Try.ntmps86
  go_wp2
  have hbl := (Below.refl w.heap.size w).alloc (Nat.le_refl _) (.cells #[.int .i64 ck, .int .i64 nx, .int .i64 wt, .slice A ts.length m] 28)
  have bx := Blk.new w 28 #[.int .i64 ck, .int .i64 nx, .int .i64 wt, .slice A ts.length m]
  generalize w.alloc (.cells #[.int .i64 ck, .int .i64 nx, .int .i64 wt, .slice A ts.length m] 28) = W0 at *
  have HBL := Lib.hid hbl
  have HB := Lib.hid bx
  clear hbl bx
  go_loopw [5] (fun i wr => ∃ k : Nat, k ≤ ts.length ∧ i = .int .i64 k ∧ Hid (∀ j (hj : j < ts.length), j < k → ts[j].name ≠ s) ∧ Hid (Below W0.heap.size W0 wr)) (fun i _ => ts.length - (intOf i).toNat)
  case atStart => exact ⟨0, by omega, rfl, fun j _ hj => by omega, Below.refl _ _⟩
  case round =>
    obtain ⟨k, hk, rfl, HJ, HW⟩ := hrel
    have hbw := below_then HBL.out HW.out
    have bw := HB.out.below HW.out HB.out.lt
    have g3 := bw.cell 3
    have gl := bw.lt
    by_cases hlt : k < ts.length
    · obtain ⟨b, off, rfl, hb, hcell⟩ := HC.out (by omega)
      obtain ⟨pv, x0, -⟩ := hcell k hlt
      have X0 := (hbw.cell (p := ⟨b, off + k * 7, none⟩) hb).trans x0
      have i0 : (0 : Int) ≤ (k : Int) := by omega
      have i1 : (k : Int) < (ts.length : Int) := by omega
      have HBW := Lib.hid hbw
      clear x0 hcell bw hbw
      by_cases hn : ts[k].name = s
      · have m1 : (ts[k].name.toList == s.toList) = true := by simp [hn]
        have hix : ixOf ts s = k := (ix_some (idx_some hlt hn HJ.out)).2
        have HIX := Lib.hid hix
        clear hn hix
        go_wp2
        go_ret
        refine ⟨?_, HBW.out⟩
        rw [HIX.out]
        rfl
      · have m1 : (ts[k].name.toList == s.toList) = false := beq_eq_false_iff_ne.2 fun h => hn (toList_inj h)
        have hj : ∀ j (hj : j < ts.length), j < k + 1 → ts[j].name ≠ s := fun j hj hjk => by
          rcases Nat.lt_succ_iff_lt_or_eq.1 hjk with h' | rfl
          · exact HJ.out j hj h'
          · exact hn
        have HJ2 := Lib.hid hj
        clear hn hj
        go_wp2
        go_light
        exact ⟨⟨k + 1, by omega, by go_num, HJ2.out, HW.out⟩, by simp [intOf]; omega⟩
    · obtain rfl : k = ts.length := by omega
      have hix : ixOf ts s = -1 := by simp [ixOf, idx_none fun j hj => HJ.out j hj hj]
      have HIX := Lib.hid hix
      clear hix
      go_wp2
      go_ret
      refine ⟨?_, hbw⟩
      rw [HIX.out]
      rfl

/-! coordFault, knownFault, known -/
theorem own_rows {rows : List (TxnD × Value)} {ts : List TxnD} (h : rows.map Prod.fst = ts) : rows.length = ts.length := by
  rw [← h]
  simp
theorem fst_get {rows : List (TxnD × Value)} {ts : List TxnD} (h : rows.map Prod.fst = ts) {i : Nat} (hi : i < rows.length) (hi' : i < ts.length) : rows[i].1 = ts[i] := by
  subst h
  simp
theorem tells_below {P : Prop} {w w' : World} {e : Ending} (h : Tells P w e w') : Below w.heap.size w w' := by
  obtain ⟨_, _, _, h⟩ := h
  exact h
set_option maxRecDepth 100000 in
set_option maxHeartbeats 4000000 in
theorem coordFault_state (v : Value) (c : CoordD) (s : ByteArray) (w : World) (h : Cv w v c) (hnm : ∀ t ∈ c.txns, t.name.size ≤ 9223372036854775807) (hk : ¬ CoordOk c) :
    Calls Try.prog 85 #[v, .string s] w fun e w' => e = .returned (.int .i64 12) ∧ Below w.heap.size w w' := by
  obtain ⟨tv, rfl, hx, hlen⟩ := id h
  obtain ⟨A, m, rfl, -⟩ := hx.at_
  have H := Lib.hid h
  clear h hx
  unfold coordV at *
  obtain ⟨ck, nx, wt, ts⟩ := c
  simp only at *
  have HK := Lib.hid hk
  have HNM := Lib.hid hnm
  clear hk hnm
  go_enter Try.func85, Try.ntmps85
  go_wp2_with fail
  have hal := (Below.refl w.heap.size w).alloc (Nat.le_refl _) (.cells #[.int .i64 ck, .int .i64 nx, .int .i64 wt, .slice A ts.length m] 28)
  refine (coord_may_any _ ⟨ck, nx, wt, ts⟩ _ (H.out.below hal) HNM.out).mono ?_
  rintro e w1 hT
  obtain ⟨rfl, hb⟩ := hT.no HK.out
  have hb1 := below_then hal hb
  clear hT hal hb
  go_wp2
  go_ret
  exact ⟨rfl, hb1⟩
set_option maxRecDepth 100000 in
set_option maxHeartbeats 4000000 in
theorem coordFault_name (v : Value) (c : CoordD) (s : ByteArray) (w : World) (h : Cv w v c) (hnm : ∀ t ∈ c.txns, t.name.size ≤ 9223372036854775807) (hs : s.size ≤ 9223372036854775807) (hk : CoordOk c) (r : Int) (hr : NameOk s ∧ r = 0 ∨ ¬ NameOk s ∧ r = 4) :
    Calls Try.prog 85 #[v, .string s] w fun e w' => e = .returned (.int .i64 r) ∧ Below w.heap.size w w' := by
  obtain ⟨tv, rfl, hx, hlen⟩ := id h
  obtain ⟨A, m, rfl, -⟩ := hx.at_
  have H := Lib.hid h
  clear h hx
  unfold coordV at *
  obtain ⟨ck, nx, wt, ts⟩ := c
  simp only at *
  have HK := Lib.hid hk
  have HNM := Lib.hid hnm
  clear hk hnm
  rcases hr with ⟨hn, rfl⟩ | ⟨hn, rfl⟩
  all_goals have HN := Lib.hid hn
  all_goals clear hn
  all_goals go_enter Try.func85, Try.ntmps85
  all_goals go_wp2_with fail
  all_goals
    have hal := (Below.refl w.heap.size w).alloc (Nat.le_refl _) (.cells #[.int .i64 ck, .int .i64 nx, .int .i64 wt, .slice A ts.length m] 28)
    refine (coord_may_any _ ⟨ck, nx, wt, ts⟩ _ (H.out.below hal) HNM.out).mono ?_
    rintro e w1 hT
    obtain ⟨rfl, hb⟩ := hT.yes HK.out
    have hb1 := below_then hal hb
    have HB := Lib.hid hb1
    clear hT hal hb hb1
    go_wp2_with fail
    refine (nameMay_any s w1 hs).mono ?_
    rintro e w2 hT
  · obtain ⟨rfl, hb⟩ := hT.yes HN.out
    have hb2 := below_then HB.out hb
    clear hT
    go_wp2
    go_ret
    exact ⟨rfl, hb2⟩
  · obtain ⟨rfl, hb⟩ := hT.no HN.out
    have hb2 := below_then HB.out hb
    clear hT
    go_wp2
    go_ret
    exact ⟨rfl, hb2⟩
theorem coordFault_any (v : Value) (c : CoordD) (s : ByteArray) (n : Int) (w : World) (h : Cv w v c) (hnm : ∀ t ∈ c.txns, t.name.size ≤ 9223372036854775807) (hs : s.size ≤ 9223372036854775807) (hf : NameFault c s n ∨ (CoordOk c ∧ NameOk s ∧ n = 0)) :
    Calls Try.prog 85 #[v, .string s] w fun e w' => e = .returned (.int .i64 n) ∧ Below w.heap.size w w' := by
  rcases hf with (⟨h1, rfl⟩ | ⟨h1, h2, rfl⟩) | ⟨h1, h2, rfl⟩
  · exact coordFault_state v c s w h hnm h1
  · exact coordFault_name v c s w h hnm hs h1 4 (Or.inr ⟨h2, rfl⟩)
  · exact coordFault_name v c s w h hnm hs h1 0 (Or.inl ⟨h2, rfl⟩)

end Go.Proofs.Ytjkoceacjbhblaa
