/- slices.Contains at []int; tailraceref.ownsPart; what group.Where answers. -/
import Derived.Test.YtjkoceacjbhblaaGFind
namespace Go.Proofs.Ytjkoceacjbhblaa
open Go.RowKit

set_option maxRecDepth 100000 in
set_option maxHeartbeats 1000000 in
theorem index_int (v : Value) (l : List Int) (x : Int) (w : World) (h : Is w v l) (hl : l.length ≤ 9223372036854775807) :
    Calls Try.prog 116 #[v, .int .i64 x] w (Finds (fun j => ∃ h : j < l.length, l[j] = x) l.length w) := by
  obtain ⟨A, c, rfl, hc, hcell⟩ := h.at_
  have HC := Lib.hid hcell
  clear h hcell
  go_enter Try.func116, Try.ntmps116
  go_wp2
  go_loopw [5, 8] (fun _ i wr => ∃ k : Nat, k ≤ l.length ∧ i = .int .i64 k ∧ Hid (∀ j, j < k → ¬ ∃ h : j < l.length, l[j] = x) ∧ ∃ n, wr = w.drewN n) (fun _ i _ => l.length - (intOf i).toNat)
  case atStart => exact ⟨0, by omega, rfl, fun j hj => by omega, 0, rfl⟩
  case round =>
    obtain ⟨k, hk, rfl, HN, n, rfl⟩ := hrel
    have HBE := Lib.hid (below_drewN_ w n)
    by_cases hlt : k < l.length
    · obtain ⟨b, off, rfl, hb, hcell⟩ := HC.out (by omega)
      have X := hcell k hlt
      have i0 : (0 : Int) ≤ (k : Int) := by omega
      have i1 : (k : Int) < (l.length : Int) := by omega
      clear hcell
      by_cases hx : x = l[k]
      · have d : (x == l[k]) = true := by simp [hx]
        have HX := Lib.hid hx
        clear hx
        go_wp2
        go_ret
        exact ⟨_, rfl, HBE.out, Or.inl ⟨k, hlt, rfl, ⟨hlt, HX.out.symm⟩, HN.out⟩⟩
      · have d : (x == l[k]) = false := beq_eq_false_iff_ne.2 hx
        have hn : ∀ j, j < k + 1 → ¬ ∃ h : j < l.length, l[j] = x := fun j hj => by
          rcases Nat.lt_succ_iff_lt_or_eq.1 hj with h' | rfl
          · exact HN.out j h'
          · exact fun ⟨_, e⟩ => hx e.symm
        have HN2 := Lib.hid hn
        clear hx hn
        go_wp2
        go_light
        exact ⟨⟨k + 1, by omega, by go_num, HN2.out, _, rfl⟩, by simp [intOf]; omega⟩
    · obtain rfl : k = l.length := by omega
      go_wp2
      go_ret
      exact ⟨_, rfl, HBE.out, Or.inr ⟨rfl, HN.out⟩⟩
set_option maxRecDepth 100000 in
set_option maxHeartbeats 1000000 in
theorem contains_int (v : Value) (l : List Int) (x : Int) (w : World) (h : Is w v l) (hl : l.length ≤ 9223372036854775807) :
    Calls Try.prog 88 #[v, .int .i64 x] w (Tells (x ∈ l) w) := by
  obtain ⟨A, c, rfl, -⟩ := h.at_
  have H := Lib.hid h
  clear h
  go_enter Try.func88, Try.ntmps88
  go_wp2_with fail
  refine (index_int _ l x w H.out hl).mono ?_
  rintro e w1 ⟨r, rfl, hb, hr⟩
  have HB := Lib.hid hb
  clear hb
  rcases hr with ⟨k, hk, rfl, ⟨_, hx⟩, -⟩ | ⟨rfl, hn⟩
  · have i0 : (0 : Int) ≤ (k : Int) := by omega
    have hm : x ∈ l := by rw [← hx]; exact List.getElem_mem _
    have HM := Lib.hid hm
    have d : decide ((0 : Int) ≤ (k : Int)) = true := decide_eq_true i0
    clear hx hm
    go_wp2
    go_ret
    exact Tells.mk_yes HM.out HB.out
  · have hm : x ∉ l := fun h => by
      obtain ⟨j, hj, he⟩ := List.mem_iff_getElem.1 h
      exact hn j hj ⟨hj, he⟩
    have HM := Lib.hid hm
    clear hn hm
    go_wp2
    go_ret
    exact Tells.mk_no HM.out HB.out

set_option maxRecDepth 100000 in
set_option maxHeartbeats 1000000 in
theorem ownsPart_any (nm : ByteArray) (hd : Int) (v : Value) (l : List Int) (x : Int) (w : World) (h : Is w v l) (hl : l.length ≤ 9223372036854775807) :
    Calls Try.prog 90 #[.agg #[.string nm, .int .i64 hd, v], .int .i64 x] w (Tells (x ∈ l) w) := by
  obtain ⟨A, c, rfl, hc, hcell⟩ := h.at_
  have HC := Lib.hid hcell
  clear h hcell
  go_enter Try.func90, Try.ntmps90
  go_wp2
  have hbl := (Below.refl w.heap.size w).alloc (Nat.le_refl _) (.cells #[.string nm, .int .i64 hd, .slice A l.length c] 79)
  have bx := Blk.new w 79 #[.string nm, .int .i64 hd, .slice A l.length c]
  generalize w.alloc (.cells #[.string nm, .int .i64 hd, .slice A l.length c] 79) = W0 at *
  have HBL := Lib.hid hbl
  have b2 := bx.cell 2
  have bl := bx.lt
  clear hbl bx
  go_loopw [5] (fun i wr => ∃ k : Nat, k ≤ l.length ∧ i = .int .i64 k ∧ Hid (∀ j (hj : j < l.length), j < k → l[j] ≠ x) ∧ ∃ n, wr = W0.drewN n) (fun i _ => l.length - (intOf i).toNat)
  case atStart => exact ⟨0, by omega, rfl, fun j _ hj => by omega, 0, rfl⟩
  case round =>
    obtain ⟨k, hk, rfl, HN, n, rfl⟩ := hrel
    have HBE := Lib.hid (below_then HBL.out (below_drewN_ W0 n))
    by_cases hlt : k < l.length
    · obtain ⟨b, off, rfl, hb, hcell⟩ := HC.out (by omega)
      have X := (HBL.out.cell (p := ⟨b, off + k, none⟩) hb).trans (hcell k hlt)
      have i0 : (0 : Int) ≤ (k : Int) := by omega
      have i1 : (k : Int) < (l.length : Int) := by omega
      clear hcell
      by_cases hx : l[k] = x
      · have d : (l[k] == x) = true := by simp [hx]
        have hm : x ∈ l := by rw [← hx]; exact List.getElem_mem _
        have HM := Lib.hid hm
        clear hx hm
        go_wp2
        go_ret
        exact Tells.mk_yes HM.out HBE.out
      · have d : (l[k] == x) = false := beq_eq_false_iff_ne.2 hx
        have hn : ∀ j (hj : j < l.length), j < k + 1 → l[j] ≠ x := fun j hj hjk => by
          rcases Nat.lt_succ_iff_lt_or_eq.1 hjk with h' | rfl
          · exact HN.out j hj h'
          · exact hx
        have HN2 := Lib.hid hn
        clear hx hn
        go_wp2
        go_light
        exact ⟨⟨k + 1, by omega, by go_num, HN2.out, _, rfl⟩, by simp [intOf]; omega⟩
    · obtain rfl : k = l.length := by omega
      have hm : x ∉ l := fun h => by
        obtain ⟨j, hj, he⟩ := List.mem_iff_getElem.1 h
        exact HN.out j hj hj he
      have HM := Lib.hid hm
      clear hm
      go_wp2
      go_ret
      exact Tells.mk_no HM.out HBE.out

/-! Where -/
def whereOf (os : List OffD) (p : Int) : Int := match os.find? fun o => decide (o.part = p) with | some o => o.at_ | none => 0
theorem where_hit {os : List OffD} {p : Int} {k : Nat} (hk : k < os.length) (h : os[k].part = p) (hn : ∀ j (hj : j < os.length), j < k → os[j].part ≠ p) : whereOf os p = os[k].at_ := by
  have : os.find? (fun o => decide (o.part = p)) = some os[k] := by
    rw [List.find?_eq_some_iff_getElem]
    exact ⟨by simpa using h, k, hk, rfl, fun j hj => by simpa using hn j (by omega) hj⟩
  unfold whereOf
  rw [this]
theorem where_zero {os : List OffD} {p : Int} (hn : ∀ j (hj : j < os.length), os[j].part ≠ p) : whereOf os p = 0 := by
  have : os.find? (fun o => decide (o.part = p)) = none := by
    rw [List.find?_eq_none]
    intro o ho
    obtain ⟨j, hj, rfl⟩ := List.mem_iff_getElem.1 ho
    simpa using hn j hj
  unfold whereOf
  rw [this]
def WhereTo (g : GroupD) (s : ByteArray) (p : Int) (r0 r1 : Int) : Prop :=
  (NameFaultM g s r1 ∧ r0 = 0) ∨ (GroupOk g ∧ NameOk s ∧ ((idxM g.mems s = none ∧ r0 = 0 ∧ r1 = 5) ∨ ∃ i, idxM g.mems s = some i ∧ ∃ h : i < g.mems.length, (p ∉ g.mems[i].parts ∧ r0 = 0 ∧ r1 = 12) ∨ (p ∈ g.mems[i].parts ∧ r0 = whereOf g.offs p ∧ r1 = 0)))
theorem where_to (g : GroupD) (s : ByteArray) (p : Int) : ∃ r0 r1, WhereTo g s p r0 r1 := by
  rcases name_faultM_or g s with ⟨n, h⟩ | ⟨h1, h2⟩
  · exact ⟨_, n, Or.inl ⟨h, rfl⟩⟩
  · rcases hi : idxM g.mems s with _ | i
    · exact ⟨_, _, Or.inr ⟨h1, h2, Or.inl ⟨hi, rfl, rfl⟩⟩⟩
    · have hl := (ixM_some hi).1
      by_cases hp : p ∈ g.mems[i].parts
      · exact ⟨_, _, Or.inr ⟨h1, h2, Or.inr ⟨i, hi, hl, Or.inr ⟨hp, rfl, rfl⟩⟩⟩⟩
      · exact ⟨_, _, Or.inr ⟨h1, h2, Or.inr ⟨i, hi, hl, Or.inl ⟨hp, rfl, rfl⟩⟩⟩⟩
/-- two plain values -/
def Two (x y : Int) (w : World) (e : Ending) (w' : World) : Prop := e = .returned (.tuple #[.int .i64 x, .int .i64 y]) ∧ Below w.heap.size w w'
theorem Mems.rowAt {w w' : World} {b off n m : Nat} {ds : List MemD} (h : Mems w (.slice (some ⟨b, off, none⟩) n m) ds) (hb : Below w.heap.size w w') (i : Nat) (hi : i < ds.length) :
    b < w.heap.size ∧ ∃ A3 m3, w'.cell? ⟨b, off + i * 3, none⟩ = some (.string ds[i].name) ∧ w'.cell? ⟨b, off + i * 3 + 1, none⟩ = some (.int .i64 ds[i].heard) ∧ w'.cell? ⟨b, off + i * 3 + 2, none⟩ = some (.slice A3 ds[i].parts.length m3) ∧ Is w (.slice A3 ds[i].parts.length m3) ds[i].parts ∧ ds[i].parts.length ≤ 9223372036854775807 := by
  obtain ⟨A', m', hv, -, hq⟩ := h.at_
  injection hv with h1 h2 h3
  subst h1
  obtain ⟨b', off', he, hbl, hcell⟩ := hq (by omega)
  injection he with he
  injection he with h1 h2 _
  subst h1 h2
  obtain ⟨pv, x0, x1, x2, xi, xl⟩ := hcell i hi
  obtain ⟨A3, m3, rfl, -⟩ := Sl.form xi
  have k : ∀ o, w'.cell? ⟨b, o, none⟩ = w.cell? ⟨b, o, none⟩ := fun o => hb.cell (p := ⟨b, o, none⟩) hbl
  exact ⟨hbl, A3, m3, (k _).trans x0, (k _).trans x1, (k _).trans x2, xi, xl⟩
theorem Mems.some_ {w : World} {A : Option Addr} {n m : Nat} {ds : List MemD} (h : Mems w (.slice A n m) ds) (hn : 0 < ds.length) : ∃ b off, A = some ⟨b, off, none⟩ := by
  obtain ⟨A', m', hv, -, hq⟩ := h.at_
  injection hv with h1 h2 h3
  subst h1
  obtain ⟨b, off, he, -⟩ := hq hn
  exact ⟨b, off, he⟩
theorem OwnM.mems {w0 w : World} {base n : Nat} {v : Value} {ds : List MemD} {rows : List (MemD × Value)} (h : OwnM w0 w base v ds rows n) (hn : n = ds.length) (hp : ∀ t ∈ ds, t.parts.length ≤ 9223372036854775807) : Mems w v ds := by
  have hl : rows.length = ds.length := by rw [← h.fst]; simp
  refine ⟨rows, h.fst, Sl.of_own h.own, fun t ht => ?_⟩
  have ht' : t ∈ rows.take n := by rw [hn, ← hl, List.take_length]; exact ht
  exact ⟨Sl.of_own (h.parts t ht'), hp _ (by rw [← h.fst]; exact List.mem_map_of_mem ht)⟩
/-- offsets of the call's own -/
def OwnO (w : World) (base : Nat) (v : Value) (os : List OffD) : Prop := w.ownsRow base 81 2 v os.length (os.flatMap ocells)
theorem OwnO.keep {w w' : World} {base : Nat} {v : Value} {os : List OffD} (h : OwnO w base v os) (hb : Below w.heap.size w w') : OwnO w' base v os := own_keep h hb (fun b hb => (h.lt b hb).2)
theorem OwnO.under {w : World} {base : Nat} {v : Value} {os : List OffD} (h : OwnO w base v os) {a : Addr} (ha : a.block < base) (u : Value) : OwnO (w.setCell a u) base v os := ownsRow_setCell_below h ha u
theorem OwnO.offs {w : World} {base : Nat} {v : Value} {os : List OffD} (h : OwnO w base v os) : Offs w v os := Sl.of_own h
end Go.Proofs.Ytjkoceacjbhblaa
