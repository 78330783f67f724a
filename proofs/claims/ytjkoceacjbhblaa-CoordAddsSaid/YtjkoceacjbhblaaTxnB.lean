/- coord.txn tells whether a transaction may be. -/
import Derived.Test.YtjkoceacjbhblaaCoordS
import Derived.Outline
namespace Go.Proofs.Ytjkoceacjbhblaa
open Go.RowKit

theorem number_any (n : Int) (w : World) :
    Calls Try.prog 75 #[.int .i64 n] w fun e w' => e = .returned (.bool (inB n 0 1073741824)) ∧ w = w' := by
  go_enter Try.func75, Try.ntmps75
  go_wp2
  all_goals go_ret
  all_goals refine ⟨ret_bool ?_, rfl⟩
  all_goals grind [inB]


theorem rises_no {l : List Int} {k : Nat} (hk : k < l.length) (h : l[k] < 0 ∨ 3 < l[k] ∨ ∃ j, ∃ hj : j + 1 = k, l[k] ≤ l[j]) : ¬ Rises l := by
  intro hr
  have h1 := hr k hk
  rcases h with h | h | ⟨j, hj, h⟩
  · omega
  · omega
  · have := h1.2.2 j hj
    omega
theorem same_tests (st : Int) (n : Nat) : ((st == 1) == ((n : Int) == 0)) = true ↔ (st = 1 ↔ n = 0) := by
  by_cases h1 : st = 1 <;> by_cases h2 : n = 0
  · simp [h1, h2]
  · have e2 : ((n : Int) == 0) = false := beq_eq_false_iff_ne.2 (by omega)
    simp [h1, h2, e2]
  · have e1 : (st == 1) = false := beq_eq_false_iff_ne.2 h1
    simp [h1, h2, e1]
  · have e1 : (st == 1) = false := beq_eq_false_iff_ne.2 h1
    have e2 : ((n : Int) == 0) = false := beq_eq_false_iff_ne.2 (by omega)
    simp [h1, h2, e1, e2]
/-- the first k rise -/
def RisesTo (l : List Int) (n : Nat) : Prop := ∀ k (h : k < l.length), k < n → 0 ≤ l[k] ∧ l[k] ≤ 3 ∧ ∀ j (_ : j + 1 = k), l[j] < l[k]
theorem RisesTo.step {l : List Int} {n : Nat} (h : RisesTo l n) (hn : n < l.length) (h0 : 0 ≤ l[n]) (h3 : l[n] ≤ 3) (hs : ∀ j (_ : j + 1 = n), l[j] < l[n]) : RisesTo l (n + 1) := by
  intro k hk hkn
  rcases Nat.lt_succ_iff_lt_or_eq.1 hkn with h' | rfl
  · exact h k hk h'
  · exact ⟨h0, h3, hs⟩
theorem RisesTo.all {l : List Int} (h : RisesTo l l.length) : Rises l := fun k hk => h k hk hk

set_option maxRecDepth 100000 in
set_option maxHeartbeats 4000000 in
theorem coord_txn_good (nm : ByteArray) (pid ver st sn dn ck nx wt : Int) (A' : Option Addr) (n' m' : Nat) (parts : List Int) (A : Option Addr) (c1 : Nat) (w : World) (hp : Is w (.slice A parts.length c1) parts) (hl : parts.length ≤ 9223372036854775807) (hn : NameOk nm)
    (h1 : 1 ≤ pid) (h2 : pid < nx) (h3 : inB ver 0 1073741824 = true) (h4 : 1 ≤ st) (h5 : st ≤ 4) (h6 : 0 ≤ sn) (h7 : sn ≤ ck) (h8 : dn = 0 ∨ dn = 3 ∨ dn = 4) :
    Calls Try.prog 76 #[.agg #[.int .i64 ck, .int .i64 nx, .int .i64 wt, .slice A' n' m'], .agg #[.string nm, .int .i64 pid, .int .i64 ver, .int .i64 st, .slice A parts.length c1, .int .i64 sn, .int .i64 dn]] w
      (Tells (TxnOk ck nx ⟨nm, pid, ver, st, parts, sn, dn⟩) w) := by
  have hnm : ∀ W, Calls Try.prog 112 #[.string nm] W fun e w' => e = .returned (.bool true) ∧ Below W.heap.size W w' := fun W => (coord_name_any nm W).mono fun _ _ h => h.yes hn
  have hok : Rises parts → (st = 1 ↔ parts.length = 0) → TxnOk ck nx ⟨nm, pid, ver, st, parts, sn, dn⟩ := fun hr he => ⟨hn, ⟨h1, h2⟩, by simp [inB] at h3; exact h3, ⟨h4, h5⟩, ⟨h6, h7⟩, h8, hr, he⟩
  obtain ⟨_, A2, c2, hv, hc1, hcell⟩ := hp
  injection hv with e1 e2 e3
  subst e1 e3
  have HNM := Lib.hid hnm
  have HOK := Lib.hid hok
  have HC := Lib.hid hcell
  clear hnm hn hok hcell
  rcases h8 with rfl | rfl | rfl
  all_goals go_enter Try.func76, Try.ntmps76
  all_goals go_wp2_with fail
  all_goals refine (HNM.out _).mono ?_
  all_goals rintro e w1 ⟨rfl, hw⟩
  all_goals
    have hbl := (((Below.refl w.heap.size w).alloc (Nat.le_refl _) (.cells #[.int .i64 ck, .int .i64 nx, .int .i64 wt, .slice A' n' m'] 28)).alloc (by simp) _).trans (hw.mono (by simp; omega))
    have bt := (Blk.new (w.alloc (.cells #[.int .i64 ck, .int .i64 nx, .int .i64 wt, .slice A' n' m'] 28)) 76 _).below hw (by simp)
    simp only [World.size_alloc] at bt
    have q4 := bt.cell 4
    have q3 := bt.cell 3
    obtain ⟨bc, bf⟩ := bcell hw
    go_wp2_with (go_at_call 75; refine (number_any _ _).mono ?_; rintro e w' ⟨rfl, rfl⟩)
    have HBL := Lib.hid hbl
    have HW := Lib.hid hw
    have HBT := Lib.hid bt
    clear hbl hw bt bc bf h1 h2 h3 h4 h5 h6 h7
    go_loopw [69] (fun i wr => ∃ k : Nat, k ≤ parts.length ∧ i = .int .i64 k ∧ Hid (RisesTo parts k) ∧ ∃ n, wr = w1.drewN n) (fun i _ => parts.length - (intOf i).toNat)
    case atStart => exact ⟨0, by omega, rfl, fun j _ hj => by omega, 0, rfl⟩
    case round =>
      obtain ⟨k, hk, rfl, HK, n, rfl⟩ := hrel
      by_cases hlt : k < parts.length
      · obtain ⟨b, off, rfl, hb, hcell⟩ := HC.out (by omega)
        have X1 : w1.cell? ⟨b, off + k, none⟩ = some (.int .i64 parts[k]) := (HBL.out.cell (p := ⟨b, off + k, none⟩) hb).trans (hcell k _ (by simp [hlt]))
        have i0 : (0 : Int) ≤ (k : Int) := by omega
        have i1 : (k : Int) < (parts.length : Int) := by omega
        have hbe := below_then HBL.out (below_drewN_ w1 n)
        by_cases hp1 : parts[k] < 0
        · clear hcell
          go_wp2
          go_ret
          exact Tells.mk_no (fun h => rises_no hlt (Or.inl hp1) h.rises) hbe
        · by_cases hp2 : 3 < parts[k]
          · clear hcell
            go_wp2
            go_ret
            exact Tells.mk_no (fun h => rises_no hlt (Or.inr (Or.inl hp2)) h.rises) hbe
          · have h1 : 0 ≤ parts[k] := by omega
            have h2 : parts[k] ≤ 3 := by omega
            clear hp1 hp2
            rcases k with _ | k
            · clear hcell
              have X0 : w1.cell? ⟨b, off, none⟩ = some (.int .i64 parts[0]) := X1
              clear X1
              go_wp2
              go_light
              exact ⟨⟨1, by omega, rfl, HK.out.step hlt h1 h2 (fun j hj => by omega), _, rfl⟩, by simp [intOf]; omega⟩
            · have hk' : k < parts.length := by omega
              have X2 : w1.cell? ⟨b, off + k, none⟩ = some (.int .i64 parts[k]) := (HBL.out.cell (p := ⟨b, off + k, none⟩) hb).trans (hcell k _ (by simp [hk']))
              have e1 : ((k + 1 : Nat) : Int) = (k : Int) + 1 := by omega
              clear hcell
              by_cases hq : parts[k] < parts[k + 1]
              · go_wp2
                go_light
                exact ⟨⟨k + 1 + 1, by omega, by go_num, HK.out.step hlt h1 h2 (fun j hj => by
                  obtain rfl : j = k := by omega
                  exact hq), _, rfl⟩, by simp [intOf]; omega⟩
              · go_wp2
                go_ret
                exact Tells.mk_no (fun h => rises_no hlt (Or.inr (Or.inr ⟨k, rfl, by omega⟩)) h.rises) hbe
      · obtain rfl : k = parts.length := by omega
        clear hlt
        have hr := HK.out.all
        have HR := Lib.hid hr
        clear hr
        go_wp2
        go_ret
        refine ⟨_, rfl, ?_, below_then HBL.out (below_drewN_ w1 n)⟩
        exact (same_tests st parts.length).trans ⟨fun h => HOK.out HR.out h, fun h => h.empty⟩


set_option maxRecDepth 100000 in
set_option maxHeartbeats 4000000 in
theorem coord_txn_noname (nm : ByteArray) (pid ver st sn dn ck nx wt : Int) (A' : Option Addr) (n' m' : Nat) (parts : List Int) (A : Option Addr) (len c1 : Nat) (w : World) (hn : ¬ NameOk nm) :
    Calls Try.prog 76 #[.agg #[.int .i64 ck, .int .i64 nx, .int .i64 wt, .slice A' n' m'], .agg #[.string nm, .int .i64 pid, .int .i64 ver, .int .i64 st, .slice A len c1, .int .i64 sn, .int .i64 dn]] w
      (Tells (TxnOk ck nx ⟨nm, pid, ver, st, parts, sn, dn⟩) w) := by
  have hnm : ∀ W, Calls Try.prog 112 #[.string nm] W fun e w' => e = .returned (.bool false) ∧ Below W.heap.size W w' := fun W => (coord_name_any nm W).mono fun _ _ h => h.no hn
  have HNM := Lib.hid hnm
  have HN := Lib.hid hn
  clear hnm hn
  go_enter Try.func76, Try.ntmps76
  go_wp2_with fail
  refine (HNM.out _).mono ?_
  rintro e w1 ⟨rfl, hw⟩
  go_wp2
  go_ret
  exact Tells.mk_no (fun hok => HN.out hok.name) (below_then (((Below.refl _ _).alloc (Nat.le_refl _) _).alloc (by simp) _) hw)

set_option maxRecDepth 100000 in
set_option maxHeartbeats 4000000 in
theorem coord_txn_bad (nm : ByteArray) (pid ver st sn dn ck nx wt : Int) (A' : Option Addr) (n' m' : Nat) (parts : List Int) (A : Option Addr) (len c1 : Nat) (w : World) (hn : NameOk nm)
    (hcs : (pid < 1) ∨ (1 ≤ pid ∧ nx ≤ pid) ∨ (1 ≤ pid ∧ pid < nx ∧ inB ver 0 1073741824 = false) ∨ (1 ≤ pid ∧ pid < nx ∧ inB ver 0 1073741824 = true ∧ st < 1) ∨ (1 ≤ pid ∧ pid < nx ∧ inB ver 0 1073741824 = true ∧ 1 ≤ st ∧ 4 < st) ∨
        (1 ≤ pid ∧ pid < nx ∧ inB ver 0 1073741824 = true ∧ 1 ≤ st ∧ st ≤ 4 ∧ sn < 0) ∨ (1 ≤ pid ∧ pid < nx ∧ inB ver 0 1073741824 = true ∧ 1 ≤ st ∧ st ≤ 4 ∧ 0 ≤ sn ∧ ck < sn) ∨
        (1 ≤ pid ∧ pid < nx ∧ inB ver 0 1073741824 = true ∧ 1 ≤ st ∧ st ≤ 4 ∧ 0 ≤ sn ∧ sn ≤ ck ∧ (dn != 0) = true ∧ (dn != 3) = true ∧ (dn != 4) = true)) :
    Calls Try.prog 76 #[.agg #[.int .i64 ck, .int .i64 nx, .int .i64 wt, .slice A' n' m'], .agg #[.string nm, .int .i64 pid, .int .i64 ver, .int .i64 st, .slice A len c1, .int .i64 sn, .int .i64 dn]] w
      (Tells (TxnOk ck nx ⟨nm, pid, ver, st, parts, sn, dn⟩) w) := by
  have hnm : ∀ W, Calls Try.prog 112 #[.string nm] W fun e w' => e = .returned (.bool true) ∧ Below W.heap.size W w' := fun W => (coord_name_any nm W).mono fun _ _ h => h.yes hn
  have hno : ¬ TxnOk ck nx ⟨nm, pid, ver, st, parts, sn, dn⟩ := by
    intro h
    have a1 := h.pid
    have a2 := h.ver
    have a3 := h.state
    have a4 := h.since
    have a5 := h.done
    simp only at a1 a2 a3 a4 a5
    simp only [bne_iff_ne, ne_eq] at hcs
    have e : inB ver 0 1073741824 = true := by simp [inB]; omega
    simp only [e] at hcs
    simp only [Bool.true_eq_false, and_false, false_or] at hcs
    omega
  have HNM := Lib.hid hnm
  have HNO := Lib.hid hno
  clear hnm hn hno
  rcases hcs with h1 | ⟨h1, h2⟩ | ⟨h1, h2, h3⟩ | ⟨h1, h2, h3, h4⟩ | ⟨h1, h2, h3, h4, h5⟩ | ⟨h1, h2, h3, h4, h5, h6⟩ | ⟨h1, h2, h3, h4, h5, h6, h7⟩ | ⟨h1, h2, h3, h4, h5, h6, h7, h8, h9, h10⟩
  all_goals go_enter Try.func76, Try.ntmps76
  all_goals go_wp2_with fail
  all_goals refine (HNM.out _).mono ?_
  all_goals rintro e w1 ⟨rfl, hw⟩
  all_goals obtain ⟨bc, bf⟩ := bcell hw
  all_goals go_wp2_with (go_at_call 75; refine (number_any _ _).mono ?_; rintro e w' ⟨rfl, rfl⟩)
  all_goals go_ret
  all_goals exact Tells.mk_no HNO.out (below_then (((Below.refl _ _).alloc (Nat.le_refl _) _).alloc (by simp) _) hw)

theorem coord_txn_any (c : CoordD) (tv pv : Value) (t : TxnD) (w : World) (htv : ∃ A n m, tv = .slice A n m) (hp : Is w pv t.parts) (hl : t.parts.length ≤ 9223372036854775807) :
    Calls Try.prog 76 #[coordV c tv, .agg (tcells (t, pv)).toArray] w (Tells (TxnOk c.clock c.next t) w) := by
  obtain ⟨A, c1, rfl, hc1, hcell⟩ := hp.at_
  obtain ⟨A', n', m', rfl⟩ := htv
  obtain ⟨ck, nx, wt, ts⟩ := c
  obtain ⟨nm, pid, ver, st, parts, sn, dn⟩ := t
  by_cases hn : NameOk nm
  · by_cases hd : dn = 0 ∨ dn = 3 ∨ dn = 4
    · by_cases hg : 1 ≤ pid ∧ pid < nx ∧ inB ver 0 1073741824 = true ∧ 1 ≤ st ∧ st ≤ 4 ∧ 0 ≤ sn ∧ sn ≤ ck
      · obtain ⟨h1, h2, h3, h4, h5, h6, h7⟩ := hg
        exact coord_txn_good nm pid ver st sn dn ck nx wt A' n' m' parts A c1 w hp hl hn h1 h2 h3 h4 h5 h6 h7 hd
      · refine coord_txn_bad nm pid ver st sn dn ck nx wt A' n' m' parts A parts.length c1 w hn ?_
        have hb : inB ver 0 1073741824 = false ∨ inB ver 0 1073741824 = true := by rcases inB ver 0 1073741824 with _ | _ <;> simp
        rcases hb with e | e
        · simp only [e, Bool.false_eq_true, false_and, and_false, or_false, and_true]
          omega
        · simp only [e, true_and] at hg
          simp only [e, and_false, true_and, Bool.true_eq_false, false_or]
          omega
    · refine coord_txn_bad nm pid ver st sn dn ck nx wt A' n' m' parts A parts.length c1 w hn ?_
      have e0 : (dn != 0) = true := by rw [bne_iff_ne]; omega
      have e1 : (dn != 3) = true := by rw [bne_iff_ne]; omega
      have e2 : (dn != 4) = true := by rw [bne_iff_ne]; omega
      simp only [e0, e1, e2, and_true]
      rcases inB ver 0 1073741824 with _ | _ <;> simp only [Bool.false_eq_true, false_and, and_false, or_false, and_true, true_and, Bool.true_eq_false, false_or] <;> omega
  · exact coord_txn_noname nm pid ver st sn dn ck nx wt A' n' m' parts A parts.length c1 w hn
end Go.Proofs.Ytjkoceacjbhblaa
