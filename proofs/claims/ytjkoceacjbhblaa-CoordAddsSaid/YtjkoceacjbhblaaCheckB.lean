/- coord.Check answers whether a coordinator may be. -/
import Derived.Test.YtjkoceacjbhblaaTxnB
import Derived.Test.YtjkoceacjbhblaaIdxTxn
import Derived.Test.YtjkoceacjbhblaaClashB
namespace Go.Proofs.Ytjkoceacjbhblaa
open Go.RowKit

/-- the walk of coord.Check's head: a number that is out of bounds -/
theorem coord_head (c : CoordD) (h : ¬ (inB c.clock 0 1073741824 = true ∧ 1 ≤ c.next ∧ c.next ≤ 1073741824 ∧ 1 ≤ c.wait ∧ c.wait ≤ 1000 ∧ c.txns.length ≤ 8)) : ¬ CoordOk c := by
  intro hc
  refine h ⟨?_, hc.next.1, hc.next.2, hc.wait.1, hc.wait.2, hc.many⟩
  have := hc.clock
  simp [inB, this.1, this.2]

set_option maxRecDepth 100000 in
set_option maxHeartbeats 1000000 in
theorem coord_check_head (c : CoordD) (A : Option Addr) (m : Nat) (w : World)
    (hcs : inB c.clock 0 1073741824 = false ∨ (inB c.clock 0 1073741824 = true ∧ c.next < 1) ∨ (inB c.clock 0 1073741824 = true ∧ 1 ≤ c.next ∧ 1073741824 < c.next) ∨ (inB c.clock 0 1073741824 = true ∧ 1 ≤ c.next ∧ c.next ≤ 1073741824 ∧ c.wait < 1) ∨
      (inB c.clock 0 1073741824 = true ∧ 1 ≤ c.next ∧ c.next ≤ 1073741824 ∧ 1 ≤ c.wait ∧ 1000 < c.wait) ∨ (inB c.clock 0 1073741824 = true ∧ 1 ≤ c.next ∧ c.next ≤ 1073741824 ∧ 1 ≤ c.wait ∧ c.wait ≤ 1000 ∧ 8 < c.txns.length)) :
    Calls Try.prog 33 #[coordV c (.slice A c.txns.length m)] w (Answers (CoordOk c) w) := by
  have hno : ¬ CoordOk c := coord_head c (by
    intro ⟨h1, h2, h3, h4, h5, h6⟩
    simp only [h1, Bool.true_eq_false, false_or, true_and] at hcs
    omega)
  unfold coordV
  obtain ⟨ck, nx, wt, ts⟩ := c
  simp only at *
  have HN := Lib.hid hno
  clear hno
  rcases hcs with h1 | ⟨h1, h2⟩ | ⟨h1, h2, h3⟩ | ⟨h1, h2, h3, h4⟩ | ⟨h1, h2, h3, h4, h5⟩ | ⟨h1, h2, h3, h4, h5, h6⟩
  all_goals go_enter Try.func33, Try.ntmps33
  all_goals go_wp2_with (go_at_call 75; refine (number_any _ _).mono ?_; rintro e w' ⟨rfl, rfl⟩)
  all_goals go_ret
  all_goals exact Answers.mk_no HN.out ((Below.refl _ _).alloc (Nat.le_refl _) _)

theorem Sl.front {w : World} {size n k c : Nat} {A : Option Addr} {xs : List Value} (h : Sl w size (.slice A n c) n xs) (hk : k ≤ n) : Sl w size (.slice A k c) k (xs.take (k * size)) := by
  obtain ⟨hl, A', c', hv, hc, hcell⟩ := h
  injection hv with e1 e2 e3
  subst e1 e3
  have hm : k * size ≤ n * size := Nat.mul_le_mul_right size hk
  refine ⟨by rw [List.length_take, hl]; omega, A, c, rfl, by omega, fun h0 => ?_⟩
  obtain ⟨b, off, hA, hb, hq⟩ := hcell (by omega)
  refine ⟨b, off, hA, hb, fun j u hu => hq j u ?_⟩
  rw [List.getElem?_take] at hu
  split at hu
  · exact hu
  · cases hu

theorem has_clash (ts : List TxnD) (A : Option Addr) (k m : Nat) (t : TxnD) (bt : Nat) (w : World) (hx : Txs w (.slice A ts.length m) ts) (hk : k ≤ ts.length) (hm : ts.length ≤ 8) (hlt : bt < w.heap.size) (h0 : w.cell? ⟨bt, 0, none⟩ = some (.string t.name)) (h1 : w.cell? ⟨bt, 1, none⟩ = some (.int .i64 t.pid)) :
    Calls Try.prog 77 #[.slice A k m, .func (.func 78) #[] #[.pointer (some ⟨bt, 0, none⟩)]] w (Tells (∃ j, j < k ∧ ClashAt ts t j) w) := by
  obtain ⟨rows, hr, hsl, hp⟩ := hx
  refine HasTxn_any _ k _ (ClashAt ts t) 78 #[.pointer (some ⟨bt, 0, none⟩)] w (hsl.front hk) (by omega) (enters_of Try.func78 (by kernel_rfl) rfl) ?_
  intro j u0 u1 u2 u3 u4 u5 u6 hj g0 g1 g2 g3 g4 g5 g6 W hW
  have hjr : j < rows.length := by
    have : rows.length = ts.length := by rw [← hr]; simp
    omega
  have key : ∀ i, i < 7 → ((rows.flatMap tcells).take (k * 7))[j * 7 + i]? = (tcells rows[j])[i]? := by
    intro i hi
    rw [List.getElem?_take, if_pos (by omega)]
    exact tcells_get rows j hjr i hi
  rw [key _ (by omega)] at g0 g1 g2 g3 g4 g5 g6
  simp only [tcells, List.getElem?_cons_zero, List.getElem?_cons_succ, Option.some.injEq] at g0 g1 g2 g3 g4 g5 g6
  subst g0 g1 g2 g3 g4 g5 g6
  have hone : rows[j].2.oneCell' = true := Sl.oneCell (hp _ (List.getElem_mem _)).1
  refine (coord_clash _ _ _ _ _ _ _ t.name t.pid bt 0 W (Nat.lt_of_lt_of_le hlt hW.size) ((hW.cell (p := ⟨bt, 0, none⟩) hlt).trans h0) ((hW.cell (p := ⟨bt, 1, none⟩) hlt).trans h1) hone).mono fun e w' h => h.cong ?_
  subst hr
  unfold ClashAt Clash
  simp [hjr]

set_option maxRecDepth 100000 in
set_option maxHeartbeats 8000000 in
theorem coord_check_good (c : CoordD) (A : Option Addr) (m : Nat) (w : World) (hx : Txs w (.slice A c.txns.length m) c.txns)
    (h1 : inB c.clock 0 1073741824 = true) (h2 : 1 ≤ c.next) (h3 : c.next ≤ 1073741824) (h4 : 1 ≤ c.wait) (h5 : c.wait ≤ 1000) (h6 : c.txns.length ≤ 8) :
    Calls Try.prog 33 #[coordV c (.slice A c.txns.length m)] w (Answers (CoordOk c) w) := by
  have hok : TxnsOk c.clock c.next c.txns c.txns.length → CoordOk c := fun h => ⟨by simpa [inB] using h1, ⟨h2, h3⟩, ⟨h4, h5⟩, h6, h⟩
  obtain ⟨A', m', hv, hm, hcell⟩ := hx.at_
  injection hv with e1 e2 e3
  subst e1 e3
  have HOK := Lib.hid hok
  have HX := Lib.hid hx
  have HC := Lib.hid hcell
  clear hok hx hcell
  unfold coordV
  obtain ⟨ck, nx, wt, ts⟩ := c
  simp only at *
  go_enter Try.func33, Try.ntmps33
  go_wp2_with (go_at_call 75; refine (number_any _ _).mono ?_; rintro e w' ⟨rfl, rfl⟩)
  have hbl := (Below.refl w.heap.size w).alloc (Nat.le_refl _) (.cells #[.int .i64 ck, .int .i64 nx, .int .i64 wt, .slice A ts.length m] 28)
  have bx := Blk.new w 28 #[.int .i64 ck, .int .i64 nx, .int .i64 wt, .slice A ts.length m]
  generalize w.alloc (.cells #[.int .i64 ck, .int .i64 nx, .int .i64 wt, .slice A ts.length m] 28) = W0 at *
  have HBL := Lib.hid hbl
  have HB := Lib.hid bx
  clear hbl bx h1 h2 h3 h4 h5
  go_loopw [38] (fun i wr => ∃ k : Nat, k ≤ ts.length ∧ i = .int .i64 k ∧ Hid (TxnsOk ck nx ts k) ∧ Hid (Below W0.heap.size W0 wr)) (fun i _ => ts.length - (intOf i).toNat)
  case atStart => exact ⟨0, by omega, rfl, fun j _ hj => by omega, Below.refl _ _⟩
  case round =>
    obtain ⟨k, hk, rfl, HK, HW⟩ := hrel
    have hbw := below_then HBL.out HW.out
    by_cases hlt : k < ts.length
    · obtain ⟨b, off, rfl, hb, hcell⟩ := HC.out (by omega)
      obtain ⟨pv, x0, x1, x2, x3, x4, x5, x6, xi, xl⟩ := hcell k hlt
      have X0 := (hbw.cell (p := ⟨b, off + k * 7, none⟩) hb).trans x0
      have X1 := (hbw.cell (p := ⟨b, off + k * 7 + 1, none⟩) hb).trans x1
      have X2 := (hbw.cell (p := ⟨b, off + k * 7 + 2, none⟩) hb).trans x2
      have X3 := (hbw.cell (p := ⟨b, off + k * 7 + 3, none⟩) hb).trans x3
      have X4 := (hbw.cell (p := ⟨b, off + k * 7 + 4, none⟩) hb).trans x4
      have X5 := (hbw.cell (p := ⟨b, off + k * 7 + 5, none⟩) hb).trans x5
      have X6 := (hbw.cell (p := ⟨b, off + k * 7 + 6, none⟩) hb).trans x6
      have i0 : (0 : Int) ≤ (k : Int) := by omega
      have i1 : (k : Int) < (ts.length : Int) := by omega
      obtain ⟨A3, c3, rfl, hc3, -⟩ := xi.at_
      have bw := HB.out.below HW.out HB.out.lt
      have g0 := bw.cell 0
      have g1 := bw.cell 1
      have g2 := bw.cell 2
      have g3 := bw.cell 3
      have glt := bw.lt
      have XI := Lib.hid (xi.below hbw)
      have HBW := Lib.hid hbw
      have hble : b < wr.heap.size := by have := hbw.size; omega
      have BW := Lib.hid bw
      clear x0 x1 x2 x3 x4 x5 x6 hcell bw hbw xi
      go_wp2_with fail
      have bt := Blk.new wr 76 #[.string ts[k].name, .int .i64 ts[k].pid, .int .i64 ts[k].ver, .int .i64 ts[k].state, .slice A3 ts[k].parts.length c3, .int .i64 ts[k].since, .int .i64 ts[k].done]
      have hal := (Below.refl wr.heap.size wr).alloc (Nat.le_refl _) (.cells #[.string ts[k].name, .int .i64 ts[k].pid, .int .i64 ts[k].ver, .int .i64 ts[k].state, .slice A3 ts[k].parts.length c3, .int .i64 ts[k].since, .int .i64 ts[k].done] 76)
      have bw2 := BW.out.below hal BW.out.lt
      generalize wr.alloc (.cells #[.string ts[k].name, .int .i64 ts[k].pid, .int .i64 ts[k].ver, .int .i64 ts[k].state, .slice A3 ts[k].parts.length c3, .int .i64 ts[k].since, .int .i64 ts[k].done] 76) = w2 at *
      refine (coord_txn_any ⟨ck, nx, wt, ts⟩ _ _ ts[k] w2 ⟨_, _, _, rfl⟩ (XI.out.below hal) xl).mono ?_
      rintro e w3 hT
      have h3 : Below w2.heap.size w2 w3 := by obtain ⟨_, _, _, h⟩ := hT; exact h
      have hb3 := below_then hal h3
      have bw3 := bw2.below h3 bw2.lt
      have bt3 := bt.below h3 bt.lt
      have g3' := bw3.cell 3
      have glt' := bw3.lt
      have tlt' := bt3.lt
      have B3 := Lib.hid hb3
      have BT3 := Lib.hid bt3
      have BW3 := Lib.hid bw3
      clear hal h3 hb3 bw2 bw3 bt bt3
      by_cases ht : TxnOk ck nx ts[k]
      · obtain ⟨rfl, -⟩ := hT.yes ht
        have HT := Lib.hid ht
        clear hT ht
        have j0 : (k : Int) ≤ (m : Int) := by omega
        go_wp2_with fail
        have hb4 := below_then HBW.out B3.out
        refine (has_clash ts _ k m ts[k] wr.heap.size w3 (HX.out.below hb4) (by omega) h6 tlt' (BT3.out.cell 0) (BT3.out.cell 1)).mono ?_
        rintro e w4 hT
        have h4 : Below w3.heap.size w3 w4 := by obtain ⟨_, _, _, h⟩ := hT; exact h
        have h5 := below_then B3.out h4
        have H5 := Lib.hid h5
        have H6 := Lib.hid (below_then HBW.out h5)
        clear hb4 h4 h5
        by_cases hc : ∃ j, j < k ∧ ClashAt ts ts[k] j
        · obtain ⟨rfl, -⟩ := hT.yes hc
          have hno : ¬ CoordOk ⟨ck, nx, wt, ts⟩ := not_ok_clash (c := ⟨ck, nx, wt, ts⟩) hlt hc
          have HN := Lib.hid hno
          clear hT hc hno
          go_wp2_with fail
          go_ret
          exact Answers.mk_no HN.out H6.out
        · obtain ⟨rfl, -⟩ := hT.no hc
          have hst := HK.out.step hlt HT.out hc
          have HS := Lib.hid hst
          clear hT hc hst
          go_wp2_with fail
          go_light
          exact ⟨⟨k + 1, by omega, by go_num, HS.out, below_then HW.out H5.out⟩, by simp [intOf]; omega⟩
      · obtain ⟨rfl, -⟩ := hT.no ht
        have hno : ¬ CoordOk ⟨ck, nx, wt, ts⟩ := not_ok_txn (c := ⟨ck, nx, wt, ts⟩) hlt ht
        have HN := Lib.hid hno
        clear hT ht hno
        go_wp2_with fail
        go_ret
        exact Answers.mk_no HN.out (below_then HBW.out B3.out)
    · obtain rfl : k = ts.length := by omega
      have hr := HOK.out HK.out
      have HR := Lib.hid hr
      clear hr
      go_wp2
      go_ret
      exact Answers.mk_yes HR.out hbw

theorem coord_check_any (v : Value) (c : CoordD) (w : World) (h : Cv w v c) : Calls Try.prog 33 #[v] w (Answers (CoordOk c) w) := by
  obtain ⟨tv, rfl, hx, hlen⟩ := h
  obtain ⟨A, m, rfl, -⟩ := hx.at_
  by_cases h1 : inB c.clock 0 1073741824 = true
  · by_cases h2 : 1 ≤ c.next
    · by_cases h3 : c.next ≤ 1073741824
      · by_cases h4 : 1 ≤ c.wait
        · by_cases h5 : c.wait ≤ 1000
          · by_cases h6 : c.txns.length ≤ 8
            · exact coord_check_good c A m w hx h1 h2 h3 h4 h5 h6
            · exact coord_check_head c A m w (Or.inr (Or.inr (Or.inr (Or.inr (Or.inr ⟨h1, h2, h3, h4, h5, by omega⟩)))))
          · exact coord_check_head c A m w (Or.inr (Or.inr (Or.inr (Or.inr (Or.inl ⟨h1, h2, h3, h4, by omega⟩)))))
        · exact coord_check_head c A m w (Or.inr (Or.inr (Or.inr (Or.inl ⟨h1, h2, h3, by omega⟩))))
      · exact coord_check_head c A m w (Or.inr (Or.inr (Or.inl ⟨h1, h2, by omega⟩)))
    · exact coord_check_head c A m w (Or.inr (Or.inl ⟨h1, by omega⟩))
  · exact coord_check_head c A m w (Or.inl (by simpa using h1))

end Go.Proofs.Ytjkoceacjbhblaa
