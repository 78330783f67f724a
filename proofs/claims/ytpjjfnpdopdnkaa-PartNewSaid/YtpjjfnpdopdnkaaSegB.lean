/- tailraceref.LogFault: what is wrong with a log. -/
import Derived.Test.YtpjjfnpdopdnkaaSegA
namespace Go.Proofs.Ytpjjfnpdopdnkaa
open Go.RowKit

set_option maxRecDepth 100000 in
set_option maxHeartbeats 2000000 in
theorem logFault_any (v : Value) (l : List UInt8) (s : Int) (w : World) (hv : By w v l) (hl : l.length ≤ 9223372036854775807) :
    Calls Try.prog 33 #[.agg #[v, .int .i64 s]] w fun e w' => e = .returned (.int .i64 (logFault ⟨l, s⟩)) ∧ Below w.heap.size w w' := by
  obtain ⟨A, c, rfl, hc, hcell⟩ := hv.at_
  have HC := Lib.hid hcell
  clear hcell
  have hb0 := Blk.new w 42 #[.slice A l.length c, .int .i64 s]
  have hbl0 : Below w.heap.size w (w.alloc (.cells #[.slice A l.length c, .int .i64 s] 42)) := (Below.refl _ _).alloc (Nat.le_refl _) _
  have hv0 := hv.below hbl0
  obtain ⟨es, n, hd⟩ : ∃ es n, dec l = (es, n) := ⟨_, _, rfl⟩
  have HD := Lib.hid hd
  obtain ⟨hn, hel, hok, hfl⟩ := dec_parts hd
  have HF := Lib.hid (logFault_dec (s := s) hd)
  have HOK := Lib.hid hok
  have HFL := Lib.hid hfl
  clear hv hd hok hfl
  by_cases h1 : 40000 < l.length
  · have z1 : decide ((40000 : Int) < (l.length : Int)) = true := decide_eq_true (by omega)
    go_enter Try.func33, Try.ntmps33
    go_wp2
    go_ret
    exact ⟨ret_int (by rw [HF.out, if_pos h1]), hbl0⟩
  · have z1 : decide ((40000 : Int) < (l.length : Int)) = false := decide_eq_false (by omega)
    go_enter Try.func33, Try.ntmps33
    go_wp2_with fail
    refine (entriesIn_eq hv0 (by omega) HD.out).mono ?_
    rintro e w1 ⟨v1, rfl, ho1, hb1⟩
    obtain ⟨A1, c1, rfl, hc1⟩ := (Sl.of_own ho1).form
    obtain ⟨x0, x1⟩ := log_cells hb0 hb1
    have hbl1 := hbl0.trans (hb1.mono hbl0.size)
    have HB1 := Lib.hid (hb0.below hb1 hb0.lt)
    have HBL := Lib.hid hbl1
    clear ho1 hb0 hb1 hbl0 hbl1 hv0
    by_cases h2 : n = l.length
    · have z2 : decide ((n : Int) < (l.length : Int)) = false := decide_eq_false (by omega)
      by_cases h3 : 400 < es.length
      · have z3 : decide ((400 : Int) < (es.length : Int)) = true := decide_eq_true (by omega)
        go_wp2
        go_ret
        exact ⟨ret_int (by rw [HF.out, if_neg h1, if_pos (Or.inr h3)]), HBL.out⟩
      · have z3 : decide ((400 : Int) < (es.length : Int)) = false := decide_eq_false (by omega)
        have h23 : ¬ (n ≠ l.length ∨ 400 < es.length) := by omega
        have hle := HFL.out h2
        subst hle
        go_wp2_with fail
        refine (In_any _ _ _ _).mono ?_
        rintro e w2 ⟨rfl, rfl⟩
        rcases hi : inB s 0 ((flat es).length : Int) with _ | _
        · have h4 : s < 0 ∨ ((flat es).length : Int) < s := by simp [inB] at hi; omega
          have HI := Lib.hid h4
          clear h4
          go_wp2
          go_ret
          exact ⟨ret_int (by rw [HF.out, if_neg h1, if_neg h23, if_pos HI.out]), HBL.out⟩
        · have h4 : ¬ (s < 0 ∨ ((flat es).length : Int) < s) := by simp [inB] at hi; omega
          have hs0 : 0 ≤ s := by omega
          obtain ⟨k, rfl⟩ : ∃ k : Nat, s = k := ⟨s.toNat, by omega⟩
          have hk : k ≤ (flat es).length := by omega
          have HI := Lib.hid h4
          clear hi h4
          go_wp2
          go_loopw [5] (fun a wr => ∃ i : Nat, a = .int .i64 i ∧ Hid (FrLp es k i) ∧ wr = w1) (fun a _ => k - (intOf a).toNat)
          case atStart => exact ⟨0, rfl, frLp_start _ _, rfl⟩
          case round =>
            obtain ⟨i, rfl, hfr, rfl⟩ := hrel
            by_cases hlt : i < k
            · obtain ⟨n1, ⟨hl1, hn1⟩, hn2, hnx⟩ := frLp_next hfr.out HOK.out hk hlt
              have HNX := Lib.hid hnx
              obtain ⟨b, off, rfl, hbl, hcs⟩ := HC.out (by omega)
              have X0 := (HBL.out.cell (p := ⟨b, off + i, none⟩) hbl).trans (hcs i hl1)
              rw [hn1] at X0
              have i0 : (0 : Int) ≤ (i : Int) := by omega
              have i1 : (i : Int) < ((flat es).length : Int) := by omega
              have i2 : decide ((i : Int) < (k : Int)) = true := decide_eq_true (by omega)
              clear hnx hcs hn1
              go_wp2
              go_light
              exact ⟨⟨i + n1 + 3, by go_num, HNX.out, by trivial⟩, by simp [intOf]; omega⟩
            · have he := frLp_end hfr.out HOK.out hk hlt
              have HE := Lib.hid he
              have i2 : decide ((i : Int) < (k : Int)) = false := decide_eq_false (by omega)
              clear he
              by_cases h6 : i = k
              · have z6 : ((i : Int) != (k : Int)) = false := by simp only [bne_eq_false_iff_eq]; omega
                go_wp2
                go_ret
                refine ⟨ret_int ?_, HBL.out⟩
                rw [HF.out, if_neg h1, if_neg h23, if_neg HI.out, Int.toNat_natCast, if_neg (by simpa using HE.out.2 h6)]
              · have z6 : ((i : Int) != (k : Int)) = true := by simp only [bne_iff_ne]; omega
                go_wp2
                go_ret
                refine ⟨ret_int ?_, HBL.out⟩
                rw [HF.out, if_neg h1, if_neg h23, if_neg HI.out, Int.toNat_natCast, if_pos (fun h => h6 (HE.out.1 h))]
    · have z2 : decide ((n : Int) < (l.length : Int)) = true := decide_eq_true (by omega)
      go_wp2
      go_ret
      exact ⟨ret_int (by rw [HF.out, if_neg h1, if_pos (Or.inl h2)]), HBL.out⟩

end Go.Proofs.Ytpjjfnpdopdnkaa
