/- seg.Check and tailraceref.LogFault: what is wrong with a log. -/
import Derived.Test.YtpjjfnpdopdnkaaDecA
import Derived.Test.YtpjjfnpdopdnkaaDecB
import Derived.Test.YtpjjfnpdopdnkaaSegF
import Derived.Test.YtpjjfnpdopdnkaaInB
namespace Go.Proofs.Ytpjjfnpdopdnkaa
open Go.RowKit

theorem decode_eq {v : Value} {l : List UInt8} {es : List Ent} {n : Nat} {w : World} (hv : By w v l) (hl : l.length ≤ 1099511627776) (hd : dec l = (es, n)) :
    Calls Try.prog 27 #[v] w fun e w' => ∃ v', e = .returned (.tuple #[v', .int .i64 (n : Int)]) ∧ w'.ownsRow w.heap.size 55 7 v' es.length (ecs es) ∧ Below w.heap.size w w' :=
  (decode_any v l w hv hl).mono fun e w' h => by unfold DecPost at h; rw [hd] at h; exact h
theorem entriesIn_eq {v : Value} {l : List UInt8} {es : List Ent} {n : Nat} {w : World} (hv : By w v l) (hl : l.length ≤ 1099511627776) (hd : dec l = (es, n)) :
    Calls Try.prog 29 #[v] w fun e w' => ∃ v', e = .returned (.tuple #[v', .int .i64 (n : Int)]) ∧ w'.ownsRow w.heap.size 55 7 v' es.length (ecs es) ∧ Below w.heap.size w w' :=
  (entriesIn_any v l w hv hl).mono fun e w' h => by unfold DecPost at h; rw [hd] at h; exact h
/-- a log that lies in a block of its own is read as it was -/
theorem log_cells {w w' : World} {g : Nat} {v : Value} {s : Int} (h : Blk w g 42 #[v, .int .i64 s]) (hb : Below w.heap.size w w') : w'.cell? ⟨g, 0, none⟩ = some v ∧ w'.cell? ⟨g, 1, none⟩ = some (.int .i64 s) :=
  ⟨(h.below hb h.lt).cell 0, (h.below hb h.lt).cell 1⟩

set_option maxRecDepth 100000 in
set_option maxHeartbeats 2000000 in
theorem segCheck_any (v : Value) (l : List UInt8) (s : Int) (w : World) (hv : By w v l) (hl : l.length ≤ 9223372036854775807) :
    Calls Try.prog 31 #[.agg #[v, .int .i64 s]] w fun e w' => e = .returned (.int .i64 (logFault ⟨l, s⟩)) ∧ Below w.heap.size w w' := by
  obtain ⟨A, c, rfl, hc, -⟩ := hv.at_
  have HV := Lib.hid hv
  have hb0 := Blk.new w 42 #[.slice A l.length c, .int .i64 s]
  have hbl0 : Below w.heap.size w (w.alloc (.cells #[.slice A l.length c, .int .i64 s] 42)) := (Below.refl _ _).alloc (Nat.le_refl _) _
  have hv0 := hv.below hbl0
  obtain ⟨es, n, hd⟩ : ∃ es n, dec l = (es, n) := ⟨_, _, rfl⟩
  have HD := Lib.hid hd
  obtain ⟨hn, hel, hok, hfl⟩ := dec_parts hd
  have HF := Lib.hid (logFault_dec (s := s) hd)
  clear hv hd hok hfl
  by_cases h1 : 40000 < l.length
  · have z1 : decide ((40000 : Int) < (l.length : Int)) = true := decide_eq_true (by omega)
    go_enter Try.func31, Try.ntmps31
    go_wp2
    go_ret
    exact ⟨ret_int (by rw [HF.out, if_pos h1]), hbl0⟩
  · have z1 : decide ((40000 : Int) < (l.length : Int)) = false := decide_eq_false (by omega)
    go_enter Try.func31, Try.ntmps31
    go_wp2_with fail
    refine (decode_eq hv0 (by omega) HD.out).mono ?_
    rintro e w1 ⟨v1, rfl, ho1, hb1⟩
    obtain ⟨A1, c1, rfl, hc1⟩ := (Sl.of_own ho1).form
    obtain ⟨x0, x1⟩ := log_cells hb0 hb1
    have hbl1 := hbl0.trans (hb1.mono hbl0.size)
    have HB0 := Lib.hid hb0
    have HB1 := Lib.hid hb1
    have HBL := Lib.hid hbl1
    clear ho1 hb0 hb1 hbl0 hbl1 hv0
    by_cases h2 : n = l.length
    · have z2 : ((n : Int) != (l.length : Int)) = false := by simp only [bne_eq_false_iff_eq]; omega
      by_cases h3 : 400 < es.length
      · have z3 : decide ((400 : Int) < (es.length : Int)) = true := decide_eq_true (by omega)
        go_wp2
        go_ret
        exact ⟨ret_int (by rw [HF.out, if_neg h1, if_pos (Or.inr h3)]), HBL.out⟩
      · have z3 : decide ((400 : Int) < (es.length : Int)) = false := decide_eq_false (by omega)
        have h23 : ¬ (n ≠ l.length ∨ 400 < es.length) := by omega
        by_cases h4 : s < 0
        · have z4 : decide (s < (0 : Int)) = true := decide_eq_true h4
          go_wp2
          go_ret
          exact ⟨ret_int (by rw [HF.out, if_neg h1, if_neg h23, if_pos (Or.inl h4)]), HBL.out⟩
        · have z4 : decide (s < (0 : Int)) = false := decide_eq_false h4
          by_cases h5 : (n : Int) < s
          · have z5 : decide ((n : Int) < s) = true := decide_eq_true h5
            go_wp2
            go_ret
            exact ⟨ret_int (by rw [HF.out, if_neg h1, if_neg h23, if_pos (Or.inr (by omega))]), HBL.out⟩
          · have z5 : decide ((n : Int) < s) = false := decide_eq_false h5
            obtain ⟨k, rfl⟩ : ∃ k : Nat, s = k := ⟨s.toNat, by omega⟩
            have h45 : ¬ ((k : Int) < 0 ∨ (l.length : Int) < (k : Int)) := by omega
            have hk : k ≤ l.length := by omega
            obtain ⟨es2, m, hd2⟩ : ∃ es2 m, dec (l.take k) = (es2, m) := ⟨_, _, rfl⟩
            have HD2 := Lib.hid hd2
            have hx := By.take_ (n := k) (HV.out.below HBL.out) hk
            have hxl : (l.take k).length = k := by rw [List.length_take]; omega
            have hm := (dec_parts hd2).1
            rw [hxl] at hx hm
            have i0 : (0 : Int) ≤ (k : Int) := by omega
            have i1 : (k : Int) ≤ (c : Int) := by omega
            clear hd2
            go_wp2_with fail
            refine (decode_eq hx (by rw [hxl]; omega) HD2.out).mono ?_
            rintro e w2 ⟨v2, rfl, ho2, hb2⟩
            have y1 := (HBL.out.trans (hb2.mono HBL.out.size))
            obtain ⟨y2, y3⟩ := log_cells HB0.out (HB1.out.trans (hb2.mono HB1.out.size))
            have HY := Lib.hid y1
            clear ho2 hb2 y1
            by_cases h6 : m = k
            · have z6 : ((m : Int) != (k : Int)) = false := by simp only [bne_eq_false_iff_eq]; omega
              go_wp2
              go_ret
              refine ⟨ret_int ?_, HY.out⟩
              rw [HF.out, if_neg h1, if_neg h23, if_neg h45, Int.toNat_natCast, HD2.out, if_neg (by simpa using h6)]
            · have z6 : ((m : Int) != (k : Int)) = true := by simp only [bne_iff_ne]; omega
              go_wp2
              go_ret
              refine ⟨ret_int ?_, HY.out⟩
              rw [HF.out, if_neg h1, if_neg h23, if_neg h45, Int.toNat_natCast, HD2.out, if_pos (by simpa using h6)]
    · have z2 : ((n : Int) != (l.length : Int)) = true := by simp only [bne_iff_ne]; omega
      go_wp2
      go_ret
      exact ⟨ret_int (by rw [HF.out, if_neg h1, if_pos (Or.inl h2)]), HBL.out⟩

end Go.Proofs.Ytpjjfnpdopdnkaa
