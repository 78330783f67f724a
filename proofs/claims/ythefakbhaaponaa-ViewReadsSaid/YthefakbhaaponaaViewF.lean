/- tailracelaw.plain, tailracelaw.entries. -/
import Derived.Test.YthefakbhaaponaaViewC
import Derived.Test.YthefakbhaaponaaTells
namespace Go.Proofs.Ythefakbhaaponaa
open Go.RowKit

theorem ent_info : (Try.prog.info? 30).map (fun i => (i.zero, i.size, i.bytes)) = some (some (.agg #[.int .i64 0, .int .i64 0, .int .i64 0, .int .i64 0, .int .i64 0, .bool false, .string .empty]), 7, 64) := by kernel_rfl
set_option maxRecDepth 100000 in
set_option maxHeartbeats 4000000 in
theorem entries_any (v : Value) (l : List Ent) (w : World) (h : Es w v l) (hm : l.length * 64 ≤ 140737488355328) :
    Calls Try.prog 8 #[v] w fun e w' => ∃ v', e = .returned v' ∧ w'.ownsRow w.heap.size 30 7 v' l.length (ecs l) ∧ Below w.heap.size w w' := by
  obtain ⟨i0, hi0, hz0, hz1, hz2⟩ := info_parts ent_info
  obtain ⟨A, c, rfl, hc, -⟩ := h.at_
  go_enter Try.func8, Try.ntmps8
  go_wp2_with (at_builtin; go_must (refine wpList_append_sl _ rfl (.const (.slice none 0 0)) (.tmp 3) 22 rfl w.heap.size 30 i0 (.agg #[.int .i64 0, .int .i64 0, .int .i64 0, .int .i64 0, .int .i64 0, .bool false, .string .empty]) 7 64 Try.underlying22 hi0 hz0 hz1 hz2 rfl (by decide) _ _ _ (by rfl) (World.ownsRow_nil _ _ _ _) _ l.length (ecs l) (by rfl) h (ecs_one l) (by simp only [maxLen]; omega) (by omega) (by simp) ?_; intro v1 w1 ho1 hg1 ha1))
  go_ret
  exact ⟨v1, rfl, own_eq ho1 (by omega) (by simp), (Below.refl w.heap.size w).grown hg1 (Nat.le_refl _) (by intro k hk; simp [Value.ownBlock] at hk)⟩

def PlainPost (es : List Ent) (w : World) (e : Ending) (w' : World) : Prop := ∃ b, e = .returned (.bool b) ∧ (b = true ↔ PlainE es) ∧ w' = w
set_option maxRecDepth 100000 in
set_option maxHeartbeats 4000000 in
theorem plain_any (v : Value) (es : List Ent) (w : World) (h : Es w v es) (hl : es.length ≤ 9223372036854775806) :
    Calls Try.prog 6 #[v] w (PlainPost es w) := by
  obtain ⟨A, c, rfl, hc, hx⟩ := h.at_
  have HX := Lib.hid hx
  clear h hx
  go_enter Try.func6, Try.ntmps6
  go_wp2
  go_loop [3] (fun x => ∃ k : Nat, k ≤ es.length ∧ x = .int .i64 k ∧ Hid (∀ (i : Nat) (h : i < es.length), i < k → 0 ≤ es[i].ver ∧ es[i].ver ≤ 1073741824 ∧ 0 ≤ es[i].seq ∧ es[i].seq ≤ 1073741824 ∧ 0 ≤ es[i].pid ∧ es[i].pid ≤ 1073741824 ∧ 1 ≤ es[i].kind ∧ es[i].kind ≤ 3)) (fun x => es.length - (intOf x).toNat)
  case atStart => exact ⟨0, Nat.zero_le _, rfl, Lib.hid (fun i _ h => by omega)⟩
  case round =>
    obtain ⟨k, hk, rfl, HN⟩ := hrel
    by_cases hlt : k < es.length
    · obtain ⟨b1, o1, rfl, hb1, hcell⟩ := HX.out (Nat.lt_of_le_of_lt (Nat.zero_le _) hlt)
      obtain ⟨-, x1, x2, x3, x4, -, -⟩ := hcell k hlt
      have k0 : (0 : Int) ≤ (k : Int) := by omega
      have k1 : (k : Int) < (es.length : Int) := by omega
      have HBAD := Lib.hid (show PlainE es → 0 ≤ es[k].ver ∧ es[k].ver ≤ 1073741824 ∧ 0 ≤ es[k].seq ∧ es[k].seq ≤ 1073741824 ∧ 0 ≤ es[k].pid ∧ es[k].pid ≤ 1073741824 ∧ 1 ≤ es[k].kind ∧ es[k].kind ≤ 3 from fun h => h k hlt)
      have HNX := Lib.hid (show (0 ≤ es[k].ver ∧ es[k].ver ≤ 1073741824 ∧ 0 ≤ es[k].seq ∧ es[k].seq ≤ 1073741824 ∧ 0 ≤ es[k].pid ∧ es[k].pid ≤ 1073741824 ∧ 1 ≤ es[k].kind ∧ es[k].kind ≤ 3) → ∀ (i : Nat) (h : i < es.length), i < k + 1 → 0 ≤ es[i].ver ∧ es[i].ver ≤ 1073741824 ∧ 0 ≤ es[i].seq ∧ es[i].seq ≤ 1073741824 ∧ 0 ≤ es[i].pid ∧ es[i].pid ≤ 1073741824 ∧ 1 ≤ es[i].kind ∧ es[i].kind ≤ 3 from fun h i hi h2 => by
        rcases Nat.lt_succ_iff_lt_or_eq.1 h2 with h' | rfl
        · exact HN.out i hi h'
        · exact h)
      clear hcell
      generalize es[k] = y at *
      obtain ⟨ep, pid, ver, seq, kind, txn, text⟩ := y
      simp only at *
      by_cases h0 : kind < 1
      · have z0 : decide (kind < 1) = true := decide_eq_true h0
        have HNO := Lib.hid (show ¬ PlainE es from fun h => by have := HBAD.out h; omega)
        clear h0
        go_wp2
        go_ret
        exact ⟨false, rfl, ⟨fun h => by simp at h, fun h => absurd h HNO.out⟩, rfl⟩
      · have z0 : decide (kind < 1) = false := decide_eq_false h0
        by_cases h1 : 3 < kind
        · have z1 : decide (3 < kind) = true := decide_eq_true h1
          have HNO := Lib.hid (show ¬ PlainE es from fun h => by have := HBAD.out h; omega)
          clear h0 h1
          go_wp2
          go_ret
          exact ⟨false, rfl, ⟨fun h => by simp at h, fun h => absurd h HNO.out⟩, rfl⟩
        · have z1 : decide (3 < kind) = false := decide_eq_false h1
          by_cases h2 : pid < 0
          · have z2 : decide (pid < 0) = true := decide_eq_true h2
            have HNO := Lib.hid (show ¬ PlainE es from fun h => by have := HBAD.out h; omega)
            clear h0 h1 h2
            go_wp2
            go_ret
            exact ⟨false, rfl, ⟨fun h => by simp at h, fun h => absurd h HNO.out⟩, rfl⟩
          · have z2 : decide (pid < 0) = false := decide_eq_false h2
            by_cases h3 : ver < 0
            · have z3 : decide (ver < 0) = true := decide_eq_true h3
              have HNO := Lib.hid (show ¬ PlainE es from fun h => by have := HBAD.out h; omega)
              clear h0 h1 h2 h3
              go_wp2
              go_ret
              exact ⟨false, rfl, ⟨fun h => by simp at h, fun h => absurd h HNO.out⟩, rfl⟩
            · have z3 : decide (ver < 0) = false := decide_eq_false h3
              by_cases h4 : seq < 0
              · have z4 : decide (seq < 0) = true := decide_eq_true h4
                have HNO := Lib.hid (show ¬ PlainE es from fun h => by have := HBAD.out h; omega)
                clear h0 h1 h2 h3 h4
                go_wp2
                go_ret
                exact ⟨false, rfl, ⟨fun h => by simp at h, fun h => absurd h HNO.out⟩, rfl⟩
              · have z4 : decide (seq < 0) = false := decide_eq_false h4
                by_cases h5 : 1073741824 < pid
                · have z5 : decide (1073741824 < pid) = true := decide_eq_true h5
                  have HNO := Lib.hid (show ¬ PlainE es from fun h => by have := HBAD.out h; omega)
                  clear h0 h1 h2 h3 h4 h5
                  go_wp2
                  go_ret
                  exact ⟨false, rfl, ⟨fun h => by simp at h, fun h => absurd h HNO.out⟩, rfl⟩
                · have z5 : decide (1073741824 < pid) = false := decide_eq_false h5
                  by_cases h6 : 1073741824 < ver
                  · have z6 : decide (1073741824 < ver) = true := decide_eq_true h6
                    have HNO := Lib.hid (show ¬ PlainE es from fun h => by have := HBAD.out h; omega)
                    clear h0 h1 h2 h3 h4 h5 h6
                    go_wp2
                    go_ret
                    exact ⟨false, rfl, ⟨fun h => by simp at h, fun h => absurd h HNO.out⟩, rfl⟩
                  · have z6 : decide (1073741824 < ver) = false := decide_eq_false h6
                    by_cases h7 : 1073741824 < seq
                    · have z7 : decide (1073741824 < seq) = true := decide_eq_true h7
                      have HNO := Lib.hid (show ¬ PlainE es from fun h => by have := HBAD.out h; omega)
                      clear h0 h1 h2 h3 h4 h5 h6 h7
                      go_wp2
                      go_ret
                      exact ⟨false, rfl, ⟨fun h => by simp at h, fun h => absurd h HNO.out⟩, rfl⟩
                    · have z7 : decide (1073741824 < seq) = false := decide_eq_false h7
                      have HOK := Lib.hid (HNX.out (by omega))
                      clear h0 h1 h2 h3 h4 h5 h6 h7
                      go_wp2
                      go_round
                      case rel => exact ⟨k + 1, by omega, by go_num, HOK⟩
                      case measure => simp [intOf]; omega
    · obtain rfl : k = es.length := by omega
      go_wp2
      go_ret
      exact ⟨true, rfl, ⟨fun _ i hi => HN.out i hi hi, fun _ => rfl⟩, rfl⟩
end Go.Proofs.Ythefakbhaaponaa
