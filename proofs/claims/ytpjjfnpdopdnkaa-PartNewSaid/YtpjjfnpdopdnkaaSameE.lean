/- tailracelaw.sameEntries of two lists that are the same; octets and logs: memory of their own; sameLog. -/
import Derived.Test.YtpjjfnpdopdnkaaEnt
import Derived.Test.YtpjjfnpdopdnkaaMemX
import Derived.Test.YtpjjfnpdopdnkaaConv
import Derived.Test.YtpjjfnpdopdnkaaCloneByte
namespace Go.Proofs.Ytpjjfnpdopdnkaa
open Go.RowKit

set_option maxRecDepth 100000 in
set_option maxHeartbeats 1000000 in
theorem sameEntries_same (u v : Value) (es : List Ent) (w : World) (hu : Es w u es) (hv : Es w v es) (hl : es.length ≤ 9223372036854775807) :
    Calls Try.prog 30 #[u, v] w fun e w' => e = .returned (.bool true) ∧ Below w.heap.size w w' := by
  obtain ⟨A1, c1, rfl, hc1, hx1⟩ := hu.at_
  obtain ⟨A2, c2, rfl, hc2, hy1⟩ := hv.at_
  have HX := Lib.hid hx1
  have HY := Lib.hid hy1
  clear hu hv hx1 hy1
  go_enter Try.func30, Try.ntmps30
  go_wp2
  go_loopw [5] (fun i wr => ∃ k : Nat, k ≤ es.length ∧ i = .int .i64 k ∧ Hid (Below w.heap.size w wr)) (fun i _ => es.length - (intOf i).toNat)
  case atStart => exact ⟨0, by omega, rfl, Below.refl _ _⟩
  case round =>
    obtain ⟨k, hk, rfl, hbw⟩ := hrel
    by_cases hlt : k < es.length
    · obtain ⟨b1, o1, rfl, hbb1, q1⟩ := HX.out (by omega)
      obtain ⟨b2, o2, rfl, hbb2, q2⟩ := HY.out (by omega)
      obtain ⟨x0, x1, x2, x3, x4, x5, x6⟩ := q1 k hlt
      obtain ⟨y0, y1, y2, y3, y4, y5, y6⟩ := q2 k hlt
      have k1 : ∀ o, wr.cell? ⟨b1, o, none⟩ = w.cell? ⟨b1, o, none⟩ := fun o => hbw.out.cell (p := ⟨b1, o, none⟩) hbb1
      have k2 : ∀ o, wr.cell? ⟨b2, o, none⟩ = w.cell? ⟨b2, o, none⟩ := fun o => hbw.out.cell (p := ⟨b2, o, none⟩) hbb2
      replace x0 := (k1 _).trans x0
      replace x1 := (k1 _).trans x1
      replace x2 := (k1 _).trans x2
      replace x3 := (k1 _).trans x3
      replace x4 := (k1 _).trans x4
      replace x5 := (k1 _).trans x5
      replace x6 := (k1 _).trans x6
      replace y0 := (k2 _).trans y0
      replace y1 := (k2 _).trans y1
      replace y2 := (k2 _).trans y2
      replace y3 := (k2 _).trans y3
      replace y4 := (k2 _).trans y4
      replace y5 := (k2 _).trans y5
      replace y6 := (k2 _).trans y6
      have hj0 : (0 : Int) ≤ (k : Int) := by omega
      have hj1 : (k : Int) < (es.length : Int) := by omega
      clear k1 k2 q1 q2
      go_wp2
      go_quiet (fail)
      go_wp2
      go_light
      refine ⟨⟨k + 1, by omega, by go_num, ?_⟩, by simp [intOf]; omega⟩
      exact hbw.out.trans ((below_drewN_ _ _).mono (by have := hbw.out.size; omega))
    · obtain rfl : k = es.length := by omega
      go_wp2
      go_ret
      exact ⟨rfl, hbw.out⟩

set_option maxRecDepth 100000 in
set_option maxHeartbeats 1000000 in
theorem octets_any (v : Value) (l : List UInt8) (w : World) (h : By w v l) (hm : l.length ≤ 140737488355328) :
    Calls Try.prog 28 #[v] w fun e w' => ∃ v', e = .returned v' ∧ w'.ownsRow w.heap.size 5 1 v' l.length (bvs l) ∧ Below w.heap.size w w' := by
  obtain ⟨i0, hi0, hz0, hz1, hz2⟩ := info_parts CloneByte_info
  obtain ⟨A, c, rfl, hc, -⟩ := h.at_
  go_enter Try.func28, Try.ntmps28
  go_wp2_with (at_builtin; go_must (refine wpList_append_sl _ rfl (.const (.slice none 0 0)) (.tmp 3) 34 rfl w.heap.size 5 i0 (.int .u8 0) 1 1 Try.underlying34 hi0 hz0 hz1 hz2 rfl (by decide) _ _ _ (by rfl) (World.ownsRow_nil _ _ _ _) _ l.length (bvs l) (by rfl) h (bvs_one l) (by simp only [maxLen]; omega) (by omega) (by simp) ?_; intro v1 w1 ho1 hg1 ha1))
  go_ret
  exact ⟨v1, rfl, own_eq ho1 (by omega) (by simp), (Below.refl w.heap.size w).grown hg1 (Nat.le_refl _) (by intro k hk; simp [Value.ownBlock] at hk)⟩

set_option maxRecDepth 100000 in
set_option maxHeartbeats 1000000 in
theorem logs_any (v : Value) (l : List UInt8) (s : Int) (w : World) (h : By w v l) (hm : l.length ≤ 140737488355328) :
    Calls Try.prog 32 #[.agg #[v, .int .i64 s]] w fun e w' => ∃ v', e = .returned (.agg #[v', .int .i64 s]) ∧ w'.ownsRow w.heap.size 5 1 v' l.length (bvs l) ∧ Below w.heap.size w w' := by
  obtain ⟨A, c, rfl, hc, -⟩ := h.at_
  go_enter Try.func32, Try.ntmps32
  go_wp2
  have hbx := (Blk.new w 42 #[.slice A l.length c, .int .i64 s]).alloc (.cells #[.slice none 0 0, .int .i64 0] 42)
  have hbz := Blk.new (w.alloc (.cells #[.slice A l.length c, .int .i64 s] 42)) 42 #[.slice none 0 0, .int .i64 0]
  have hbl : Below w.heap.size w ((w.alloc (.cells #[.slice A l.length c, .int .i64 s] 42)).alloc (.cells #[.slice none 0 0, .int .i64 0] 42)) := ((Below.refl _ _).alloc (Nat.le_refl _) _).alloc (by simp) _
  simp only [World.size_alloc] at hbz
  generalize (w.alloc (.cells #[.slice A l.length c, .int .i64 s] 42)).alloc (.cells #[.slice none 0 0, .int .i64 0] 42) = W0 at *
  have q0 := hbx.cell 0
  have q1 := hbx.cell 1
  have ql := hbx.lt
  have z0 := hbz.cell 0
  have z1 := hbz.cell 1
  have zf0 := hbz.frozen 0
  have zf1 := hbz.frozen 1
  have zl := hbz.lt
  have hbd := (Below.refl W0.heap.size W0).drew
  go_region_with ((go_at_call 28; refine (octets_any _ l _ (h.below (below_then hbl hbd)) hm).mono ?_; rintro e w5 ⟨v5, rfl, ho5, hb5⟩; obtain ⟨A5, c5, rfl, hc5⟩ := (Sl.of_own ho5).form; have hbel := below_then hbd hb5; have bx5 := hbx.below hbel hbx.lt; have bz5 := hbz.below hbel hbz.lt; have y0 := bx5.cell 0; have y1 := bx5.cell 1; have u0 := bz5.cell 0; have u1 := bz5.cell 1; have uf0 := bz5.frozen 0; have uf1 := bz5.frozen 1; have ul := bz5.lt; have yl := bx5.lt))
  all_goals go_wp2
  all_goals have HB5 := (bz5.set_ 0 (.slice A5 l.length c5)).set_ 1 (.int .i64 s)
  all_goals have HO5 := own_far (own_far (own_base ho5 hbl.size) bz5 (by decide) 0 (.slice A5 l.length c5)) (bz5.set_ 0 _) (by decide) 1 (.int .i64 s)
  all_goals have HL5 := ((hbl.trans (hbel.mono hbl.size)).setCell (p := ⟨w.heap.size + 1, 0, none⟩) (by show w.heap.size ≤ w.heap.size + 1; omega) (.slice A5 l.length c5)).setCell (p := ⟨w.heap.size + 1, 1, none⟩) (by show w.heap.size ≤ w.heap.size + 1; omega) (.int .i64 s)
  all_goals generalize (w5.setCell ⟨w.heap.size + 1, 0, none⟩ (.slice A5 l.length c5)).setCell ⟨w.heap.size + 1, 1, none⟩ (.int .i64 s) = W6 at *
  all_goals simp only [List.setIfInBounds_toArray, List.set_cons_succ, List.set_cons_zero] at HB5
  all_goals have r0 := HB5.cell 0
  all_goals have r1 := HB5.cell 1
  all_goals exact bodyPost_ret (v := .agg #[.slice A5 l.length c5, .int .i64 s]) (by simp [results, Try.results32, go_sem, r0, r1]) rfl ⟨.slice A5 l.length c5, rfl, HO5, HL5⟩

set_option maxRecDepth 100000 in
set_option maxHeartbeats 1000000 in
theorem sameLog_same (u v : Value) (l : List UInt8) (s : Int) (w : World) (hu : By w u l) (hv : By w v l) :
    Calls Try.prog 38 #[.agg #[u, .int .i64 s], .agg #[v, .int .i64 s]] w fun e w' => e = .returned (.bool true) ∧ Below w.heap.size w w' := by
  have c1 := ((hu.below ((Below.refl w.heap.size w).alloc (Nat.le_refl _) (.cells #[u, .int .i64 s] 42))).below ((Below.refl _ _).alloc (Nat.le_refl _) (.cells #[v, .int .i64 s] 42))).convert_
  have c2 := ((hv.below ((Below.refl w.heap.size w).alloc (Nat.le_refl _) (.cells #[u, .int .i64 s] 42))).below ((Below.refl _ _).alloc (Nat.le_refl _) (.cells #[v, .int .i64 s] 42))).convert_
  obtain ⟨A1, k1, rfl, -, -⟩ := hu.at_
  obtain ⟨A2, k2, rfl, -, -⟩ := hv.at_
  go_enter Try.func38, Try.ntmps38
  go_wp2
  go_ret
  exact ⟨rfl, ((Below.refl _ _).alloc (Nat.le_refl _) _).alloc (by simp) _⟩

end Go.Proofs.Ytpjjfnpdopdnkaa
