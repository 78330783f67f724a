/- wire.Decode: the entries that bytes say. -/
import Derived.Test.YtpjjfnpdopdnkaaDecF
namespace Go.Proofs.Ytpjjfnpdopdnkaa
open Go.RowKit

set_option maxRecDepth 100000 in
set_option maxHeartbeats 4000000 in
theorem decode_any (v : Value) (l : List UInt8) (w : World) (hv : By w v l) (hl : l.length ≤ 1099511627776) :
    Calls Try.prog 27 #[v] w (DecPost l w) := by
  obtain ⟨j0, hj0, hy0, hy1, hy2⟩ := info_parts ent_info
  obtain ⟨A, c, rfl, hc, hcell⟩ := hv.at_
  have HC := Lib.hid hcell
  have hvB := Lib.hid hv
  clear hv hcell
  go_enter Try.func27, Try.ntmps27
  go_wp2
  go_loopw [4, 5] (fun o a wr => DecLp w l o a wr) (fun _ a _ => l.length - (intOf a).toNat)
  case atStart => exact decLp_start w l
  case round =>
    obtain ⟨i, es, o, hi, rfl, rfl, h4, ho, hd, hb⟩ := hrel
    by_cases hlt : i < l.length
    · obtain ⟨b, off, rfl, hbl, hcs⟩ := HC.out (by omega)
      obtain ⟨n, hn, hn256, hbad, hgood⟩ := dec_at hlt
      have X0 := (hb.cell (p := ⟨b, off + i, none⟩) hbl).trans (hcs i hlt)
      rw [hn] at X0
      have HBAD := Lib.hid hbad
      have HGOOD := Lib.hid hgood
      have HCS := Lib.hid hcs
      have HB := Lib.hid hb
      have hsz := hb.size
      have i0 : (0 : Int) ≤ (i : Int) := by omega
      have i1 : (i : Int) < (l.length : Int) := by omega
      clear hbad hgood hcs hb hn
      by_cases h0 : n = 0
      · have z0 : ((n : Int) == 0) = true := by rw [beq_iff_eq]; omega
        go_wp2
        exact bodyPost_ret (v := .tuple #[u4, .int .i64 i]) (by simp [results, Try.results27, go_sem]) rfl (decLp_end ho hd HB.out (HBAD.out (Or.inl h0)))
      · have z0 : ((n : Int) == 0) = false := by rw [beq_eq_false_iff_ne]; omega
        by_cases hg : l.length < i + n + 3
        · have z1 : decide ((l.length : Int) < (i : Int) + (n : Int) + 3) = true := decide_eq_true (by omega)
          go_wp2
          exact bodyPost_ret (v := .tuple #[u4, .int .i64 i]) (by simp [results, Try.results27, go_sem]) rfl (decLp_end ho hd HB.out (HBAD.out (Or.inr hg)))
        · have z1 : decide ((l.length : Int) < (i : Int) + (n : Int) + 3) = false := decide_eq_false (by omega)
          have hng : ¬ (n = 0 ∨ l.length < i + n + 3) := by omega
          obtain ⟨q1, q2, q1lt, q2lt, ⟨h1, e1⟩, ⟨h2, e2⟩, hsum, hbody, hstep⟩ := HGOOD.out hng
          have X1 := (HB.out.cell (p := ⟨b, off + (i + n + 1), none⟩) hbl).trans (HCS.out (i + n + 1) h1)
          have X2 := (HB.out.cell (p := ⟨b, off + (i + n + 2), none⟩) hbl).trans (HCS.out (i + n + 2) h2)
          rw [e1] at X1
          rw [e2] at X2
          have HSUM := Lib.hid hsum
          have HSTEP := Lib.hid hstep
          have HBODY := Lib.hid hbody
          clear hsum hbody hstep e1 e2 h1 h2
          have hx := By.take_ (n := n) (By.drop_ (hvB.out.below HB.out) (i := i + 1) (by omega)) (by rw [List.length_drop]; omega)
          have hxl : ((l.drop (i + 1)).take n).length = n := by rw [List.length_take, List.length_drop]; omega
          rw [hxl] at hx
          generalize hxe : (l.drop (i + 1)).take n = x at *
          have HXE := Lib.hid hxe
          have i2 : i + 1 < c := by omega
          have i3 : (i : Int) + 1 + (n : Int) ≤ (c : Int) := by omega
          have hor := or_byte q1 q2 q1lt q2lt
          clear hxe
          have hs256 : wsum x n % 65521 < 65521 := Nat.mod_lt _ (by omega)
          have hq : ∀ m, Calls Try.prog 75 #[.slice (some ⟨b, off + (i + 1), none⟩) n (c - (i + 1))] (wr.drewN m) fun e w'' => e = .returned (.int .i64 ((wsum x n % 65521 : Nat) : Int)) ∧ ∃ m', w'' = wr.drewN m' := fun m => by
            have h := quiet_sum (n := m) hx (by omega)
            rw [hxl] at h
            exact h
          generalize wsum x n % 65521 = s at *
          have HQ := Lib.hid hq
          clear hq HGOOD
          go_wp2
          go_quiet ((go_at_call 75; exact HQ.out _))
          have hni : i + 1 + n - (i + 1) = n := by omega
          simp only [hni]
          have hbq := below_drewN_ wr nq
          have hbW := below_then HB.out hbq
          have hoW : (wr.drewN nq).ownsRow w.heap.size 55 7 u4 es.length (ecs es) := ho
          have hxW := hx.below hbq
          generalize wr.drewN nq = W1 at *
          by_cases hs : s = q1 * 256 + q2
          · have z2 : ((s : Int) != ((q1 * 256 + q2 : Nat) : Int)) = false := by simp only [bne_eq_false_iff_eq]; omega
            obtain ⟨k0, r0, rfl⟩ : ∃ k0 r0, x = k0 :: r0 := by
              rcases x with _ | ⟨k0, r0⟩
              · simp at hxl; omega
              · exact ⟨k0, r0, rfl⟩
            simp only [List.length_cons] at hxl
            go_wp2_with fail
            refine (body_any _ k0 r0 W1 hxW (by omega)).mono ?_
            rintro e W2 ⟨y, bb, rfl, hyy1, hyy2, hb2⟩
            simp only [entV]
            have HY1 := Lib.hid hyy1
            have HY2 := Lib.hid hyy2
            clear hyy1 hyy2
            have hoW2 := own_keep hoW hb2 (fun b hb => (hoW.lt b hb).2)
            have hbW2 := hbW.trans (hb2.mono hbW.size)
            cases bb
            · go_wp2
              exact bodyPost_ret (v := .tuple #[u4, .int .i64 i]) (by simp [results, Try.results27, go_sem]) rfl (decLp_end (hoW2.alloc _) hd (hbW2.alloc hbW2.size _) (HBODY.out (HY2.out (by first | rfl | trivial))))
            · have HBW := Lib.hid (hbW2.alloc hbW2.size (.cells #[.int .i64 y.ep, .int .i64 y.pid, .int .i64 y.ver, .int .i64 y.seq, .int .i64 y.kind, .bool y.txn, .string y.text] 55))
              have hsz2 := hbW2.size
              have HI := Lib.hid (show i + n + 3 ≤ l.length from by omega)
              have HDD := hd
              clear hbW2 hbW hb2 hd
              go_wp2_with (at_builtin; go_must (refine wpList_append_sl _ rfl (.tmp 66) (.tmp 68) 35 rfl w.heap.size 55 j0 (.agg #[.int .i64 0, .int .i64 0, .int .i64 0, .int .i64 0, .int .i64 0, .bool false, .string .empty]) 7 64 Try.underlying35 hj0 hy0 hy1 hy2 rfl (by decide) _ _ _ (by rfl) ((hoW2.alloc _).alloc _) _ 1 _ (by rfl) (Sl.lit' _ _ _ 7 1 _ rfl (by simp)) (by intro x hx; simp at hx; rcases hx with rfl | rfl | rfl | rfl | rfl | rfl | rfl <;> rfl) (by simp only [maxLen]; omega) (by omega) (by simp; omega) ?_; intro v4 w4 ho4 hg4 ha4))
              go_light
              exact ⟨decLp_next HI.out h4 h0 ho4 HDD (HSTEP.out y hs (HY1.out (by first | rfl | trivial))) (own_below HBW.out (Nat.le_refl _) (hoW2.alloc _) _ hg4) (by go_num), by simp [intOf]; omega⟩
          · have z2 : ((s : Int) != ((q1 * 256 + q2 : Nat) : Int)) = true := by simp only [bne_iff_ne]; omega
            go_wp2
            exact bodyPost_ret (v := .tuple #[u4, .int .i64 i]) (by simp [results, Try.results27, go_sem]) rfl (decLp_end hoW hd hbW (HSUM.out hs))
    · obtain rfl : i = l.length := by omega
      go_wp2
      exact bodyPost_ret (v := .tuple #[u4, .int .i64 l.length]) (by simp [results, Try.results27, go_sem]) rfl (decLp_end ho hd hb (dec_at_end (Nat.le_refl _)))
end Go.Proofs.Ytpjjfnpdopdnkaa
