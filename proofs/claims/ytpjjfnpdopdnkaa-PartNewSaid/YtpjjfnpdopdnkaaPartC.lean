/- part.Copy: a part in memory of its own. -/
import Derived.Test.YtpjjfnpdopdnkaaPartO
import Derived.Test.YtpjjfnpdopdnkaaCloneBool
import Derived.Test.YtpjjfnpdopdnkaaCloneInt
import Derived.Test.YtpjjfnpdopdnkaaCloneRep
import Derived.Test.YtpjjfnpdopdnkaaCloneByte
namespace Go.Proofs.Ytpjjfnpdopdnkaa
open Go.RowKit
attribute [local go_sem ↓] Go.wp_at_zero Go.wp_at_succ

/-- what the first lines of part.Copy leave -/
def CutP (w : World) (c : PartD) (rows : List (RepD × Value)) (wx : World) : Prop := ∃ iv kv rv, OwnPart w wx (w.heap.size + 2) c iv kv rv rows 0 ∧ Blk wx w.heap.size 26 #[.int .i64 c.epoch, .int .i64 c.leader, iv, kv, rv, .int .i64 c.few, .int .i64 c.base] ∧ Blk wx (w.heap.size + 1) 26 #[.int .i64 0, .int .i64 0, .slice none 0 0, .slice none 0 0, .slice none 0 0, .int .i64 0, .int .i64 0] ∧ Below w.heap.size w wx
/-- the loop of part.Copy -/
def CopyLpP (w : World) (c : PartD) (iv kv rv : Value) (i : Value) (wr : World) : Prop :=
  ∃ (k : Nat) (rows : List (RepD × Value)), k ≤ c.reps.length ∧ i = .int .i64 k ∧ OwnPart w wr (w.heap.size + 2) c iv kv rv rows k ∧ Blk wr w.heap.size 26 #[.int .i64 c.epoch, .int .i64 c.leader, iv, kv, rv, .int .i64 c.few, .int .i64 c.base] ∧ Blk wr (w.heap.size + 1) 26 #[.int .i64 0, .int .i64 0, .slice none 0 0, .slice none 0 0, .slice none 0 0, .int .i64 0, .int .i64 0] ∧ Below w.heap.size w wr

set_option maxRecDepth 100000 in
set_option maxHeartbeats 16000000 in
theorem partCopy_any (v : Value) (c : PartD) (w : World) (h : Pv w v c) (h1 : c.isr.length ≤ 140737488355328) (h2 : c.known.length * 8 ≤ 140737488355328) (h3 : c.reps.length * 48 ≤ 140737488355328) (h4 : ∀ t ∈ c.reps, t.bytes.length ≤ 140737488355328) :
    Calls Try.prog 26 #[v] w (CopyPostP w c) := by
  obtain ⟨xi, xk, xr, rfl, hi, hk, ⟨rows, hfst, hsl, hparts⟩, hli, hlk, hlr⟩ := h
  unfold partV
  obtain ⟨ep, ld, is, ks, rs, fw, ba⟩ := c
  simp only at *
  obtain ⟨Ai, ci, rfl, hci⟩ := Sl.form hi
  obtain ⟨Ak, ck, rfl, hck⟩ := Sl.form hk
  obtain ⟨Ar, cr, rfl, hcr⟩ := Sl.form hsl
  have HI := Lib.hid hi
  have HK := Lib.hid hk
  have H1 := Lib.hid hsl
  have H2 := Lib.hid hparts
  have H3 := Lib.hid hfst
  have H4 := Lib.hid h4
  have HONE := Lib.hid (rcells_one rows (fun t ht => Sl.oneCell (H2.out t ht).1))
  have hm1 : is.length ≤ maxLen := by simp only [maxLen]; omega
  have hm2 : ks.length ≤ maxLen := by simp only [maxLen]; omega
  have hm3 : rs.length ≤ maxLen := by simp only [maxLen]; omega
  have HM1 := Lib.hid hm1
  have HM2 := Lib.hid hm2
  have HM3 := Lib.hid hm3
  have HB1 := Lib.hid (show is.length * 1 ≤ 140737488355328 by omega)
  have HB2 := Lib.hid h2
  have HB3 := Lib.hid h3
  clear hi hk hsl hparts hfst h4 hm1 hm2 hm3 h1 h2 h3
  go_enter Try.func26, Try.ntmps26
  go_upto_region 1 with fail
  go_cut [] from 4 (fun wx => CutP w ⟨ep, ld, is, ks, rs, fw, ba⟩ rows wx)
  case first =>
    have hbd : Below w.heap.size w (((w.alloc (.cells #[.int .i64 ep, .int .i64 ld, .slice Ai is.length ci, .slice Ak ks.length ck, .slice Ar rs.length cr, .int .i64 fw, .int .i64 ba] 26)).alloc (.cells #[.int .i64 0, .int .i64 0, .slice none 0 0, .slice none 0 0, .slice none 0 0, .int .i64 0, .int .i64 0] 26))).drew := (((Below.refl _ _).alloc (Nat.le_refl _) _).alloc (by simp) _).drew
    have bxd := ((Blk.new w 26 #[.int .i64 ep, .int .i64 ld, .slice Ai is.length ci, .slice Ak ks.length ck, .slice Ar rs.length cr, .int .i64 fw, .int .i64 ba]).alloc (.cells #[.int .i64 0, .int .i64 0, .slice none 0 0, .slice none 0 0, .slice none 0 0, .int .i64 0, .int .i64 0] 26)).below (B := w.heap.size + 2) ((Below.refl _ _).drew) (by omega)
    go_region_with (first
      | (go_at_call 71; refine (CloneBool_any (.slice Ai is.length ci) is.length (is.map Value.bool) _ (Sl.below HI.out hbd) (bools_one is) HM1.out HB1.out).mono ?_; rintro e w5 ⟨v5, rfl, how5, hbw5⟩; obtain ⟨A5, c5, rfl, hc5⟩ := (Sl.of_own how5).form; have bw5 := bxd.below hbw5 (by simp; omega); have k2w5 := bw5.cell 2; have k3w5 := bw5.cell 3; have k4w5 := bw5.cell 4; have f2w5 := bw5.frozen 2; have f3w5 := bw5.frozen 3; have f4w5 := bw5.frozen 4; have ltw5 : w.heap.size < w5.heap.size := bw5.lt)
      | (go_at_call 72; refine (CloneInt_any (.slice Ak ks.length ck) ks.length (ks.map (Value.int .i64)) _ (Sl.below HK.out (below_then hbd hbw5)) (ints_one ks) HM2.out HB2.out).mono ?_; rintro e w6 ⟨v6, rfl, how6, hbw6⟩; obtain ⟨A6, c6, rfl, hc6⟩ := (Sl.of_own how6).form; have bw6 := bw5.below hbw6 ltw5; have k2w6 := bw6.cell 2; have k3w6 := bw6.cell 3; have k4w6 := bw6.cell 4; have f2w6 := bw6.frozen 2; have f3w6 := bw6.frozen 3; have f4w6 := bw6.frozen 4; have ltw6 : w.heap.size < w6.heap.size := bw6.lt)
      | (go_at_call 73; refine (CloneRep_any (.slice Ar rs.length cr) rs.length (rows.flatMap rcells) _ (Sl.below H1.out (below_then (below_then hbd hbw5) hbw6)) HONE.out HM3.out HB3.out).mono ?_; rintro e w7 ⟨v7, rfl, how7, hbw7⟩; obtain ⟨A7, c7, rfl, hc7⟩ := (Sl.of_own how7).form; have bw7 := bw6.below hbw7 ltw6; have k2w7 := bw7.cell 2; have k3w7 := bw7.cell 3; have k4w7 := bw7.cell 4; have f2w7 := bw7.frozen 2; have f3w7 := bw7.frozen 3; have f4w7 := bw7.frozen 4; have ltw7 : w.heap.size < w7.heap.size := bw7.lt))
    all_goals (
      have rx := (Blk.new (w.alloc (.cells #[.int .i64 ep, .int .i64 ld, .slice Ai is.length ci, .slice Ak ks.length ck, .slice Ar rs.length cr, .int .i64 fw, .int .i64 ba] 26)) 26 #[.int .i64 0, .int .i64 0, .slice none 0 0, .slice none 0 0, .slice none 0 0, .int .i64 0, .int .i64 0]).below (B := w.heap.size + 2) ((Below.refl _ _).drew) (by simp)
      have sz5 := hbw5.size
      have sz6 := hbw6.size
      have bl7 := below_then (below_then (below_then hbd hbw5) hbw6) hbw7
      simp only [World.size_alloc, World.size_drew] at rx how5 hbw5 sz5
      have rx7 := ((rx.below hbw5 (by omega)).below hbw6 (by omega)).below hbw7 (by omega)
      have own5 := own_keep (own_keep how5 hbw6 (fun b hb => (how5.lt b hb).2)) hbw7 (fun b hb => by have := (how5.lt b hb).2; omega)
      have own6 := own_base (base' := w.heap.size + 2) (own_keep how6 hbw7 (fun b hb => (how6.lt b hb).2)) (by omega)
      have own7 := own_base (base' := w.heap.size + 2) how7 (by omega)
      have bx8 := ((bw7.set_ 2 (.slice A5 is.length c5)).set_ 3 (.slice A6 ks.length c6)).set_ 4 (.slice A7 rs.length c7)
      simp only [List.setIfInBounds_toArray, List.set_cons_succ, List.set_cons_zero] at bx8
      have rx8 := ((rx7.far (p := ⟨w.heap.size, 2, none⟩) (by simp) (.slice A5 is.length c5)).far (p := ⟨w.heap.size, 3, none⟩) (by simp) (.slice A6 ks.length c6)).far (p := ⟨w.heap.size, 4, none⟩) (by simp) (.slice A7 rs.length c7)
      have bl8 := ((bl7.setCell (p := ⟨w.heap.size, 2, none⟩) (Nat.le_refl _) (.slice A5 is.length c5)).setCell (p := ⟨w.heap.size, 3, none⟩) (Nat.le_refl _) (.slice A6 ks.length c6)).setCell (p := ⟨w.heap.size, 4, none⟩) (Nat.le_refl _) (.slice A7 rs.length c7)
      have up : ∀ {e sz u n xs}, w7.ownsRow (w.heap.size + 2) e sz u n xs → (((w7.setCell ⟨w.heap.size, 2, none⟩ (.slice A5 is.length c5)).setCell ⟨w.heap.size, 3, none⟩ (.slice A6 ks.length c6)).setCell ⟨w.heap.size, 4, none⟩ (.slice A7 rs.length c7)).ownsRow (w.heap.size + 2) e sz u n xs := fun h => ownsRow_setCell_below (ownsRow_setCell_below (ownsRow_setCell_below h (a := ⟨w.heap.size, 2, none⟩) (by simp) _) (a := ⟨w.heap.size, 3, none⟩) (by simp) _) (a := ⟨w.heap.size, 4, none⟩) (by simp) _
      have o5 := up own5
      have o6 := up own6
      have o7 := up own7
      clear up
      generalize (((w7.setCell ⟨w.heap.size, 2, none⟩ (.slice A5 is.length c5)).setCell ⟨w.heap.size, 3, none⟩ (.slice A6 ks.length c6)).setCell ⟨w.heap.size, 4, none⟩ (.slice A7 rs.length c7)) = W8 at *
      have hown : OwnPart w W8 (w.heap.size + 2) ⟨ep, ld, is, ks, rs, fw, ba⟩ (.slice A5 is.length c5) (.slice A6 ks.length c6) (.slice A7 rs.length c7) rows 0 := ⟨o5, o6, ⟨H3.out, o7, bl8, fun t ht => (H2.out t (by simpa using ht)).1, by simp, by simp⟩⟩
      go_wp2_with fail
      go_meet
      exact ⟨_, _, _, hown, bx8, rx8, bl8⟩)
  case rest =>
    obtain ⟨iv, kv, rv, hown, hbx, hrx, hbl⟩ := hcut
    simp only at hbx
    obtain ⟨A5, c5, rfl, hc5⟩ := (Sl.of_own hown.isr).form
    obtain ⟨A6, c6, rfl, hc6⟩ := (Sl.of_own hown.known).form
    obtain ⟨A7, c7, rfl, hc7⟩ := (Sl.of_own hown.reps.own).form
    simp only at hc5 hc6 hc7 hbx hown
    have q4 := hbx.cell 4
    have ql := hbx.lt
    have PO := Lib.hid hown
    have PB := Lib.hid hbx
    have PR := Lib.hid hrx
    have PL := Lib.hid hbl
    clear hown hbx hrx hbl
    go_wp2
    go_loopw [19] (fun i wr => CopyLpP w ⟨ep, ld, is, ks, rs, fw, ba⟩ (.slice A5 is.length c5) (.slice A6 ks.length c6) (.slice A7 rs.length c7) i wr) (fun i _ => rs.length - (intOf i).toNat)
    case atStart => exact ⟨0, rows, Nat.zero_le _, rfl, PO.out, PB.out, PR.out, PL.out⟩
    case round =>
      obtain ⟨k, rows', hk, rfl, ho, hbx, hrx, hbl⟩ := hrel
      simp only at hk hbx
      clear q4 ql
      have q4 := hbx.cell 4
      have ql := hbx.lt
      by_cases hlt : k < rs.length
      · have hl : rows'.length = rs.length := by have h := congrArg List.length ho.reps.fst; simpa using h
        obtain ⟨g, c2, hv, hg1, hg2, hc2, hcell⟩ := ho.reps.at_ (by simp only; omega)
        injection hv with hA hlen' hcc
        clear hlen'
        simp only at hc2
        subst hA hcc
        have hr := (ho.reps.old rows'[k] (List.mem_drop_iff_getElem.2 ⟨0, by omega, by simp⟩)).below ho.reps.bel
        have h4 := (hcell k (by omega) 1 (by omega)).1
        have f4 := (hcell k (by omega) 1 (by omega)).2
        have h4' : wr.cell? ⟨g, k * 4 + 1, none⟩ = some rows'[k].2 := h4
        have HRD := Lib.hid hr
        have HOW := Lib.hid ho
        have hpl : rows'[k].1.bytes.length ≤ 140737488355328 := by
          have he : rs[k] = rows'[k].1 := by have := HOW.out.reps.fst; simp only at this; simp [← this]
          rw [← he]; exact H4.out _ (List.getElem_mem _)
        generalize hpv : rows'[k].2 = pv at h4' HRD
        have HPV := Lib.hid hpv
        clear hpv
        obtain ⟨A3, c3, rfl, hc3⟩ := Sl.form HRD.out
        have hk0 : (0 : Int) ≤ (k : Int) := by omega
        have hk1 : (k : Int) < (rs.length : Int) := by omega
        clear h4 hcell hr ho
        go_wp2
        have hrd := HRD.out
        have hbd : Below wr.heap.size wr wr.drew := (Below.refl _ _).drew
        have hpm : rows'[k].1.bytes.length ≤ maxLen := by simp only [maxLen]; omega
        go_region_with ((go_at_call 74; refine (CloneByte_any (.slice A3 rows'[k].1.bytes.length c3) rows'[k].1.bytes.length (bvs rows'[k].1.bytes) _ (Sl.below hrd hbd) (bvs_one _) hpm (by omega)).mono ?_; rintro e w5 ⟨v5, rfl, ho5, hb5⟩; obtain ⟨A5, c5, rfl, hc5⟩ := (Sl.of_own ho5).form; have hbel := below_then hbd hb5; have k1 := (hbx.below hbel hbx.lt).cell 4; have kl := (hbx.below hbel hbx.lt).lt; have k2 := (hbel.cell (p := ⟨g, k * 4 + 1, none⟩) hg2).trans h4'; have k3 := (hbel.frozen (p := ⟨g, k * 4 + 1, none⟩) hg2).trans f4; have k5 : g < w5.heap.size := by have := hbel.size; omega))
        all_goals go_wp2
        all_goals go_light
        all_goals refine ⟨?_, by simp [intOf]; omega⟩
        all_goals have ho5' : w5.ownsRow wr.heap.size 5 1 _ rows'[k].1.bytes.length (bvs rows'[k].1.bytes) := ho5
        all_goals have hs5 := HOW.out.reps.step (k := k) (by omega) (by omega) (by omega) hbel ho5'
        all_goals have hi5 := HOW.out.reps.offs (j := k * 4 + 1) hbel (own_keep HOW.out.isr hbel (fun b hb => (HOW.out.isr.lt b hb).2)) (by decide) (.slice A5 rows'[k].1.bytes.length c5)
        all_goals have hk5 := HOW.out.reps.offs (j := k * 4 + 1) hbel (own_keep HOW.out.known hbel (fun b hb => (HOW.out.known.lt b hb).2)) (by decide) (.slice A5 rows'[k].1.bytes.length c5)
        all_goals exact ⟨k + 1, setPartsP rows' k _, by simp only; omega, by go_num, ⟨hi5, hk5, hs5⟩, ((hbx.below hbel hbx.lt).far (by show w.heap.size ≠ g; omega) _), ((hrx.below hbel hrx.lt).far (by show w.heap.size + 1 ≠ g; omega) _), (HOW.out.reps.bel.trans (hbel.mono HOW.out.reps.bel.size)).setCell (by show w.heap.size ≤ g; omega) _⟩
      · obtain rfl : k = rs.length := by omega
        have q0 := hbx.cell 0
        have q1 := hbx.cell 1
        have q2 := hbx.cell 2
        have q3 := hbx.cell 3
        have q5 := hbx.cell 5
        have q6 := hbx.cell 6
        have zl := hrx.lt
        have z0 := hrx.cell 0
        have f0 := hrx.frozen 0
        have z1 := hrx.cell 1
        have f1 := hrx.frozen 1
        have z2 := hrx.cell 2
        have f2 := hrx.frozen 2
        have z3 := hrx.cell 3
        have f3 := hrx.frozen 3
        have z4 := hrx.cell 4
        have f4 := hrx.frozen 4
        have z5 := hrx.cell 5
        have f5 := hrx.frozen 5
        have z6 := hrx.cell 6
        have f6 := hrx.frozen 6
        have HOW := Lib.hid ho
        clear ho
        go_wp2
        have HB5 := ((((((hrx.set_ 0 (.int .i64 ep)).set_ 1 (.int .i64 ld)).set_ 2 (.slice A5 is.length c5)).set_ 3 (.slice A6 ks.length c6)).set_ 4 (.slice A7 rs.length c7)).set_ 5 (.int .i64 fw)).set_ 6 (.int .i64 ba)
        have HO5 := ((((((HOW.out.under (a := ⟨w.heap.size + 1, 0, none⟩) (by simp) (.int .i64 ep)).under (a := ⟨w.heap.size + 1, 1, none⟩) (by simp) (.int .i64 ld)).under (a := ⟨w.heap.size + 1, 2, none⟩) (by simp) (.slice A5 is.length c5)).under (a := ⟨w.heap.size + 1, 3, none⟩) (by simp) (.slice A6 ks.length c6)).under (a := ⟨w.heap.size + 1, 4, none⟩) (by simp) (.slice A7 rs.length c7)).under (a := ⟨w.heap.size + 1, 5, none⟩) (by simp) (.int .i64 fw)).under (a := ⟨w.heap.size + 1, 6, none⟩) (by simp) (.int .i64 ba)
        have HL5 := ((((((hbl.setCell (p := ⟨w.heap.size + 1, 0, none⟩) (Nat.le_succ _) (.int .i64 ep)).setCell (p := ⟨w.heap.size + 1, 1, none⟩) (Nat.le_succ _) (.int .i64 ld)).setCell (p := ⟨w.heap.size + 1, 2, none⟩) (Nat.le_succ _) (.slice A5 is.length c5)).setCell (p := ⟨w.heap.size + 1, 3, none⟩) (Nat.le_succ _) (.slice A6 ks.length c6)).setCell (p := ⟨w.heap.size + 1, 4, none⟩) (Nat.le_succ _) (.slice A7 rs.length c7)).setCell (p := ⟨w.heap.size + 1, 5, none⟩) (Nat.le_succ _) (.int .i64 fw)).setCell (p := ⟨w.heap.size + 1, 6, none⟩) (Nat.le_succ _) (.int .i64 ba)
        generalize (((((((wr.setCell ⟨w.heap.size + 1, 0, none⟩ (.int .i64 ep)).setCell ⟨w.heap.size + 1, 1, none⟩ (.int .i64 ld)).setCell ⟨w.heap.size + 1, 2, none⟩ (.slice A5 is.length c5)).setCell ⟨w.heap.size + 1, 3, none⟩ (.slice A6 ks.length c6)).setCell ⟨w.heap.size + 1, 4, none⟩ (.slice A7 rs.length c7)).setCell ⟨w.heap.size + 1, 5, none⟩ (.int .i64 fw)).setCell ⟨w.heap.size + 1, 6, none⟩ (.int .i64 ba)) = W5 at *
        simp only [List.setIfInBounds_toArray, List.set_cons_succ, List.set_cons_zero] at HB5
        have y0 := HB5.cell 0
        have y1 := HB5.cell 1
        have y2 := HB5.cell 2
        have y3 := HB5.cell 3
        have y4 := HB5.cell 4
        have y5 := HB5.cell 5
        have y6 := HB5.cell 6
        exact bodyPost_ret (v := .agg #[.int .i64 ep, .int .i64 ld, .slice A5 is.length c5, .slice A6 ks.length c6, .slice A7 rs.length c7, .int .i64 fw, .int .i64 ba]) (by simp [results, Try.results26, go_sem, y0, y1, y2, y3, y4, y5, y6]) rfl ⟨_, _, _, rows', rfl, HO5.more (by omega), HL5⟩
end Go.Proofs.Ytpjjfnpdopdnkaa
