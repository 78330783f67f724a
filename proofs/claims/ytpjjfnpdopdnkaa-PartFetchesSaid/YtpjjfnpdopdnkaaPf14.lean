/- Parts of a proof, merged: PmFetE. No condition. -/
import Derived.Test.YtpjjfnpdopdnkaaPf10
import Derived.Test.YtpjjfnpdopdnkaaPf13
namespace Go.Proofs.Ytpjjfnpdopdnkaa
open Go.RowKit
attribute [local go_sem ↓] Go.wp_at_zero Go.wp_at_succ

theorem LgO.grown {base : Nat} {w w' : World} {v : Value} {l : List UInt8} (h : LgO base w v l) {g : Nat} (hg : w.grownBy w' (some g)) (hb : g < base) : LgO base w' v l := ⟨h.own.kept hg (.inr fun e => by have := (h.own.lt g e).1; omega)⟩
theorem LgO.by_ {base : Nat} {w : World} {v : Value} {l : List UInt8} (h : LgO base w v l) : By w v l := Sl.of_own h.own
set_option maxRecDepth 100000 in
set_option maxHeartbeats 4000000 in
theorem fetchedOf_end (v : Value) (c : PartD) (hn : PartOk c) (i l : Nat) (hi : i < c.reps.length) (hl : c.leader = l) (hll : l < c.reps.length) (hne : l ≠ i) (hu : c.reps[i].up = true) {ei el : List Ent} {ji jl : Nat} (hli : LogIs c.reps[i].log ei ji) (hlg : LogIs c.reps[l].log el jl) (n : Nat) (hcm : CommTo ei el n) {z : Nat} (hz : z = (flat (ei.take n)).length) {bc : List UInt8} (hbc : c.reps[i].bytes.take z = bc) {sc : Nat} (hsc : min c.reps[i].synced.toNat z = sc) {jm : Nat} (hjm : min ji n = jm) {qs : List RepD} (hqs : (advD ⟨c.epoch, c.leader, c.isr, c.known.set i (jm : Int), c.reps.set i { c.reps[i] with bytes := bc, synced := (sc : Int) }, c.few, c.base⟩).reps = qs) (hqi : i < qs.length) (hql : l < qs.length) {hg : Int} (hend : el.length ≤ n) (hhg : min (max c.reps[i].high qs[l].high) (n : Int) = hg)  (w : World) (h : Pv w v c) : Calls Try.prog 66 #[v, .int .i64 i] w (PRes3 ⟨c.epoch, c.leader, c.isr, c.known.set i (jm : Int), qs.set i { qs[i] with high := hg }, c.few, c.base⟩ 0 0 w) := by
  obtain ⟨xi, xk, xr, rfl, ix, kx, rx, hli, hlk, hlr⟩ := id h
  obtain ⟨A5, c5, rfl, hc5, hx5⟩ := rx.at_
  obtain ⟨A1, c1, rfl, hc1, -⟩ := ix.at_
  obtain ⟨A3, c3, rfl, hc3, -⟩ := kx.at_
  have H := Lib.hid h
  have HV0 := Lib.hid h
  clear h ix kx rx
  unfold partV at *
  obtain ⟨ep, ld, is, ks, rs, fw, ba⟩ := c
  simp only at *
  have rl0 : 0 < rs.length := Nat.lt_of_le_of_lt (Nat.zero_le _) hi
  obtain ⟨b5, o5, rfl, hb5, hcell5⟩ := hx5 rl0
  obtain ⟨pv, x0, x1, x2, x3, xb, -⟩ := hcell5 i hi
  obtain ⟨A8, c8, rfl, -, -⟩ := xb.at_
  have XI := Lib.hid (And.intro x0 (And.intro x1 (And.intro x2 x3)))
  have XB := Lib.hid xb
  clear hcell5 x0 x1 x2 x3 xb hx5 rl0
  obtain rfl : ld = (l : Int) := hl
  have eqk := hn.known
  have eqi := hn.isr
  (try simp only at eqk eqi)
  have E1 := Lib.hid eqi
  have E2 := Lib.hid eqk
  have HN := Lib.hid hn
  have HSM := Lib.hid hn.small
  have HLI := Lib.hid hli
  have HLG := Lib.hid hlg
  have HCM := Lib.hid hcm
  have HZ_ := Lib.hid hz
  have HBC := Lib.hid hbc
  have HSC := Lib.hid hsc
  have HNE := Lib.hid hne
  have hlc := LogIs.cutN (l := rs[i].bytes) (s := rs[i].synced) hli hz hcm.la
  (try simp only at hbc hsc hqs)
  rw [hbc, hsc, hjm] at hlc
  have HLC := Lib.hid hlc
  have hqn : qs.length = rs.length := by rw [← hqs, advD_at (i := l) rfl]; simp [PartD.updR]
  have had : advD ⟨ep, (l : Int), is, ks.set i (jm : Int), rs.set i { rs[i] with bytes := bc, synced := (sc : Int) }, fw, ba⟩ = ⟨ep, (l : Int), is, ks.set i (jm : Int), qs, fw, ba⟩ := by rw [← hqs, advD_at (i := l) rfl]; rfl
  have hqe : qs[i] = { rs[i] with bytes := bc, synced := (sc : Int) } := by
    have e := hqs
    rw [advD_at (i := l) rfl] at e
    subst e
    simp [PartD.updR, hne]
  have HQB := Lib.hid (show qs[i].bytes = bc by rw [hqe])
  have HQS := Lib.hid (show qs[i].synced = (sc : Int) by rw [hqe])
  have HQH := Lib.hid (show qs[i].high = rs[i].high by rw [hqe])
  have HAD := Lib.hid had
  have HQN := Lib.hid hqn
  have hi9 : i < (rs.set i { rs[i] with bytes := bc, synced := (sc : Int) }).length := by simpa using hi
  have hl9 : l < (rs.set i { rs[i] with bytes := bc, synced := (sc : Int) }).length := by simpa using hll
  have HSZ := Lib.hid (show LogIs (rs.set i { rs[i] with bytes := bc, synced := (sc : Int) })[i].log (ei.take n) jm by rw [List.getElem_set_self]; exact HLC.out)
  have HLL := Lib.hid (show LogIs (rs.set i { rs[i] with bytes := bc, synced := (sc : Int) })[l].log el jl by rw [List.getElem_set_ne (by omega)]; exact HLG.out)
  have HBL_ := Lib.hid (show bc.length ≤ 40000 by have := HSM.out.bytes rs[i] (List.getElem_mem hi); rw [← hbc, List.length_take]; omega)
  have HSM2 := Lib.hid (show PSm ⟨ep, (l : Int), is, ks, rs.set i { rs[i] with bytes := bc, synced := (sc : Int) }, fw, ba⟩ by
    refine ⟨HSM.out.isr, HSM.out.known, by simp only [List.length_set]; exact HSM.out.reps, fun u hu => ?_⟩
    rcases mem_set_cases hu with rfl | hu
    · exact HBL_.out
    · exact HSM.out.bytes u hu)
  have HSM3 := Lib.hid (show PSm ⟨ep, (l : Int), is, ks.set i (jm : Int), qs, fw, ba⟩ by rw [← HAD.out, advD_at (i := l) rfl]; exact PSm.updR (PSm.setKnown HSM2.out i _) l _ (fun t ht => ht))
  have hei : ei.length ≤ 400 := hli.many
  have hel : el.length ≤ 400 := hlg.many
  have hni : n ≤ ei.length := hcm.la
  have hnl : n ≤ el.length := hcm.lb
  have y0 : decide ((l : Int) < 0) = false := decide_eq_false (by omega)
  have y1 : ((l : Int) == (i : Int)) = false := beq_eq_false_iff_ne.2 (by omega)
  have i0 : (0 : Int) ≤ (i : Int) := by omega
  have i1 : (i : Int) < (rs.length : Int) := Int.ofNat_lt.2 hi
  have l0 : (0 : Int) ≤ (l : Int) := by omega
  have l1 : (l : Int) < (rs.length : Int) := Int.ofNat_lt.2 hll
  have j3 : i < ks.length := by omega
  have i3 : (i : Int) < (ks.length : Int) := by omega
  have hup : rs[i].up = true := hu
  have HU := Lib.hid hup
  clear hn hli hlg hcm hz hbc hsc hu hup eqk eqi hlc hqn had hqe hqs hjm
  have y5 : decide ((n : Int) < (el.length : Int)) = false := decide_eq_false (by omega)
  have y5n : decide (n < el.length) = false := decide_eq_false (by omega)
  have HHG := Lib.hid hhg
  have HNE2 := Lib.hid (show i ≠ l by omega)
  clear hhg hend
  have HKEY := Lib.hid (show (decide (rs[i].high < qs[l].high) = true ∧ decide ((n : Int) < qs[l].high) = true ∧ (n : Int) = hg) ∨ (decide (rs[i].high < qs[l].high) = true ∧ decide ((n : Int) < qs[l].high) = false ∧ qs[l].high = hg) ∨ (decide (rs[i].high < qs[l].high) = false ∧ decide ((n : Int) < rs[i].high) = true ∧ (n : Int) = hg) ∨ (decide (rs[i].high < qs[l].high) = false ∧ decide ((n : Int) < rs[i].high) = false ∧ rs[i].high = hg) by
    have e := HHG.out
    (try simp only at e)
    by_cases c1 : rs[i].high < qs[l].high
    · by_cases c2 : (n : Int) < qs[l].high
      · exact Or.inl ⟨decide_eq_true c1, decide_eq_true c2, by omega⟩
      · exact Or.inr (Or.inl ⟨decide_eq_true c1, decide_eq_false c2, by omega⟩)
    · by_cases c2 : (n : Int) < rs[i].high
      · exact Or.inr (Or.inr (Or.inl ⟨decide_eq_false c1, decide_eq_true c2, by omega⟩))
      · exact Or.inr (Or.inr (Or.inr ⟨decide_eq_false c1, decide_eq_false c2, by omega⟩)))
  go_enter Try.func66, Try.ntmps66
  go_wp2_with fail
  obtain ⟨W1, e_W1⟩ : ∃ W : World, (w.alloc (.cells #[.int .i64 ep, .int .i64 l, .slice A1 is.length c1, .slice A3 ks.length c3, .slice (some ⟨b5, o5, none⟩) rs.length c5, .int .i64 fw, .int .i64 ba] 26)).alloc (.cells #[.int .i64 0, .int .i64 0, .slice none 0 0, .slice none 0 0, .slice none 0 0, .int .i64 0, .int .i64 0] 26) = W := ⟨_, rfl⟩
  have hb1 : Below w.heap.size w W1 := by rw [← e_W1]; exact ((Below.refl _ _).alloc (by first | omega | (simp; done) | (simp; omega)) _).alloc (by first | omega | (simp; done) | (simp; omega)) _
  have hal1 : Below w.heap.size w W1 := by rw [← e_W1]; exact ((Below.refl _ _).alloc (by first | omega | (simp; done) | (simp; omega)) _).alloc (by first | omega | (simp; done) | (simp; omega)) _
  have b_bx1 : Blk W1 (w.heap.size) 26 #[.int .i64 ep, .int .i64 l, .slice A1 is.length c1, .slice A3 ks.length c3, .slice (some ⟨b5, o5, none⟩) rs.length c5, .int .i64 fw, .int .i64 ba] := by rw [← e_W1]; exact (Blk.new_ _ 26 #[.int .i64 ep, .int .i64 l, .slice A1 is.length c1, .slice A3 ks.length c3, .slice (some ⟨b5, o5, none⟩) rs.length c5, .int .i64 fw, .int .i64 ba] (by first | rfl | (simp; done) | (simp; omega))).alloc _
  have b_bz1 : Blk W1 (w.heap.size + 1) 26 #[.int .i64 0, .int .i64 0, .slice none 0 0, .slice none 0 0, .slice none 0 0, .int .i64 0, .int .i64 0] := by rw [← e_W1]; exact Blk.new_ _ 26 #[.int .i64 0, .int .i64 0, .slice none 0 0, .slice none 0 0, .slice none 0 0, .int .i64 0, .int .i64 0] (by first | rfl | (simp; done) | (simp; omega))
  have k_v1 := H.out.below hal1
  have hz1 : w.heap.size + 2 ≤ W1.heap.size := by rw [← e_W1]; (first | omega | (simp; done) | (simp; omega))
  try rw [e_W1] at k_v1
  rw [e_W1]
  clear e_W1
  have HB1 := Lib.hid hb1
  have B1_bx := Lib.hid b_bx1
  have B1_bz := Lib.hid b_bz1
  have K1_v := Lib.hid k_v1
  clear hb1 b_bx1 b_bz1 k_v1
  clear H
  refine (partFault_ok _ ⟨ep, (l : Int), is, ks, rs, fw, ba⟩ i HN.out hi _ K1_v.out).mono ?_
  rintro e W2 ⟨rfl, hb⟩
  have hb2 : Below w.heap.size w W2 := below_then HB1.out hb
  have b_bx2 := B1_bx.out.below hb B1_bx.out.lt
  have b_bz2 := B1_bz.out.below hb B1_bz.out.lt
  have k_v2 := K1_v.out.below hb
  have hz2 := hb.size
  have HB2 := Lib.hid hb2
  have B2_bx := Lib.hid b_bx2
  have B2_bz := Lib.hid b_bz2
  have K2_v := Lib.hid k_v2
  clear hb2 b_bx2 b_bz2 k_v2
  clear B1_bx B1_bz HB1 K1_v
  have c_bx0 := B2_bx.out.cell 0
  have c_bx1 := B2_bx.out.cell 1
  have c_bx2 := B2_bx.out.cell 2
  have c_bx3 := B2_bx.out.cell 3
  have c_bx4 := B2_bx.out.cell 4
  have c_bx5 := B2_bx.out.cell 5
  have c_bx6 := B2_bx.out.cell 6
  have l_bx := B2_bx.out.lt
  have v0 := (HB2.out.cell (p := ⟨b5, o5 + i * 4, none⟩) hb5).trans XI.out.1
  rw [HU.out] at v0
  have vl5 := Nat.lt_of_lt_of_le hb5 HB2.out.size
  go_wp2_with fail
  clear c_bx0 c_bx1 c_bx2 c_bx3 c_bx4 c_bx5 c_bx6 l_bx v0 vl5
  refine (refPartCopy_ok (c := ⟨ep, (l : Int), is, ks, rs, fw, ba⟩) K2_v.out HSM.out).mono ?_
  rintro e W3 ⟨iv, kv, rv, rfl, ho, hb⟩
  obtain ⟨gi, d1, gk, d3, gr, d5, rfl, rfl, rfl, hgi, hgk, hgr, hgi', hgk', hgr'⟩ := ho.rows (by have := HN.out.isr; have := HN.out.many; simp only at *; omega) (by have := HN.out.known; have := HN.out.many; simp only at *; omega) (by have := HN.out.many; simp only at *; omega)
  unfold partV
  simp only at *
  have HO := Lib.hid ho
  clear ho
  have hb3 : Below w.heap.size w W3 := below_then HB2.out hb
  have b_bx3 := B2_bx.out.below hb B2_bx.out.lt
  have b_bz3 := B2_bz.out.below hb B2_bz.out.lt
  have k_v3 := K2_v.out.below hb
  have hz3 := hb.size
  have HB3 := Lib.hid hb3
  have B3_bx := Lib.hid b_bx3
  have B3_bz := Lib.hid b_bz3
  have K3_v := Lib.hid k_v3
  clear hb3 b_bx3 b_bz3 k_v3
  clear B2_bx B2_bz HB2 K2_v
  go_upto_region 9 with fail
  have hsz4 := HB3.out.size
  obtain ⟨W4, e_W4⟩ : ∃ W : World, W3.alloc (.cells #[.int .i64 ep, .int .i64 l, .slice (some ⟨gi, 0, none⟩) is.length d1, .slice (some ⟨gk, 0, none⟩) ks.length d3, .slice (some ⟨gr, 0, none⟩) rs.length d5, .int .i64 fw, .int .i64 ba] 26) = W := ⟨_, rfl⟩
  have hb4 : Below w.heap.size w W4 := by rw [← e_W4]; exact (HB3.out).alloc (by first | omega | (simp; done) | (simp; omega)) _
  have hal4 : Below W3.heap.size W3 W4 := by rw [← e_W4]; exact (Below.refl _ _).alloc (by first | omega | (simp; done) | (simp; omega)) _
  have b_bx4 : Blk W4 (w.heap.size) 26 #[.int .i64 ep, .int .i64 l, .slice A1 is.length c1, .slice A3 ks.length c3, .slice (some ⟨b5, o5, none⟩) rs.length c5, .int .i64 fw, .int .i64 ba] := by rw [← e_W4]; exact (B3_bx.out).alloc _
  have b_bz4 : Blk W4 (w.heap.size + 1) 26 #[.int .i64 0, .int .i64 0, .slice none 0 0, .slice none 0 0, .slice none 0 0, .int .i64 0, .int .i64 0] := by rw [← e_W4]; exact (B3_bz.out).alloc _
  have b_out4 : Blk W4 (W3.heap.size) 26 #[.int .i64 ep, .int .i64 l, .slice (some ⟨gi, 0, none⟩) is.length d1, .slice (some ⟨gk, 0, none⟩) ks.length d3, .slice (some ⟨gr, 0, none⟩) rs.length d5, .int .i64 fw, .int .i64 ba] := by rw [← e_W4]; exact Blk.new_ _ 26 #[.int .i64 ep, .int .i64 l, .slice (some ⟨gi, 0, none⟩) is.length d1, .slice (some ⟨gk, 0, none⟩) ks.length d3, .slice (some ⟨gr, 0, none⟩) rs.length d5, .int .i64 fw, .int .i64 ba] (by first | rfl | (simp; done) | (simp; omega))
  have k_own4 := (HO.out).alloc (.cells #[.int .i64 ep, .int .i64 l, .slice (some ⟨gi, 0, none⟩) is.length d1, .slice (some ⟨gk, 0, none⟩) ks.length d3, .slice (some ⟨gr, 0, none⟩) rs.length d5, .int .i64 fw, .int .i64 ba] 26)
  have hz4 : W3.heap.size + 1 ≤ W4.heap.size := by rw [← e_W4]; (first | omega | (simp; done) | (simp; omega))
  try rw [e_W4] at k_own4
  rw [e_W4]
  clear e_W4
  have HB4 := Lib.hid hb4
  have B4_bx := Lib.hid b_bx4
  have B4_bz := Lib.hid b_bz4
  have B4_out := Lib.hid b_out4
  have K4_own := Lib.hid k_own4
  clear hb4 b_bx4 b_bz4 b_out4 k_own4
  clear B3_bx B3_bz HB3 HO
  have c_bx0 := B4_bx.out.cell 0
  have c_bx1 := B4_bx.out.cell 1
  have c_bx2 := B4_bx.out.cell 2
  have c_bx3 := B4_bx.out.cell 3
  have c_bx4 := B4_bx.out.cell 4
  have c_bx5 := B4_bx.out.cell 5
  have c_bx6 := B4_bx.out.cell 6
  have l_bx := B4_bx.out.lt
  go_wp2_with fail
  clear c_bx0 c_bx1 c_bx2 c_bx3 c_bx4 c_bx5 c_bx6 l_bx
  refine (logOf_any _ ⟨ep, (l : Int), is, ks, rs, fw, ba⟩ i _ (HV0.out.below HB4.out) hi HLI.out).mono ?_
  rintro e W5 ⟨v6, rfl, hp6, hb⟩
  obtain ⟨A10, c10, rfl, hc10⟩ := (Sl.of_own hp6).form
  have HMI := Lib.hid (EnO.mk hp6)
  clear hp6
  have hb5 : Below w.heap.size w W5 := below_then HB4.out hb
  have b_bx5 := B4_bx.out.below hb B4_bx.out.lt
  have b_bz5 := B4_bz.out.below hb B4_bz.out.lt
  have b_out5 := B4_out.out.below hb B4_out.out.lt
  have k_own5 := K4_own.out.keep hb
  have hz5 := hb.size
  have HB5 := Lib.hid hb5
  have B5_bx := Lib.hid b_bx5
  have B5_bz := Lib.hid b_bz5
  have B5_out := Lib.hid b_out5
  have K5_own := Lib.hid k_own5
  clear hb5 b_bx5 b_bz5 b_out5 k_own5
  clear B4_bx B4_bz B4_out HB4 K4_own
  have c_bx0 := B5_bx.out.cell 0
  have c_bx1 := B5_bx.out.cell 1
  have c_bx2 := B5_bx.out.cell 2
  have c_bx3 := B5_bx.out.cell 3
  have c_bx4 := B5_bx.out.cell 4
  have c_bx5 := B5_bx.out.cell 5
  have c_bx6 := B5_bx.out.cell 6
  have l_bx := B5_bx.out.lt
  go_wp2_with fail
  clear c_bx0 c_bx1 c_bx2 c_bx3 c_bx4 c_bx5 c_bx6 l_bx
  refine (logOf_any _ ⟨ep, (l : Int), is, ks, rs, fw, ba⟩ l _ (HV0.out.below HB5.out) hll HLG.out).mono ?_
  rintro e W6 ⟨v5, rfl, hp5, hb⟩
  obtain ⟨A9, c9, rfl, hc9⟩ := (Sl.of_own hp5).form
  have HTL := Lib.hid (EnO.mk hp5)
  clear hp5
  have hb6 : Below w.heap.size w W6 := below_then HB5.out hb
  have b_bx6 := B5_bx.out.below hb B5_bx.out.lt
  have b_bz6 := B5_bz.out.below hb B5_bz.out.lt
  have b_out6 := B5_out.out.below hb B5_out.out.lt
  have k_own6 := K5_own.out.keep hb
  have k_mi6 := HMI.out.keep hb
  have hz6 := hb.size
  have HB6 := Lib.hid hb6
  have B6_bx := Lib.hid b_bx6
  have B6_bz := Lib.hid b_bz6
  have B6_out := Lib.hid b_out6
  have K6_own := Lib.hid k_own6
  have K6_mi := Lib.hid k_mi6
  clear hb6 b_bx6 b_bz6 b_out6 k_own6 k_mi6
  clear B5_bx B5_bz B5_out HB5 K5_own HMI
  go_wp2_with fail
  obtain ⟨BA, hBA⟩ : ∃ BA, BA = W2.heap.size := ⟨_, rfl⟩
  have ko := K6_own.out
  rw [← hBA] at ko
  have KO := Lib.hid ko
  obtain ⟨BL, hTL, hBL, hBL2, hBL3, hBL4⟩ : ∃ BL : Nat, EnO BL W6 (.slice A9 el.length c9) el ∧ BA ≤ BL ∧ gr < BL ∧ gk < BL ∧ W3.heap.size < BL := ⟨_, HTL.out, by omega, by omega, by omega, by have := B6_out.out.lt; omega⟩
  obtain ⟨BI, hMI, hBI⟩ : ∃ BI : Nat, EnO BI W6 (.slice A10 ei.length c10) ei ∧ BA ≤ BI := ⟨_, K6_mi.out, by omega⟩
  have KTL := Lib.hid hTL
  have KMI := Lib.hid hMI
  clear ko K6_own HTL K6_mi hTL hMI
  go_loopw [11] (fun y wr => ∃ k : Nat, k ≤ n ∧ y = .int .i64 k ∧ Hid (PO BA wr ⟨ep, (l : Int), is, ks, rs, fw, ba⟩ (.slice (some ⟨gi, 0, none⟩) is.length d1) (.slice (some ⟨gk, 0, none⟩) ks.length d3) (.slice (some ⟨gr, 0, none⟩) rs.length d5)) ∧ Hid (EnO BL wr (.slice A9 el.length c9) el) ∧ Hid (EnO BI wr (.slice A10 ei.length c10) ei) ∧ Hid (Blk wr (w.heap.size) 26 #[.int .i64 ep, .int .i64 l, .slice A1 is.length c1, .slice A3 ks.length c3, .slice (some ⟨b5, o5, none⟩) rs.length c5, .int .i64 fw, .int .i64 ba]) ∧ Hid (Blk wr (w.heap.size + 1) 26 #[.int .i64 0, .int .i64 0, .slice none 0 0, .slice none 0 0, .slice none 0 0, .int .i64 0, .int .i64 0]) ∧ Hid (Blk wr (W3.heap.size) 26 #[.int .i64 ep, .int .i64 l, .slice (some ⟨gi, 0, none⟩) is.length d1, .slice (some ⟨gk, 0, none⟩) ks.length d3, .slice (some ⟨gr, 0, none⟩) rs.length d5, .int .i64 fw, .int .i64 ba]) ∧ Hid (Below w.heap.size w wr) ∧ W6.heap.size ≤ wr.heap.size) (fun y _ => n - (intOf y).toNat)
  case atStart => exact ⟨0, Nat.zero_le _, rfl, KO, KTL, KMI, B6_bx, B6_bz, B6_out, HB6, Nat.le_refl _⟩
  case round =>
    clear KO KTL KMI B6_bx B6_bz B6_out HB6
    obtain ⟨k, hk, rfl, HKO, HTL, HMI, HBX, HBZ, HBO, HBW, hsz⟩ := hrel
    go_upto_region 12 with fail
    go_cut [80] from 58 to 82 (fun s wx => s = .bool (decide (k < n)) ∧ Hid (Below wr.heap.size wr wx))
    case first =>
      obtain ⟨A9', c9', he9, -, hx9⟩ := HTL.out.es.at_
      injection he9 with f1 f2 f3
      subst f1 f3
      obtain ⟨A10', c10', he10, -, hx10⟩ := HMI.out.es.at_
      injection he10 with f4 f5 f6
      subst f4 f6
      clear f2 f5
      have k0 : (0 : Int) ≤ (k : Int) := by omega
      by_cases ha : k < ei.length
      · have u0 : decide ((k : Int) < (ei.length : Int)) = true := decide_eq_true (by omega)
        have u0n : decide (k < ei.length) = true := decide_eq_true ha
        have k1 : (k : Int) < (ei.length : Int) := by omega
        by_cases hb_ : k < el.length
        · have u1 : decide ((k : Int) < (el.length : Int)) = true := decide_eq_true (by omega)
          have u1n : decide (k < el.length) = true := decide_eq_true hb_
          have k2 : (k : Int) < (el.length : Int) := by omega
          obtain ⟨g1, q1, rfl, hg1, hc1_⟩ := hx10 (by omega)
          obtain ⟨g2, q2, rfl, hg2, hc2_⟩ := hx9 (by omega)
          have X1 := (hc1_ k ha).1
          have X2 := (hc2_ k hb_).1
          by_cases he : ei[k].ep = el[k].ep
          · have hkn : k < n := by
              rcases Nat.lt_or_ge k n with h | h
              · exact h
              · obtain rfl : k = n := by omega
                exact absurd he (HCM.out.stop ha hb_)
            have u2 : (ei[k].ep == el[k].ep) = true := beq_iff_eq.2 he
            have hd : decide (k < n) = true := decide_eq_true hkn
            have HD := Lib.hid hd
            clear hc1_ hc2_ hx9 hx10 hd he
            generalize ei[k] = ya at *
            generalize el[k] = yb at *
            go_quiet (fail)
            go_wp2
            go_meet
            exact ⟨by rw [HD.out], Lib.hid (below_dn _ _)⟩
          · have hkn : ¬ k < n := fun h => he (HCM.out.same k ha hb_ h)
            have u2 : (ei[k].ep == el[k].ep) = false := beq_eq_false_iff_ne.2 he
            have hd : decide (k < n) = false := decide_eq_false hkn
            have HD := Lib.hid hd
            clear hc1_ hc2_ hx9 hx10 hd he
            generalize ei[k] = ya at *
            generalize el[k] = yb at *
            go_quiet (fail)
            go_wp2
            go_meet
            exact ⟨by rw [HD.out], Lib.hid (below_dn _ _)⟩
        · have u1 : decide ((k : Int) < (el.length : Int)) = false := decide_eq_false (by omega)
          have u1n : decide (k < el.length) = false := decide_eq_false hb_
          have hd : decide (k < n) = false := decide_eq_false (by omega)
          have HD := Lib.hid hd
          clear hd hx9 hx10
          go_quiet (fail)
          go_wp2
          go_meet
          exact ⟨by rw [HD.out], Lib.hid (below_dn _ _)⟩
      · have u0 : decide ((k : Int) < (ei.length : Int)) = false := decide_eq_false (by omega)
        have u0n : decide (k < ei.length) = false := decide_eq_false ha
        have hd : decide (k < n) = false := decide_eq_false (by omega)
        have HD := Lib.hid hd
        clear hd hx9 hx10
        go_quiet (fail)
        go_wp2
        go_meet
        exact ⟨by rw [HD.out], Lib.hid (below_dn _ _)⟩
    case rest =>
      obtain ⟨rfl, HW⟩ := hcut
      have HKO2 := Lib.hid (HKO.out.keep HW.out)
      have HTL2 := Lib.hid (HTL.out.keep HW.out)
      have HMI2 := Lib.hid (HMI.out.keep HW.out)
      have HBX2 := Lib.hid (HBX.out.below HW.out HBX.out.lt)
      have HBZ2 := Lib.hid (HBZ.out.below HW.out HBZ.out.lt)
      have HBO2 := Lib.hid (HBO.out.below HW.out HBO.out.lt)
      have HBW2 := Lib.hid (below_then HBW.out HW.out)
      have hsz2 := Nat.le_trans hsz HW.out.size
      clear HKO HTL HMI HBX HBZ HBO HBW HW
      by_cases hkn : k < n
      · have hd : decide (k < n) = true := decide_eq_true hkn
        rw [hd]
        have k0 : (0 : Int) ≤ (k : Int) := by omega
        have k1 : (k : Int) < (n : Int) := by omega
        clear hd
        go_wp2
        go_light
        exact ⟨⟨k + 1, by omega, by go_num, HKO2, HTL2, HMI2, HBX2, HBZ2, HBO2, HBW2, hsz2⟩, by simp [intOf]; omega⟩
      · obtain rfl : n = k := by omega
        have hd : decide (n < n) = false := decide_eq_false (by omega)
        rw [hd]
        clear hd hkn
        clear HMI2
        have c_bx0 := HBX2.out.cell 0
        have c_bx1 := HBX2.out.cell 1
        have c_bx2 := HBX2.out.cell 2
        have c_bx3 := HBX2.out.cell 3
        have c_bx4 := HBX2.out.cell 4
        have c_bx5 := HBX2.out.cell 5
        have c_bx6 := HBX2.out.cell 6
        have l_bx := HBX2.out.lt
        have v1 := (HBW2.out.cell (p := ⟨b5, o5 + i * 4 + 1, none⟩) hb5).trans XI.out.2.1
        have v2 := (HBW2.out.cell (p := ⟨b5, o5 + i * 4 + 2, none⟩) hb5).trans XI.out.2.2.1
        have vl5 := Nat.lt_of_lt_of_le hb5 HBW2.out.size
        go_wp2_with fail
        clear c_bx0 c_bx1 c_bx2 c_bx3 c_bx4 c_bx5 c_bx6 l_bx v1 v2 vl5
        refine (cutOf_ok _ rs[i].bytes rs[i].synced n _ (XB.out.below HBW2.out) HLI.out hni HZ_.out).mono ?_
        rintro e W7 ⟨v7, he7, hp7, hb⟩
        dsimp only at he7 hp7
        rw [HSC.out] at he7
        rw [HBC.out] at hp7
        obtain rfl := he7
        obtain ⟨A11, c11, rfl, hc11⟩ := (Sl.of_own hp7).form
        have HLO := Lib.hid (LgO.mk hp7)
        clear hp7
        have hb7 : Below w.heap.size w W7 := below_then HBW2.out hb
        have b_bx7 := HBX2.out.below hb HBX2.out.lt
        have b_bz7 := HBZ2.out.below hb HBZ2.out.lt
        have b_out7 := HBO2.out.below hb HBO2.out.lt
        have k_own7 := HKO2.out.keep hb
        have k_tl7 := HTL2.out.keep hb
        have hz7 := hb.size
        have HB7 := Lib.hid hb7
        have B7_bx := Lib.hid b_bx7
        have B7_bz := Lib.hid b_bz7
        have B7_out := Lib.hid b_out7
        have K7_own := Lib.hid k_own7
        have K7_tl := Lib.hid k_tl7
        clear hb7 b_bx7 b_bz7 b_out7 k_own7 k_tl7
        clear HBX2 HBZ2 HBO2 HBW2 HKO2 HTL2
        go_upto_region 15 with fail
        have hsz8 := HB7.out.size
        obtain ⟨W8, e_W8⟩ : ∃ W : World, W7.alloc (.cells #[.slice A11 bc.length c11, .int .i64 (sc : Int)] 42) = W := ⟨_, rfl⟩
        have hb8 : Below w.heap.size w W8 := by rw [← e_W8]; exact (HB7.out).alloc (by first | omega | (simp; done) | (simp; omega)) _
        have hal8 : Below W7.heap.size W7 W8 := by rw [← e_W8]; exact (Below.refl _ _).alloc (by first | omega | (simp; done) | (simp; omega)) _
        have b_bx8 : Blk W8 (w.heap.size) 26 #[.int .i64 ep, .int .i64 l, .slice A1 is.length c1, .slice A3 ks.length c3, .slice (some ⟨b5, o5, none⟩) rs.length c5, .int .i64 fw, .int .i64 ba] := by rw [← e_W8]; exact (B7_bx.out).alloc _
        have b_bz8 : Blk W8 (w.heap.size + 1) 26 #[.int .i64 0, .int .i64 0, .slice none 0 0, .slice none 0 0, .slice none 0 0, .int .i64 0, .int .i64 0] := by rw [← e_W8]; exact (B7_bz.out).alloc _
        have b_out8 : Blk W8 (W3.heap.size) 26 #[.int .i64 ep, .int .i64 l, .slice (some ⟨gi, 0, none⟩) is.length d1, .slice (some ⟨gk, 0, none⟩) ks.length d3, .slice (some ⟨gr, 0, none⟩) rs.length d5, .int .i64 fw, .int .i64 ba] := by rw [← e_W8]; exact (B7_out.out).alloc _
        have b_lb8 : Blk W8 (W7.heap.size) 42 #[.slice A11 bc.length c11, .int .i64 (sc : Int)] := by rw [← e_W8]; exact Blk.new_ _ 42 #[.slice A11 bc.length c11, .int .i64 (sc : Int)] (by first | rfl | (simp; done) | (simp; omega))
        have k_own8 := (K7_own.out).alloc (.cells #[.slice A11 bc.length c11, .int .i64 (sc : Int)] 42)
        have k_tl8 := (K7_tl.out).alloc (.cells #[.slice A11 bc.length c11, .int .i64 (sc : Int)] 42)
        have k_lg8 := (HLO.out).alloc (.cells #[.slice A11 bc.length c11, .int .i64 (sc : Int)] 42)
        have hz8 : W7.heap.size + 1 ≤ W8.heap.size := by rw [← e_W8]; (first | omega | (simp; done) | (simp; omega))
        try rw [e_W8] at k_own8
        try rw [e_W8] at k_tl8
        try rw [e_W8] at k_lg8
        rw [e_W8]
        clear e_W8
        have HB8 := Lib.hid hb8
        have B8_bx := Lib.hid b_bx8
        have B8_bz := Lib.hid b_bz8
        have B8_out := Lib.hid b_out8
        have B8_lb := Lib.hid b_lb8
        have K8_own := Lib.hid k_own8
        have K8_tl := Lib.hid k_tl8
        have K8_lg := Lib.hid k_lg8
        clear hb8 b_bx8 b_bz8 b_out8 b_lb8 k_own8 k_tl8 k_lg8
        clear B7_bx B7_bz B7_out HB7 K7_own K7_tl HLO
        have c_out0 := B8_out.out.cell 0
        have c_out1 := B8_out.out.cell 1
        have c_out2 := B8_out.out.cell 2
        have c_out3 := B8_out.out.cell 3
        have c_out4 := B8_out.out.cell 4
        have c_out5 := B8_out.out.cell 5
        have c_out6 := B8_out.out.cell 6
        have l_out := B8_out.out.lt
        have c_lb0 := B8_lb.out.cell 0
        have c_lb1 := B8_lb.out.cell 1
        have l_lb := B8_lb.out.lt
        obtain ⟨A7d, c7d, ⟨s0, s1, s2, s3⟩, ⟨-, sf1, sf2, -⟩, -⟩ := K8_own.out.repAt i hi
        go_upto_region 16 with fail
        clear c_out0 c_out1 c_out2 c_out3 c_out4 c_out5 c_out6 l_out c_lb0 c_lb1 l_lb s0 s1 s2 s3 sf1 sf2
        have hsz9 := HB8.out.size
        obtain ⟨W9, e_W9⟩ : ∃ W : World, (W8.setCell ⟨gr, i * 4 + 1, none⟩ (.slice A11 bc.length c11)).setCell ⟨gr, i * 4 + 2, none⟩ (.int .i64 (sc : Int)) = W := ⟨_, rfl⟩
        have hb9 : Below w.heap.size w W9 := by rw [← e_W9]; exact ((HB8.out).setCell (by show w.heap.size ≤ gr; omega) _).setCell (by show w.heap.size ≤ gr; omega) _
        have b_bx9 : Blk W9 (w.heap.size) 26 #[.int .i64 ep, .int .i64 l, .slice A1 is.length c1, .slice A3 ks.length c3, .slice (some ⟨b5, o5, none⟩) rs.length c5, .int .i64 fw, .int .i64 ba] := by rw [← e_W9]; exact ((B8_bx.out).far (p := ⟨gr, i * 4 + 1, none⟩) (by show w.heap.size ≠ gr; omega) _).far (p := ⟨gr, i * 4 + 2, none⟩) (by show w.heap.size ≠ gr; omega) _
        have b_bz9 : Blk W9 (w.heap.size + 1) 26 #[.int .i64 0, .int .i64 0, .slice none 0 0, .slice none 0 0, .slice none 0 0, .int .i64 0, .int .i64 0] := by rw [← e_W9]; exact ((B8_bz.out).far (p := ⟨gr, i * 4 + 1, none⟩) (by show w.heap.size + 1 ≠ gr; omega) _).far (p := ⟨gr, i * 4 + 2, none⟩) (by show w.heap.size + 1 ≠ gr; omega) _
        have b_out9 : Blk W9 (W3.heap.size) 26 #[.int .i64 ep, .int .i64 l, .slice (some ⟨gi, 0, none⟩) is.length d1, .slice (some ⟨gk, 0, none⟩) ks.length d3, .slice (some ⟨gr, 0, none⟩) rs.length d5, .int .i64 fw, .int .i64 ba] := by rw [← e_W9]; exact ((B8_out.out).far (p := ⟨gr, i * 4 + 1, none⟩) (by show W3.heap.size ≠ gr; omega) _).far (p := ⟨gr, i * 4 + 2, none⟩) (by show W3.heap.size ≠ gr; omega) _
        have b_lb9 : Blk W9 (W7.heap.size) 42 #[.slice A11 bc.length c11, .int .i64 (sc : Int)] := by rw [← e_W9]; exact ((B8_lb.out).far (p := ⟨gr, i * 4 + 1, none⟩) (by show W7.heap.size ≠ gr; omega) _).far (p := ⟨gr, i * 4 + 2, none⟩) (by show W7.heap.size ≠ gr; omega) _
        have k_own9 := (K8_own.out.setLog i hi (sc : Int) (own_base K8_lg.out.own (by omega)))
        have k_tl9 := ((K8_tl.out).under (a := ⟨gr, i * 4 + 1, none⟩) (by (try dsimp only); omega) (.slice A11 bc.length c11)).under (a := ⟨gr, i * 4 + 2, none⟩) (by (try dsimp only); omega) (.int .i64 (sc : Int))
        have k_lg9 := ((K8_lg.out).under (a := ⟨gr, i * 4 + 1, none⟩) (by (try dsimp only); omega) (.slice A11 bc.length c11)).under (a := ⟨gr, i * 4 + 2, none⟩) (by (try dsimp only); omega) (.int .i64 (sc : Int))
        have hz9 : W8.heap.size + 0 ≤ W9.heap.size := by rw [← e_W9]; (first | omega | (simp; done) | (simp; omega))
        try rw [e_W9] at k_own9
        try rw [e_W9] at k_tl9
        try rw [e_W9] at k_lg9
        rw [e_W9]
        clear e_W9
        have HB9 := Lib.hid hb9
        have B9_bx := Lib.hid b_bx9
        have B9_bz := Lib.hid b_bz9
        have B9_out := Lib.hid b_out9
        have B9_lb := Lib.hid b_lb9
        have K9_own := Lib.hid k_own9
        have K9_tl := Lib.hid k_tl9
        have K9_lg := Lib.hid k_lg9
        clear hb9 b_bx9 b_bz9 b_out9 b_lb9 k_own9 k_tl9 k_lg9
        clear B8_bx B8_bz B8_out B8_lb HB8 K8_own K8_tl K8_lg
        have c_out0 := B9_out.out.cell 0
        have c_out1 := B9_out.out.cell 1
        have c_out2 := B9_out.out.cell 2
        have c_out3 := B9_out.out.cell 3
        have c_out4 := B9_out.out.cell 4
        have c_out5 := B9_out.out.cell 5
        have c_out6 := B9_out.out.cell 6
        have l_out := B9_out.out.lt
        refine wp_region_held_drew (S := fun w0 => w0.cell? ⟨W3.heap.size, 0, none⟩ = some (.int .i64 ep) ∧ w0.cell? ⟨W3.heap.size, 1, none⟩ = some (.int .i64 l) ∧ w0.cell? ⟨W3.heap.size, 2, none⟩ = some (.slice (some ⟨gi, 0, none⟩) is.length d1) ∧ w0.cell? ⟨W3.heap.size, 3, none⟩ = some (.slice (some ⟨gk, 0, none⟩) ks.length d3) ∧ w0.cell? ⟨W3.heap.size, 4, none⟩ = some (.slice (some ⟨gr, 0, none⟩) rs.length d5) ∧ w0.cell? ⟨W3.heap.size, 5, none⟩ = some (.int .i64 fw) ∧ w0.cell? ⟨W3.heap.size, 6, none⟩ = some (.int .i64 ba)) (by kernel_rfl) ?_ (fun hHeld => ?_)
        · exact ⟨c_out0, c_out1, c_out2, c_out3, c_out4, c_out5, c_out6⟩
        clear c_out0 c_out1 c_out2 c_out3 c_out4 c_out5 c_out6 l_out
        generalize hd : World.drew W9 = W10 at *
        have hb : Below W9.heap.size W9 W10 := by rw [← hd]; exact (Below.refl _ _).drew
        have hb10 : Below w.heap.size w W10 := below_then HB9.out hb
        have b_bx10 := B9_bx.out.below hb B9_bx.out.lt
        have b_bz10 := B9_bz.out.below hb B9_bz.out.lt
        have b_out10 := B9_out.out.below hb B9_out.out.lt
        have b_lb10 := B9_lb.out.below hb B9_lb.out.lt
        have k_own10 := K9_own.out.keep hb
        have k_tl10 := K9_tl.out.keep hb
        have k_lg10 := K9_lg.out.keep hb
        have hz10 := hb.size
        have HB10 := Lib.hid hb10
        have B10_bx := Lib.hid b_bx10
        have B10_bz := Lib.hid b_bz10
        have B10_out := Lib.hid b_out10
        have B10_lb := Lib.hid b_lb10
        have K10_own := Lib.hid k_own10
        have K10_tl := Lib.hid k_tl10
        have K10_lg := Lib.hid k_lg10
        clear hb10 b_bx10 b_bz10 b_out10 b_lb10 k_own10 k_tl10 k_lg10
        clear B9_bx B9_bz B9_out B9_lb HB9 K9_own K9_tl K9_lg
        clear hd hb
        refine wpAnyH_take (i := 0) (v := ?_) rfl (by kernel_rfl) (by kernel_rfl) (by kernel_rfl) (fun _ _ _ h => h) (Or.inl ⟨by rfl, ?_⟩) (by assumption) ?_
        rotate_left
        · intro w0 hSw
          (try dsimp only at hSw)
          go_simp
          all_goals with_reducible rfl
        try simp only [Act.put, List.getElem_toArray, List.getElem_cons_zero, List.setIfInBounds_toArray, List.set_cons_zero, List.set_cons_succ]
        refine wpAnyH_take (i := 1) (v := ?_) rfl (by kernel_rfl) (by kernel_rfl) (by kernel_rfl) (fun _ _ _ h => h) (Or.inl ⟨by rfl, ?_⟩) (by assumption) ?_
        rotate_left
        · intro w0 hSw
          (try dsimp only at hSw)
          go_simp
          all_goals with_reducible rfl
        try simp only [Act.put, List.getElem_toArray, List.getElem_cons_zero, List.getElem_cons_succ, List.setIfInBounds_toArray, List.set_cons_zero, List.set_cons_succ]
        refine wpAnyH_take (i := 2) (v := ?_) rfl (by kernel_rfl) (by kernel_rfl) (by kernel_rfl) (fun _ _ _ h => h) (Or.inl ⟨by rfl, ?_⟩) (by assumption) ?_
        rotate_left
        · intro w0 hSw
          (try dsimp only at hSw)
          go_simp
          all_goals with_reducible rfl
        try simp only [Act.put, List.getElem_toArray, List.getElem_cons_zero, List.getElem_cons_succ, List.setIfInBounds_toArray, List.set_cons_zero, List.set_cons_succ]
        refine wpAnyH_take (i := 3) (v := ?_) rfl (by kernel_rfl) (by kernel_rfl) (by kernel_rfl) (fun _ _ _ h => h) (Or.inl ⟨by rfl, ?_⟩) (by assumption) ?_
        rotate_left
        · intro w0 hSw
          (try dsimp only at hSw)
          go_simp
          all_goals with_reducible rfl
        try simp only [Act.put, List.getElem_toArray, List.getElem_cons_zero, List.getElem_cons_succ, List.setIfInBounds_toArray, List.set_cons_zero, List.set_cons_succ]
        refine wpAnyH_take (i := 4) (v := ?_) rfl (by kernel_rfl) (by kernel_rfl) (by kernel_rfl) (fun _ _ _ h => h) (Or.inl ⟨by rfl, ?_⟩) (by assumption) ?_
        rotate_left
        · intro w0 hSw
          (try dsimp only at hSw)
          go_simp
          all_goals with_reducible rfl
        try simp only [Act.put, List.getElem_toArray, List.getElem_cons_zero, List.getElem_cons_succ, List.setIfInBounds_toArray, List.set_cons_zero, List.set_cons_succ]
        refine wpAnyH_ready (rs := [5]) (by kernel_rfl) (by simp) (AllReadyH.cons rfl (fun K hK => ?_) AllReadyH.nil)
        go_simp
        go_at_call 92
        refine (safeOf_any _ ⟨ep, (l : Int), is, ks, rs.set i { rs[i] with bytes := bc, synced := (sc : Int) }, fw, ba⟩ i _ (K10_own.out.pv HSM2.out) hi9 HSZ.out).mono ?_
        rintro e W11 ⟨rfl, hb⟩
        have hb11 : Below w.heap.size w W11 := below_then HB10.out hb
        have b_bx11 := B10_bx.out.below hb B10_bx.out.lt
        have b_bz11 := B10_bz.out.below hb B10_bz.out.lt
        have b_out11 := B10_out.out.below hb B10_out.out.lt
        have b_lb11 := B10_lb.out.below hb B10_lb.out.lt
        have k_own11 := K10_own.out.keep hb
        have k_tl11 := K10_tl.out.keep hb
        have k_lg11 := K10_lg.out.keep hb
        have hz11 := hb.size
        have HB11 := Lib.hid hb11
        have B11_bx := Lib.hid b_bx11
        have B11_bz := Lib.hid b_bz11
        have B11_out := Lib.hid b_out11
        have B11_lb := Lib.hid b_lb11
        have K11_own := Lib.hid k_own11
        have K11_tl := Lib.hid k_tl11
        have K11_lg := Lib.hid k_lg11
        clear hb11 b_bx11 b_bz11 b_out11 b_lb11 k_own11 k_tl11 k_lg11
        clear B10_bx B10_bz B10_out B10_lb HB10 K10_own K10_tl K10_lg
        refine hK.out _ _ ?_ (fun hHeld => ?_)
        · exact ⟨(B11_out.out).cell 0, (B11_out.out).cell 1, (B11_out.out).cell 2, (B11_out.out).cell 3, (B11_out.out).cell 4, (B11_out.out).cell 5, (B11_out.out).cell 6⟩
        clear hK K
        try simp only [Act.put, List.getElem_toArray, List.getElem_cons_zero, List.getElem_cons_succ, List.setIfInBounds_toArray, List.set_cons_zero, List.set_cons_succ]
        obtain ⟨t0, tf0⟩ := K11_own.out.knownAt i j3
        (try simp only at t0)
        refine wpAnyH_take (i := 6) (v := ?_) rfl (by kernel_rfl) (by kernel_rfl) (by kernel_rfl) (fun _ _ _ h => h) (Or.inl ⟨by rfl, ?_⟩) (by assumption) ?_
        rotate_left
        · intro w0 hSw
          (try dsimp only at hSw)
          go_simp
          all_goals with_reducible rfl
        try simp only [Act.put, List.getElem_toArray, List.getElem_cons_zero, List.getElem_cons_succ, List.setIfInBounds_toArray, List.set_cons_zero, List.set_cons_succ]
        refine wpAnyH_ready (rs := [7]) (by kernel_rfl) (by simp) (AllReadyH.cons rfl (fun K hK => ?_) AllReadyH.nil)
        go_simp
        refine hK.out _ _ ?_ (fun hHeld => ?_)
        · exact ⟨((B11_out.out).far (p := ⟨gk, i, none⟩) (by show W3.heap.size ≠ gk; omega) _).cell 0, ((B11_out.out).far (p := ⟨gk, i, none⟩) (by show W3.heap.size ≠ gk; omega) _).cell 1, ((B11_out.out).far (p := ⟨gk, i, none⟩) (by show W3.heap.size ≠ gk; omega) _).cell 2, ((B11_out.out).far (p := ⟨gk, i, none⟩) (by show W3.heap.size ≠ gk; omega) _).cell 3, ((B11_out.out).far (p := ⟨gk, i, none⟩) (by show W3.heap.size ≠ gk; omega) _).cell 4, ((B11_out.out).far (p := ⟨gk, i, none⟩) (by show W3.heap.size ≠ gk; omega) _).cell 5, ((B11_out.out).far (p := ⟨gk, i, none⟩) (by show W3.heap.size ≠ gk; omega) _).cell 6⟩
        clear hK K
        refine wpAnyH_done (by kernel_rfl) ?_ _
        clear t0 tf0
        go_upto_region 17 with fail
        have hsz12 := HB11.out.size
        obtain ⟨W12, e_W12⟩ : ∃ W : World, W11.setCell ⟨gk, i, none⟩ (.int .i64 (jm : Int)) = W := ⟨_, rfl⟩
        have hb12 : Below w.heap.size w W12 := by rw [← e_W12]; exact (HB11.out).setCell (by show w.heap.size ≤ gk; omega) _
        have b_bx12 : Blk W12 (w.heap.size) 26 #[.int .i64 ep, .int .i64 l, .slice A1 is.length c1, .slice A3 ks.length c3, .slice (some ⟨b5, o5, none⟩) rs.length c5, .int .i64 fw, .int .i64 ba] := by rw [← e_W12]; exact (B11_bx.out).far (p := ⟨gk, i, none⟩) (by show w.heap.size ≠ gk; omega) _
        have b_bz12 : Blk W12 (w.heap.size + 1) 26 #[.int .i64 0, .int .i64 0, .slice none 0 0, .slice none 0 0, .slice none 0 0, .int .i64 0, .int .i64 0] := by rw [← e_W12]; exact (B11_bz.out).far (p := ⟨gk, i, none⟩) (by show w.heap.size + 1 ≠ gk; omega) _
        have b_out12 : Blk W12 (W3.heap.size) 26 #[.int .i64 ep, .int .i64 l, .slice (some ⟨gi, 0, none⟩) is.length d1, .slice (some ⟨gk, 0, none⟩) ks.length d3, .slice (some ⟨gr, 0, none⟩) rs.length d5, .int .i64 fw, .int .i64 ba] := by rw [← e_W12]; exact (B11_out.out).far (p := ⟨gk, i, none⟩) (by show W3.heap.size ≠ gk; omega) _
        have b_lb12 : Blk W12 (W7.heap.size) 42 #[.slice A11 bc.length c11, .int .i64 (sc : Int)] := by rw [← e_W12]; exact (B11_lb.out).far (p := ⟨gk, i, none⟩) (by show W7.heap.size ≠ gk; omega) _
        have k_own12 := (K11_own.out).setKnown i (jm : Int) (Nat.lt_of_le_of_lt (Nat.zero_le _) j3)
        have k_tl12 := (K11_tl.out).under (a := ⟨gk, i, none⟩) (by (try dsimp only); omega) (.int .i64 (jm : Int))
        have k_lg12 := (K11_lg.out).under (a := ⟨gk, i, none⟩) (by (try dsimp only); omega) (.int .i64 (jm : Int))
        have hz12 : W11.heap.size + 0 ≤ W12.heap.size := by rw [← e_W12]; (first | omega | (simp; done) | (simp; omega))
        try rw [e_W12] at k_own12
        try rw [e_W12] at k_tl12
        try rw [e_W12] at k_lg12
        rw [e_W12]
        clear e_W12
        have HB12 := Lib.hid hb12
        have B12_bx := Lib.hid b_bx12
        have B12_bz := Lib.hid b_bz12
        have B12_out := Lib.hid b_out12
        have B12_lb := Lib.hid b_lb12
        have K12_own := Lib.hid k_own12
        have K12_tl := Lib.hid k_tl12
        have K12_lg := Lib.hid k_lg12
        clear hb12 b_bx12 b_bz12 b_out12 b_lb12 k_own12 k_tl12 k_lg12
        clear B11_bx B11_bz B11_out B11_lb HB11 K11_own K11_tl K11_lg
        have c_out0 := B12_out.out.cell 0
        have c_out1 := B12_out.out.cell 1
        have c_out2 := B12_out.out.cell 2
        have c_out3 := B12_out.out.cell 3
        have c_out4 := B12_out.out.cell 4
        have c_out5 := B12_out.out.cell 5
        have c_out6 := B12_out.out.cell 6
        have l_out := B12_out.out.lt
        go_wp2_with fail
        have KTL9 := K12_tl.out
        have KLG9 := K12_lg.out
        clear c_out0 c_out1 c_out2 c_out3 c_out4 c_out5 c_out6 l_out
        refine (raised_at ⟨ep, (l : Int), is, ks.set i (jm : Int), rs.set i { rs[i] with bytes := bc, synced := (sc : Int) }, fw, ba⟩ _ _ _ _ _ (by first | assumption | omega) K12_own.out l rfl hl9 (by simp only [List.length_set]; exact E1.out) (by simp only [List.length_set]; exact E2.out) (PSm.setKnown HSM2.out i _) HLL.out).mono ?_
        rintro e W13 ⟨rfl, hadv, hgrow⟩
        rw [partV_adv]
        unfold partV
        simp only
        have hg13 : W12.grownBy W13 (some gr) := hgrow
        have hb13 : Below w.heap.size w W13 := HB12.out.grown hg13 HB12.out.size (fun b hb => by injection hb with hb; omega)
        have b_bx13 := B12_bx.out.grown hg13 (fun e => by injection e with e; omega)
        have b_bz13 := B12_bz.out.grown hg13 (fun e => by injection e with e; omega)
        have b_out13 := B12_out.out.grown hg13 (fun e => by injection e with e; omega)
        have b_lb13 := B12_lb.out.grown hg13 (fun e => by injection e with e; omega)
        have k_own13 := hadv
        have hz13 := hg13.size
        have HB13 := Lib.hid hb13
        have B13_bx := Lib.hid b_bx13
        have B13_bz := Lib.hid b_bz13
        have B13_out := Lib.hid b_out13
        have B13_lb := Lib.hid b_lb13
        have K13_own := Lib.hid k_own13
        clear hb13 b_bx13 b_bz13 b_out13 b_lb13 k_own13
        clear hadv hgrow B12_bx B12_bz B12_out B12_lb HB12 K12_own K12_tl K12_lg
        have HTL9 := Lib.hid (KTL9.grown hg13 hBL2)
        have ko := K13_own.out
        rw [HAD.out, ← HQN.out] at ko
        have KO9 := Lib.hid ko
        have HLG9 := Lib.hid (KLG9.grown hg13 (by omega))
        clear ko KTL9 KLG9 K13_own
        have c_out0 := B13_out.out.cell 0
        have f_out0 := B13_out.out.frozen 0
        have c_out1 := B13_out.out.cell 1
        have f_out1 := B13_out.out.frozen 1
        have c_out2 := B13_out.out.cell 2
        have f_out2 := B13_out.out.frozen 2
        have c_out3 := B13_out.out.cell 3
        have f_out3 := B13_out.out.frozen 3
        have c_out4 := B13_out.out.cell 4
        have f_out4 := B13_out.out.frozen 4
        have c_out5 := B13_out.out.cell 5
        have f_out5 := B13_out.out.frozen 5
        have c_out6 := B13_out.out.cell 6
        have f_out6 := B13_out.out.frozen 6
        have l_out := B13_out.out.lt
        go_upto_region 18 with fail
        clear c_out0 f_out0 c_out1 f_out1 c_out2 f_out2 c_out3 f_out3 c_out4 f_out4 c_out5 f_out5 c_out6 f_out6 l_out
        have hsz14 := HB13.out.size
        obtain ⟨W14, e_W14⟩ : ∃ W : World, ((((((W13.setCell ⟨W3.heap.size, 0, none⟩ (.int .i64 ep)).setCell ⟨W3.heap.size, 1, none⟩ (.int .i64 l)).setCell ⟨W3.heap.size, 2, none⟩ (.slice (some ⟨gi, 0, none⟩) is.length d1)).setCell ⟨W3.heap.size, 3, none⟩ (.slice (some ⟨gk, 0, none⟩) ks.length d3)).setCell ⟨W3.heap.size, 4, none⟩ (.slice (some ⟨gr, 0, none⟩) rs.length d5)).setCell ⟨W3.heap.size, 5, none⟩ (.int .i64 fw)).setCell ⟨W3.heap.size, 6, none⟩ (.int .i64 ba) = W := ⟨_, rfl⟩
        have hb14 : Below w.heap.size w W14 := by rw [← e_W14]; exact (((((((HB13.out).setCell (by show w.heap.size ≤ W3.heap.size; omega) _).setCell (by show w.heap.size ≤ W3.heap.size; omega) _).setCell (by show w.heap.size ≤ W3.heap.size; omega) _).setCell (by show w.heap.size ≤ W3.heap.size; omega) _).setCell (by show w.heap.size ≤ W3.heap.size; omega) _).setCell (by show w.heap.size ≤ W3.heap.size; omega) _).setCell (by show w.heap.size ≤ W3.heap.size; omega) _
        have b_bx14 : Blk W14 (w.heap.size) 26 #[.int .i64 ep, .int .i64 l, .slice A1 is.length c1, .slice A3 ks.length c3, .slice (some ⟨b5, o5, none⟩) rs.length c5, .int .i64 fw, .int .i64 ba] := by rw [← e_W14]; exact (((((((B13_bx.out).far (p := ⟨W3.heap.size, 0, none⟩) (by show w.heap.size ≠ W3.heap.size; omega) _).far (p := ⟨W3.heap.size, 1, none⟩) (by show w.heap.size ≠ W3.heap.size; omega) _).far (p := ⟨W3.heap.size, 2, none⟩) (by show w.heap.size ≠ W3.heap.size; omega) _).far (p := ⟨W3.heap.size, 3, none⟩) (by show w.heap.size ≠ W3.heap.size; omega) _).far (p := ⟨W3.heap.size, 4, none⟩) (by show w.heap.size ≠ W3.heap.size; omega) _).far (p := ⟨W3.heap.size, 5, none⟩) (by show w.heap.size ≠ W3.heap.size; omega) _).far (p := ⟨W3.heap.size, 6, none⟩) (by show w.heap.size ≠ W3.heap.size; omega) _
        have b_bz14 : Blk W14 (w.heap.size + 1) 26 #[.int .i64 0, .int .i64 0, .slice none 0 0, .slice none 0 0, .slice none 0 0, .int .i64 0, .int .i64 0] := by rw [← e_W14]; exact (((((((B13_bz.out).far (p := ⟨W3.heap.size, 0, none⟩) (by show w.heap.size + 1 ≠ W3.heap.size; omega) _).far (p := ⟨W3.heap.size, 1, none⟩) (by show w.heap.size + 1 ≠ W3.heap.size; omega) _).far (p := ⟨W3.heap.size, 2, none⟩) (by show w.heap.size + 1 ≠ W3.heap.size; omega) _).far (p := ⟨W3.heap.size, 3, none⟩) (by show w.heap.size + 1 ≠ W3.heap.size; omega) _).far (p := ⟨W3.heap.size, 4, none⟩) (by show w.heap.size + 1 ≠ W3.heap.size; omega) _).far (p := ⟨W3.heap.size, 5, none⟩) (by show w.heap.size + 1 ≠ W3.heap.size; omega) _).far (p := ⟨W3.heap.size, 6, none⟩) (by show w.heap.size + 1 ≠ W3.heap.size; omega) _
        have b_out14 : Blk W14 (W3.heap.size) 26 #[.int .i64 ep, .int .i64 l, .slice (some ⟨gi, 0, none⟩) is.length d1, .slice (some ⟨gk, 0, none⟩) ks.length d3, .slice (some ⟨gr, 0, none⟩) rs.length d5, .int .i64 fw, .int .i64 ba] := by rw [← e_W14]; exact (((((((B13_out.out).set_ 0 _).set_ 1 _).set_ 2 _).set_ 3 _).set_ 4 _).set_ 5 _).set_ 6 _
        have b_lb14 : Blk W14 (W7.heap.size) 42 #[.slice A11 bc.length c11, .int .i64 (sc : Int)] := by rw [← e_W14]; exact (((((((B13_lb.out).far (p := ⟨W3.heap.size, 0, none⟩) (by show W7.heap.size ≠ W3.heap.size; omega) _).far (p := ⟨W3.heap.size, 1, none⟩) (by show W7.heap.size ≠ W3.heap.size; omega) _).far (p := ⟨W3.heap.size, 2, none⟩) (by show W7.heap.size ≠ W3.heap.size; omega) _).far (p := ⟨W3.heap.size, 3, none⟩) (by show W7.heap.size ≠ W3.heap.size; omega) _).far (p := ⟨W3.heap.size, 4, none⟩) (by show W7.heap.size ≠ W3.heap.size; omega) _).far (p := ⟨W3.heap.size, 5, none⟩) (by show W7.heap.size ≠ W3.heap.size; omega) _).far (p := ⟨W3.heap.size, 6, none⟩) (by show W7.heap.size ≠ W3.heap.size; omega) _
        have k_own14 := (KO9.out.blk7 B13_out.out (.int .i64 ep) (.int .i64 l) (.slice (some ⟨gi, 0, none⟩) is.length d1) (.slice (some ⟨gk, 0, none⟩) ks.length d3) (.slice (some ⟨gr, 0, none⟩) rs.length d5) (.int .i64 fw) (.int .i64 ba))
        have k_tl14 := (((((((HTL9.out).under (a := ⟨W3.heap.size, 0, none⟩) (by (try dsimp only); omega) (.int .i64 ep)).under (a := ⟨W3.heap.size, 1, none⟩) (by (try dsimp only); omega) (.int .i64 l)).under (a := ⟨W3.heap.size, 2, none⟩) (by (try dsimp only); omega) (.slice (some ⟨gi, 0, none⟩) is.length d1)).under (a := ⟨W3.heap.size, 3, none⟩) (by (try dsimp only); omega) (.slice (some ⟨gk, 0, none⟩) ks.length d3)).under (a := ⟨W3.heap.size, 4, none⟩) (by (try dsimp only); omega) (.slice (some ⟨gr, 0, none⟩) rs.length d5)).under (a := ⟨W3.heap.size, 5, none⟩) (by (try dsimp only); omega) (.int .i64 fw)).under (a := ⟨W3.heap.size, 6, none⟩) (by (try dsimp only); omega) (.int .i64 ba)
        have k_lg14 := (((((((HLG9.out).under (a := ⟨W3.heap.size, 0, none⟩) (by (try dsimp only); omega) (.int .i64 ep)).under (a := ⟨W3.heap.size, 1, none⟩) (by (try dsimp only); omega) (.int .i64 l)).under (a := ⟨W3.heap.size, 2, none⟩) (by (try dsimp only); omega) (.slice (some ⟨gi, 0, none⟩) is.length d1)).under (a := ⟨W3.heap.size, 3, none⟩) (by (try dsimp only); omega) (.slice (some ⟨gk, 0, none⟩) ks.length d3)).under (a := ⟨W3.heap.size, 4, none⟩) (by (try dsimp only); omega) (.slice (some ⟨gr, 0, none⟩) rs.length d5)).under (a := ⟨W3.heap.size, 5, none⟩) (by (try dsimp only); omega) (.int .i64 fw)).under (a := ⟨W3.heap.size, 6, none⟩) (by (try dsimp only); omega) (.int .i64 ba)
        have hz14 : W13.heap.size + 0 ≤ W14.heap.size := by rw [← e_W14]; (first | omega | (simp; done) | (simp; omega))
        try rw [e_W14] at k_own14
        try rw [e_W14] at k_tl14
        try rw [e_W14] at k_lg14
        rw [e_W14]
        clear e_W14
        have HB14 := Lib.hid hb14
        have B14_bx := Lib.hid b_bx14
        have B14_bz := Lib.hid b_bz14
        have B14_out := Lib.hid b_out14
        have B14_lb := Lib.hid b_lb14
        have K14_own := Lib.hid k_own14
        have K14_tl := Lib.hid k_tl14
        have K14_lg := Lib.hid k_lg14
        clear hb14 b_bx14 b_bz14 b_out14 b_lb14 k_own14 k_tl14 k_lg14
        clear B13_bx B13_bz B13_out B13_lb HB13 KO9 HTL9 HLG9
        go_upto_region 24 with fail
        obtain ⟨A8l, c8l, ⟨-, -, -, l3⟩, -, -⟩ := K14_own.out.repAt l hql
        (try simp only at l3)
        obtain ⟨A8h, c8h, ⟨-, -, -, r3⟩, ⟨-, -, -, rf3⟩, -⟩ := K14_own.out.repAt i hqi
        (try simp only at r3)
        rw [HQH.out] at r3
        have n400 : (n : Int) ≤ 400 := by omega
        have n0_ : (0 : Int) ≤ (n : Int) := by omega
        have c_bx0 := B14_bx.out.cell 0
        have c_bx1 := B14_bx.out.cell 1
        have c_bx2 := B14_bx.out.cell 2
        have c_bx3 := B14_bx.out.cell 3
        have c_bx4 := B14_bx.out.cell 4
        have c_bx5 := B14_bx.out.cell 5
        have c_bx6 := B14_bx.out.cell 6
        have l_bx := B14_bx.out.lt
        have c_out0 := B14_out.out.cell 0
        have c_out1 := B14_out.out.cell 1
        have c_out2 := B14_out.out.cell 2
        have c_out3 := B14_out.out.cell 3
        have c_out4 := B14_out.out.cell 4
        have c_out5 := B14_out.out.cell 5
        have c_out6 := B14_out.out.cell 6
        have l_out := B14_out.out.lt
        have v3 := (HB14.out.cell (p := ⟨b5, o5 + i * 4 + 3, none⟩) hb5).trans XI.out.2.2.2
        have vl5 := Nat.lt_of_lt_of_le hb5 HB14.out.size
        rcases HKEY.out with ⟨d1, d2, hX⟩ | ⟨d1, d2, hX⟩ | ⟨d1, d2, hX⟩ | ⟨d1, d2, hX⟩
        all_goals
          have HX := Lib.hid hX
          clear hX
          go_upto_region 29 with fail
          rw [HX.out]
          clear HX d1 d2
          go_upto_region 30 with fail
          clear l3 r3 rf3 c_bx0 c_bx1 c_bx2 c_bx3 c_bx4 c_bx5 c_bx6 l_bx c_out0 c_out1 c_out2 c_out3 c_out4 c_out5 c_out6 l_out v3 vl5
          have hsz15 := HB14.out.size
          obtain ⟨W15, e_W15⟩ : ∃ W : World, W14.setCell ⟨gr, i * 4 + 3, none⟩ (.int .i64 hg) = W := ⟨_, rfl⟩
          have hb15 : Below w.heap.size w W15 := by rw [← e_W15]; exact (HB14.out).setCell (by show w.heap.size ≤ gr; omega) _
          have b_bx15 : Blk W15 (w.heap.size) 26 #[.int .i64 ep, .int .i64 l, .slice A1 is.length c1, .slice A3 ks.length c3, .slice (some ⟨b5, o5, none⟩) rs.length c5, .int .i64 fw, .int .i64 ba] := by rw [← e_W15]; exact (B14_bx.out).far (p := ⟨gr, i * 4 + 3, none⟩) (by show w.heap.size ≠ gr; omega) _
          have b_bz15 : Blk W15 (w.heap.size + 1) 26 #[.int .i64 0, .int .i64 0, .slice none 0 0, .slice none 0 0, .slice none 0 0, .int .i64 0, .int .i64 0] := by rw [← e_W15]; exact (B14_bz.out).far (p := ⟨gr, i * 4 + 3, none⟩) (by show w.heap.size + 1 ≠ gr; omega) _
          have b_out15 : Blk W15 (W3.heap.size) 26 #[.int .i64 ep, .int .i64 l, .slice (some ⟨gi, 0, none⟩) is.length d1, .slice (some ⟨gk, 0, none⟩) ks.length d3, .slice (some ⟨gr, 0, none⟩) rs.length d5, .int .i64 fw, .int .i64 ba] := by rw [← e_W15]; exact (B14_out.out).far (p := ⟨gr, i * 4 + 3, none⟩) (by show W3.heap.size ≠ gr; omega) _
          have b_lb15 : Blk W15 (W7.heap.size) 42 #[.slice A11 bc.length c11, .int .i64 (sc : Int)] := by rw [← e_W15]; exact (B14_lb.out).far (p := ⟨gr, i * 4 + 3, none⟩) (by show W7.heap.size ≠ gr; omega) _
          have k_own15 := (PO.higher K14_own.out hqi hg)
          have hz15 : W14.heap.size + 0 ≤ W15.heap.size := by rw [← e_W15]; (first | omega | (simp; done) | (simp; omega))
          try rw [e_W15] at k_own15
          rw [e_W15]
          clear e_W15
          have HB15 := Lib.hid hb15
          have B15_bx := Lib.hid b_bx15
          have B15_bz := Lib.hid b_bz15
          have B15_out := Lib.hid b_out15
          have B15_lb := Lib.hid b_lb15
          have K15_own := Lib.hid k_own15
          clear hb15 b_bx15 b_bz15 b_out15 b_lb15 k_own15
          clear B14_bx B14_bz B14_out B14_lb HB14 K14_own
          have c_out0 := B15_out.out.cell 0
          have c_out1 := B15_out.out.cell 1
          have c_out2 := B15_out.out.cell 2
          have c_out3 := B15_out.out.cell 3
          have c_out4 := B15_out.out.cell 4
          have c_out5 := B15_out.out.cell 5
          have c_out6 := B15_out.out.cell 6
          have l_out := B15_out.out.lt
          have c_bz0 := B15_bz.out.cell 0
          have f_bz0 := B15_bz.out.frozen 0
          have c_bz1 := B15_bz.out.cell 1
          have f_bz1 := B15_bz.out.frozen 1
          have c_bz2 := B15_bz.out.cell 2
          have f_bz2 := B15_bz.out.frozen 2
          have c_bz3 := B15_bz.out.cell 3
          have f_bz3 := B15_bz.out.frozen 3
          have c_bz4 := B15_bz.out.cell 4
          have f_bz4 := B15_bz.out.frozen 4
          have c_bz5 := B15_bz.out.cell 5
          have f_bz5 := B15_bz.out.frozen 5
          have c_bz6 := B15_bz.out.cell 6
          have f_bz6 := B15_bz.out.frozen 6
          have l_bz := B15_bz.out.lt
          go_wp2_with fail
          clear c_out0 c_out1 c_out2 c_out3 c_out4 c_out5 c_out6 l_out c_bz0 f_bz0 c_bz1 f_bz1 c_bz2 f_bz2 c_bz3 f_bz3 c_bz4 f_bz4 c_bz5 f_bz5 c_bz6 f_bz6 l_bz
          have hszF := HB15.out.size
          have hbF : Below w.heap.size w (((((((W15.setCell ⟨w.heap.size + 1, 0, none⟩ (.int .i64 ep)).setCell ⟨w.heap.size + 1, 1, none⟩ (.int .i64 l)).setCell ⟨w.heap.size + 1, 2, none⟩ (.slice (some ⟨gi, 0, none⟩) is.length d1)).setCell ⟨w.heap.size + 1, 3, none⟩ (.slice (some ⟨gk, 0, none⟩) ks.length d3)).setCell ⟨w.heap.size + 1, 4, none⟩ (.slice (some ⟨gr, 0, none⟩) rs.length d5)).setCell ⟨w.heap.size + 1, 5, none⟩ (.int .i64 fw)).setCell ⟨w.heap.size + 1, 6, none⟩ (.int .i64 ba)) := (((((((HB15.out).setCell (by show w.heap.size ≤ w.heap.size + 1; omega) _).setCell (by show w.heap.size ≤ w.heap.size + 1; omega) _).setCell (by show w.heap.size ≤ w.heap.size + 1; omega) _).setCell (by show w.heap.size ≤ w.heap.size + 1; omega) _).setCell (by show w.heap.size ≤ w.heap.size + 1; omega) _).setCell (by show w.heap.size ≤ w.heap.size + 1; omega) _).setCell (by show w.heap.size ≤ w.heap.size + 1; omega) _
          have b_bxF : Blk (((((((W15.setCell ⟨w.heap.size + 1, 0, none⟩ (.int .i64 ep)).setCell ⟨w.heap.size + 1, 1, none⟩ (.int .i64 l)).setCell ⟨w.heap.size + 1, 2, none⟩ (.slice (some ⟨gi, 0, none⟩) is.length d1)).setCell ⟨w.heap.size + 1, 3, none⟩ (.slice (some ⟨gk, 0, none⟩) ks.length d3)).setCell ⟨w.heap.size + 1, 4, none⟩ (.slice (some ⟨gr, 0, none⟩) rs.length d5)).setCell ⟨w.heap.size + 1, 5, none⟩ (.int .i64 fw)).setCell ⟨w.heap.size + 1, 6, none⟩ (.int .i64 ba)) (w.heap.size) 26 #[.int .i64 ep, .int .i64 l, .slice A1 is.length c1, .slice A3 ks.length c3, .slice (some ⟨b5, o5, none⟩) rs.length c5, .int .i64 fw, .int .i64 ba] := (((((((B15_bx.out).far (p := ⟨w.heap.size + 1, 0, none⟩) (by show w.heap.size ≠ w.heap.size + 1; omega) _).far (p := ⟨w.heap.size + 1, 1, none⟩) (by show w.heap.size ≠ w.heap.size + 1; omega) _).far (p := ⟨w.heap.size + 1, 2, none⟩) (by show w.heap.size ≠ w.heap.size + 1; omega) _).far (p := ⟨w.heap.size + 1, 3, none⟩) (by show w.heap.size ≠ w.heap.size + 1; omega) _).far (p := ⟨w.heap.size + 1, 4, none⟩) (by show w.heap.size ≠ w.heap.size + 1; omega) _).far (p := ⟨w.heap.size + 1, 5, none⟩) (by show w.heap.size ≠ w.heap.size + 1; omega) _).far (p := ⟨w.heap.size + 1, 6, none⟩) (by show w.heap.size ≠ w.heap.size + 1; omega) _
          have b_bzF : Blk (((((((W15.setCell ⟨w.heap.size + 1, 0, none⟩ (.int .i64 ep)).setCell ⟨w.heap.size + 1, 1, none⟩ (.int .i64 l)).setCell ⟨w.heap.size + 1, 2, none⟩ (.slice (some ⟨gi, 0, none⟩) is.length d1)).setCell ⟨w.heap.size + 1, 3, none⟩ (.slice (some ⟨gk, 0, none⟩) ks.length d3)).setCell ⟨w.heap.size + 1, 4, none⟩ (.slice (some ⟨gr, 0, none⟩) rs.length d5)).setCell ⟨w.heap.size + 1, 5, none⟩ (.int .i64 fw)).setCell ⟨w.heap.size + 1, 6, none⟩ (.int .i64 ba)) (w.heap.size + 1) 26 #[.int .i64 ep, .int .i64 l, .slice (some ⟨gi, 0, none⟩) is.length d1, .slice (some ⟨gk, 0, none⟩) ks.length d3, .slice (some ⟨gr, 0, none⟩) rs.length d5, .int .i64 fw, .int .i64 ba] := (((((((B15_bz.out).set_ 0 _).set_ 1 _).set_ 2 _).set_ 3 _).set_ 4 _).set_ 5 _).set_ 6 _
          have b_outF : Blk (((((((W15.setCell ⟨w.heap.size + 1, 0, none⟩ (.int .i64 ep)).setCell ⟨w.heap.size + 1, 1, none⟩ (.int .i64 l)).setCell ⟨w.heap.size + 1, 2, none⟩ (.slice (some ⟨gi, 0, none⟩) is.length d1)).setCell ⟨w.heap.size + 1, 3, none⟩ (.slice (some ⟨gk, 0, none⟩) ks.length d3)).setCell ⟨w.heap.size + 1, 4, none⟩ (.slice (some ⟨gr, 0, none⟩) rs.length d5)).setCell ⟨w.heap.size + 1, 5, none⟩ (.int .i64 fw)).setCell ⟨w.heap.size + 1, 6, none⟩ (.int .i64 ba)) (W3.heap.size) 26 #[.int .i64 ep, .int .i64 l, .slice (some ⟨gi, 0, none⟩) is.length d1, .slice (some ⟨gk, 0, none⟩) ks.length d3, .slice (some ⟨gr, 0, none⟩) rs.length d5, .int .i64 fw, .int .i64 ba] := (((((((B15_out.out).far (p := ⟨w.heap.size + 1, 0, none⟩) (by show W3.heap.size ≠ w.heap.size + 1; omega) _).far (p := ⟨w.heap.size + 1, 1, none⟩) (by show W3.heap.size ≠ w.heap.size + 1; omega) _).far (p := ⟨w.heap.size + 1, 2, none⟩) (by show W3.heap.size ≠ w.heap.size + 1; omega) _).far (p := ⟨w.heap.size + 1, 3, none⟩) (by show W3.heap.size ≠ w.heap.size + 1; omega) _).far (p := ⟨w.heap.size + 1, 4, none⟩) (by show W3.heap.size ≠ w.heap.size + 1; omega) _).far (p := ⟨w.heap.size + 1, 5, none⟩) (by show W3.heap.size ≠ w.heap.size + 1; omega) _).far (p := ⟨w.heap.size + 1, 6, none⟩) (by show W3.heap.size ≠ w.heap.size + 1; omega) _
          have b_lbF : Blk (((((((W15.setCell ⟨w.heap.size + 1, 0, none⟩ (.int .i64 ep)).setCell ⟨w.heap.size + 1, 1, none⟩ (.int .i64 l)).setCell ⟨w.heap.size + 1, 2, none⟩ (.slice (some ⟨gi, 0, none⟩) is.length d1)).setCell ⟨w.heap.size + 1, 3, none⟩ (.slice (some ⟨gk, 0, none⟩) ks.length d3)).setCell ⟨w.heap.size + 1, 4, none⟩ (.slice (some ⟨gr, 0, none⟩) rs.length d5)).setCell ⟨w.heap.size + 1, 5, none⟩ (.int .i64 fw)).setCell ⟨w.heap.size + 1, 6, none⟩ (.int .i64 ba)) (W7.heap.size) 42 #[.slice A11 bc.length c11, .int .i64 (sc : Int)] := (((((((B15_lb.out).far (p := ⟨w.heap.size + 1, 0, none⟩) (by show W7.heap.size ≠ w.heap.size + 1; omega) _).far (p := ⟨w.heap.size + 1, 1, none⟩) (by show W7.heap.size ≠ w.heap.size + 1; omega) _).far (p := ⟨w.heap.size + 1, 2, none⟩) (by show W7.heap.size ≠ w.heap.size + 1; omega) _).far (p := ⟨w.heap.size + 1, 3, none⟩) (by show W7.heap.size ≠ w.heap.size + 1; omega) _).far (p := ⟨w.heap.size + 1, 4, none⟩) (by show W7.heap.size ≠ w.heap.size + 1; omega) _).far (p := ⟨w.heap.size + 1, 5, none⟩) (by show W7.heap.size ≠ w.heap.size + 1; omega) _).far (p := ⟨w.heap.size + 1, 6, none⟩) (by show W7.heap.size ≠ w.heap.size + 1; omega) _
          have k_ownF := (((((((K15_own.out).under (a := ⟨w.heap.size + 1, 0, none⟩) (by (try dsimp only); omega) (.int .i64 ep)).under (a := ⟨w.heap.size + 1, 1, none⟩) (by (try dsimp only); omega) (.int .i64 l)).under (a := ⟨w.heap.size + 1, 2, none⟩) (by (try dsimp only); omega) (.slice (some ⟨gi, 0, none⟩) is.length d1)).under (a := ⟨w.heap.size + 1, 3, none⟩) (by (try dsimp only); omega) (.slice (some ⟨gk, 0, none⟩) ks.length d3)).under (a := ⟨w.heap.size + 1, 4, none⟩) (by (try dsimp only); omega) (.slice (some ⟨gr, 0, none⟩) rs.length d5)).under (a := ⟨w.heap.size + 1, 5, none⟩) (by (try dsimp only); omega) (.int .i64 fw)).under (a := ⟨w.heap.size + 1, 6, none⟩) (by (try dsimp only); omega) (.int .i64 ba)
          have hsm : PSm ⟨ep, (l : Int), is, ks.set i (jm : Int), qs.set i { qs[i] with high := hg }, fw, ba⟩ := by
            refine ⟨HSM3.out.isr, HSM3.out.known, by simp only [List.length_set]; exact HSM3.out.reps, fun u hu => ?_⟩
            rcases mem_set_cases hu with rfl | hu
            · exact HSM3.out.bytes qs[i] (List.getElem_mem hqi)
            · exact HSM3.out.bytes u hu
          have hpv := k_ownF.pv hsm
          rw [HQN.out] at hpv
          have y0 := b_bzF.cell 0
          have y1 := b_bzF.cell 1
          have y2 := b_bzF.cell 2
          have y3 := b_bzF.cell 3
          have y4 := b_bzF.cell 4
          have y5 := b_bzF.cell 5
          have y6 := b_bzF.cell 6
          refine bodyPost_ret (v := .tuple #[.agg #[.int .i64 ep, .int .i64 l, .slice (some ⟨gi, 0, none⟩) is.length d1, .slice (some ⟨gk, 0, none⟩) ks.length d3, .slice (some ⟨gr, 0, none⟩) rs.length d5, .int .i64 fw, .int .i64 ba], .int .i64 0, .int .i64 0]) ?_ ?_ (⟨_, rfl, hpv, hbF⟩)
          · simp [results, Try.results66, go_sem, y0, y1, y2, y3, y4, y5, y6]
          · rfl
end Go.Proofs.Ytpjjfnpdopdnkaa
