/- Parts of a proof, merged: PmFetD. No condition. -/
import Derived.Test.YtpjjfnpdopdnkaaPf10
namespace Go.Proofs.Ytpjjfnpdopdnkaa
open Go.RowKit
attribute [local go_sem ↓] Go.wp_at_zero Go.wp_at_succ

set_option maxRecDepth 100000 in
set_option maxHeartbeats 4000000 in
theorem fetch_ok (v : Value) (c : PartD) (hn : PartOk c) (i l : Nat) (hi : i < c.reps.length) (hl : c.leader = l) (hll : l < c.reps.length) (hne : l ≠ i) (hu : c.reps[i].up = true) {ei el : List Ent} {ji jl : Nat} (hli : LogIs c.reps[i].log ei ji) (hlg : LogIs c.reps[l].log el jl) (n : Nat) (hcm : CommTo ei el n) {z : Nat} (hz : z = (flat (ei.take n)).length) {bc : List UInt8} (hbc : c.reps[i].bytes.take z = bc) {sc : Nat} (hsc : min c.reps[i].synced.toNat z = sc) {jm : Nat} (hjm : min ji n = jm) {qs : List RepD} (hqs : (advD ⟨c.epoch, c.leader, c.isr, c.known.set i (jm : Int), c.reps.set i { c.reps[i] with bytes := bc, synced := (sc : Int) }, c.few, c.base⟩).reps = qs) (hqi : i < qs.length) (hql : l < qs.length) {hg : Int} (hmore : n < el.length) {bd : List UInt8} (hbd : bc ++ el[n].enc = bd) (hap : ¬ ((ei.take n).length = 400 ∨ 40000 < bc.length + (el[n].enc).length)) {qt : List RepD} (hqt : qs.set i { qs[i] with bytes := bd, synced := (sc : Int) } = qt) (hti : i < qt.length) (htl9 : l < qt.length) (hhg : min (max c.reps[i].high qs[l].high) ((n : Int) + 1) = hg)  (w : World) (h : Pv w v c) : Calls Try.prog 65 #[v, .int .i64 i] w (PRes3 ⟨c.epoch, c.leader, c.isr, c.known.set i (jm : Int), qt.set i { qt[i] with high := hg }, c.few, c.base⟩ 1 0 w) := by
  obtain ⟨xi, xk, xr, rfl, ix, kx, rx, hli, hlk, hlr⟩ := id h
  obtain ⟨A5, c5, rfl, hc5, -⟩ := rx.at_
  obtain ⟨A1, c1, rfl, hc1, -⟩ := ix.at_
  obtain ⟨A3, c3, rfl, hc3, -⟩ := kx.at_
  have H := Lib.hid h
  clear h ix kx rx
  unfold partV at *
  obtain ⟨ep, ld, is, ks, rs, fw, ba⟩ := c
  simp only at *
  obtain rfl : ld = (l : Int) := hl
  have eqk := hn.known
  have eqi := hn.isr
  (try simp only at eqk eqi)
  have E1 := Lib.hid eqi
  have E2 := Lib.hid eqk
  have HN := Lib.hid hn
  have HSM := Lib.hid hn.small
  have HLI := Lib.hid hli
  have HLG := Lib.hid hlg
  have HCM := Lib.hid hcm
  have HZ_ := Lib.hid hz
  have HBC := Lib.hid hbc
  have HSC := Lib.hid hsc
  have HNE := Lib.hid hne
  have hlc := LogIs.cutN (l := rs[i].bytes) (s := rs[i].synced) hli hz hcm.la
  (try simp only at hbc hsc hqs)
  rw [hbc, hsc, hjm] at hlc
  have HLC := Lib.hid hlc
  have hqn : qs.length = rs.length := by rw [← hqs, advD_at (i := l) rfl]; simp [PartD.updR]
  have had : advD ⟨ep, (l : Int), is, ks.set i (jm : Int), rs.set i { rs[i] with bytes := bc, synced := (sc : Int) }, fw, ba⟩ = ⟨ep, (l : Int), is, ks.set i (jm : Int), qs, fw, ba⟩ := by rw [← hqs, advD_at (i := l) rfl]; rfl
  have hqe : qs[i] = { rs[i] with bytes := bc, synced := (sc : Int) } := by
    have e := hqs
    rw [advD_at (i := l) rfl] at e
    subst e
    simp [PartD.updR, hne]
  have HQB := Lib.hid (show qs[i].bytes = bc by rw [hqe])
  have HQS := Lib.hid (show qs[i].synced = (sc : Int) by rw [hqe])
  have HQH := Lib.hid (show qs[i].high = rs[i].high by rw [hqe])
  have HAD := Lib.hid had
  have HQN := Lib.hid hqn
  have hi9 : i < (rs.set i { rs[i] with bytes := bc, synced := (sc : Int) }).length := by simpa using hi
  have hl9 : l < (rs.set i { rs[i] with bytes := bc, synced := (sc : Int) }).length := by simpa using hll
  have HSZ := Lib.hid (show LogIs (rs.set i { rs[i] with bytes := bc, synced := (sc : Int) })[i].log (ei.take n) jm by rw [List.getElem_set_self]; exact HLC.out)
  have HLL := Lib.hid (show LogIs (rs.set i { rs[i] with bytes := bc, synced := (sc : Int) })[l].log el jl by rw [List.getElem_set_ne (by omega)]; exact HLG.out)
  have HBL_ := Lib.hid (show bc.length ≤ 40000 by have := HSM.out.bytes rs[i] (List.getElem_mem hi); rw [← hbc, List.length_take]; omega)
  have HSM2 := Lib.hid (show PSm ⟨ep, (l : Int), is, ks, rs.set i { rs[i] with bytes := bc, synced := (sc : Int) }, fw, ba⟩ by
    refine ⟨HSM.out.isr, HSM.out.known, by simp only [List.length_set]; exact HSM.out.reps, fun u hu => ?_⟩
    rcases mem_set_cases hu with rfl | hu
    · exact HBL_.out
    · exact HSM.out.bytes u hu)
  have HSM3 := Lib.hid (show PSm ⟨ep, (l : Int), is, ks.set i (jm : Int), qs, fw, ba⟩ by rw [← HAD.out, advD_at (i := l) rfl]; exact PSm.updR (PSm.setKnown HSM2.out i _) l _ (fun t ht => ht))
  have hei : ei.length ≤ 400 := hli.many
  have hel : el.length ≤ 400 := hlg.many
  have hni : n ≤ ei.length := hcm.la
  have hnl : n ≤ el.length := hcm.lb
  have y0 : decide ((l : Int) < 0) = false := decide_eq_false (by omega)
  have y1 : ((l : Int) == (i : Int)) = false := beq_eq_false_iff_ne.2 (by omega)
  have i0 : (0 : Int) ≤ (i : Int) := by omega
  have i1 : (i : Int) < (rs.length : Int) := Int.ofNat_lt.2 hi
  have l0 : (0 : Int) ≤ (l : Int) := by omega
  have l1 : (l : Int) < (rs.length : Int) := Int.ofNat_lt.2 hll
  have j3 : i < ks.length := by omega
  have i3 : (i : Int) < (ks.length : Int) := by omega
  have hup : rs[i].up = true := hu
  have HU := Lib.hid hup
  clear hn hli hlg hcm hz hbc hsc hu hup eqk eqi hlc hqn had hqe hqs hjm
  have hnl2 : n < el.length := hmore
  have y5 : decide ((n : Int) < (el.length : Int)) = true := decide_eq_true (by omega)
  have y5n : decide (n < el.length) = true := decide_eq_true hmore
  have n0 : (0 : Int) ≤ (n : Int) := by omega
  have n1 : (n : Int) < (el.length : Int) := by omega
  have HHG := Lib.hid hhg
  have HNE2 := Lib.hid (show i ≠ l by omega)
  have HOKX := Lib.hid (HLG.out.ok el[n] (List.getElem_mem hmore))
  have HFL := Lib.hid hap
  have HBD := Lib.hid hbd
  have HQT := Lib.hid hqt
  have htl : qt.length = qs.length := by rw [← hqt, List.length_set]
  have HTL_ := Lib.hid (htl.trans HQN.out)
  have HTH := Lib.hid (show qt[i].high = rs[i].high by subst hqt; simp only [List.getElem_set_self]; exact HQH.out)
  have HTHL := Lib.hid (show qt[l].high = qs[l].high by subst hqt; rw [List.getElem_set_ne HNE2.out])
  have HBDL := Lib.hid (show bd.length ≤ 40000 by rw [← hbd, List.length_append]; omega)
  have HSM4 := Lib.hid (show PSm ⟨ep, (l : Int), is, ks.set i (jm : Int), qt, fw, ba⟩ by
    subst hqt
    refine ⟨HSM3.out.isr, HSM3.out.known, by simp only [List.length_set]; exact HSM3.out.reps, fun u hu => ?_⟩
    rcases mem_set_cases hu with rfl | hu
    · exact HBDL.out
    · exact HSM3.out.bytes u hu)
  clear hbd hqt htl
  clear hhg hap
  go_enter Try.func65, Try.ntmps65
  go_wp2_with fail
  have hb1 : Below w.heap.size w ((w.alloc (.cells #[.int .i64 ep, .int .i64 l, .slice A1 is.length c1, .slice A3 ks.length c3, .slice A5 rs.length c5, .int .i64 fw, .int .i64 ba] 26)).alloc (.cells #[.int .i64 0, .int .i64 0, .slice none 0 0, .slice none 0 0, .slice none 0 0, .int .i64 0, .int .i64 0] 26)) := ((Below.refl _ _).alloc (by first | omega | (simp; done) | (simp; omega)) _).alloc (by first | omega | (simp; done) | (simp; omega)) _
  have hal1 : Below w.heap.size w ((w.alloc (.cells #[.int .i64 ep, .int .i64 l, .slice A1 is.length c1, .slice A3 ks.length c3, .slice A5 rs.length c5, .int .i64 fw, .int .i64 ba] 26)).alloc (.cells #[.int .i64 0, .int .i64 0, .slice none 0 0, .slice none 0 0, .slice none 0 0, .int .i64 0, .int .i64 0] 26)) := ((Below.refl _ _).alloc (by first | omega | (simp; done) | (simp; omega)) _).alloc (by first | omega | (simp; done) | (simp; omega)) _
  have b_bx1 : Blk ((w.alloc (.cells #[.int .i64 ep, .int .i64 l, .slice A1 is.length c1, .slice A3 ks.length c3, .slice A5 rs.length c5, .int .i64 fw, .int .i64 ba] 26)).alloc (.cells #[.int .i64 0, .int .i64 0, .slice none 0 0, .slice none 0 0, .slice none 0 0, .int .i64 0, .int .i64 0] 26)) (w.heap.size) 26 #[.int .i64 ep, .int .i64 l, .slice A1 is.length c1, .slice A3 ks.length c3, .slice A5 rs.length c5, .int .i64 fw, .int .i64 ba] := (Blk.new_ _ 26 #[.int .i64 ep, .int .i64 l, .slice A1 is.length c1, .slice A3 ks.length c3, .slice A5 rs.length c5, .int .i64 fw, .int .i64 ba] (by first | rfl | (simp; done) | (simp; omega))).alloc _
  have b_bz1 : Blk ((w.alloc (.cells #[.int .i64 ep, .int .i64 l, .slice A1 is.length c1, .slice A3 ks.length c3, .slice A5 rs.length c5, .int .i64 fw, .int .i64 ba] 26)).alloc (.cells #[.int .i64 0, .int .i64 0, .slice none 0 0, .slice none 0 0, .slice none 0 0, .int .i64 0, .int .i64 0] 26)) (w.heap.size + 1) 26 #[.int .i64 0, .int .i64 0, .slice none 0 0, .slice none 0 0, .slice none 0 0, .int .i64 0, .int .i64 0] := Blk.new_ _ 26 #[.int .i64 0, .int .i64 0, .slice none 0 0, .slice none 0 0, .slice none 0 0, .int .i64 0, .int .i64 0] (by first | rfl | (simp; done) | (simp; omega))
  have k_v1 := H.out.below hal1
  have hz1 : w.heap.size + 2 ≤ ((w.alloc (.cells #[.int .i64 ep, .int .i64 l, .slice A1 is.length c1, .slice A3 ks.length c3, .slice A5 rs.length c5, .int .i64 fw, .int .i64 ba] 26)).alloc (.cells #[.int .i64 0, .int .i64 0, .slice none 0 0, .slice none 0 0, .slice none 0 0, .int .i64 0, .int .i64 0] 26)).heap.size := by first | omega | (simp; done) | (simp; omega)
  generalize (w.alloc (.cells #[.int .i64 ep, .int .i64 l, .slice A1 is.length c1, .slice A3 ks.length c3, .slice A5 rs.length c5, .int .i64 fw, .int .i64 ba] 26)).alloc (.cells #[.int .i64 0, .int .i64 0, .slice none 0 0, .slice none 0 0, .slice none 0 0, .int .i64 0, .int .i64 0] 26) = W1 at *
  have HB1 := Lib.hid hb1
  have B1_bx := Lib.hid b_bx1
  have B1_bz := Lib.hid b_bz1
  have K1_v := Lib.hid k_v1
  clear hb1 b_bx1 b_bz1 k_v1
  clear H
  refine (at_good _ ⟨ep, (l : Int), is, ks, rs, fw, ba⟩ i HN.out hi _ K1_v.out).mono ?_
  rintro e W2 ⟨iv, kv, rv, rfl, ho, hb⟩
  obtain ⟨gi, d1, gk, d3, gr, d5, rfl, rfl, rfl, hgi, hgk, hgr, hgi', hgk', hgr'⟩ := ho.rows (by have := HN.out.isr; have := HN.out.many; simp only at *; omega) (by have := HN.out.known; have := HN.out.many; simp only at *; omega) (by have := HN.out.many; simp only at *; omega)
  unfold partV
  simp only at *
  have HO := Lib.hid ho
  clear ho
  have hb2 : Below w.heap.size w W2 := below_then HB1.out hb
  have b_bx2 := B1_bx.out.below hb B1_bx.out.lt
  have b_bz2 := B1_bz.out.below hb B1_bz.out.lt
  have k_v2 := K1_v.out.below hb
  have hz2 := hb.size
  have HB2 := Lib.hid hb2
  have B2_bx := Lib.hid b_bx2
  have B2_bz := Lib.hid b_bz2
  have K2_v := Lib.hid k_v2
  clear hb2 b_bx2 b_bz2 k_v2
  clear B1_bx B1_bz HB1 K1_v
  have c_bx0 := B2_bx.out.cell 0
  have f_bx0 := B2_bx.out.frozen 0
  have c_bx1 := B2_bx.out.cell 1
  have f_bx1 := B2_bx.out.frozen 1
  have c_bx2 := B2_bx.out.cell 2
  have f_bx2 := B2_bx.out.frozen 2
  have c_bx3 := B2_bx.out.cell 3
  have f_bx3 := B2_bx.out.frozen 3
  have c_bx4 := B2_bx.out.cell 4
  have f_bx4 := B2_bx.out.frozen 4
  have c_bx5 := B2_bx.out.cell 5
  have f_bx5 := B2_bx.out.frozen 5
  have c_bx6 := B2_bx.out.cell 6
  have f_bx6 := B2_bx.out.frozen 6
  have l_bx := B2_bx.out.lt
  go_upto_region 2 with fail
  clear c_bx0 f_bx0 c_bx1 f_bx1 c_bx2 f_bx2 c_bx3 f_bx3 c_bx4 f_bx4 c_bx5 f_bx5 c_bx6 f_bx6 l_bx
  have hsz3 := HB2.out.size
  have hb3 : Below w.heap.size w (((((((W2.setCell ⟨w.heap.size, 0, none⟩ (.int .i64 ep)).setCell ⟨w.heap.size, 1, none⟩ (.int .i64 l)).setCell ⟨w.heap.size, 2, none⟩ (.slice (some ⟨gi, 0, none⟩) is.length d1)).setCell ⟨w.heap.size, 3, none⟩ (.slice (some ⟨gk, 0, none⟩) ks.length d3)).setCell ⟨w.heap.size, 4, none⟩ (.slice (some ⟨gr, 0, none⟩) rs.length d5)).setCell ⟨w.heap.size, 5, none⟩ (.int .i64 fw)).setCell ⟨w.heap.size, 6, none⟩ (.int .i64 ba)) := (((((((HB2.out).setCell (by show w.heap.size ≤ w.heap.size; omega) _).setCell (by show w.heap.size ≤ w.heap.size; omega) _).setCell (by show w.heap.size ≤ w.heap.size; omega) _).setCell (by show w.heap.size ≤ w.heap.size; omega) _).setCell (by show w.heap.size ≤ w.heap.size; omega) _).setCell (by show w.heap.size ≤ w.heap.size; omega) _).setCell (by show w.heap.size ≤ w.heap.size; omega) _
  have b_bx3 : Blk (((((((W2.setCell ⟨w.heap.size, 0, none⟩ (.int .i64 ep)).setCell ⟨w.heap.size, 1, none⟩ (.int .i64 l)).setCell ⟨w.heap.size, 2, none⟩ (.slice (some ⟨gi, 0, none⟩) is.length d1)).setCell ⟨w.heap.size, 3, none⟩ (.slice (some ⟨gk, 0, none⟩) ks.length d3)).setCell ⟨w.heap.size, 4, none⟩ (.slice (some ⟨gr, 0, none⟩) rs.length d5)).setCell ⟨w.heap.size, 5, none⟩ (.int .i64 fw)).setCell ⟨w.heap.size, 6, none⟩ (.int .i64 ba)) (w.heap.size) 26 #[.int .i64 ep, .int .i64 l, .slice (some ⟨gi, 0, none⟩) is.length d1, .slice (some ⟨gk, 0, none⟩) ks.length d3, .slice (some ⟨gr, 0, none⟩) rs.length d5, .int .i64 fw, .int .i64 ba] := (((((((B2_bx.out).set_ 0 _).set_ 1 _).set_ 2 _).set_ 3 _).set_ 4 _).set_ 5 _).set_ 6 _
  have b_bz3 : Blk (((((((W2.setCell ⟨w.heap.size, 0, none⟩ (.int .i64 ep)).setCell ⟨w.heap.size, 1, none⟩ (.int .i64 l)).setCell ⟨w.heap.size, 2, none⟩ (.slice (some ⟨gi, 0, none⟩) is.length d1)).setCell ⟨w.heap.size, 3, none⟩ (.slice (some ⟨gk, 0, none⟩) ks.length d3)).setCell ⟨w.heap.size, 4, none⟩ (.slice (some ⟨gr, 0, none⟩) rs.length d5)).setCell ⟨w.heap.size, 5, none⟩ (.int .i64 fw)).setCell ⟨w.heap.size, 6, none⟩ (.int .i64 ba)) (w.heap.size + 1) 26 #[.int .i64 0, .int .i64 0, .slice none 0 0, .slice none 0 0, .slice none 0 0, .int .i64 0, .int .i64 0] := (((((((B2_bz.out).far (p := ⟨w.heap.size, 0, none⟩) (by show w.heap.size + 1 ≠ w.heap.size; omega) _).far (p := ⟨w.heap.size, 1, none⟩) (by show w.heap.size + 1 ≠ w.heap.size; omega) _).far (p := ⟨w.heap.size, 2, none⟩) (by show w.heap.size + 1 ≠ w.heap.size; omega) _).far (p := ⟨w.heap.size, 3, none⟩) (by show w.heap.size + 1 ≠ w.heap.size; omega) _).far (p := ⟨w.heap.size, 4, none⟩) (by show w.heap.size + 1 ≠ w.heap.size; omega) _).far (p := ⟨w.heap.size, 5, none⟩) (by show w.heap.size + 1 ≠ w.heap.size; omega) _).far (p := ⟨w.heap.size, 6, none⟩) (by show w.heap.size + 1 ≠ w.heap.size; omega) _
  have k_own3 := (((((((HO.out).under (a := ⟨w.heap.size, 0, none⟩) (by (try dsimp only); omega) (.int .i64 ep)).under (a := ⟨w.heap.size, 1, none⟩) (by (try dsimp only); omega) (.int .i64 l)).under (a := ⟨w.heap.size, 2, none⟩) (by (try dsimp only); omega) (.slice (some ⟨gi, 0, none⟩) is.length d1)).under (a := ⟨w.heap.size, 3, none⟩) (by (try dsimp only); omega) (.slice (some ⟨gk, 0, none⟩) ks.length d3)).under (a := ⟨w.heap.size, 4, none⟩) (by (try dsimp only); omega) (.slice (some ⟨gr, 0, none⟩) rs.length d5)).under (a := ⟨w.heap.size, 5, none⟩) (by (try dsimp only); omega) (.int .i64 fw)).under (a := ⟨w.heap.size, 6, none⟩) (by (try dsimp only); omega) (.int .i64 ba)
  have hz3 : W2.heap.size + 0 ≤ (((((((W2.setCell ⟨w.heap.size, 0, none⟩ (.int .i64 ep)).setCell ⟨w.heap.size, 1, none⟩ (.int .i64 l)).setCell ⟨w.heap.size, 2, none⟩ (.slice (some ⟨gi, 0, none⟩) is.length d1)).setCell ⟨w.heap.size, 3, none⟩ (.slice (some ⟨gk, 0, none⟩) ks.length d3)).setCell ⟨w.heap.size, 4, none⟩ (.slice (some ⟨gr, 0, none⟩) rs.length d5)).setCell ⟨w.heap.size, 5, none⟩ (.int .i64 fw)).setCell ⟨w.heap.size, 6, none⟩ (.int .i64 ba)).heap.size := by first | omega | (simp; done) | (simp; omega)
  generalize ((((((W2.setCell ⟨w.heap.size, 0, none⟩ (.int .i64 ep)).setCell ⟨w.heap.size, 1, none⟩ (.int .i64 l)).setCell ⟨w.heap.size, 2, none⟩ (.slice (some ⟨gi, 0, none⟩) is.length d1)).setCell ⟨w.heap.size, 3, none⟩ (.slice (some ⟨gk, 0, none⟩) ks.length d3)).setCell ⟨w.heap.size, 4, none⟩ (.slice (some ⟨gr, 0, none⟩) rs.length d5)).setCell ⟨w.heap.size, 5, none⟩ (.int .i64 fw)).setCell ⟨w.heap.size, 6, none⟩ (.int .i64 ba) = W3 at *
  have HB3 := Lib.hid hb3
  have B3_bx := Lib.hid b_bx3
  have B3_bz := Lib.hid b_bz3
  have K3_own := Lib.hid k_own3
  clear hb3 b_bx3 b_bz3 k_own3
  clear B2_bx B2_bz HB2 HO
  have c_bx0 := B3_bx.out.cell 0
  have c_bx1 := B3_bx.out.cell 1
  have c_bx2 := B3_bx.out.cell 2
  have c_bx3 := B3_bx.out.cell 3
  have c_bx4 := B3_bx.out.cell 4
  have c_bx5 := B3_bx.out.cell 5
  have c_bx6 := B3_bx.out.cell 6
  have l_bx := B3_bx.out.lt
  obtain ⟨A7, c7, ⟨r0, r1, r2, r3⟩, -, rby⟩ := K3_own.out.repAt i hi
  obtain ⟨A8, c8, ⟨-, m1, m2, -⟩, -, mby⟩ := K3_own.out.repAt l hll
  (try simp only at r0 r1 r2 r3 rby m1 m2 mby)
  rw [HU.out] at r0
  have RBY := Lib.hid rby
  have MBY := Lib.hid mby
  clear rby mby
  go_wp2_with fail
  clear c_bx0 c_bx1 c_bx2 c_bx3 c_bx4 c_bx5 c_bx6 l_bx r0 r1 r2 r3 m1 m2
  refine (segEntries_ok _ rs[l].bytes rs[l].synced _ MBY.out HLG.out).mono ?_
  rintro e W4 ⟨v5, rfl, hp5, hb⟩
  obtain ⟨A9, c9, rfl, hc9⟩ := (Sl.of_own hp5).form
  have HTL := Lib.hid (EnO.mk hp5)
  have RBY2 := Lib.hid (RBY.out.below hb)
  clear hp5 MBY RBY
  have hb4 : Below w.heap.size w W4 := below_then HB3.out hb
  have b_bx4 := B3_bx.out.below hb B3_bx.out.lt
  have b_bz4 := B3_bz.out.below hb B3_bz.out.lt
  have k_own4 := K3_own.out.keep hb
  have hz4 := hb.size
  have HB4 := Lib.hid hb4
  have B4_bx := Lib.hid b_bx4
  have B4_bz := Lib.hid b_bz4
  have K4_own := Lib.hid k_own4
  clear hb4 b_bx4 b_bz4 k_own4
  clear B3_bx B3_bz HB3 K3_own
  obtain ⟨A7b, c7b, ⟨-, r1, r2, -⟩, -, rby⟩ := K4_own.out.repAt i hi
  (try simp only at r1 r2 rby)
  have RBY := Lib.hid rby
  clear rby RBY2
  go_wp2_with fail
  clear r1 r2
  refine (segEntries_ok _ rs[i].bytes rs[i].synced _ RBY.out HLI.out).mono ?_
  rintro e W5 ⟨v6, rfl, hp6, hb⟩
  obtain ⟨A10, c10, rfl, hc10⟩ := (Sl.of_own hp6).form
  have HMI := Lib.hid (EnO.mk hp6)
  clear hp6 RBY
  have hb5 : Below w.heap.size w W5 := below_then HB4.out hb
  have b_bx5 := B4_bx.out.below hb B4_bx.out.lt
  have b_bz5 := B4_bz.out.below hb B4_bz.out.lt
  have k_own5 := K4_own.out.keep hb
  have k_tl5 := HTL.out.keep hb
  have hz5 := hb.size
  have HB5 := Lib.hid hb5
  have B5_bx := Lib.hid b_bx5
  have B5_bz := Lib.hid b_bz5
  have K5_own := Lib.hid k_own5
  have K5_tl := Lib.hid k_tl5
  clear hb5 b_bx5 b_bz5 k_own5 k_tl5
  clear B4_bx B4_bz HB4 K4_own HTL
  go_wp2_with fail
  obtain ⟨BA, hBA⟩ : ∃ BA, BA = W1.heap.size := ⟨_, rfl⟩
  have ko := K5_own.out
  rw [← hBA] at ko
  have KO := Lib.hid ko
  obtain ⟨BL, hTL, hBL, hBL2, hBL3⟩ : ∃ BL : Nat, EnO BL W5 (.slice A9 el.length c9) el ∧ BA ≤ BL ∧ gr < BL ∧ gk < BL := ⟨_, K5_tl.out, by omega, by omega, by omega⟩
  obtain ⟨BI, hMI, hBI⟩ : ∃ BI : Nat, EnO BI W5 (.slice A10 ei.length c10) ei ∧ BA ≤ BI := ⟨_, HMI.out, by omega⟩
  have KTL := Lib.hid hTL
  have KMI := Lib.hid hMI
  clear ko K5_own K5_tl HMI hTL hMI
  go_loopw [15] (fun y wr => ∃ k : Nat, k ≤ n ∧ y = .int .i64 k ∧ Hid (PO BA wr ⟨ep, (l : Int), is, ks, rs, fw, ba⟩ (.slice (some ⟨gi, 0, none⟩) is.length d1) (.slice (some ⟨gk, 0, none⟩) ks.length d3) (.slice (some ⟨gr, 0, none⟩) rs.length d5)) ∧ Hid (EnO BL wr (.slice A9 el.length c9) el) ∧ Hid (EnO BI wr (.slice A10 ei.length c10) ei) ∧ Hid (Blk wr (w.heap.size) 26 #[.int .i64 ep, .int .i64 l, .slice (some ⟨gi, 0, none⟩) is.length d1, .slice (some ⟨gk, 0, none⟩) ks.length d3, .slice (some ⟨gr, 0, none⟩) rs.length d5, .int .i64 fw, .int .i64 ba]) ∧ Hid (Blk wr (w.heap.size + 1) 26 #[.int .i64 0, .int .i64 0, .slice none 0 0, .slice none 0 0, .slice none 0 0, .int .i64 0, .int .i64 0]) ∧ Hid (Below w.heap.size w wr) ∧ W5.heap.size ≤ wr.heap.size) (fun y _ => n - (intOf y).toNat)
  case atStart => exact ⟨0, Nat.zero_le _, rfl, KO, KTL, KMI, B5_bx, B5_bz, HB5, Nat.le_refl _⟩
  case round =>
    clear KO KTL KMI B5_bx B5_bz HB5
    obtain ⟨k, hk, rfl, HKO, HTL, HMI, HBX, HBZ, HBW, hsz⟩ := hrel
    go_upto_region 12 with fail
    go_cut [92] from 70 to 94 (fun s wx => s = .bool (decide (k < n)) ∧ Hid (Below wr.heap.size wr wx))
    case first =>
      obtain ⟨A9', c9', he9, -, hx9⟩ := HTL.out.es.at_
      injection he9 with f1 f2 f3
      subst f1 f3
      obtain ⟨A10', c10', he10, -, hx10⟩ := HMI.out.es.at_
      injection he10 with f4 f5 f6
      subst f4 f6
      clear f2 f5
      have k0 : (0 : Int) ≤ (k : Int) := by omega
      by_cases ha : k < ei.length
      · have u0 : decide ((k : Int) < (ei.length : Int)) = true := decide_eq_true (by omega)
        have u0n : decide (k < ei.length) = true := decide_eq_true ha
        have k1 : (k : Int) < (ei.length : Int) := by omega
        by_cases hb_ : k < el.length
        · have u1 : decide ((k : Int) < (el.length : Int)) = true := decide_eq_true (by omega)
          have u1n : decide (k < el.length) = true := decide_eq_true hb_
          have k2 : (k : Int) < (el.length : Int) := by omega
          obtain ⟨g1, q1, rfl, hg1, hc1_⟩ := hx10 (by omega)
          obtain ⟨g2, q2, rfl, hg2, hc2_⟩ := hx9 (by omega)
          have X1 := (hc1_ k ha).1
          have X2 := (hc2_ k hb_).1
          by_cases he : ei[k].ep = el[k].ep
          · have hkn : k < n := by
              rcases Nat.lt_or_ge k n with h | h
              · exact h
              · obtain rfl : k = n := by omega
                exact absurd he (HCM.out.stop ha hb_)
            have u2 : (ei[k].ep == el[k].ep) = true := beq_iff_eq.2 he
            have hd : decide (k < n) = true := decide_eq_true hkn
            have HD := Lib.hid hd
            clear hc1_ hc2_ hx9 hx10 hd he
            generalize ei[k] = ya at *
            generalize el[k] = yb at *
            go_quiet (fail)
            go_wp2
            go_meet
            exact ⟨by rw [HD.out], Lib.hid (below_dn _ _)⟩
          · have hkn : ¬ k < n := fun h => he (HCM.out.same k ha hb_ h)
            have u2 : (ei[k].ep == el[k].ep) = false := beq_eq_false_iff_ne.2 he
            have hd : decide (k < n) = false := decide_eq_false hkn
            have HD := Lib.hid hd
            clear hc1_ hc2_ hx9 hx10 hd he
            generalize ei[k] = ya at *
            generalize el[k] = yb at *
            go_quiet (fail)
            go_wp2
            go_meet
            exact ⟨by rw [HD.out], Lib.hid (below_dn _ _)⟩
        · have u1 : decide ((k : Int) < (el.length : Int)) = false := decide_eq_false (by omega)
          have u1n : decide (k < el.length) = false := decide_eq_false hb_
          have hd : decide (k < n) = false := decide_eq_false (by omega)
          have HD := Lib.hid hd
          clear hd hx9 hx10
          go_quiet (fail)
          go_wp2
          go_meet
          exact ⟨by rw [HD.out], Lib.hid (below_dn _ _)⟩
      · have u0 : decide ((k : Int) < (ei.length : Int)) = false := decide_eq_false (by omega)
        have u0n : decide (k < ei.length) = false := decide_eq_false ha
        have hd : decide (k < n) = false := decide_eq_false (by omega)
        have HD := Lib.hid hd
        clear hd hx9 hx10
        go_quiet (fail)
        go_wp2
        go_meet
        exact ⟨by rw [HD.out], Lib.hid (below_dn _ _)⟩
    case rest =>
      obtain ⟨rfl, HW⟩ := hcut
      have HKO2 := Lib.hid (HKO.out.keep HW.out)
      have HTL2 := Lib.hid (HTL.out.keep HW.out)
      have HMI2 := Lib.hid (HMI.out.keep HW.out)
      have HBX2 := Lib.hid (HBX.out.below HW.out HBX.out.lt)
      have HBZ2 := Lib.hid (HBZ.out.below HW.out HBZ.out.lt)
      have HBW2 := Lib.hid (below_then HBW.out HW.out)
      have hsz2 := Nat.le_trans hsz HW.out.size
      clear HKO HTL HMI HBX HBZ HBW HW
      by_cases hkn : k < n
      · have hd : decide (k < n) = true := decide_eq_true hkn
        rw [hd]
        have k0 : (0 : Int) ≤ (k : Int) := by omega
        have k1 : (k : Int) < (n : Int) := by omega
        clear hd
        go_wp2
        go_light
        exact ⟨⟨k + 1, by omega, by go_num, HKO2, HTL2, HMI2, HBX2, HBZ2, HBW2, hsz2⟩, by simp [intOf]; omega⟩
      · obtain rfl : n = k := by omega
        have hd : decide (n < n) = false := decide_eq_false (by omega)
        rw [hd]
        clear hd hkn
        clear HMI2
        have c_bx0 := HBX2.out.cell 0
        have c_bx1 := HBX2.out.cell 1
        have c_bx2 := HBX2.out.cell 2
        have c_bx3 := HBX2.out.cell 3
        have c_bx4 := HBX2.out.cell 4
        have c_bx5 := HBX2.out.cell 5
        have c_bx6 := HBX2.out.cell 6
        have l_bx := HBX2.out.lt
        obtain ⟨A7c, c7c, ⟨-, r1, r2, -⟩, -, rby⟩ := HKO2.out.repAt i hi
        (try simp only at r1 r2 rby)
        have RBY := Lib.hid rby
        clear rby
        go_wp2_with fail
        clear c_bx0 c_bx1 c_bx2 c_bx3 c_bx4 c_bx5 c_bx6 l_bx r1 r2
        refine (cut_any _ rs[i].bytes rs[i].synced n _ RBY.out HLI.out hni HZ_.out).mono ?_
        rintro e W6 ⟨v7, he7, hp7, hb⟩
        dsimp only at he7 hp7
        rw [HSC.out] at he7
        rw [HBC.out] at hp7
        obtain rfl := he7
        obtain ⟨A11, c11, rfl, hc11⟩ := (Sl.of_own hp7).form
        have HLO := Lib.hid (LgO.mk hp7)
        clear hp7 RBY
        have hb6 : Below w.heap.size w W6 := below_then HBW2.out hb
        have b_bx6 := HBX2.out.below hb HBX2.out.lt
        have b_bz6 := HBZ2.out.below hb HBZ2.out.lt
        have k_own6 := HKO2.out.keep hb
        have k_tl6 := HTL2.out.keep hb
        have hz6 := hb.size
        have HB6 := Lib.hid hb6
        have B6_bx := Lib.hid b_bx6
        have B6_bz := Lib.hid b_bz6
        have K6_own := Lib.hid k_own6
        have K6_tl := Lib.hid k_tl6
        clear hb6 b_bx6 b_bz6 k_own6 k_tl6
        clear HBX2 HBZ2 HBW2 HKO2 HTL2
        have c_bx0 := B6_bx.out.cell 0
        have c_bx1 := B6_bx.out.cell 1
        have c_bx2 := B6_bx.out.cell 2
        have c_bx3 := B6_bx.out.cell 3
        have c_bx4 := B6_bx.out.cell 4
        have c_bx5 := B6_bx.out.cell 5
        have c_bx6 := B6_bx.out.cell 6
        have l_bx := B6_bx.out.lt
        obtain ⟨A7d, c7d, ⟨s0, s1, s2, s3⟩, ⟨-, sf1, sf2, -⟩, -⟩ := K6_own.out.repAt i hi
        go_upto_region 15 with fail
        clear c_bx0 c_bx1 c_bx2 c_bx3 c_bx4 c_bx5 c_bx6 l_bx s0 s1 s2 s3 sf1 sf2
        have hsz7 := HB6.out.size
        have hb7 : Below w.heap.size w ((W6.setCell ⟨gr, i * 4 + 1, none⟩ (.slice A11 bc.length c11)).setCell ⟨gr, i * 4 + 2, none⟩ (.int .i64 (sc : Int))) := ((HB6.out).setCell (by show w.heap.size ≤ gr; omega) _).setCell (by show w.heap.size ≤ gr; omega) _
        have b_bx7 : Blk ((W6.setCell ⟨gr, i * 4 + 1, none⟩ (.slice A11 bc.length c11)).setCell ⟨gr, i * 4 + 2, none⟩ (.int .i64 (sc : Int))) (w.heap.size) 26 #[.int .i64 ep, .int .i64 l, .slice (some ⟨gi, 0, none⟩) is.length d1, .slice (some ⟨gk, 0, none⟩) ks.length d3, .slice (some ⟨gr, 0, none⟩) rs.length d5, .int .i64 fw, .int .i64 ba] := ((B6_bx.out).far (p := ⟨gr, i * 4 + 1, none⟩) (by show w.heap.size ≠ gr; omega) _).far (p := ⟨gr, i * 4 + 2, none⟩) (by show w.heap.size ≠ gr; omega) _
        have b_bz7 : Blk ((W6.setCell ⟨gr, i * 4 + 1, none⟩ (.slice A11 bc.length c11)).setCell ⟨gr, i * 4 + 2, none⟩ (.int .i64 (sc : Int))) (w.heap.size + 1) 26 #[.int .i64 0, .int .i64 0, .slice none 0 0, .slice none 0 0, .slice none 0 0, .int .i64 0, .int .i64 0] := ((B6_bz.out).far (p := ⟨gr, i * 4 + 1, none⟩) (by show w.heap.size + 1 ≠ gr; omega) _).far (p := ⟨gr, i * 4 + 2, none⟩) (by show w.heap.size + 1 ≠ gr; omega) _
        have k_own7 := (K6_own.out.setLog i hi (sc : Int) (own_base HLO.out.own (by omega)))
        have k_tl7 := ((K6_tl.out).under (a := ⟨gr, i * 4 + 1, none⟩) (by (try dsimp only); omega) (.slice A11 bc.length c11)).under (a := ⟨gr, i * 4 + 2, none⟩) (by (try dsimp only); omega) (.int .i64 (sc : Int))
        have hz7 : W6.heap.size + 0 ≤ ((W6.setCell ⟨gr, i * 4 + 1, none⟩ (.slice A11 bc.length c11)).setCell ⟨gr, i * 4 + 2, none⟩ (.int .i64 (sc : Int))).heap.size := by first | omega | (simp; done) | (simp; omega)
        generalize (W6.setCell ⟨gr, i * 4 + 1, none⟩ (.slice A11 bc.length c11)).setCell ⟨gr, i * 4 + 2, none⟩ (.int .i64 (sc : Int)) = W7 at *
        have HB7 := Lib.hid hb7
        have B7_bx := Lib.hid b_bx7
        have B7_bz := Lib.hid b_bz7
        have K7_own := Lib.hid k_own7
        have K7_tl := Lib.hid k_tl7
        clear hb7 b_bx7 b_bz7 k_own7 k_tl7
        clear B6_bx B6_bz HB6 K6_own K6_tl
        have c_bx0 := B7_bx.out.cell 0
        have c_bx1 := B7_bx.out.cell 1
        have c_bx2 := B7_bx.out.cell 2
        have c_bx3 := B7_bx.out.cell 3
        have c_bx4 := B7_bx.out.cell 4
        have c_bx5 := B7_bx.out.cell 5
        have c_bx6 := B7_bx.out.cell 6
        have l_bx := B7_bx.out.lt
        refine wp_region_held_drew (S := fun w0 => w0.cell? ⟨w.heap.size, 0, none⟩ = some (.int .i64 ep) ∧ w0.cell? ⟨w.heap.size, 1, none⟩ = some (.int .i64 l) ∧ w0.cell? ⟨w.heap.size, 2, none⟩ = some (.slice (some ⟨gi, 0, none⟩) is.length d1) ∧ w0.cell? ⟨w.heap.size, 3, none⟩ = some (.slice (some ⟨gk, 0, none⟩) ks.length d3) ∧ w0.cell? ⟨w.heap.size, 4, none⟩ = some (.slice (some ⟨gr, 0, none⟩) rs.length d5) ∧ w0.cell? ⟨w.heap.size, 5, none⟩ = some (.int .i64 fw) ∧ w0.cell? ⟨w.heap.size, 6, none⟩ = some (.int .i64 ba)) (by kernel_rfl) ?_ (fun hHeld => ?_)
        · exact ⟨c_bx0, c_bx1, c_bx2, c_bx3, c_bx4, c_bx5, c_bx6⟩
        clear c_bx0 c_bx1 c_bx2 c_bx3 c_bx4 c_bx5 c_bx6 l_bx
        generalize hd : World.drew W7 = W8 at *
        have hb : Below W7.heap.size W7 W8 := by rw [← hd]; exact (Below.refl _ _).drew
        have hb8 : Below w.heap.size w W8 := below_then HB7.out hb
        have b_bx8 := B7_bx.out.below hb B7_bx.out.lt
        have b_bz8 := B7_bz.out.below hb B7_bz.out.lt
        have k_own8 := K7_own.out.keep hb
        have k_tl8 := K7_tl.out.keep hb
        have hz8 := hb.size
        have HB8 := Lib.hid hb8
        have B8_bx := Lib.hid b_bx8
        have B8_bz := Lib.hid b_bz8
        have K8_own := Lib.hid k_own8
        have K8_tl := Lib.hid k_tl8
        clear hb8 b_bx8 b_bz8 k_own8 k_tl8
        clear B7_bx B7_bz HB7 K7_own K7_tl
        clear hd hb
        refine wpAnyH_take (i := 0) (v := ?_) rfl (by kernel_rfl) (by kernel_rfl) (by kernel_rfl) (fun _ _ _ h => h) (Or.inl ⟨by rfl, ?_⟩) (by assumption) ?_
        rotate_left
        · intro w0 hSw
          (try dsimp only at hSw)
          go_simp
          all_goals with_reducible rfl
        try simp only [Act.put, List.getElem_toArray, List.getElem_cons_zero, List.setIfInBounds_toArray, List.set_cons_zero, List.set_cons_succ]
        refine wpAnyH_take (i := 1) (v := ?_) rfl (by kernel_rfl) (by kernel_rfl) (by kernel_rfl) (fun _ _ _ h => h) (Or.inl ⟨by rfl, ?_⟩) (by assumption) ?_
        rotate_left
        · intro w0 hSw
          (try dsimp only at hSw)
          go_simp
          all_goals with_reducible rfl
        try simp only [Act.put, List.getElem_toArray, List.getElem_cons_zero, List.getElem_cons_succ, List.setIfInBounds_toArray, List.set_cons_zero, List.set_cons_succ]
        refine wpAnyH_take (i := 2) (v := ?_) rfl (by kernel_rfl) (by kernel_rfl) (by kernel_rfl) (fun _ _ _ h => h) (Or.inl ⟨by rfl, ?_⟩) (by assumption) ?_
        rotate_left
        · intro w0 hSw
          (try dsimp only at hSw)
          go_simp
          all_goals with_reducible rfl
        try simp only [Act.put, List.getElem_toArray, List.getElem_cons_zero, List.getElem_cons_succ, List.setIfInBounds_toArray, List.set_cons_zero, List.set_cons_succ]
        refine wpAnyH_take (i := 3) (v := ?_) rfl (by kernel_rfl) (by kernel_rfl) (by kernel_rfl) (fun _ _ _ h => h) (Or.inl ⟨by rfl, ?_⟩) (by assumption) ?_
        rotate_left
        · intro w0 hSw
          (try dsimp only at hSw)
          go_simp
          all_goals with_reducible rfl
        try simp only [Act.put, List.getElem_toArray, List.getElem_cons_zero, List.getElem_cons_succ, List.setIfInBounds_toArray, List.set_cons_zero, List.set_cons_succ]
        refine wpAnyH_take (i := 4) (v := ?_) rfl (by kernel_rfl) (by kernel_rfl) (by kernel_rfl) (fun _ _ _ h => h) (Or.inl ⟨by rfl, ?_⟩) (by assumption) ?_
        rotate_left
        · intro w0 hSw
          (try dsimp only at hSw)
          go_simp
          all_goals with_reducible rfl
        try simp only [Act.put, List.getElem_toArray, List.getElem_cons_zero, List.getElem_cons_succ, List.setIfInBounds_toArray, List.set_cons_zero, List.set_cons_succ]
        refine wpAnyH_ready (rs := [5]) (by kernel_rfl) (by simp) (AllReadyH.cons rfl (fun K hK => ?_) AllReadyH.nil)
        go_simp
        go_at_call 81
        refine (ends_ok _ ⟨ep, (l : Int), is, ks, rs.set i { rs[i] with bytes := bc, synced := (sc : Int) }, fw, ba⟩ i _ (K8_own.out.pv HSM2.out) hi9 HSZ.out).mono ?_
        rintro e W9 ⟨rfl, hb⟩
        have hb9 : Below w.heap.size w W9 := below_then HB8.out hb
        have b_bx9 := B8_bx.out.below hb B8_bx.out.lt
        have b_bz9 := B8_bz.out.below hb B8_bz.out.lt
        have k_own9 := K8_own.out.keep hb
        have k_tl9 := K8_tl.out.keep hb
        have hz9 := hb.size
        have HB9 := Lib.hid hb9
        have B9_bx := Lib.hid b_bx9
        have B9_bz := Lib.hid b_bz9
        have K9_own := Lib.hid k_own9
        have K9_tl := Lib.hid k_tl9
        clear hb9 b_bx9 b_bz9 k_own9 k_tl9
        clear B8_bx B8_bz HB8 K8_own K8_tl
        refine hK.out _ _ ?_ (fun hHeld => ?_)
        · exact ⟨(B9_bx.out).cell 0, (B9_bx.out).cell 1, (B9_bx.out).cell 2, (B9_bx.out).cell 3, (B9_bx.out).cell 4, (B9_bx.out).cell 5, (B9_bx.out).cell 6⟩
        clear hK K
        try simp only [Act.put, List.getElem_toArray, List.getElem_cons_zero, List.getElem_cons_succ, List.setIfInBounds_toArray, List.set_cons_zero, List.set_cons_succ]
        obtain ⟨t0, tf0⟩ := K9_own.out.knownAt i j3
        (try simp only at t0)
        refine wpAnyH_take (i := 6) (v := ?_) rfl (by kernel_rfl) (by kernel_rfl) (by kernel_rfl) (fun _ _ _ h => h) (Or.inl ⟨by rfl, ?_⟩) (by assumption) ?_
        rotate_left
        · intro w0 hSw
          (try dsimp only at hSw)
          go_simp
          all_goals with_reducible rfl
        try simp only [Act.put, List.getElem_toArray, List.getElem_cons_zero, List.getElem_cons_succ, List.setIfInBounds_toArray, List.set_cons_zero, List.set_cons_succ]
        refine wpAnyH_take (i := 7) (v := ?_) rfl (by kernel_rfl) (by kernel_rfl) (by kernel_rfl) (fun _ _ _ h => h) (Or.inl ⟨by rfl, ?_⟩) (by assumption) ?_
        rotate_left
        · intro w0 hSw
          (try dsimp only at hSw)
          go_simp
          all_goals with_reducible rfl
        try simp only [Act.put, List.getElem_toArray, List.getElem_cons_zero, List.getElem_cons_succ, List.setIfInBounds_toArray, List.set_cons_zero, List.set_cons_succ]
        refine wpAnyH_take (i := 8) (v := ?_) rfl (by kernel_rfl) (by kernel_rfl) (by kernel_rfl) (fun _ _ _ h => h) (Or.inl ⟨by rfl, ?_⟩) (by assumption) ?_
        rotate_left
        · intro w0 hSw
          (try dsimp only at hSw)
          go_simp
          all_goals with_reducible rfl
        try simp only [Act.put, List.getElem_toArray, List.getElem_cons_zero, List.getElem_cons_succ, List.setIfInBounds_toArray, List.set_cons_zero, List.set_cons_succ]
        refine wpAnyH_take (i := 9) (v := ?_) rfl (by kernel_rfl) (by kernel_rfl) (by kernel_rfl) (fun _ _ _ h => h) (Or.inl ⟨by rfl, ?_⟩) (by assumption) ?_
        rotate_left
        · intro w0 hSw
          (try dsimp only at hSw)
          go_simp
          all_goals with_reducible rfl
        try simp only [Act.put, List.getElem_toArray, List.getElem_cons_zero, List.getElem_cons_succ, List.setIfInBounds_toArray, List.set_cons_zero, List.set_cons_succ]
        refine wpAnyH_ready (rs := [10]) (by kernel_rfl) (by simp) (AllReadyH.cons rfl (fun K hK => ?_) AllReadyH.nil)
        go_simp
        refine hK.out _ _ ?_ (fun hHeld => ?_)
        · exact ⟨((B9_bx.out).far (p := ⟨gk, i, none⟩) (by show w.heap.size ≠ gk; omega) _).cell 0, ((B9_bx.out).far (p := ⟨gk, i, none⟩) (by show w.heap.size ≠ gk; omega) _).cell 1, ((B9_bx.out).far (p := ⟨gk, i, none⟩) (by show w.heap.size ≠ gk; omega) _).cell 2, ((B9_bx.out).far (p := ⟨gk, i, none⟩) (by show w.heap.size ≠ gk; omega) _).cell 3, ((B9_bx.out).far (p := ⟨gk, i, none⟩) (by show w.heap.size ≠ gk; omega) _).cell 4, ((B9_bx.out).far (p := ⟨gk, i, none⟩) (by show w.heap.size ≠ gk; omega) _).cell 5, ((B9_bx.out).far (p := ⟨gk, i, none⟩) (by show w.heap.size ≠ gk; omega) _).cell 6⟩
        clear hK K
        refine wpAnyH_done (by kernel_rfl) ?_ _
        clear t0 tf0
        go_upto_region 16 with fail
        have hsz10 := HB9.out.size
        have hb10 : Below w.heap.size w (W9.setCell ⟨gk, i, none⟩ (.int .i64 (jm : Int))) := (HB9.out).setCell (by show w.heap.size ≤ gk; omega) _
        have b_bx10 : Blk (W9.setCell ⟨gk, i, none⟩ (.int .i64 (jm : Int))) (w.heap.size) 26 #[.int .i64 ep, .int .i64 l, .slice (some ⟨gi, 0, none⟩) is.length d1, .slice (some ⟨gk, 0, none⟩) ks.length d3, .slice (some ⟨gr, 0, none⟩) rs.length d5, .int .i64 fw, .int .i64 ba] := (B9_bx.out).far (p := ⟨gk, i, none⟩) (by show w.heap.size ≠ gk; omega) _
        have b_bz10 : Blk (W9.setCell ⟨gk, i, none⟩ (.int .i64 (jm : Int))) (w.heap.size + 1) 26 #[.int .i64 0, .int .i64 0, .slice none 0 0, .slice none 0 0, .slice none 0 0, .int .i64 0, .int .i64 0] := (B9_bz.out).far (p := ⟨gk, i, none⟩) (by show w.heap.size + 1 ≠ gk; omega) _
        have k_own10 := (K9_own.out).setKnown i (jm : Int) (Nat.lt_of_le_of_lt (Nat.zero_le _) j3)
        have k_tl10 := (K9_tl.out).under (a := ⟨gk, i, none⟩) (by (try dsimp only); omega) (.int .i64 (jm : Int))
        have hz10 : W9.heap.size + 0 ≤ (W9.setCell ⟨gk, i, none⟩ (.int .i64 (jm : Int))).heap.size := by first | omega | (simp; done) | (simp; omega)
        generalize W9.setCell ⟨gk, i, none⟩ (.int .i64 (jm : Int)) = W10 at *
        have HB10 := Lib.hid hb10
        have B10_bx := Lib.hid b_bx10
        have B10_bz := Lib.hid b_bz10
        have K10_own := Lib.hid k_own10
        have K10_tl := Lib.hid k_tl10
        clear hb10 b_bx10 b_bz10 k_own10 k_tl10
        clear B9_bx B9_bz HB9 K9_own K9_tl
        have c_bx0 := B10_bx.out.cell 0
        have c_bx1 := B10_bx.out.cell 1
        have c_bx2 := B10_bx.out.cell 2
        have c_bx3 := B10_bx.out.cell 3
        have c_bx4 := B10_bx.out.cell 4
        have c_bx5 := B10_bx.out.cell 5
        have c_bx6 := B10_bx.out.cell 6
        have l_bx := B10_bx.out.lt
        go_wp2_with fail
        have KTL9 := K10_tl.out
        clear c_bx0 c_bx1 c_bx2 c_bx3 c_bx4 c_bx5 c_bx6 l_bx
        refine (advance_at ⟨ep, (l : Int), is, ks.set i (jm : Int), rs.set i { rs[i] with bytes := bc, synced := (sc : Int) }, fw, ba⟩ _ _ _ _ _ (by first | assumption | omega) K10_own.out l rfl hl9 (by simp only [List.length_set]; exact E1.out) (by simp only [List.length_set]; exact E2.out) (PSm.setKnown HSM2.out i _) HLL.out).mono ?_
        rintro e W11 ⟨rfl, hadv, hgrow⟩
        rw [partV_adv]
        unfold partV
        simp only
        have hg11 : W10.grownBy W11 (some gr) := hgrow
        have hb11 : Below w.heap.size w W11 := HB10.out.grown hg11 HB10.out.size (fun b hb => by injection hb with hb; omega)
        have b_bx11 := B10_bx.out.grown hg11 (fun e => by injection e with e; omega)
        have b_bz11 := B10_bz.out.grown hg11 (fun e => by injection e with e; omega)
        have k_own11 := hadv
        have hz11 := hg11.size
        have HB11 := Lib.hid hb11
        have B11_bx := Lib.hid b_bx11
        have B11_bz := Lib.hid b_bz11
        have K11_own := Lib.hid k_own11
        clear hb11 b_bx11 b_bz11 k_own11
        clear hadv hgrow B10_bx B10_bz HB10 K10_own K10_tl
        have HTL9 := Lib.hid (KTL9.grown hg11 hBL2)
        have ko := K11_own.out
        rw [HAD.out, ← HQN.out] at ko
        have KO9 := Lib.hid ko
        clear ko KTL9 K11_own
        have c_bx0 := B11_bx.out.cell 0
        have f_bx0 := B11_bx.out.frozen 0
        have c_bx1 := B11_bx.out.cell 1
        have f_bx1 := B11_bx.out.frozen 1
        have c_bx2 := B11_bx.out.cell 2
        have f_bx2 := B11_bx.out.frozen 2
        have c_bx3 := B11_bx.out.cell 3
        have f_bx3 := B11_bx.out.frozen 3
        have c_bx4 := B11_bx.out.cell 4
        have f_bx4 := B11_bx.out.frozen 4
        have c_bx5 := B11_bx.out.cell 5
        have f_bx5 := B11_bx.out.frozen 5
        have c_bx6 := B11_bx.out.cell 6
        have f_bx6 := B11_bx.out.frozen 6
        have l_bx := B11_bx.out.lt
        go_upto_region 17 with fail
        clear c_bx0 f_bx0 c_bx1 f_bx1 c_bx2 f_bx2 c_bx3 f_bx3 c_bx4 f_bx4 c_bx5 f_bx5 c_bx6 f_bx6 l_bx
        have hsz12 := HB11.out.size
        have hb12 : Below w.heap.size w (((((((W11.setCell ⟨w.heap.size, 0, none⟩ (.int .i64 ep)).setCell ⟨w.heap.size, 1, none⟩ (.int .i64 l)).setCell ⟨w.heap.size, 2, none⟩ (.slice (some ⟨gi, 0, none⟩) is.length d1)).setCell ⟨w.heap.size, 3, none⟩ (.slice (some ⟨gk, 0, none⟩) ks.length d3)).setCell ⟨w.heap.size, 4, none⟩ (.slice (some ⟨gr, 0, none⟩) rs.length d5)).setCell ⟨w.heap.size, 5, none⟩ (.int .i64 fw)).setCell ⟨w.heap.size, 6, none⟩ (.int .i64 ba)) := (((((((HB11.out).setCell (by show w.heap.size ≤ w.heap.size; omega) _).setCell (by show w.heap.size ≤ w.heap.size; omega) _).setCell (by show w.heap.size ≤ w.heap.size; omega) _).setCell (by show w.heap.size ≤ w.heap.size; omega) _).setCell (by show w.heap.size ≤ w.heap.size; omega) _).setCell (by show w.heap.size ≤ w.heap.size; omega) _).setCell (by show w.heap.size ≤ w.heap.size; omega) _
        have b_bx12 : Blk (((((((W11.setCell ⟨w.heap.size, 0, none⟩ (.int .i64 ep)).setCell ⟨w.heap.size, 1, none⟩ (.int .i64 l)).setCell ⟨w.heap.size, 2, none⟩ (.slice (some ⟨gi, 0, none⟩) is.length d1)).setCell ⟨w.heap.size, 3, none⟩ (.slice (some ⟨gk, 0, none⟩) ks.length d3)).setCell ⟨w.heap.size, 4, none⟩ (.slice (some ⟨gr, 0, none⟩) rs.length d5)).setCell ⟨w.heap.size, 5, none⟩ (.int .i64 fw)).setCell ⟨w.heap.size, 6, none⟩ (.int .i64 ba)) (w.heap.size) 26 #[.int .i64 ep, .int .i64 l, .slice (some ⟨gi, 0, none⟩) is.length d1, .slice (some ⟨gk, 0, none⟩) ks.length d3, .slice (some ⟨gr, 0, none⟩) rs.length d5, .int .i64 fw, .int .i64 ba] := (((((((B11_bx.out).set_ 0 _).set_ 1 _).set_ 2 _).set_ 3 _).set_ 4 _).set_ 5 _).set_ 6 _
        have b_bz12 : Blk (((((((W11.setCell ⟨w.heap.size, 0, none⟩ (.int .i64 ep)).setCell ⟨w.heap.size, 1, none⟩ (.int .i64 l)).setCell ⟨w.heap.size, 2, none⟩ (.slice (some ⟨gi, 0, none⟩) is.length d1)).setCell ⟨w.heap.size, 3, none⟩ (.slice (some ⟨gk, 0, none⟩) ks.length d3)).setCell ⟨w.heap.size, 4, none⟩ (.slice (some ⟨gr, 0, none⟩) rs.length d5)).setCell ⟨w.heap.size, 5, none⟩ (.int .i64 fw)).setCell ⟨w.heap.size, 6, none⟩ (.int .i64 ba)) (w.heap.size + 1) 26 #[.int .i64 0, .int .i64 0, .slice none 0 0, .slice none 0 0, .slice none 0 0, .int .i64 0, .int .i64 0] := (((((((B11_bz.out).far (p := ⟨w.heap.size, 0, none⟩) (by show w.heap.size + 1 ≠ w.heap.size; omega) _).far (p := ⟨w.heap.size, 1, none⟩) (by show w.heap.size + 1 ≠ w.heap.size; omega) _).far (p := ⟨w.heap.size, 2, none⟩) (by show w.heap.size + 1 ≠ w.heap.size; omega) _).far (p := ⟨w.heap.size, 3, none⟩) (by show w.heap.size + 1 ≠ w.heap.size; omega) _).far (p := ⟨w.heap.size, 4, none⟩) (by show w.heap.size + 1 ≠ w.heap.size; omega) _).far (p := ⟨w.heap.size, 5, none⟩) (by show w.heap.size + 1 ≠ w.heap.size; omega) _).far (p := ⟨w.heap.size, 6, none⟩) (by show w.heap.size + 1 ≠ w.heap.size; omega) _
        have k_own12 := (((((((KO9.out).under (a := ⟨w.heap.size, 0, none⟩) (by (try dsimp only); omega) (.int .i64 ep)).under (a := ⟨w.heap.size, 1, none⟩) (by (try dsimp only); omega) (.int .i64 l)).under (a := ⟨w.heap.size, 2, none⟩) (by (try dsimp only); omega) (.slice (some ⟨gi, 0, none⟩) is.length d1)).under (a := ⟨w.heap.size, 3, none⟩) (by (try dsimp only); omega) (.slice (some ⟨gk, 0, none⟩) ks.length d3)).under (a := ⟨w.heap.size, 4, none⟩) (by (try dsimp only); omega) (.slice (some ⟨gr, 0, none⟩) rs.length d5)).under (a := ⟨w.heap.size, 5, none⟩) (by (try dsimp only); omega) (.int .i64 fw)).under (a := ⟨w.heap.size, 6, none⟩) (by (try dsimp only); omega) (.int .i64 ba)
        have k_tl12 := (((((((HTL9.out).under (a := ⟨w.heap.size, 0, none⟩) (by (try dsimp only); omega) (.int .i64 ep)).under (a := ⟨w.heap.size, 1, none⟩) (by (try dsimp only); omega) (.int .i64 l)).under (a := ⟨w.heap.size, 2, none⟩) (by (try dsimp only); omega) (.slice (some ⟨gi, 0, none⟩) is.length d1)).under (a := ⟨w.heap.size, 3, none⟩) (by (try dsimp only); omega) (.slice (some ⟨gk, 0, none⟩) ks.length d3)).under (a := ⟨w.heap.size, 4, none⟩) (by (try dsimp only); omega) (.slice (some ⟨gr, 0, none⟩) rs.length d5)).under (a := ⟨w.heap.size, 5, none⟩) (by (try dsimp only); omega) (.int .i64 fw)).under (a := ⟨w.heap.size, 6, none⟩) (by (try dsimp only); omega) (.int .i64 ba)
        have hz12 : W11.heap.size + 0 ≤ (((((((W11.setCell ⟨w.heap.size, 0, none⟩ (.int .i64 ep)).setCell ⟨w.heap.size, 1, none⟩ (.int .i64 l)).setCell ⟨w.heap.size, 2, none⟩ (.slice (some ⟨gi, 0, none⟩) is.length d1)).setCell ⟨w.heap.size, 3, none⟩ (.slice (some ⟨gk, 0, none⟩) ks.length d3)).setCell ⟨w.heap.size, 4, none⟩ (.slice (some ⟨gr, 0, none⟩) rs.length d5)).setCell ⟨w.heap.size, 5, none⟩ (.int .i64 fw)).setCell ⟨w.heap.size, 6, none⟩ (.int .i64 ba)).heap.size := by first | omega | (simp; done) | (simp; omega)
        generalize ((((((W11.setCell ⟨w.heap.size, 0, none⟩ (.int .i64 ep)).setCell ⟨w.heap.size, 1, none⟩ (.int .i64 l)).setCell ⟨w.heap.size, 2, none⟩ (.slice (some ⟨gi, 0, none⟩) is.length d1)).setCell ⟨w.heap.size, 3, none⟩ (.slice (some ⟨gk, 0, none⟩) ks.length d3)).setCell ⟨w.heap.size, 4, none⟩ (.slice (some ⟨gr, 0, none⟩) rs.length d5)).setCell ⟨w.heap.size, 5, none⟩ (.int .i64 fw)).setCell ⟨w.heap.size, 6, none⟩ (.int .i64 ba) = W12 at *
        have HB12 := Lib.hid hb12
        have B12_bx := Lib.hid b_bx12
        have B12_bz := Lib.hid b_bz12
        have K12_own := Lib.hid k_own12
        have K12_tl := Lib.hid k_tl12
        clear hb12 b_bx12 b_bz12 k_own12 k_tl12
        clear B11_bx B11_bz HB11 KO9 HTL9
        go_upto_region 19 with fail
        obtain ⟨A9', c9', he9, -, hx9⟩ := K12_tl.out.es.at_
        injection he9 with f1 f2 f3
        subst f1 f3
        clear f2
        obtain ⟨g2, q2, rfl, hg2, hc2_⟩ := hx9 (by omega)
        obtain ⟨x0, x1, x2, x3, x4, x5, x6⟩ := hc2_ n hnl2
        clear hc2_ hx9
        obtain ⟨A8, c8, ⟨-, r1, r2, -⟩, -, -⟩ := K12_own.out.repAt i hqi
        (try simp only at r1 r2)
        rw [HQB.out] at r1
        rw [HQS.out] at r2
        have l_bx := B12_bx.out.lt
        refine wp_region_held_drew (S := fun w0 => w0.cell? ⟨gr, i * 4 + 1, none⟩ = some (.slice A8 bc.length c8) ∧ w0.cell? ⟨gr, i * 4 + 2, none⟩ = some (.int .i64 (sc : Int)) ∧ w0.cell? ⟨g2, q2 + n * 7, none⟩ = some (.int .i64 el[n].ep) ∧ w0.cell? ⟨g2, q2 + n * 7 + 1, none⟩ = some (.int .i64 el[n].pid) ∧ w0.cell? ⟨g2, q2 + n * 7 + 2, none⟩ = some (.int .i64 el[n].ver) ∧ w0.cell? ⟨g2, q2 + n * 7 + 3, none⟩ = some (.int .i64 el[n].seq) ∧ w0.cell? ⟨g2, q2 + n * 7 + 4, none⟩ = some (.int .i64 el[n].kind) ∧ w0.cell? ⟨g2, q2 + n * 7 + 5, none⟩ = some (.bool el[n].txn) ∧ w0.cell? ⟨g2, q2 + n * 7 + 6, none⟩ = some (.string el[n].text)) (by kernel_rfl) ?_ (fun hHeld => ?_)
        · exact ⟨r1, r2, x0, x1, x2, x3, x4, x5, x6⟩
        clear l_bx
        generalize hd : World.drew W12 = W13 at *
        have hb : Below W12.heap.size W12 W13 := by rw [← hd]; exact (Below.refl _ _).drew
        have hb13 : Below w.heap.size w W13 := below_then HB12.out hb
        have b_bx13 := B12_bx.out.below hb B12_bx.out.lt
        have b_bz13 := B12_bz.out.below hb B12_bz.out.lt
        have k_own13 := K12_own.out.keep hb
        have hz13 := hb.size
        have HB13 := Lib.hid hb13
        have B13_bx := Lib.hid b_bx13
        have B13_bz := Lib.hid b_bz13
        have K13_own := Lib.hid k_own13
        clear hb13 b_bx13 b_bz13 k_own13
        clear B12_bx B12_bz HB12 K12_own
        have r1n := (hb.cell (p := ⟨gr, i * 4 + 1, none⟩) (show gr < _ by omega)).trans r1
        clear r1
        have r1 := r1n
        clear r1n
        have r2n := (hb.cell (p := ⟨gr, i * 4 + 2, none⟩) (show gr < _ by omega)).trans r2
        clear r2
        have r2 := r2n
        clear r2n
        have x0n := (hb.cell (p := ⟨g2, q2 + n * 7, none⟩) (show g2 < _ by omega)).trans x0
        clear x0
        have x0 := x0n
        clear x0n
        have x1n := (hb.cell (p := ⟨g2, q2 + n * 7 + 1, none⟩) (show g2 < _ by omega)).trans x1
        clear x1
        have x1 := x1n
        clear x1n
        have x2n := (hb.cell (p := ⟨g2, q2 + n * 7 + 2, none⟩) (show g2 < _ by omega)).trans x2
        clear x2
        have x2 := x2n
        clear x2n
        have x3n := (hb.cell (p := ⟨g2, q2 + n * 7 + 3, none⟩) (show g2 < _ by omega)).trans x3
        clear x3
        have x3 := x3n
        clear x3n
        have x4n := (hb.cell (p := ⟨g2, q2 + n * 7 + 4, none⟩) (show g2 < _ by omega)).trans x4
        clear x4
        have x4 := x4n
        clear x4n
        have x5n := (hb.cell (p := ⟨g2, q2 + n * 7 + 5, none⟩) (show g2 < _ by omega)).trans x5
        clear x5
        have x5 := x5n
        clear x5n
        have x6n := (hb.cell (p := ⟨g2, q2 + n * 7 + 6, none⟩) (show g2 < _ by omega)).trans x6
        clear x6
        have x6 := x6n
        clear x6n
        clear hd hb
        refine wpAnyH_take (i := 0) (v := ?_) rfl (by kernel_rfl) (by kernel_rfl) (by kernel_rfl) (fun _ _ _ h => h) (Or.inl ⟨by rfl, ?_⟩) (by assumption) ?_
        rotate_left
        · intro w0 hSw
          (try dsimp only at hSw)
          go_simp
          all_goals with_reducible rfl
        try simp only [Act.put, List.getElem_toArray, List.getElem_cons_zero, List.setIfInBounds_toArray, List.set_cons_zero, List.set_cons_succ]
        refine wpAnyH_take (i := 1) (v := ?_) rfl (by kernel_rfl) (by kernel_rfl) (by kernel_rfl) (fun _ _ _ h => h) (Or.inl ⟨by rfl, ?_⟩) (by assumption) ?_
        rotate_left
        · intro w0 hSw
          (try dsimp only at hSw)
          go_simp
          all_goals with_reducible rfl
        try simp only [Act.put, List.getElem_toArray, List.getElem_cons_zero, List.getElem_cons_succ, List.setIfInBounds_toArray, List.set_cons_zero, List.set_cons_succ]
        refine wpAnyH_take (i := 2) (v := ?_) rfl (by kernel_rfl) (by kernel_rfl) (by kernel_rfl) (fun _ _ _ h => h) (Or.inl ⟨by rfl, ?_⟩) (by assumption) ?_
        rotate_left
        · intro w0 hSw
          (try dsimp only at hSw)
          go_simp
          all_goals with_reducible rfl
        try simp only [Act.put, List.getElem_toArray, List.getElem_cons_zero, List.getElem_cons_succ, List.setIfInBounds_toArray, List.set_cons_zero, List.set_cons_succ]
        refine wpAnyH_take (i := 3) (v := ?_) rfl (by kernel_rfl) (by kernel_rfl) (by kernel_rfl) (fun _ _ _ h => h) (Or.inl ⟨by rfl, ?_⟩) (by assumption) ?_
        rotate_left
        · intro w0 hSw
          (try dsimp only at hSw)
          go_simp
          all_goals with_reducible rfl
        try simp only [Act.put, List.getElem_toArray, List.getElem_cons_zero, List.getElem_cons_succ, List.setIfInBounds_toArray, List.set_cons_zero, List.set_cons_succ]
        refine wpAnyH_take (i := 4) (v := ?_) rfl (by kernel_rfl) (by kernel_rfl) (by kernel_rfl) (fun _ _ _ h => h) (Or.inl ⟨by rfl, ?_⟩) (by assumption) ?_
        rotate_left
        · intro w0 hSw
          (try dsimp only at hSw)
          go_simp
          all_goals with_reducible rfl
        try simp only [Act.put, List.getElem_toArray, List.getElem_cons_zero, List.getElem_cons_succ, List.setIfInBounds_toArray, List.set_cons_zero, List.set_cons_succ]
        refine wpAnyH_take (i := 5) (v := ?_) rfl (by kernel_rfl) (by kernel_rfl) (by kernel_rfl) (fun _ _ _ h => h) (Or.inl ⟨by rfl, ?_⟩) (by assumption) ?_
        rotate_left
        · intro w0 hSw
          (try dsimp only at hSw)
          go_simp
          all_goals with_reducible rfl
        try simp only [Act.put, List.getElem_toArray, List.getElem_cons_zero, List.getElem_cons_succ, List.setIfInBounds_toArray, List.set_cons_zero, List.set_cons_succ]
        refine wpAnyH_take (i := 6) (v := ?_) rfl (by kernel_rfl) (by kernel_rfl) (by kernel_rfl) (fun _ _ _ h => h) (Or.inl ⟨by rfl, ?_⟩) (by assumption) ?_
        rotate_left
        · intro w0 hSw
          (try dsimp only at hSw)
          go_simp
          all_goals with_reducible rfl
        try simp only [Act.put, List.getElem_toArray, List.getElem_cons_zero, List.getElem_cons_succ, List.setIfInBounds_toArray, List.set_cons_zero, List.set_cons_succ]
        refine wpAnyH_take (i := 7) (v := ?_) rfl (by kernel_rfl) (by kernel_rfl) (by kernel_rfl) (fun _ _ _ h => h) (Or.inl ⟨by rfl, ?_⟩) (by assumption) ?_
        rotate_left
        · intro w0 hSw
          (try dsimp only at hSw)
          go_simp
          all_goals with_reducible rfl
        try simp only [Act.put, List.getElem_toArray, List.getElem_cons_zero, List.getElem_cons_succ, List.setIfInBounds_toArray, List.set_cons_zero, List.set_cons_succ]
        refine wpAnyH_ready (rs := [8, 12]) (by kernel_rfl) (by simp) (AllReadyH.cons rfl (fun K hK => ?_) (AllReadyH.cons rfl (fun K hK => ?_) AllReadyH.nil))
        · go_simp
          go_at_call 45
          obtain ⟨A8b, c8b, ⟨-, r1b, -, -⟩, -, rby⟩ := K13_own.out.repAt i hqi
          (try simp only at r1b rby)
          rw [HQB.out] at r1b rby
          obtain ⟨rfl, rfl⟩ : A8b = A8 ∧ c8b = c8 := by
            rw [r1] at r1b
            simp only [Option.some.injEq, Value.slice.injEq, true_and] at r1b
            exact ⟨r1b.1.symm, r1b.2.symm⟩
          have RBY2 := Lib.hid rby
          clear r1b rby
          refine (append_ok _ bc (sc : Int) el[n] _ RBY2.out HLC.out HOKX.out HFL.out).mono ?_
          rintro e W14 ⟨v6, rfl, hp6, hb⟩
          dsimp only at hp6
          rw [HBD.out] at hp6
          obtain ⟨A6, c6, rfl, hc6⟩ := (Sl.of_own hp6).form
          have HLO := Lib.hid (LgO.mk hp6)
          clear hp6 RBY2
          have hb14 : Below w.heap.size w W14 := below_then HB13.out hb
          have b_bx14 := B13_bx.out.below hb B13_bx.out.lt
          have b_bz14 := B13_bz.out.below hb B13_bz.out.lt
          have k_own14 := K13_own.out.keep hb
          have hz14 := hb.size
          have HB14 := Lib.hid hb14
          have B14_bx := Lib.hid b_bx14
          have B14_bz := Lib.hid b_bz14
          have K14_own := Lib.hid k_own14
          clear hb14 b_bx14 b_bz14 k_own14
          clear B13_bx B13_bz HB13 K13_own
          have r1n := (hb.cell (p := ⟨gr, i * 4 + 1, none⟩) (show gr < _ by omega)).trans r1
          clear r1
          have r1 := r1n
          clear r1n
          have r2n := (hb.cell (p := ⟨gr, i * 4 + 2, none⟩) (show gr < _ by omega)).trans r2
          clear r2
          have r2 := r2n
          clear r2n
          have x0n := (hb.cell (p := ⟨g2, q2 + n * 7, none⟩) (show g2 < _ by omega)).trans x0
          clear x0
          have x0 := x0n
          clear x0n
          have x1n := (hb.cell (p := ⟨g2, q2 + n * 7 + 1, none⟩) (show g2 < _ by omega)).trans x1
          clear x1
          have x1 := x1n
          clear x1n
          have x2n := (hb.cell (p := ⟨g2, q2 + n * 7 + 2, none⟩) (show g2 < _ by omega)).trans x2
          clear x2
          have x2 := x2n
          clear x2n
          have x3n := (hb.cell (p := ⟨g2, q2 + n * 7 + 3, none⟩) (show g2 < _ by omega)).trans x3
          clear x3
          have x3 := x3n
          clear x3n
          have x4n := (hb.cell (p := ⟨g2, q2 + n * 7 + 4, none⟩) (show g2 < _ by omega)).trans x4
          clear x4
          have x4 := x4n
          clear x4n
          have x5n := (hb.cell (p := ⟨g2, q2 + n * 7 + 5, none⟩) (show g2 < _ by omega)).trans x5
          clear x5
          have x5 := x5n
          clear x5n
          have x6n := (hb.cell (p := ⟨g2, q2 + n * 7 + 6, none⟩) (show g2 < _ by omega)).trans x6
          clear x6
          have x6 := x6n
          clear x6n
          refine hK.out _ _ ?_ (fun hHeld => ?_)
          · exact ⟨r1, r2, x0, x1, x2, x3, x4, x5, x6⟩
          clear hK K
          refine wpAnyH_take (i := 9) (v := ?_) rfl (by kernel_rfl) (by kernel_rfl) (by kernel_rfl) (fun _ _ _ h => h) (Or.inl ⟨by rfl, ?_⟩) (by assumption) ?_
          rotate_left
          · intro w0 hSw
            (try dsimp only at hSw)
            go_simp
            all_goals with_reducible rfl
          try simp only [Act.put, List.getElem_toArray, List.getElem_cons_zero, List.getElem_cons_succ, List.setIfInBounds_toArray, List.set_cons_zero, List.set_cons_succ]
          refine wpAnyH_take (i := 10) (v := ?_) rfl (by kernel_rfl) (by kernel_rfl) (by kernel_rfl) (fun _ _ _ h => h) (Or.inl ⟨by rfl, ?_⟩) (by assumption) ?_
          rotate_left
          · intro w0 hSw
            (try dsimp only at hSw)
            go_simp
            all_goals with_reducible rfl
          try simp only [Act.put, List.getElem_toArray, List.getElem_cons_zero, List.getElem_cons_succ, List.setIfInBounds_toArray, List.set_cons_zero, List.set_cons_succ]
          refine wpAnyH_take (i := 11) (v := ?_) rfl (by kernel_rfl) (by kernel_rfl) (by kernel_rfl) (fun _ _ _ h => h) (Or.inl ⟨by rfl, ?_⟩) (by assumption) ?_
          rotate_left
          · intro w0 hSw
            (try dsimp only at hSw)
            go_simp
            all_goals with_reducible rfl
          try simp only [Act.put, List.getElem_toArray, List.getElem_cons_zero, List.getElem_cons_succ, List.setIfInBounds_toArray, List.set_cons_zero, List.set_cons_succ]
          refine wpAnyH_ready (rs := [12]) (by kernel_rfl) (by simp) (AllReadyH.cons rfl (fun K hK => ?_) AllReadyH.nil)
          go_simp
          have hb : Below W14.heap.size W14 (W14.alloc (.cells #[.slice none 0 0, .int .i64 0] 42)) := (Below.refl _ _).alloc (Nat.le_refl _) _
          have r1n := (hb.cell (p := ⟨gr, i * 4 + 1, none⟩) (show gr < _ by omega)).trans r1
          clear r1
          have r1 := r1n
          clear r1n
          have r2n := (hb.cell (p := ⟨gr, i * 4 + 2, none⟩) (show gr < _ by omega)).trans r2
          clear r2
          have r2 := r2n
          clear r2n
          have x0n := (hb.cell (p := ⟨g2, q2 + n * 7, none⟩) (show g2 < _ by omega)).trans x0
          clear x0
          have x0 := x0n
          clear x0n
          have x1n := (hb.cell (p := ⟨g2, q2 + n * 7 + 1, none⟩) (show g2 < _ by omega)).trans x1
          clear x1
          have x1 := x1n
          clear x1n
          have x2n := (hb.cell (p := ⟨g2, q2 + n * 7 + 2, none⟩) (show g2 < _ by omega)).trans x2
          clear x2
          have x2 := x2n
          clear x2n
          have x3n := (hb.cell (p := ⟨g2, q2 + n * 7 + 3, none⟩) (show g2 < _ by omega)).trans x3
          clear x3
          have x3 := x3n
          clear x3n
          have x4n := (hb.cell (p := ⟨g2, q2 + n * 7 + 4, none⟩) (show g2 < _ by omega)).trans x4
          clear x4
          have x4 := x4n
          clear x4n
          have x5n := (hb.cell (p := ⟨g2, q2 + n * 7 + 5, none⟩) (show g2 < _ by omega)).trans x5
          clear x5
          have x5 := x5n
          clear x5n
          have x6n := (hb.cell (p := ⟨g2, q2 + n * 7 + 6, none⟩) (show g2 < _ by omega)).trans x6
          clear x6
          have x6 := x6n
          clear x6n
          clear hb
          refine hK.out _ _ ?_ (fun hHeld => ?_)
          · exact ⟨r1, r2, x0, x1, x2, x3, x4, x5, x6⟩
          clear hK K
          try simp only [Act.put, List.getElem_toArray, List.getElem_cons_zero, List.getElem_cons_succ, List.setIfInBounds_toArray, List.set_cons_zero, List.set_cons_succ]
          have hsz15 := HB14.out.size
          have hb15 : Below w.heap.size w (W14.alloc (.cells #[.slice none 0 0, .int .i64 0] 42)) := (HB14.out).alloc (by first | omega | (simp; done) | (simp; omega)) _
          have hal15 : Below W14.heap.size W14 (W14.alloc (.cells #[.slice none 0 0, .int .i64 0] 42)) := (Below.refl _ _).alloc (by first | omega | (simp; done) | (simp; omega)) _
          have b_bx15 : Blk (W14.alloc (.cells #[.slice none 0 0, .int .i64 0] 42)) (w.heap.size) 26 #[.int .i64 ep, .int .i64 l, .slice (some ⟨gi, 0, none⟩) is.length d1, .slice (some ⟨gk, 0, none⟩) ks.length d3, .slice (some ⟨gr, 0, none⟩) rs.length d5, .int .i64 fw, .int .i64 ba] := (B14_bx.out).alloc _
          have b_bz15 : Blk (W14.alloc (.cells #[.slice none 0 0, .int .i64 0] 42)) (w.heap.size + 1) 26 #[.int .i64 0, .int .i64 0, .slice none 0 0, .slice none 0 0, .slice none 0 0, .int .i64 0, .int .i64 0] := (B14_bz.out).alloc _
          have b_bl15 : Blk (W14.alloc (.cells #[.slice none 0 0, .int .i64 0] 42)) (W14.heap.size) 42 #[.slice none 0 0, .int .i64 0] := Blk.new_ _ 42 #[.slice none 0 0, .int .i64 0] (by first | rfl | (simp; done) | (simp; omega))
          have k_own15 := (K14_own.out).alloc (.cells #[.slice none 0 0, .int .i64 0] 42)
          have k_lg15 := (HLO.out).alloc (.cells #[.slice none 0 0, .int .i64 0] 42)
          have hz15 : W14.heap.size + 1 ≤ (W14.alloc (.cells #[.slice none 0 0, .int .i64 0] 42)).heap.size := by first | omega | (simp; done) | (simp; omega)
          generalize W14.alloc (.cells #[.slice none 0 0, .int .i64 0] 42) = W15 at *
          have HB15 := Lib.hid hb15
          have B15_bx := Lib.hid b_bx15
          have B15_bz := Lib.hid b_bz15
          have B15_bl := Lib.hid b_bl15
          have K15_own := Lib.hid k_own15
          have K15_lg := Lib.hid k_lg15
          clear hb15 b_bx15 b_bz15 b_bl15 k_own15 k_lg15
          clear B14_bx B14_bz HB14 K14_own HLO
          have c_bl0 := B15_bl.out.cell 0
          have f_bl0 := B15_bl.out.frozen 0
          have c_bl1 := B15_bl.out.cell 1
          have f_bl1 := B15_bl.out.frozen 1
          have l_bl := B15_bl.out.lt
          refine wpAnyH_ready (rs := [13]) (by kernel_rfl) (by simp) (AllReadyH.cons rfl (fun K hK => ?_) AllReadyH.nil)
          go_simp
          have hneA : gr ≠ W14.heap.size := by omega
          have hneB : g2 ≠ W14.heap.size := by omega
          have r1m := (cell_setCell_far_ W15 gr (W14.heap.size) (i * 4 + 1) 0 1 (.slice A6 bd.length c6) (.int .i64 (sc : Int)) hneA).trans r1
          have r2m := (cell_setCell_far_ W15 gr (W14.heap.size) (i * 4 + 2) 0 1 (.slice A6 bd.length c6) (.int .i64 (sc : Int)) hneA).trans r2
          have x0m := (cell_setCell_far_ W15 g2 (W14.heap.size) (q2 + n * 7) 0 1 (.slice A6 bd.length c6) (.int .i64 (sc : Int)) hneB).trans x0
          have x1m := (cell_setCell_far_ W15 g2 (W14.heap.size) (q2 + n * 7 + 1) 0 1 (.slice A6 bd.length c6) (.int .i64 (sc : Int)) hneB).trans x1
          have x2m := (cell_setCell_far_ W15 g2 (W14.heap.size) (q2 + n * 7 + 2) 0 1 (.slice A6 bd.length c6) (.int .i64 (sc : Int)) hneB).trans x2
          have x3m := (cell_setCell_far_ W15 g2 (W14.heap.size) (q2 + n * 7 + 3) 0 1 (.slice A6 bd.length c6) (.int .i64 (sc : Int)) hneB).trans x3
          have x4m := (cell_setCell_far_ W15 g2 (W14.heap.size) (q2 + n * 7 + 4) 0 1 (.slice A6 bd.length c6) (.int .i64 (sc : Int)) hneB).trans x4
          have x5m := (cell_setCell_far_ W15 g2 (W14.heap.size) (q2 + n * 7 + 5) 0 1 (.slice A6 bd.length c6) (.int .i64 (sc : Int)) hneB).trans x5
          have x6m := (cell_setCell_far_ W15 g2 (W14.heap.size) (q2 + n * 7 + 6) 0 1 (.slice A6 bd.length c6) (.int .i64 (sc : Int)) hneB).trans x6
          refine hK.out _ _ ?_ (fun hHeld => ?_)
          · exact ⟨r1m, r2m, x0m, x1m, x2m, x3m, x4m, x5m, x6m⟩
          clear hK K r1 r2 x0 x1 x2 x3 x4 x5 x6 r1m r2m x0m x1m x2m x3m x4m x5m x6m hneA hneB
          clear c_bl0 f_bl0 c_bl1 f_bl1 l_bl
          refine wpAnyH_take (i := 14) (v := ?_) rfl (by kernel_rfl) (by kernel_rfl) (by kernel_rfl) (fun _ _ _ h => h) (Or.inl ⟨by rfl, ?_⟩) (by assumption) ?_
          rotate_left
          · intro w0 hSw
            (try dsimp only at hSw)
            go_simp
            all_goals with_reducible rfl
          try simp only [Act.put, List.getElem_toArray, List.getElem_cons_zero, List.getElem_cons_succ, List.setIfInBounds_toArray, List.set_cons_zero, List.set_cons_succ]
          refine wpAnyH_done (by kernel_rfl) ?_ _
          go_upto_region 20 with fail
          have hsz16 := HB15.out.size
          have hb16 : Below w.heap.size w ((W15.setCell ⟨W14.heap.size, 0, none⟩ (.slice A6 bd.length c6)).setCell ⟨W14.heap.size, 1, none⟩ (.int .i64 (sc : Int))) := ((HB15.out).setCell (by show w.heap.size ≤ W14.heap.size; omega) _).setCell (by show w.heap.size ≤ W14.heap.size; omega) _
          have b_bx16 : Blk ((W15.setCell ⟨W14.heap.size, 0, none⟩ (.slice A6 bd.length c6)).setCell ⟨W14.heap.size, 1, none⟩ (.int .i64 (sc : Int))) (w.heap.size) 26 #[.int .i64 ep, .int .i64 l, .slice (some ⟨gi, 0, none⟩) is.length d1, .slice (some ⟨gk, 0, none⟩) ks.length d3, .slice (some ⟨gr, 0, none⟩) rs.length d5, .int .i64 fw, .int .i64 ba] := ((B15_bx.out).far (p := ⟨W14.heap.size, 0, none⟩) (by show w.heap.size ≠ W14.heap.size; omega) _).far (p := ⟨W14.heap.size, 1, none⟩) (by show w.heap.size ≠ W14.heap.size; omega) _
          have b_bz16 : Blk ((W15.setCell ⟨W14.heap.size, 0, none⟩ (.slice A6 bd.length c6)).setCell ⟨W14.heap.size, 1, none⟩ (.int .i64 (sc : Int))) (w.heap.size + 1) 26 #[.int .i64 0, .int .i64 0, .slice none 0 0, .slice none 0 0, .slice none 0 0, .int .i64 0, .int .i64 0] := ((B15_bz.out).far (p := ⟨W14.heap.size, 0, none⟩) (by show w.heap.size + 1 ≠ W14.heap.size; omega) _).far (p := ⟨W14.heap.size, 1, none⟩) (by show w.heap.size + 1 ≠ W14.heap.size; omega) _
          have b_bl16 : Blk ((W15.setCell ⟨W14.heap.size, 0, none⟩ (.slice A6 bd.length c6)).setCell ⟨W14.heap.size, 1, none⟩ (.int .i64 (sc : Int))) (W14.heap.size) 42 #[.slice A6 bd.length c6, .int .i64 (sc : Int)] := ((B15_bl.out).set_ 0 _).set_ 1 _
          have k_own16 := ((K15_own.out.blkL B15_bl.out 0 (.slice A6 bd.length c6)).blkL (B15_bl.out.set_ 0 (.slice A6 bd.length c6)) 1 (.int .i64 (sc : Int)))
          have k_lg16 := ((K15_lg.out.blkL B15_bl.out 0 (.slice A6 bd.length c6)).blkL (B15_bl.out.set_ 0 (.slice A6 bd.length c6)) 1 (.int .i64 (sc : Int)))
          have hz16 : W15.heap.size + 0 ≤ ((W15.setCell ⟨W14.heap.size, 0, none⟩ (.slice A6 bd.length c6)).setCell ⟨W14.heap.size, 1, none⟩ (.int .i64 (sc : Int))).heap.size := by first | omega | (simp; done) | (simp; omega)
          generalize (W15.setCell ⟨W14.heap.size, 0, none⟩ (.slice A6 bd.length c6)).setCell ⟨W14.heap.size, 1, none⟩ (.int .i64 (sc : Int)) = W16 at *
          have HB16 := Lib.hid hb16
          have B16_bx := Lib.hid b_bx16
          have B16_bz := Lib.hid b_bz16
          have B16_bl := Lib.hid b_bl16
          have K16_own := Lib.hid k_own16
          have K16_lg := Lib.hid k_lg16
          clear hb16 b_bx16 b_bz16 b_bl16 k_own16 k_lg16
          clear B15_bx B15_bz B15_bl HB15 K15_own K15_lg
          have c_bx0 := B16_bx.out.cell 0
          have c_bx1 := B16_bx.out.cell 1
          have c_bx2 := B16_bx.out.cell 2
          have c_bx3 := B16_bx.out.cell 3
          have c_bx4 := B16_bx.out.cell 4
          have c_bx5 := B16_bx.out.cell 5
          have c_bx6 := B16_bx.out.cell 6
          have l_bx := B16_bx.out.lt
          have c_bl0 := B16_bl.out.cell 0
          have c_bl1 := B16_bl.out.cell 1
          have l_bl := B16_bl.out.lt
          obtain ⟨A8z, c8z, ⟨s0, s1, s2, s3⟩, ⟨-, sf1, sf2, -⟩, -⟩ := K16_own.out.repAt i hqi
          go_upto_region 22 with fail
          clear c_bx0 c_bx1 c_bx2 c_bx3 c_bx4 c_bx5 c_bx6 l_bx c_bl0 c_bl1 l_bl s0 s1 s2 s3 sf1 sf2
          have hsz17 := HB16.out.size
          have hb17 : Below w.heap.size w ((W16.setCell ⟨gr, i * 4 + 1, none⟩ (.slice A6 bd.length c6)).setCell ⟨gr, i * 4 + 2, none⟩ (.int .i64 (sc : Int))) := ((HB16.out).setCell (by show w.heap.size ≤ gr; omega) _).setCell (by show w.heap.size ≤ gr; omega) _
          have b_bx17 : Blk ((W16.setCell ⟨gr, i * 4 + 1, none⟩ (.slice A6 bd.length c6)).setCell ⟨gr, i * 4 + 2, none⟩ (.int .i64 (sc : Int))) (w.heap.size) 26 #[.int .i64 ep, .int .i64 l, .slice (some ⟨gi, 0, none⟩) is.length d1, .slice (some ⟨gk, 0, none⟩) ks.length d3, .slice (some ⟨gr, 0, none⟩) rs.length d5, .int .i64 fw, .int .i64 ba] := ((B16_bx.out).far (p := ⟨gr, i * 4 + 1, none⟩) (by show w.heap.size ≠ gr; omega) _).far (p := ⟨gr, i * 4 + 2, none⟩) (by show w.heap.size ≠ gr; omega) _
          have b_bz17 : Blk ((W16.setCell ⟨gr, i * 4 + 1, none⟩ (.slice A6 bd.length c6)).setCell ⟨gr, i * 4 + 2, none⟩ (.int .i64 (sc : Int))) (w.heap.size + 1) 26 #[.int .i64 0, .int .i64 0, .slice none 0 0, .slice none 0 0, .slice none 0 0, .int .i64 0, .int .i64 0] := ((B16_bz.out).far (p := ⟨gr, i * 4 + 1, none⟩) (by show w.heap.size + 1 ≠ gr; omega) _).far (p := ⟨gr, i * 4 + 2, none⟩) (by show w.heap.size + 1 ≠ gr; omega) _
          have b_bl17 : Blk ((W16.setCell ⟨gr, i * 4 + 1, none⟩ (.slice A6 bd.length c6)).setCell ⟨gr, i * 4 + 2, none⟩ (.int .i64 (sc : Int))) (W14.heap.size) 42 #[.slice A6 bd.length c6, .int .i64 (sc : Int)] := ((B16_bl.out).far (p := ⟨gr, i * 4 + 1, none⟩) (by show W14.heap.size ≠ gr; omega) _).far (p := ⟨gr, i * 4 + 2, none⟩) (by show W14.heap.size ≠ gr; omega) _
          have k_own17 := (K16_own.out.setLog i hqi (sc : Int) (own_base K16_lg.out.own (by omega)))
          have hz17 : W16.heap.size + 0 ≤ ((W16.setCell ⟨gr, i * 4 + 1, none⟩ (.slice A6 bd.length c6)).setCell ⟨gr, i * 4 + 2, none⟩ (.int .i64 (sc : Int))).heap.size := by first | omega | (simp; done) | (simp; omega)
          generalize (W16.setCell ⟨gr, i * 4 + 1, none⟩ (.slice A6 bd.length c6)).setCell ⟨gr, i * 4 + 2, none⟩ (.int .i64 (sc : Int)) = W17 at *
          have HB17 := Lib.hid hb17
          have B17_bx := Lib.hid b_bx17
          have B17_bz := Lib.hid b_bz17
          have B17_bl := Lib.hid b_bl17
          have K17_own := Lib.hid k_own17
          clear hb17 b_bx17 b_bz17 b_bl17 k_own17
          clear B16_bx B16_bz B16_bl HB16 K16_own
          have ko : PO BA W17 ⟨ep, (l : Int), is, ks.set i (jm : Int), qt, fw, ba⟩ (.slice (some ⟨gi, 0, none⟩) is.length d1) (.slice (some ⟨gk, 0, none⟩) ks.length d3) (.slice (some ⟨gr, 0, none⟩) qt.length d5) := by
            rw [← HQT.out, List.length_set]
            exact K17_own.out
          have KOT := Lib.hid ko
          clear ko K17_own
          obtain ⟨A8l, c8l, ⟨-, -, -, l3⟩, -, -⟩ := KOT.out.repAt l htl9
          (try simp only at l3)
          rw [HTHL.out] at l3
          have c_bx1 := B17_bx.out.cell 1
          have c_bx4 := B17_bx.out.cell 4
          have l_bx := B17_bx.out.lt
          refine wp_region_held_drew (S := fun w0 => w0.cell? ⟨w.heap.size, 1, none⟩ = some (.int .i64 l) ∧ w0.cell? ⟨w.heap.size, 4, none⟩ = some (.slice (some ⟨gr, 0, none⟩) rs.length d5) ∧ w0.cell? ⟨gr, l * 4 + 3, none⟩ = some (.int .i64 qs[l].high)) (by kernel_rfl) ?_ (fun hHeld => ?_)
          · exact ⟨c_bx1, c_bx4, l3⟩
          clear c_bx1 c_bx4 l_bx
          generalize hd : World.drew W17 = W18 at *
          have hb : Below W17.heap.size W17 W18 := by rw [← hd]; exact (Below.refl _ _).drew
          have hb18 : Below w.heap.size w W18 := below_then HB17.out hb
          have b_bx18 := B17_bx.out.below hb B17_bx.out.lt
          have b_bz18 := B17_bz.out.below hb B17_bz.out.lt
          have b_bl18 := B17_bl.out.below hb B17_bl.out.lt
          have k_own18 := KOT.out.keep hb
          have hz18 := hb.size
          have HB18 := Lib.hid hb18
          have B18_bx := Lib.hid b_bx18
          have B18_bz := Lib.hid b_bz18
          have B18_bl := Lib.hid b_bl18
          have K18_own := Lib.hid k_own18
          clear hb18 b_bx18 b_bz18 b_bl18 k_own18
          clear B17_bx B17_bz B17_bl HB17 KOT
          have l3n := (hb.cell (p := ⟨gr, l * 4 + 3, none⟩) (show gr < _ by omega)).trans l3
          clear l3
          have l3 := l3n
          clear l3n
          clear hd hb
          obtain ⟨A8h, c8h, ⟨-, -, -, r3⟩, ⟨-, -, -, rf3⟩, -⟩ := K18_own.out.repAt i hti
          (try simp only at r3)
          rw [HTH.out] at r3
          have hne3 := HNE2.out
          have L3N := Lib.hid ((World.cell?_setCell_other (w := W18) (a := ⟨gr, i * 4 + 3, none⟩) (b := ⟨gr, l * 4 + 3, none⟩) (v := .int .i64 hg) (by intro e; injection e with _ e2; omega)).trans l3)
          clear hne3
          refine wpAnyH_take (i := 0) (v := ?_) rfl (by kernel_rfl) (by kernel_rfl) (by kernel_rfl) (fun _ _ _ h => h) (Or.inl ⟨by rfl, ?_⟩) (by assumption) ?_
          rotate_left
          · intro w0 hSw
            (try dsimp only at hSw)
            go_simp
            all_goals with_reducible rfl
          try simp only [Act.put, List.getElem_toArray, List.getElem_cons_zero, List.setIfInBounds_toArray, List.set_cons_zero, List.set_cons_succ]
          refine wpAnyH_take (i := 1) (v := ?_) rfl (by kernel_rfl) (by kernel_rfl) (by kernel_rfl) (fun _ _ _ h => h) (Or.inl ⟨by rfl, ?_⟩) (by assumption) ?_
          rotate_left
          · intro w0 hSw
            (try dsimp only at hSw)
            go_simp
            all_goals with_reducible rfl
          try simp only [Act.put, List.getElem_toArray, List.getElem_cons_zero, List.getElem_cons_succ, List.setIfInBounds_toArray, List.set_cons_zero, List.set_cons_succ]
          refine wpAnyH_take (i := 2) (v := ?_) rfl (by kernel_rfl) (by kernel_rfl) (by kernel_rfl) (fun _ _ _ h => h) (Or.inl ⟨by rfl, ?_⟩) (by assumption) ?_
          rotate_left
          · intro w0 hSw
            (try dsimp only at hSw)
            go_simp
            all_goals with_reducible rfl
          try simp only [Act.put, List.getElem_toArray, List.getElem_cons_zero, List.getElem_cons_succ, List.setIfInBounds_toArray, List.set_cons_zero, List.set_cons_succ]
          refine wpAnyH_take (i := 3) (v := ?_) rfl (by kernel_rfl) (by kernel_rfl) (by kernel_rfl) (fun _ _ _ h => h) (Or.inl ⟨by rfl, ?_⟩) (by assumption) ?_
          rotate_left
          · intro w0 hSw
            (try dsimp only at hSw)
            go_simp
            all_goals with_reducible rfl
          try simp only [Act.put, List.getElem_toArray, List.getElem_cons_zero, List.getElem_cons_succ, List.setIfInBounds_toArray, List.set_cons_zero, List.set_cons_succ]
          refine wpAnyH_take (i := 5) (v := ?_) rfl (by kernel_rfl) (by kernel_rfl) (by kernel_rfl) (fun _ _ _ h => h) (Or.inl ⟨by rfl, ?_⟩) (by assumption) ?_
          rotate_left
          · intro w0 hSw
            (try dsimp only at hSw)
            go_simp
            all_goals with_reducible rfl
          try simp only [Act.put, List.getElem_toArray, List.getElem_cons_zero, List.getElem_cons_succ, List.setIfInBounds_toArray, List.set_cons_zero, List.set_cons_succ]
          refine wpAnyH_take (i := 6) (v := ?_) rfl (by kernel_rfl) (by kernel_rfl) (by kernel_rfl) (fun _ _ _ h => h) (Or.inl ⟨by rfl, ?_⟩) (by assumption) ?_
          rotate_left
          · intro w0 hSw
            (try dsimp only at hSw)
            go_simp
            all_goals with_reducible rfl
          try simp only [Act.put, List.getElem_toArray, List.getElem_cons_zero, List.getElem_cons_succ, List.setIfInBounds_toArray, List.set_cons_zero, List.set_cons_succ]
          refine wpAnyH_take (i := 7) (v := ?_) rfl (by kernel_rfl) (by kernel_rfl) (by kernel_rfl) (fun _ _ _ h => h) (Or.inl ⟨by rfl, ?_⟩) (by assumption) ?_
          rotate_left
          · intro w0 hSw
            (try dsimp only at hSw)
            go_simp
            all_goals with_reducible rfl
          try simp only [Act.put, List.getElem_toArray, List.getElem_cons_zero, List.getElem_cons_succ, List.setIfInBounds_toArray, List.set_cons_zero, List.set_cons_succ]
          refine wpAnyH_take (i := 8) (v := ?_) rfl (by kernel_rfl) (by kernel_rfl) (by kernel_rfl) (fun _ _ _ h => h) (Or.inl ⟨by rfl, ?_⟩) (by assumption) ?_
          rotate_left
          · intro w0 hSw
            (try dsimp only at hSw)
            go_simp
            all_goals with_reducible rfl
          try simp only [Act.put, List.getElem_toArray, List.getElem_cons_zero, List.getElem_cons_succ, List.setIfInBounds_toArray, List.set_cons_zero, List.set_cons_succ]
          refine wpAnyH_take (i := 9) (v := ?_) rfl (by kernel_rfl) (by kernel_rfl) (by kernel_rfl) (fun _ _ _ h => h) (Or.inl ⟨by rfl, ?_⟩) (by assumption) ?_
          rotate_left
          · intro w0 hSw
            (try dsimp only at hSw)
            go_simp
            all_goals with_reducible rfl
          try simp only [Act.put, List.getElem_toArray, List.getElem_cons_zero, List.getElem_cons_succ, List.setIfInBounds_toArray, List.set_cons_zero, List.set_cons_succ]
          refine wpAnyH_take (i := 10) (v := ?_) rfl (by kernel_rfl) (by kernel_rfl) (by kernel_rfl) (fun _ _ _ h => h) (Or.inl ⟨by rfl, ?_⟩) (by assumption) ?_
          rotate_left
          · intro w0 hSw
            (try dsimp only at hSw)
            go_simp
            all_goals with_reducible rfl
          try simp only [Act.put, List.getElem_toArray, List.getElem_cons_zero, List.getElem_cons_succ, List.setIfInBounds_toArray, List.set_cons_zero, List.set_cons_succ]
          refine wpAnyH_take (i := 11) (v := ?_) rfl (by kernel_rfl) (by kernel_rfl) (by kernel_rfl) (fun _ _ _ h => h) (Or.inl ⟨by rfl, ?_⟩) (by assumption) ?_
          rotate_left
          · intro w0 hSw
            (try dsimp only at hSw)
            go_simp
            all_goals with_reducible rfl
          try simp only [Act.put, List.getElem_toArray, List.getElem_cons_zero, List.getElem_cons_succ, List.setIfInBounds_toArray, List.set_cons_zero, List.set_cons_succ]
          refine wpAnyH_take (i := 13) (v := ?_) rfl (by kernel_rfl) (by kernel_rfl) (by kernel_rfl) (fun _ _ _ h => h) (Or.inl ⟨by rfl, ?_⟩) (by assumption) ?_
          rotate_left
          · intro w0 hSw
            (try dsimp only at hSw)
            go_simp
            all_goals with_reducible rfl
          try simp only [Act.put, List.getElem_toArray, List.getElem_cons_zero, List.getElem_cons_succ, List.setIfInBounds_toArray, List.set_cons_zero, List.set_cons_succ]
          refine wpAnyH_take (i := 14) (v := ?_) rfl (by kernel_rfl) (by kernel_rfl) (by kernel_rfl) (fun _ _ _ h => h) (Or.inl ⟨by rfl, ?_⟩) (by assumption) ?_
          rotate_left
          · intro w0 hSw
            (try dsimp only at hSw)
            go_simp
            all_goals with_reducible rfl
          try simp only [Act.put, List.getElem_toArray, List.getElem_cons_zero, List.getElem_cons_succ, List.setIfInBounds_toArray, List.set_cons_zero, List.set_cons_succ]
          refine wpAnyH_take (i := 15) (v := ?_) rfl (by kernel_rfl) (by kernel_rfl) (by kernel_rfl) (fun _ _ _ h => h) (Or.inl ⟨by rfl, ?_⟩) (by assumption) ?_
          rotate_left
          · intro w0 hSw
            (try dsimp only at hSw)
            go_simp
            all_goals with_reducible rfl
          try simp only [Act.put, List.getElem_toArray, List.getElem_cons_zero, List.getElem_cons_succ, List.setIfInBounds_toArray, List.set_cons_zero, List.set_cons_succ]
          refine wpAnyH_ready (rs := [4]) (by kernel_rfl) (by simp) (AllReadyH.cons rfl (fun K hK => ?_) AllReadyH.nil)
          go_simp
          refine hK.out _ _ ?_ (fun hHeld => ?_)
          · assumption
          clear hK K
          try simp only [Act.put, List.getElem_toArray, List.getElem_cons_zero, List.getElem_cons_succ, List.setIfInBounds_toArray, List.set_cons_zero, List.set_cons_succ]
          refine wpAnyH_take (i := 12) (v := ?_) rfl (by kernel_rfl) (by kernel_rfl) (by kernel_rfl) (fun _ _ _ h => h) (Or.inl ⟨by rfl, ?_⟩) (by assumption) ?_
          rotate_left
          · intro w0 hSw
            (try dsimp only at hSw)
            go_simp
            all_goals with_reducible rfl
          try simp only [Act.put, List.getElem_toArray, List.getElem_cons_zero, List.getElem_cons_succ, List.setIfInBounds_toArray, List.set_cons_zero, List.set_cons_succ]
          refine wpAnyH_take (i := 16) (v := ?_) rfl (by kernel_rfl) (by kernel_rfl) (by kernel_rfl) (fun _ _ _ h => h) (Or.inl ⟨by rfl, ?_⟩) (by assumption) ?_
          rotate_left
          · intro w0 hSw
            (try dsimp only at hSw)
            go_simp
            all_goals with_reducible rfl
          try simp only [Act.put, List.getElem_toArray, List.getElem_cons_zero, List.getElem_cons_succ, List.setIfInBounds_toArray, List.set_cons_zero, List.set_cons_succ]
          refine wpAnyH_take (i := 17) (v := ?_) rfl (by kernel_rfl) (by kernel_rfl) (by kernel_rfl) (fun _ _ _ h => h) (Or.inl ⟨by rfl, ?_⟩) (by assumption) ?_
          rotate_left
          · intro w0 hSw
            (try dsimp only at hSw)
            go_simp
            all_goals with_reducible rfl
          try simp only [Act.put, List.getElem_toArray, List.getElem_cons_zero, List.getElem_cons_succ, List.setIfInBounds_toArray, List.set_cons_zero, List.set_cons_succ]
          refine wpAnyH_take (i := 18) (v := ?_) rfl (by kernel_rfl) (by kernel_rfl) (by kernel_rfl) (fun _ _ _ h => h) (Or.inl ⟨by rfl, ?_⟩) (by assumption) ?_
          rotate_left
          · intro w0 hSw
            (try dsimp only at hSw)
            go_simp
            all_goals with_reducible rfl
          try simp only [Act.put, List.getElem_toArray, List.getElem_cons_zero, List.getElem_cons_succ, List.setIfInBounds_toArray, List.set_cons_zero, List.set_cons_succ]
          have ew0 : IntKind.i64.wrap (n : Int) = (n : Int) := by rw [IntKind.wrap_i64]; omega
          have ew1 : IntKind.i64.wrap ((n : Int) + 1) = (n : Int) + 1 := by rw [IntKind.wrap_i64]; omega
          (try simp only [Int.add_zero])
          (first | rw [ew0] | rw [ew1])
          clear ew0 ew1
          rw [HHG.out]
          have l3o := l3
          clear l3
          have l3 := L3N.out
          refine wpAnyH_ready (rs := [19]) (by kernel_rfl) (by simp) (AllReadyH.cons rfl (fun K hK => ?_) AllReadyH.nil)
          go_simp
          refine hK.out _ _ ?_ (fun hHeld => ?_)
          · exact ⟨((B18_bx.out).far (p := ⟨gr, i * 4 + 3, none⟩) (by show w.heap.size ≠ gr; omega) _).cell 1, ((B18_bx.out).far (p := ⟨gr, i * 4 + 3, none⟩) (by show w.heap.size ≠ gr; omega) _).cell 4, l3⟩
          clear hK K
          clear l3 l3o
          refine wpAnyH_done (by kernel_rfl) ?_ _
          clear r3 rf3
          go_upto_region 23 with fail
          have hsz19 := HB18.out.size
          have hb19 : Below w.heap.size w (W18.setCell ⟨gr, i * 4 + 3, none⟩ (.int .i64 hg)) := (HB18.out).setCell (by show w.heap.size ≤ gr; omega) _
          have b_bx19 : Blk (W18.setCell ⟨gr, i * 4 + 3, none⟩ (.int .i64 hg)) (w.heap.size) 26 #[.int .i64 ep, .int .i64 l, .slice (some ⟨gi, 0, none⟩) is.length d1, .slice (some ⟨gk, 0, none⟩) ks.length d3, .slice (some ⟨gr, 0, none⟩) rs.length d5, .int .i64 fw, .int .i64 ba] := (B18_bx.out).far (p := ⟨gr, i * 4 + 3, none⟩) (by show w.heap.size ≠ gr; omega) _
          have b_bz19 : Blk (W18.setCell ⟨gr, i * 4 + 3, none⟩ (.int .i64 hg)) (w.heap.size + 1) 26 #[.int .i64 0, .int .i64 0, .slice none 0 0, .slice none 0 0, .slice none 0 0, .int .i64 0, .int .i64 0] := (B18_bz.out).far (p := ⟨gr, i * 4 + 3, none⟩) (by show w.heap.size + 1 ≠ gr; omega) _
          have b_bl19 : Blk (W18.setCell ⟨gr, i * 4 + 3, none⟩ (.int .i64 hg)) (W14.heap.size) 42 #[.slice A6 bd.length c6, .int .i64 (sc : Int)] := (B18_bl.out).far (p := ⟨gr, i * 4 + 3, none⟩) (by show W14.heap.size ≠ gr; omega) _
          have k_own19 := (PO.higher K18_own.out hti hg)
          have hz19 : W18.heap.size + 0 ≤ (W18.setCell ⟨gr, i * 4 + 3, none⟩ (.int .i64 hg)).heap.size := by first | omega | (simp; done) | (simp; omega)
          generalize W18.setCell ⟨gr, i * 4 + 3, none⟩ (.int .i64 hg) = W19 at *
          have HB19 := Lib.hid hb19
          have B19_bx := Lib.hid b_bx19
          have B19_bz := Lib.hid b_bz19
          have B19_bl := Lib.hid b_bl19
          have K19_own := Lib.hid k_own19
          clear hb19 b_bx19 b_bz19 b_bl19 k_own19
          clear B18_bx B18_bz B18_bl HB18 K18_own
          have c_bx0 := B19_bx.out.cell 0
          have f_bx0 := B19_bx.out.frozen 0
          have c_bx1 := B19_bx.out.cell 1
          have f_bx1 := B19_bx.out.frozen 1
          have c_bx2 := B19_bx.out.cell 2
          have f_bx2 := B19_bx.out.frozen 2
          have c_bx3 := B19_bx.out.cell 3
          have f_bx3 := B19_bx.out.frozen 3
          have c_bx4 := B19_bx.out.cell 4
          have f_bx4 := B19_bx.out.frozen 4
          have c_bx5 := B19_bx.out.cell 5
          have f_bx5 := B19_bx.out.frozen 5
          have c_bx6 := B19_bx.out.cell 6
          have f_bx6 := B19_bx.out.frozen 6
          have l_bx := B19_bx.out.lt
          have c_bz0 := B19_bz.out.cell 0
          have f_bz0 := B19_bz.out.frozen 0
          have c_bz1 := B19_bz.out.cell 1
          have f_bz1 := B19_bz.out.frozen 1
          have c_bz2 := B19_bz.out.cell 2
          have f_bz2 := B19_bz.out.frozen 2
          have c_bz3 := B19_bz.out.cell 3
          have f_bz3 := B19_bz.out.frozen 3
          have c_bz4 := B19_bz.out.cell 4
          have f_bz4 := B19_bz.out.frozen 4
          have c_bz5 := B19_bz.out.cell 5
          have f_bz5 := B19_bz.out.frozen 5
          have c_bz6 := B19_bz.out.cell 6
          have f_bz6 := B19_bz.out.frozen 6
          have l_bz := B19_bz.out.lt
          go_wp2_with fail
          clear c_bx0 f_bx0 c_bx1 f_bx1 c_bx2 f_bx2 c_bx3 f_bx3 c_bx4 f_bx4 c_bx5 f_bx5 c_bx6 f_bx6 l_bx c_bz0 f_bz0 c_bz1 f_bz1 c_bz2 f_bz2 c_bz3 f_bz3 c_bz4 f_bz4 c_bz5 f_bz5 c_bz6 f_bz6 l_bz
          have hszF := HB19.out.size
          have hbF : Below w.heap.size w (((((((W19.setCell ⟨w.heap.size + 1, 0, none⟩ (.int .i64 ep)).setCell ⟨w.heap.size + 1, 1, none⟩ (.int .i64 l)).setCell ⟨w.heap.size + 1, 2, none⟩ (.slice (some ⟨gi, 0, none⟩) is.length d1)).setCell ⟨w.heap.size + 1, 3, none⟩ (.slice (some ⟨gk, 0, none⟩) ks.length d3)).setCell ⟨w.heap.size + 1, 4, none⟩ (.slice (some ⟨gr, 0, none⟩) rs.length d5)).setCell ⟨w.heap.size + 1, 5, none⟩ (.int .i64 fw)).setCell ⟨w.heap.size + 1, 6, none⟩ (.int .i64 ba)) := (((((((HB19.out).setCell (by show w.heap.size ≤ w.heap.size + 1; omega) _).setCell (by show w.heap.size ≤ w.heap.size + 1; omega) _).setCell (by show w.heap.size ≤ w.heap.size + 1; omega) _).setCell (by show w.heap.size ≤ w.heap.size + 1; omega) _).setCell (by show w.heap.size ≤ w.heap.size + 1; omega) _).setCell (by show w.heap.size ≤ w.heap.size + 1; omega) _).setCell (by show w.heap.size ≤ w.heap.size + 1; omega) _
          have b_bxF : Blk (((((((W19.setCell ⟨w.heap.size + 1, 0, none⟩ (.int .i64 ep)).setCell ⟨w.heap.size + 1, 1, none⟩ (.int .i64 l)).setCell ⟨w.heap.size + 1, 2, none⟩ (.slice (some ⟨gi, 0, none⟩) is.length d1)).setCell ⟨w.heap.size + 1, 3, none⟩ (.slice (some ⟨gk, 0, none⟩) ks.length d3)).setCell ⟨w.heap.size + 1, 4, none⟩ (.slice (some ⟨gr, 0, none⟩) rs.length d5)).setCell ⟨w.heap.size + 1, 5, none⟩ (.int .i64 fw)).setCell ⟨w.heap.size + 1, 6, none⟩ (.int .i64 ba)) (w.heap.size) 26 #[.int .i64 ep, .int .i64 l, .slice (some ⟨gi, 0, none⟩) is.length d1, .slice (some ⟨gk, 0, none⟩) ks.length d3, .slice (some ⟨gr, 0, none⟩) rs.length d5, .int .i64 fw, .int .i64 ba] := (((((((B19_bx.out).far (p := ⟨w.heap.size + 1, 0, none⟩) (by show w.heap.size ≠ w.heap.size + 1; omega) _).far (p := ⟨w.heap.size + 1, 1, none⟩) (by show w.heap.size ≠ w.heap.size + 1; omega) _).far (p := ⟨w.heap.size + 1, 2, none⟩) (by show w.heap.size ≠ w.heap.size + 1; omega) _).far (p := ⟨w.heap.size + 1, 3, none⟩) (by show w.heap.size ≠ w.heap.size + 1; omega) _).far (p := ⟨w.heap.size + 1, 4, none⟩) (by show w.heap.size ≠ w.heap.size + 1; omega) _).far (p := ⟨w.heap.size + 1, 5, none⟩) (by show w.heap.size ≠ w.heap.size + 1; omega) _).far (p := ⟨w.heap.size + 1, 6, none⟩) (by show w.heap.size ≠ w.heap.size + 1; omega) _
          have b_bzF : Blk (((((((W19.setCell ⟨w.heap.size + 1, 0, none⟩ (.int .i64 ep)).setCell ⟨w.heap.size + 1, 1, none⟩ (.int .i64 l)).setCell ⟨w.heap.size + 1, 2, none⟩ (.slice (some ⟨gi, 0, none⟩) is.length d1)).setCell ⟨w.heap.size + 1, 3, none⟩ (.slice (some ⟨gk, 0, none⟩) ks.length d3)).setCell ⟨w.heap.size + 1, 4, none⟩ (.slice (some ⟨gr, 0, none⟩) rs.length d5)).setCell ⟨w.heap.size + 1, 5, none⟩ (.int .i64 fw)).setCell ⟨w.heap.size + 1, 6, none⟩ (.int .i64 ba)) (w.heap.size + 1) 26 #[.int .i64 ep, .int .i64 l, .slice (some ⟨gi, 0, none⟩) is.length d1, .slice (some ⟨gk, 0, none⟩) ks.length d3, .slice (some ⟨gr, 0, none⟩) rs.length d5, .int .i64 fw, .int .i64 ba] := (((((((B19_bz.out).set_ 0 _).set_ 1 _).set_ 2 _).set_ 3 _).set_ 4 _).set_ 5 _).set_ 6 _
          have b_blF : Blk (((((((W19.setCell ⟨w.heap.size + 1, 0, none⟩ (.int .i64 ep)).setCell ⟨w.heap.size + 1, 1, none⟩ (.int .i64 l)).setCell ⟨w.heap.size + 1, 2, none⟩ (.slice (some ⟨gi, 0, none⟩) is.length d1)).setCell ⟨w.heap.size + 1, 3, none⟩ (.slice (some ⟨gk, 0, none⟩) ks.length d3)).setCell ⟨w.heap.size + 1, 4, none⟩ (.slice (some ⟨gr, 0, none⟩) rs.length d5)).setCell ⟨w.heap.size + 1, 5, none⟩ (.int .i64 fw)).setCell ⟨w.heap.size + 1, 6, none⟩ (.int .i64 ba)) (W14.heap.size) 42 #[.slice A6 bd.length c6, .int .i64 (sc : Int)] := (((((((B19_bl.out).far (p := ⟨w.heap.size + 1, 0, none⟩) (by show W14.heap.size ≠ w.heap.size + 1; omega) _).far (p := ⟨w.heap.size + 1, 1, none⟩) (by show W14.heap.size ≠ w.heap.size + 1; omega) _).far (p := ⟨w.heap.size + 1, 2, none⟩) (by show W14.heap.size ≠ w.heap.size + 1; omega) _).far (p := ⟨w.heap.size + 1, 3, none⟩) (by show W14.heap.size ≠ w.heap.size + 1; omega) _).far (p := ⟨w.heap.size + 1, 4, none⟩) (by show W14.heap.size ≠ w.heap.size + 1; omega) _).far (p := ⟨w.heap.size + 1, 5, none⟩) (by show W14.heap.size ≠ w.heap.size + 1; omega) _).far (p := ⟨w.heap.size + 1, 6, none⟩) (by show W14.heap.size ≠ w.heap.size + 1; omega) _
          have k_ownF := (((((((K19_own.out).under (a := ⟨w.heap.size + 1, 0, none⟩) (by (try dsimp only); omega) (.int .i64 ep)).under (a := ⟨w.heap.size + 1, 1, none⟩) (by (try dsimp only); omega) (.int .i64 l)).under (a := ⟨w.heap.size + 1, 2, none⟩) (by (try dsimp only); omega) (.slice (some ⟨gi, 0, none⟩) is.length d1)).under (a := ⟨w.heap.size + 1, 3, none⟩) (by (try dsimp only); omega) (.slice (some ⟨gk, 0, none⟩) ks.length d3)).under (a := ⟨w.heap.size + 1, 4, none⟩) (by (try dsimp only); omega) (.slice (some ⟨gr, 0, none⟩) rs.length d5)).under (a := ⟨w.heap.size + 1, 5, none⟩) (by (try dsimp only); omega) (.int .i64 fw)).under (a := ⟨w.heap.size + 1, 6, none⟩) (by (try dsimp only); omega) (.int .i64 ba)
          have hsm : PSm ⟨ep, (l : Int), is, ks.set i (jm : Int), qt.set i { qt[i] with high := hg }, fw, ba⟩ := by
            refine ⟨HSM4.out.isr, HSM4.out.known, by simp only [List.length_set]; exact HSM4.out.reps, fun u hu => ?_⟩
            rcases mem_set_cases hu with rfl | hu
            · exact HSM4.out.bytes qt[i] (List.getElem_mem hti)
            · exact HSM4.out.bytes u hu
          have hpv := k_ownF.pv hsm
          rw [HTL_.out] at hpv
          have y0 := b_bzF.cell 0
          have y1 := b_bzF.cell 1
          have y2 := b_bzF.cell 2
          have y3 := b_bzF.cell 3
          have y4 := b_bzF.cell 4
          have y5 := b_bzF.cell 5
          have y6 := b_bzF.cell 6
          exact bodyPost_ret (v := .tuple #[.agg #[.int .i64 ep, .int .i64 l, .slice (some ⟨gi, 0, none⟩) is.length d1, .slice (some ⟨gk, 0, none⟩) ks.length d3, .slice (some ⟨gr, 0, none⟩) rs.length d5, .int .i64 fw, .int .i64 ba], .int .i64 1, .int .i64 0]) (by simp [results, Try.results65, go_sem, y0, y1, y2, y3, y4, y5, y6]) rfl (⟨_, rfl, hpv, hbF⟩)
        · go_simp
          have hb : Below W13.heap.size W13 (W13.alloc (.cells #[.slice none 0 0, .int .i64 0] 42)) := (Below.refl _ _).alloc (Nat.le_refl _) _
          have r1n := (hb.cell (p := ⟨gr, i * 4 + 1, none⟩) (show gr < _ by omega)).trans r1
          clear r1
          have r1 := r1n
          clear r1n
          have r2n := (hb.cell (p := ⟨gr, i * 4 + 2, none⟩) (show gr < _ by omega)).trans r2
          clear r2
          have r2 := r2n
          clear r2n
          have x0n := (hb.cell (p := ⟨g2, q2 + n * 7, none⟩) (show g2 < _ by omega)).trans x0
          clear x0
          have x0 := x0n
          clear x0n
          have x1n := (hb.cell (p := ⟨g2, q2 + n * 7 + 1, none⟩) (show g2 < _ by omega)).trans x1
          clear x1
          have x1 := x1n
          clear x1n
          have x2n := (hb.cell (p := ⟨g2, q2 + n * 7 + 2, none⟩) (show g2 < _ by omega)).trans x2
          clear x2
          have x2 := x2n
          clear x2n
          have x3n := (hb.cell (p := ⟨g2, q2 + n * 7 + 3, none⟩) (show g2 < _ by omega)).trans x3
          clear x3
          have x3 := x3n
          clear x3n
          have x4n := (hb.cell (p := ⟨g2, q2 + n * 7 + 4, none⟩) (show g2 < _ by omega)).trans x4
          clear x4
          have x4 := x4n
          clear x4n
          have x5n := (hb.cell (p := ⟨g2, q2 + n * 7 + 5, none⟩) (show g2 < _ by omega)).trans x5
          clear x5
          have x5 := x5n
          clear x5n
          have x6n := (hb.cell (p := ⟨g2, q2 + n * 7 + 6, none⟩) (show g2 < _ by omega)).trans x6
          clear x6
          have x6 := x6n
          clear x6n
          clear hb
          refine hK.out _ _ ?_ (fun hHeld => ?_)
          · exact ⟨r1, r2, x0, x1, x2, x3, x4, x5, x6⟩
          clear hK K
          try simp only [Act.put, List.getElem_toArray, List.getElem_cons_zero, List.getElem_cons_succ, List.setIfInBounds_toArray, List.set_cons_zero, List.set_cons_succ]
          have hsz14 := HB13.out.size
          have hb14 : Below w.heap.size w (W13.alloc (.cells #[.slice none 0 0, .int .i64 0] 42)) := (HB13.out).alloc (by first | omega | (simp; done) | (simp; omega)) _
          have hal14 : Below W13.heap.size W13 (W13.alloc (.cells #[.slice none 0 0, .int .i64 0] 42)) := (Below.refl _ _).alloc (by first | omega | (simp; done) | (simp; omega)) _
          have b_bx14 : Blk (W13.alloc (.cells #[.slice none 0 0, .int .i64 0] 42)) (w.heap.size) 26 #[.int .i64 ep, .int .i64 l, .slice (some ⟨gi, 0, none⟩) is.length d1, .slice (some ⟨gk, 0, none⟩) ks.length d3, .slice (some ⟨gr, 0, none⟩) rs.length d5, .int .i64 fw, .int .i64 ba] := (B13_bx.out).alloc _
          have b_bz14 : Blk (W13.alloc (.cells #[.slice none 0 0, .int .i64 0] 42)) (w.heap.size + 1) 26 #[.int .i64 0, .int .i64 0, .slice none 0 0, .slice none 0 0, .slice none 0 0, .int .i64 0, .int .i64 0] := (B13_bz.out).alloc _
          have b_bl14 : Blk (W13.alloc (.cells #[.slice none 0 0, .int .i64 0] 42)) (W13.heap.size) 42 #[.slice none 0 0, .int .i64 0] := Blk.new_ _ 42 #[.slice none 0 0, .int .i64 0] (by first | rfl | (simp; done) | (simp; omega))
          have k_own14 := (K13_own.out).alloc (.cells #[.slice none 0 0, .int .i64 0] 42)
          have hz14 : W13.heap.size + 1 ≤ (W13.alloc (.cells #[.slice none 0 0, .int .i64 0] 42)).heap.size := by first | omega | (simp; done) | (simp; omega)
          generalize W13.alloc (.cells #[.slice none 0 0, .int .i64 0] 42) = W14 at *
          have HB14 := Lib.hid hb14
          have B14_bx := Lib.hid b_bx14
          have B14_bz := Lib.hid b_bz14
          have B14_bl := Lib.hid b_bl14
          have K14_own := Lib.hid k_own14
          clear hb14 b_bx14 b_bz14 b_bl14 k_own14
          clear B13_bx B13_bz HB13 K13_own
          refine wpAnyH_ready (rs := [8]) (by kernel_rfl) (by simp) (AllReadyH.cons rfl (fun K hK => ?_) AllReadyH.nil)
          go_simp
          go_at_call 45
          obtain ⟨A8b, c8b, ⟨-, r1b, -, -⟩, -, rby⟩ := K14_own.out.repAt i hqi
          (try simp only at r1b rby)
          rw [HQB.out] at r1b rby
          obtain ⟨rfl, rfl⟩ : A8b = A8 ∧ c8b = c8 := by
            rw [r1] at r1b
            simp only [Option.some.injEq, Value.slice.injEq, true_and] at r1b
            exact ⟨r1b.1.symm, r1b.2.symm⟩
          have RBY2 := Lib.hid rby
          clear r1b rby
          refine (append_ok _ bc (sc : Int) el[n] _ RBY2.out HLC.out HOKX.out HFL.out).mono ?_
          rintro e W15 ⟨v6, rfl, hp6, hb⟩
          dsimp only at hp6
          rw [HBD.out] at hp6
          obtain ⟨A6, c6, rfl, hc6⟩ := (Sl.of_own hp6).form
          have HLO := Lib.hid (LgO.mk hp6)
          clear hp6 RBY2
          have hb15 : Below w.heap.size w W15 := below_then HB14.out hb
          have b_bx15 := B14_bx.out.below hb B14_bx.out.lt
          have b_bz15 := B14_bz.out.below hb B14_bz.out.lt
          have b_bl15 := B14_bl.out.below hb B14_bl.out.lt
          have k_own15 := K14_own.out.keep hb
          have hz15 := hb.size
          have HB15 := Lib.hid hb15
          have B15_bx := Lib.hid b_bx15
          have B15_bz := Lib.hid b_bz15
          have B15_bl := Lib.hid b_bl15
          have K15_own := Lib.hid k_own15
          clear hb15 b_bx15 b_bz15 b_bl15 k_own15
          clear B14_bx B14_bz B14_bl HB14 K14_own
          have r1n := (hb.cell (p := ⟨gr, i * 4 + 1, none⟩) (show gr < _ by omega)).trans r1
          clear r1
          have r1 := r1n
          clear r1n
          have r2n := (hb.cell (p := ⟨gr, i * 4 + 2, none⟩) (show gr < _ by omega)).trans r2
          clear r2
          have r2 := r2n
          clear r2n
          have x0n := (hb.cell (p := ⟨g2, q2 + n * 7, none⟩) (show g2 < _ by omega)).trans x0
          clear x0
          have x0 := x0n
          clear x0n
          have x1n := (hb.cell (p := ⟨g2, q2 + n * 7 + 1, none⟩) (show g2 < _ by omega)).trans x1
          clear x1
          have x1 := x1n
          clear x1n
          have x2n := (hb.cell (p := ⟨g2, q2 + n * 7 + 2, none⟩) (show g2 < _ by omega)).trans x2
          clear x2
          have x2 := x2n
          clear x2n
          have x3n := (hb.cell (p := ⟨g2, q2 + n * 7 + 3, none⟩) (show g2 < _ by omega)).trans x3
          clear x3
          have x3 := x3n
          clear x3n
          have x4n := (hb.cell (p := ⟨g2, q2 + n * 7 + 4, none⟩) (show g2 < _ by omega)).trans x4
          clear x4
          have x4 := x4n
          clear x4n
          have x5n := (hb.cell (p := ⟨g2, q2 + n * 7 + 5, none⟩) (show g2 < _ by omega)).trans x5
          clear x5
          have x5 := x5n
          clear x5n
          have x6n := (hb.cell (p := ⟨g2, q2 + n * 7 + 6, none⟩) (show g2 < _ by omega)).trans x6
          clear x6
          have x6 := x6n
          clear x6n
          refine hK.out _ _ ?_ (fun hHeld => ?_)
          · exact ⟨r1, r2, x0, x1, x2, x3, x4, x5, x6⟩
          clear hK K
          refine wpAnyH_take (i := 9) (v := ?_) rfl (by kernel_rfl) (by kernel_rfl) (by kernel_rfl) (fun _ _ _ h => h) (Or.inl ⟨by rfl, ?_⟩) (by assumption) ?_
          rotate_left
          · intro w0 hSw
            (try dsimp only at hSw)
            go_simp
            all_goals with_reducible rfl
          try simp only [Act.put, List.getElem_toArray, List.getElem_cons_zero, List.getElem_cons_succ, List.setIfInBounds_toArray, List.set_cons_zero, List.set_cons_succ]
          refine wpAnyH_take (i := 10) (v := ?_) rfl (by kernel_rfl) (by kernel_rfl) (by kernel_rfl) (fun _ _ _ h => h) (Or.inl ⟨by rfl, ?_⟩) (by assumption) ?_
          rotate_left
          · intro w0 hSw
            (try dsimp only at hSw)
            go_simp
            all_goals with_reducible rfl
          try simp only [Act.put, List.getElem_toArray, List.getElem_cons_zero, List.getElem_cons_succ, List.setIfInBounds_toArray, List.set_cons_zero, List.set_cons_succ]
          refine wpAnyH_take (i := 11) (v := ?_) rfl (by kernel_rfl) (by kernel_rfl) (by kernel_rfl) (fun _ _ _ h => h) (Or.inl ⟨by rfl, ?_⟩) (by assumption) ?_
          rotate_left
          · intro w0 hSw
            (try dsimp only at hSw)
            go_simp
            all_goals with_reducible rfl
          try simp only [Act.put, List.getElem_toArray, List.getElem_cons_zero, List.getElem_cons_succ, List.setIfInBounds_toArray, List.set_cons_zero, List.set_cons_succ]
          have c_bl0 := B15_bl.out.cell 0
          have f_bl0 := B15_bl.out.frozen 0
          have c_bl1 := B15_bl.out.cell 1
          have f_bl1 := B15_bl.out.frozen 1
          have l_bl := B15_bl.out.lt
          refine wpAnyH_ready (rs := [13]) (by kernel_rfl) (by simp) (AllReadyH.cons rfl (fun K hK => ?_) AllReadyH.nil)
          go_simp
          have hneA : gr ≠ W13.heap.size := by omega
          have hneB : g2 ≠ W13.heap.size := by omega
          have r1m := (cell_setCell_far_ W15 gr (W13.heap.size) (i * 4 + 1) 0 1 (.slice A6 bd.length c6) (.int .i64 (sc : Int)) hneA).trans r1
          have r2m := (cell_setCell_far_ W15 gr (W13.heap.size) (i * 4 + 2) 0 1 (.slice A6 bd.length c6) (.int .i64 (sc : Int)) hneA).trans r2
          have x0m := (cell_setCell_far_ W15 g2 (W13.heap.size) (q2 + n * 7) 0 1 (.slice A6 bd.length c6) (.int .i64 (sc : Int)) hneB).trans x0
          have x1m := (cell_setCell_far_ W15 g2 (W13.heap.size) (q2 + n * 7 + 1) 0 1 (.slice A6 bd.length c6) (.int .i64 (sc : Int)) hneB).trans x1
          have x2m := (cell_setCell_far_ W15 g2 (W13.heap.size) (q2 + n * 7 + 2) 0 1 (.slice A6 bd.length c6) (.int .i64 (sc : Int)) hneB).trans x2
          have x3m := (cell_setCell_far_ W15 g2 (W13.heap.size) (q2 + n * 7 + 3) 0 1 (.slice A6 bd.length c6) (.int .i64 (sc : Int)) hneB).trans x3
          have x4m := (cell_setCell_far_ W15 g2 (W13.heap.size) (q2 + n * 7 + 4) 0 1 (.slice A6 bd.length c6) (.int .i64 (sc : Int)) hneB).trans x4
          have x5m := (cell_setCell_far_ W15 g2 (W13.heap.size) (q2 + n * 7 + 5) 0 1 (.slice A6 bd.length c6) (.int .i64 (sc : Int)) hneB).trans x5
          have x6m := (cell_setCell_far_ W15 g2 (W13.heap.size) (q2 + n * 7 + 6) 0 1 (.slice A6 bd.length c6) (.int .i64 (sc : Int)) hneB).trans x6
          refine hK.out _ _ ?_ (fun hHeld => ?_)
          · exact ⟨r1m, r2m, x0m, x1m, x2m, x3m, x4m, x5m, x6m⟩
          clear hK K r1 r2 x0 x1 x2 x3 x4 x5 x6 r1m r2m x0m x1m x2m x3m x4m x5m x6m hneA hneB
          clear c_bl0 f_bl0 c_bl1 f_bl1 l_bl
          refine wpAnyH_take (i := 14) (v := ?_) rfl (by kernel_rfl) (by kernel_rfl) (by kernel_rfl) (fun _ _ _ h => h) (Or.inl ⟨by rfl, ?_⟩) (by assumption) ?_
          rotate_left
          · intro w0 hSw
            (try dsimp only at hSw)
            go_simp
            all_goals with_reducible rfl
          try simp only [Act.put, List.getElem_toArray, List.getElem_cons_zero, List.getElem_cons_succ, List.setIfInBounds_toArray, List.set_cons_zero, List.set_cons_succ]
          refine wpAnyH_done (by kernel_rfl) ?_ _
          go_upto_region 20 with fail
          have hsz16 := HB15.out.size
          have hb16 : Below w.heap.size w ((W15.setCell ⟨W13.heap.size, 0, none⟩ (.slice A6 bd.length c6)).setCell ⟨W13.heap.size, 1, none⟩ (.int .i64 (sc : Int))) := ((HB15.out).setCell (by show w.heap.size ≤ W13.heap.size; omega) _).setCell (by show w.heap.size ≤ W13.heap.size; omega) _
          have b_bx16 : Blk ((W15.setCell ⟨W13.heap.size, 0, none⟩ (.slice A6 bd.length c6)).setCell ⟨W13.heap.size, 1, none⟩ (.int .i64 (sc : Int))) (w.heap.size) 26 #[.int .i64 ep, .int .i64 l, .slice (some ⟨gi, 0, none⟩) is.length d1, .slice (some ⟨gk, 0, none⟩) ks.length d3, .slice (some ⟨gr, 0, none⟩) rs.length d5, .int .i64 fw, .int .i64 ba] := ((B15_bx.out).far (p := ⟨W13.heap.size, 0, none⟩) (by show w.heap.size ≠ W13.heap.size; omega) _).far (p := ⟨W13.heap.size, 1, none⟩) (by show w.heap.size ≠ W13.heap.size; omega) _
          have b_bz16 : Blk ((W15.setCell ⟨W13.heap.size, 0, none⟩ (.slice A6 bd.length c6)).setCell ⟨W13.heap.size, 1, none⟩ (.int .i64 (sc : Int))) (w.heap.size + 1) 26 #[.int .i64 0, .int .i64 0, .slice none 0 0, .slice none 0 0, .slice none 0 0, .int .i64 0, .int .i64 0] := ((B15_bz.out).far (p := ⟨W13.heap.size, 0, none⟩) (by show w.heap.size + 1 ≠ W13.heap.size; omega) _).far (p := ⟨W13.heap.size, 1, none⟩) (by show w.heap.size + 1 ≠ W13.heap.size; omega) _
          have b_bl16 : Blk ((W15.setCell ⟨W13.heap.size, 0, none⟩ (.slice A6 bd.length c6)).setCell ⟨W13.heap.size, 1, none⟩ (.int .i64 (sc : Int))) (W13.heap.size) 42 #[.slice A6 bd.length c6, .int .i64 (sc : Int)] := ((B15_bl.out).set_ 0 _).set_ 1 _
          have k_own16 := ((K15_own.out.blkL B15_bl.out 0 (.slice A6 bd.length c6)).blkL (B15_bl.out.set_ 0 (.slice A6 bd.length c6)) 1 (.int .i64 (sc : Int)))
          have k_lg16 := ((HLO.out.blkL B15_bl.out 0 (.slice A6 bd.length c6)).blkL (B15_bl.out.set_ 0 (.slice A6 bd.length c6)) 1 (.int .i64 (sc : Int)))
          have hz16 : W15.heap.size + 0 ≤ ((W15.setCell ⟨W13.heap.size, 0, none⟩ (.slice A6 bd.length c6)).setCell ⟨W13.heap.size, 1, none⟩ (.int .i64 (sc : Int))).heap.size := by first | omega | (simp; done) | (simp; omega)
          generalize (W15.setCell ⟨W13.heap.size, 0, none⟩ (.slice A6 bd.length c6)).setCell ⟨W13.heap.size, 1, none⟩ (.int .i64 (sc : Int)) = W16 at *
          have HB16 := Lib.hid hb16
          have B16_bx := Lib.hid b_bx16
          have B16_bz := Lib.hid b_bz16
          have B16_bl := Lib.hid b_bl16
          have K16_own := Lib.hid k_own16
          have K16_lg := Lib.hid k_lg16
          clear hb16 b_bx16 b_bz16 b_bl16 k_own16 k_lg16
          clear B15_bx B15_bz B15_bl HB15 K15_own HLO
          have c_bx0 := B16_bx.out.cell 0
          have c_bx1 := B16_bx.out.cell 1
          have c_bx2 := B16_bx.out.cell 2
          have c_bx3 := B16_bx.out.cell 3
          have c_bx4 := B16_bx.out.cell 4
          have c_bx5 := B16_bx.out.cell 5
          have c_bx6 := B16_bx.out.cell 6
          have l_bx := B16_bx.out.lt
          have c_bl0 := B16_bl.out.cell 0
          have c_bl1 := B16_bl.out.cell 1
          have l_bl := B16_bl.out.lt
          obtain ⟨A8z, c8z, ⟨s0, s1, s2, s3⟩, ⟨-, sf1, sf2, -⟩, -⟩ := K16_own.out.repAt i hqi
          go_upto_region 22 with fail
          clear c_bx0 c_bx1 c_bx2 c_bx3 c_bx4 c_bx5 c_bx6 l_bx c_bl0 c_bl1 l_bl s0 s1 s2 s3 sf1 sf2
          have hsz17 := HB16.out.size
          have hb17 : Below w.heap.size w ((W16.setCell ⟨gr, i * 4 + 1, none⟩ (.slice A6 bd.length c6)).setCell ⟨gr, i * 4 + 2, none⟩ (.int .i64 (sc : Int))) := ((HB16.out).setCell (by show w.heap.size ≤ gr; omega) _).setCell (by show w.heap.size ≤ gr; omega) _
          have b_bx17 : Blk ((W16.setCell ⟨gr, i * 4 + 1, none⟩ (.slice A6 bd.length c6)).setCell ⟨gr, i * 4 + 2, none⟩ (.int .i64 (sc : Int))) (w.heap.size) 26 #[.int .i64 ep, .int .i64 l, .slice (some ⟨gi, 0, none⟩) is.length d1, .slice (some ⟨gk, 0, none⟩) ks.length d3, .slice (some ⟨gr, 0, none⟩) rs.length d5, .int .i64 fw, .int .i64 ba] := ((B16_bx.out).far (p := ⟨gr, i * 4 + 1, none⟩) (by show w.heap.size ≠ gr; omega) _).far (p := ⟨gr, i * 4 + 2, none⟩) (by show w.heap.size ≠ gr; omega) _
          have b_bz17 : Blk ((W16.setCell ⟨gr, i * 4 + 1, none⟩ (.slice A6 bd.length c6)).setCell ⟨gr, i * 4 + 2, none⟩ (.int .i64 (sc : Int))) (w.heap.size + 1) 26 #[.int .i64 0, .int .i64 0, .slice none 0 0, .slice none 0 0, .slice none 0 0, .int .i64 0, .int .i64 0] := ((B16_bz.out).far (p := ⟨gr, i * 4 + 1, none⟩) (by show w.heap.size + 1 ≠ gr; omega) _).far (p := ⟨gr, i * 4 + 2, none⟩) (by show w.heap.size + 1 ≠ gr; omega) _
          have b_bl17 : Blk ((W16.setCell ⟨gr, i * 4 + 1, none⟩ (.slice A6 bd.length c6)).setCell ⟨gr, i * 4 + 2, none⟩ (.int .i64 (sc : Int))) (W13.heap.size) 42 #[.slice A6 bd.length c6, .int .i64 (sc : Int)] := ((B16_bl.out).far (p := ⟨gr, i * 4 + 1, none⟩) (by show W13.heap.size ≠ gr; omega) _).far (p := ⟨gr, i * 4 + 2, none⟩) (by show W13.heap.size ≠ gr; omega) _
          have k_own17 := (K16_own.out.setLog i hqi (sc : Int) (own_base K16_lg.out.own (by omega)))
          have hz17 : W16.heap.size + 0 ≤ ((W16.setCell ⟨gr, i * 4 + 1, none⟩ (.slice A6 bd.length c6)).setCell ⟨gr, i * 4 + 2, none⟩ (.int .i64 (sc : Int))).heap.size := by first | omega | (simp; done) | (simp; omega)
          generalize (W16.setCell ⟨gr, i * 4 + 1, none⟩ (.slice A6 bd.length c6)).setCell ⟨gr, i * 4 + 2, none⟩ (.int .i64 (sc : Int)) = W17 at *
          have HB17 := Lib.hid hb17
          have B17_bx := Lib.hid b_bx17
          have B17_bz := Lib.hid b_bz17
          have B17_bl := Lib.hid b_bl17
          have K17_own := Lib.hid k_own17
          clear hb17 b_bx17 b_bz17 b_bl17 k_own17
          clear B16_bx B16_bz B16_bl HB16 K16_own
          have ko : PO BA W17 ⟨ep, (l : Int), is, ks.set i (jm : Int), qt, fw, ba⟩ (.slice (some ⟨gi, 0, none⟩) is.length d1) (.slice (some ⟨gk, 0, none⟩) ks.length d3) (.slice (some ⟨gr, 0, none⟩) qt.length d5) := by
            rw [← HQT.out, List.length_set]
            exact K17_own.out
          have KOT := Lib.hid ko
          clear ko K17_own
          obtain ⟨A8l, c8l, ⟨-, -, -, l3⟩, -, -⟩ := KOT.out.repAt l htl9
          (try simp only at l3)
          rw [HTHL.out] at l3
          have c_bx1 := B17_bx.out.cell 1
          have c_bx4 := B17_bx.out.cell 4
          have l_bx := B17_bx.out.lt
          refine wp_region_held_drew (S := fun w0 => w0.cell? ⟨w.heap.size, 1, none⟩ = some (.int .i64 l) ∧ w0.cell? ⟨w.heap.size, 4, none⟩ = some (.slice (some ⟨gr, 0, none⟩) rs.length d5) ∧ w0.cell? ⟨gr, l * 4 + 3, none⟩ = some (.int .i64 qs[l].high)) (by kernel_rfl) ?_ (fun hHeld => ?_)
          · exact ⟨c_bx1, c_bx4, l3⟩
          clear c_bx1 c_bx4 l_bx
          generalize hd : World.drew W17 = W18 at *
          have hb : Below W17.heap.size W17 W18 := by rw [← hd]; exact (Below.refl _ _).drew
          have hb18 : Below w.heap.size w W18 := below_then HB17.out hb
          have b_bx18 := B17_bx.out.below hb B17_bx.out.lt
          have b_bz18 := B17_bz.out.below hb B17_bz.out.lt
          have b_bl18 := B17_bl.out.below hb B17_bl.out.lt
          have k_own18 := KOT.out.keep hb
          have hz18 := hb.size
          have HB18 := Lib.hid hb18
          have B18_bx := Lib.hid b_bx18
          have B18_bz := Lib.hid b_bz18
          have B18_bl := Lib.hid b_bl18
          have K18_own := Lib.hid k_own18
          clear hb18 b_bx18 b_bz18 b_bl18 k_own18
          clear B17_bx B17_bz B17_bl HB17 KOT
          have l3n := (hb.cell (p := ⟨gr, l * 4 + 3, none⟩) (show gr < _ by omega)).trans l3
          clear l3
          have l3 := l3n
          clear l3n
          clear hd hb
          obtain ⟨A8h, c8h, ⟨-, -, -, r3⟩, ⟨-, -, -, rf3⟩, -⟩ := K18_own.out.repAt i hti
          (try simp only at r3)
          rw [HTH.out] at r3
          have hne3 := HNE2.out
          have L3N := Lib.hid ((World.cell?_setCell_other (w := W18) (a := ⟨gr, i * 4 + 3, none⟩) (b := ⟨gr, l * 4 + 3, none⟩) (v := .int .i64 hg) (by intro e; injection e with _ e2; omega)).trans l3)
          clear hne3
          refine wpAnyH_take (i := 0) (v := ?_) rfl (by kernel_rfl) (by kernel_rfl) (by kernel_rfl) (fun _ _ _ h => h) (Or.inl ⟨by rfl, ?_⟩) (by assumption) ?_
          rotate_left
          · intro w0 hSw
            (try dsimp only at hSw)
            go_simp
            all_goals with_reducible rfl
          try simp only [Act.put, List.getElem_toArray, List.getElem_cons_zero, List.setIfInBounds_toArray, List.set_cons_zero, List.set_cons_succ]
          refine wpAnyH_take (i := 1) (v := ?_) rfl (by kernel_rfl) (by kernel_rfl) (by kernel_rfl) (fun _ _ _ h => h) (Or.inl ⟨by rfl, ?_⟩) (by assumption) ?_
          rotate_left
          · intro w0 hSw
            (try dsimp only at hSw)
            go_simp
            all_goals with_reducible rfl
          try simp only [Act.put, List.getElem_toArray, List.getElem_cons_zero, List.getElem_cons_succ, List.setIfInBounds_toArray, List.set_cons_zero, List.set_cons_succ]
          refine wpAnyH_take (i := 2) (v := ?_) rfl (by kernel_rfl) (by kernel_rfl) (by kernel_rfl) (fun _ _ _ h => h) (Or.inl ⟨by rfl, ?_⟩) (by assumption) ?_
          rotate_left
          · intro w0 hSw
            (try dsimp only at hSw)
            go_simp
            all_goals with_reducible rfl
          try simp only [Act.put, List.getElem_toArray, List.getElem_cons_zero, List.getElem_cons_succ, List.setIfInBounds_toArray, List.set_cons_zero, List.set_cons_succ]
          refine wpAnyH_take (i := 3) (v := ?_) rfl (by kernel_rfl) (by kernel_rfl) (by kernel_rfl) (fun _ _ _ h => h) (Or.inl ⟨by rfl, ?_⟩) (by assumption) ?_
          rotate_left
          · intro w0 hSw
            (try dsimp only at hSw)
            go_simp
            all_goals with_reducible rfl
          try simp only [Act.put, List.getElem_toArray, List.getElem_cons_zero, List.getElem_cons_succ, List.setIfInBounds_toArray, List.set_cons_zero, List.set_cons_succ]
          refine wpAnyH_take (i := 5) (v := ?_) rfl (by kernel_rfl) (by kernel_rfl) (by kernel_rfl) (fun _ _ _ h => h) (Or.inl ⟨by rfl, ?_⟩) (by assumption) ?_
          rotate_left
          · intro w0 hSw
            (try dsimp only at hSw)
            go_simp
            all_goals with_reducible rfl
          try simp only [Act.put, List.getElem_toArray, List.getElem_cons_zero, List.getElem_cons_succ, List.setIfInBounds_toArray, List.set_cons_zero, List.set_cons_succ]
          refine wpAnyH_take (i := 6) (v := ?_) rfl (by kernel_rfl) (by kernel_rfl) (by kernel_rfl) (fun _ _ _ h => h) (Or.inl ⟨by rfl, ?_⟩) (by assumption) ?_
          rotate_left
          · intro w0 hSw
            (try dsimp only at hSw)
            go_simp
            all_goals with_reducible rfl
          try simp only [Act.put, List.getElem_toArray, List.getElem_cons_zero, List.getElem_cons_succ, List.setIfInBounds_toArray, List.set_cons_zero, List.set_cons_succ]
          refine wpAnyH_take (i := 7) (v := ?_) rfl (by kernel_rfl) (by kernel_rfl) (by kernel_rfl) (fun _ _ _ h => h) (Or.inl ⟨by rfl, ?_⟩) (by assumption) ?_
          rotate_left
          · intro w0 hSw
            (try dsimp only at hSw)
            go_simp
            all_goals with_reducible rfl
          try simp only [Act.put, List.getElem_toArray, List.getElem_cons_zero, List.getElem_cons_succ, List.setIfInBounds_toArray, List.set_cons_zero, List.set_cons_succ]
          refine wpAnyH_take (i := 8) (v := ?_) rfl (by kernel_rfl) (by kernel_rfl) (by kernel_rfl) (fun _ _ _ h => h) (Or.inl ⟨by rfl, ?_⟩) (by assumption) ?_
          rotate_left
          · intro w0 hSw
            (try dsimp only at hSw)
            go_simp
            all_goals with_reducible rfl
          try simp only [Act.put, List.getElem_toArray, List.getElem_cons_zero, List.getElem_cons_succ, List.setIfInBounds_toArray, List.set_cons_zero, List.set_cons_succ]
          refine wpAnyH_take (i := 9) (v := ?_) rfl (by kernel_rfl) (by kernel_rfl) (by kernel_rfl) (fun _ _ _ h => h) (Or.inl ⟨by rfl, ?_⟩) (by assumption) ?_
          rotate_left
          · intro w0 hSw
            (try dsimp only at hSw)
            go_simp
            all_goals with_reducible rfl
          try simp only [Act.put, List.getElem_toArray, List.getElem_cons_zero, List.getElem_cons_succ, List.setIfInBounds_toArray, List.set_cons_zero, List.set_cons_succ]
          refine wpAnyH_take (i := 10) (v := ?_) rfl (by kernel_rfl) (by kernel_rfl) (by kernel_rfl) (fun _ _ _ h => h) (Or.inl ⟨by rfl, ?_⟩) (by assumption) ?_
          rotate_left
          · intro w0 hSw
            (try dsimp only at hSw)
            go_simp
            all_goals with_reducible rfl
          try simp only [Act.put, List.getElem_toArray, List.getElem_cons_zero, List.getElem_cons_succ, List.setIfInBounds_toArray, List.set_cons_zero, List.set_cons_succ]
          refine wpAnyH_take (i := 11) (v := ?_) rfl (by kernel_rfl) (by kernel_rfl) (by kernel_rfl) (fun _ _ _ h => h) (Or.inl ⟨by rfl, ?_⟩) (by assumption) ?_
          rotate_left
          · intro w0 hSw
            (try dsimp only at hSw)
            go_simp
            all_goals with_reducible rfl
          try simp only [Act.put, List.getElem_toArray, List.getElem_cons_zero, List.getElem_cons_succ, List.setIfInBounds_toArray, List.set_cons_zero, List.set_cons_succ]
          refine wpAnyH_take (i := 13) (v := ?_) rfl (by kernel_rfl) (by kernel_rfl) (by kernel_rfl) (fun _ _ _ h => h) (Or.inl ⟨by rfl, ?_⟩) (by assumption) ?_
          rotate_left
          · intro w0 hSw
            (try dsimp only at hSw)
            go_simp
            all_goals with_reducible rfl
          try simp only [Act.put, List.getElem_toArray, List.getElem_cons_zero, List.getElem_cons_succ, List.setIfInBounds_toArray, List.set_cons_zero, List.set_cons_succ]
          refine wpAnyH_take (i := 14) (v := ?_) rfl (by kernel_rfl) (by kernel_rfl) (by kernel_rfl) (fun _ _ _ h => h) (Or.inl ⟨by rfl, ?_⟩) (by assumption) ?_
          rotate_left
          · intro w0 hSw
            (try dsimp only at hSw)
            go_simp
            all_goals with_reducible rfl
          try simp only [Act.put, List.getElem_toArray, List.getElem_cons_zero, List.getElem_cons_succ, List.setIfInBounds_toArray, List.set_cons_zero, List.set_cons_succ]
          refine wpAnyH_take (i := 15) (v := ?_) rfl (by kernel_rfl) (by kernel_rfl) (by kernel_rfl) (fun _ _ _ h => h) (Or.inl ⟨by rfl, ?_⟩) (by assumption) ?_
          rotate_left
          · intro w0 hSw
            (try dsimp only at hSw)
            go_simp
            all_goals with_reducible rfl
          try simp only [Act.put, List.getElem_toArray, List.getElem_cons_zero, List.getElem_cons_succ, List.setIfInBounds_toArray, List.set_cons_zero, List.set_cons_succ]
          refine wpAnyH_ready (rs := [4]) (by kernel_rfl) (by simp) (AllReadyH.cons rfl (fun K hK => ?_) AllReadyH.nil)
          go_simp
          refine hK.out _ _ ?_ (fun hHeld => ?_)
          · assumption
          clear hK K
          try simp only [Act.put, List.getElem_toArray, List.getElem_cons_zero, List.getElem_cons_succ, List.setIfInBounds_toArray, List.set_cons_zero, List.set_cons_succ]
          refine wpAnyH_take (i := 12) (v := ?_) rfl (by kernel_rfl) (by kernel_rfl) (by kernel_rfl) (fun _ _ _ h => h) (Or.inl ⟨by rfl, ?_⟩) (by assumption) ?_
          rotate_left
          · intro w0 hSw
            (try dsimp only at hSw)
            go_simp
            all_goals with_reducible rfl
          try simp only [Act.put, List.getElem_toArray, List.getElem_cons_zero, List.getElem_cons_succ, List.setIfInBounds_toArray, List.set_cons_zero, List.set_cons_succ]
          refine wpAnyH_take (i := 16) (v := ?_) rfl (by kernel_rfl) (by kernel_rfl) (by kernel_rfl) (fun _ _ _ h => h) (Or.inl ⟨by rfl, ?_⟩) (by assumption) ?_
          rotate_left
          · intro w0 hSw
            (try dsimp only at hSw)
            go_simp
            all_goals with_reducible rfl
          try simp only [Act.put, List.getElem_toArray, List.getElem_cons_zero, List.getElem_cons_succ, List.setIfInBounds_toArray, List.set_cons_zero, List.set_cons_succ]
          refine wpAnyH_take (i := 17) (v := ?_) rfl (by kernel_rfl) (by kernel_rfl) (by kernel_rfl) (fun _ _ _ h => h) (Or.inl ⟨by rfl, ?_⟩) (by assumption) ?_
          rotate_left
          · intro w0 hSw
            (try dsimp only at hSw)
            go_simp
            all_goals with_reducible rfl
          try simp only [Act.put, List.getElem_toArray, List.getElem_cons_zero, List.getElem_cons_succ, List.setIfInBounds_toArray, List.set_cons_zero, List.set_cons_succ]
          refine wpAnyH_take (i := 18) (v := ?_) rfl (by kernel_rfl) (by kernel_rfl) (by kernel_rfl) (fun _ _ _ h => h) (Or.inl ⟨by rfl, ?_⟩) (by assumption) ?_
          rotate_left
          · intro w0 hSw
            (try dsimp only at hSw)
            go_simp
            all_goals with_reducible rfl
          try simp only [Act.put, List.getElem_toArray, List.getElem_cons_zero, List.getElem_cons_succ, List.setIfInBounds_toArray, List.set_cons_zero, List.set_cons_succ]
          have ew0 : IntKind.i64.wrap (n : Int) = (n : Int) := by rw [IntKind.wrap_i64]; omega
          have ew1 : IntKind.i64.wrap ((n : Int) + 1) = (n : Int) + 1 := by rw [IntKind.wrap_i64]; omega
          (try simp only [Int.add_zero])
          (first | rw [ew0] | rw [ew1])
          clear ew0 ew1
          rw [HHG.out]
          have l3o := l3
          clear l3
          have l3 := L3N.out
          refine wpAnyH_ready (rs := [19]) (by kernel_rfl) (by simp) (AllReadyH.cons rfl (fun K hK => ?_) AllReadyH.nil)
          go_simp
          refine hK.out _ _ ?_ (fun hHeld => ?_)
          · exact ⟨((B18_bx.out).far (p := ⟨gr, i * 4 + 3, none⟩) (by show w.heap.size ≠ gr; omega) _).cell 1, ((B18_bx.out).far (p := ⟨gr, i * 4 + 3, none⟩) (by show w.heap.size ≠ gr; omega) _).cell 4, l3⟩
          clear hK K
          clear l3 l3o
          refine wpAnyH_done (by kernel_rfl) ?_ _
          clear r3 rf3
          go_upto_region 23 with fail
          have hsz19 := HB18.out.size
          have hb19 : Below w.heap.size w (W18.setCell ⟨gr, i * 4 + 3, none⟩ (.int .i64 hg)) := (HB18.out).setCell (by show w.heap.size ≤ gr; omega) _
          have b_bx19 : Blk (W18.setCell ⟨gr, i * 4 + 3, none⟩ (.int .i64 hg)) (w.heap.size) 26 #[.int .i64 ep, .int .i64 l, .slice (some ⟨gi, 0, none⟩) is.length d1, .slice (some ⟨gk, 0, none⟩) ks.length d3, .slice (some ⟨gr, 0, none⟩) rs.length d5, .int .i64 fw, .int .i64 ba] := (B18_bx.out).far (p := ⟨gr, i * 4 + 3, none⟩) (by show w.heap.size ≠ gr; omega) _
          have b_bz19 : Blk (W18.setCell ⟨gr, i * 4 + 3, none⟩ (.int .i64 hg)) (w.heap.size + 1) 26 #[.int .i64 0, .int .i64 0, .slice none 0 0, .slice none 0 0, .slice none 0 0, .int .i64 0, .int .i64 0] := (B18_bz.out).far (p := ⟨gr, i * 4 + 3, none⟩) (by show w.heap.size + 1 ≠ gr; omega) _
          have b_bl19 : Blk (W18.setCell ⟨gr, i * 4 + 3, none⟩ (.int .i64 hg)) (W13.heap.size) 42 #[.slice A6 bd.length c6, .int .i64 (sc : Int)] := (B18_bl.out).far (p := ⟨gr, i * 4 + 3, none⟩) (by show W13.heap.size ≠ gr; omega) _
          have k_own19 := (PO.higher K18_own.out hti hg)
          have hz19 : W18.heap.size + 0 ≤ (W18.setCell ⟨gr, i * 4 + 3, none⟩ (.int .i64 hg)).heap.size := by first | omega | (simp; done) | (simp; omega)
          generalize W18.setCell ⟨gr, i * 4 + 3, none⟩ (.int .i64 hg) = W19 at *
          have HB19 := Lib.hid hb19
          have B19_bx := Lib.hid b_bx19
          have B19_bz := Lib.hid b_bz19
          have B19_bl := Lib.hid b_bl19
          have K19_own := Lib.hid k_own19
          clear hb19 b_bx19 b_bz19 b_bl19 k_own19
          clear B18_bx B18_bz B18_bl HB18 K18_own
          have c_bx0 := B19_bx.out.cell 0
          have f_bx0 := B19_bx.out.frozen 0
          have c_bx1 := B19_bx.out.cell 1
          have f_bx1 := B19_bx.out.frozen 1
          have c_bx2 := B19_bx.out.cell 2
          have f_bx2 := B19_bx.out.frozen 2
          have c_bx3 := B19_bx.out.cell 3
          have f_bx3 := B19_bx.out.frozen 3
          have c_bx4 := B19_bx.out.cell 4
          have f_bx4 := B19_bx.out.frozen 4
          have c_bx5 := B19_bx.out.cell 5
          have f_bx5 := B19_bx.out.frozen 5
          have c_bx6 := B19_bx.out.cell 6
          have f_bx6 := B19_bx.out.frozen 6
          have l_bx := B19_bx.out.lt
          have c_bz0 := B19_bz.out.cell 0
          have f_bz0 := B19_bz.out.frozen 0
          have c_bz1 := B19_bz.out.cell 1
          have f_bz1 := B19_bz.out.frozen 1
          have c_bz2 := B19_bz.out.cell 2
          have f_bz2 := B19_bz.out.frozen 2
          have c_bz3 := B19_bz.out.cell 3
          have f_bz3 := B19_bz.out.frozen 3
          have c_bz4 := B19_bz.out.cell 4
          have f_bz4 := B19_bz.out.frozen 4
          have c_bz5 := B19_bz.out.cell 5
          have f_bz5 := B19_bz.out.frozen 5
          have c_bz6 := B19_bz.out.cell 6
          have f_bz6 := B19_bz.out.frozen 6
          have l_bz := B19_bz.out.lt
          go_wp2_with fail
          clear c_bx0 f_bx0 c_bx1 f_bx1 c_bx2 f_bx2 c_bx3 f_bx3 c_bx4 f_bx4 c_bx5 f_bx5 c_bx6 f_bx6 l_bx c_bz0 f_bz0 c_bz1 f_bz1 c_bz2 f_bz2 c_bz3 f_bz3 c_bz4 f_bz4 c_bz5 f_bz5 c_bz6 f_bz6 l_bz
          have hszF := HB19.out.size
          have hbF : Below w.heap.size w (((((((W19.setCell ⟨w.heap.size + 1, 0, none⟩ (.int .i64 ep)).setCell ⟨w.heap.size + 1, 1, none⟩ (.int .i64 l)).setCell ⟨w.heap.size + 1, 2, none⟩ (.slice (some ⟨gi, 0, none⟩) is.length d1)).setCell ⟨w.heap.size + 1, 3, none⟩ (.slice (some ⟨gk, 0, none⟩) ks.length d3)).setCell ⟨w.heap.size + 1, 4, none⟩ (.slice (some ⟨gr, 0, none⟩) rs.length d5)).setCell ⟨w.heap.size + 1, 5, none⟩ (.int .i64 fw)).setCell ⟨w.heap.size + 1, 6, none⟩ (.int .i64 ba)) := (((((((HB19.out).setCell (by show w.heap.size ≤ w.heap.size + 1; omega) _).setCell (by show w.heap.size ≤ w.heap.size + 1; omega) _).setCell (by show w.heap.size ≤ w.heap.size + 1; omega) _).setCell (by show w.heap.size ≤ w.heap.size + 1; omega) _).setCell (by show w.heap.size ≤ w.heap.size + 1; omega) _).setCell (by show w.heap.size ≤ w.heap.size + 1; omega) _).setCell (by show w.heap.size ≤ w.heap.size + 1; omega) _
          have b_bxF : Blk (((((((W19.setCell ⟨w.heap.size + 1, 0, none⟩ (.int .i64 ep)).setCell ⟨w.heap.size + 1, 1, none⟩ (.int .i64 l)).setCell ⟨w.heap.size + 1, 2, none⟩ (.slice (some ⟨gi, 0, none⟩) is.length d1)).setCell ⟨w.heap.size + 1, 3, none⟩ (.slice (some ⟨gk, 0, none⟩) ks.length d3)).setCell ⟨w.heap.size + 1, 4, none⟩ (.slice (some ⟨gr, 0, none⟩) rs.length d5)).setCell ⟨w.heap.size + 1, 5, none⟩ (.int .i64 fw)).setCell ⟨w.heap.size + 1, 6, none⟩ (.int .i64 ba)) (w.heap.size) 26 #[.int .i64 ep, .int .i64 l, .slice (some ⟨gi, 0, none⟩) is.length d1, .slice (some ⟨gk, 0, none⟩) ks.length d3, .slice (some ⟨gr, 0, none⟩) rs.length d5, .int .i64 fw, .int .i64 ba] := (((((((B19_bx.out).far (p := ⟨w.heap.size + 1, 0, none⟩) (by show w.heap.size ≠ w.heap.size + 1; omega) _).far (p := ⟨w.heap.size + 1, 1, none⟩) (by show w.heap.size ≠ w.heap.size + 1; omega) _).far (p := ⟨w.heap.size + 1, 2, none⟩) (by show w.heap.size ≠ w.heap.size + 1; omega) _).far (p := ⟨w.heap.size + 1, 3, none⟩) (by show w.heap.size ≠ w.heap.size + 1; omega) _).far (p := ⟨w.heap.size + 1, 4, none⟩) (by show w.heap.size ≠ w.heap.size + 1; omega) _).far (p := ⟨w.heap.size + 1, 5, none⟩) (by show w.heap.size ≠ w.heap.size + 1; omega) _).far (p := ⟨w.heap.size + 1, 6, none⟩) (by show w.heap.size ≠ w.heap.size + 1; omega) _
          have b_bzF : Blk (((((((W19.setCell ⟨w.heap.size + 1, 0, none⟩ (.int .i64 ep)).setCell ⟨w.heap.size + 1, 1, none⟩ (.int .i64 l)).setCell ⟨w.heap.size + 1, 2, none⟩ (.slice (some ⟨gi, 0, none⟩) is.length d1)).setCell ⟨w.heap.size + 1, 3, none⟩ (.slice (some ⟨gk, 0, none⟩) ks.length d3)).setCell ⟨w.heap.size + 1, 4, none⟩ (.slice (some ⟨gr, 0, none⟩) rs.length d5)).setCell ⟨w.heap.size + 1, 5, none⟩ (.int .i64 fw)).setCell ⟨w.heap.size + 1, 6, none⟩ (.int .i64 ba)) (w.heap.size + 1) 26 #[.int .i64 ep, .int .i64 l, .slice (some ⟨gi, 0, none⟩) is.length d1, .slice (some ⟨gk, 0, none⟩) ks.length d3, .slice (some ⟨gr, 0, none⟩) rs.length d5, .int .i64 fw, .int .i64 ba] := (((((((B19_bz.out).set_ 0 _).set_ 1 _).set_ 2 _).set_ 3 _).set_ 4 _).set_ 5 _).set_ 6 _
          have b_blF : Blk (((((((W19.setCell ⟨w.heap.size + 1, 0, none⟩ (.int .i64 ep)).setCell ⟨w.heap.size + 1, 1, none⟩ (.int .i64 l)).setCell ⟨w.heap.size + 1, 2, none⟩ (.slice (some ⟨gi, 0, none⟩) is.length d1)).setCell ⟨w.heap.size + 1, 3, none⟩ (.slice (some ⟨gk, 0, none⟩) ks.length d3)).setCell ⟨w.heap.size + 1, 4, none⟩ (.slice (some ⟨gr, 0, none⟩) rs.length d5)).setCell ⟨w.heap.size + 1, 5, none⟩ (.int .i64 fw)).setCell ⟨w.heap.size + 1, 6, none⟩ (.int .i64 ba)) (W13.heap.size) 42 #[.slice A6 bd.length c6, .int .i64 (sc : Int)] := (((((((B19_bl.out).far (p := ⟨w.heap.size + 1, 0, none⟩) (by show W13.heap.size ≠ w.heap.size + 1; omega) _).far (p := ⟨w.heap.size + 1, 1, none⟩) (by show W13.heap.size ≠ w.heap.size + 1; omega) _).far (p := ⟨w.heap.size + 1, 2, none⟩) (by show W13.heap.size ≠ w.heap.size + 1; omega) _).far (p := ⟨w.heap.size + 1, 3, none⟩) (by show W13.heap.size ≠ w.heap.size + 1; omega) _).far (p := ⟨w.heap.size + 1, 4, none⟩) (by show W13.heap.size ≠ w.heap.size + 1; omega) _).far (p := ⟨w.heap.size + 1, 5, none⟩) (by show W13.heap.size ≠ w.heap.size + 1; omega) _).far (p := ⟨w.heap.size + 1, 6, none⟩) (by show W13.heap.size ≠ w.heap.size + 1; omega) _
          have k_ownF := (((((((K19_own.out).under (a := ⟨w.heap.size + 1, 0, none⟩) (by (try dsimp only); omega) (.int .i64 ep)).under (a := ⟨w.heap.size + 1, 1, none⟩) (by (try dsimp only); omega) (.int .i64 l)).under (a := ⟨w.heap.size + 1, 2, none⟩) (by (try dsimp only); omega) (.slice (some ⟨gi, 0, none⟩) is.length d1)).under (a := ⟨w.heap.size + 1, 3, none⟩) (by (try dsimp only); omega) (.slice (some ⟨gk, 0, none⟩) ks.length d3)).under (a := ⟨w.heap.size + 1, 4, none⟩) (by (try dsimp only); omega) (.slice (some ⟨gr, 0, none⟩) rs.length d5)).under (a := ⟨w.heap.size + 1, 5, none⟩) (by (try dsimp only); omega) (.int .i64 fw)).under (a := ⟨w.heap.size + 1, 6, none⟩) (by (try dsimp only); omega) (.int .i64 ba)
          have hsm : PSm ⟨ep, (l : Int), is, ks.set i (jm : Int), qt.set i { qt[i] with high := hg }, fw, ba⟩ := by
            refine ⟨HSM4.out.isr, HSM4.out.known, by simp only [List.length_set]; exact HSM4.out.reps, fun u hu => ?_⟩
            rcases mem_set_cases hu with rfl | hu
            · exact HSM4.out.bytes qt[i] (List.getElem_mem hti)
            · exact HSM4.out.bytes u hu
          have hpv := k_ownF.pv hsm
          rw [HTL_.out] at hpv
          have y0 := b_bzF.cell 0
          have y1 := b_bzF.cell 1
          have y2 := b_bzF.cell 2
          have y3 := b_bzF.cell 3
          have y4 := b_bzF.cell 4
          have y5 := b_bzF.cell 5
          have y6 := b_bzF.cell 6
          exact bodyPost_ret (v := .tuple #[.agg #[.int .i64 ep, .int .i64 l, .slice (some ⟨gi, 0, none⟩) is.length d1, .slice (some ⟨gk, 0, none⟩) ks.length d3, .slice (some ⟨gr, 0, none⟩) rs.length d5, .int .i64 fw, .int .i64 ba], .int .i64 1, .int .i64 0]) (by simp [results, Try.results65, go_sem, y0, y1, y2, y3, y4, y5, y6]) rfl (⟨_, rfl, hpv, hbF⟩)
end Go.Proofs.Ytpjjfnpdopdnkaa
