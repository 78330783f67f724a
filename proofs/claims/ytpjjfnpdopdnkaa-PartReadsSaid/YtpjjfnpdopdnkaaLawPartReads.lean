/- PartReadsSaid is proved: part.Read answers what tailraceref.PartRead answers, for every part, place and number. No condition. -/
import Derived.Test.YtpjjfnpdopdnkaaLawKit
import Derived.Test.YtpjjfnpdopdnkaaOpenPart
import Derived.Test.YtpjjfnpdopdnkaaPmRead
namespace Go.Proofs.Ytpjjfnpdopdnkaa.lawPartReads
open Go.ChangeShapes Go.WideShapes Go.ChangeAt Go.RowKit Go.Joins Go.Deep
open Go.ChangeMaps (open_string shut_string)

set_option maxRecDepth 100000 in
set_option maxHeartbeats 4000000 in
theorem walk (v : Value) (c : PartD) (frm most : Int) (L : List ByteArray) (n code : Int) (w : World) (h : Pv w v c) (hL : L.length ≤ 9223372036854775806)
    (hf : ∀ (v : Value) (w : World), Pv w v c → Calls Try.prog 62 #[v, .int .i64 frm, .int .i64 most] w (RRes L n code w)) (hg : ∀ (v : Value) (w : World), Pv w v c → Calls Try.prog 63 #[v, .int .i64 frm, .int .i64 most] w (RRes L n code w)) :
    Calls Try.prog 20 #[v, .int .i64 frm, .int .i64 most] w fun e w' => e = .returned (.bool true) ∧ Below w.heap.size w w' := by
  have HF := Lib.hid hf
  have HG := Lib.hid hg
  clear hf hg
  obtain ⟨A1, c1, A3, c3, A5, c5, rfl⟩ := h.form
  have H := Lib.hid h
  clear h
  unfold partV at *
  have zc : (code == code) = true := by simp
  have zn : (n == n) = true := by simp
  go_enter Try.func20, Try.ntmps20
  go_wp2_with fail
  have hb1 : Below w.heap.size w (w.alloc (.cells #[.int .i64 c.epoch, .int .i64 c.leader, .slice A1 c.isr.length c1, .slice A3 c.known.length c3, .slice A5 c.reps.length c5, .int .i64 c.few, .int .i64 c.base] 26)) := (Below.refl _ _).alloc (by first | omega | (simp; done) | (simp; omega)) _
  have hal1 : Below w.heap.size w (w.alloc (.cells #[.int .i64 c.epoch, .int .i64 c.leader, .slice A1 c.isr.length c1, .slice A3 c.known.length c3, .slice A5 c.reps.length c5, .int .i64 c.few, .int .i64 c.base] 26)) := (Below.refl _ _).alloc (by first | omega | (simp; done) | (simp; omega)) _
  have b_bx1 : Blk (w.alloc (.cells #[.int .i64 c.epoch, .int .i64 c.leader, .slice A1 c.isr.length c1, .slice A3 c.known.length c3, .slice A5 c.reps.length c5, .int .i64 c.few, .int .i64 c.base] 26)) (w.heap.size) 26 #[.int .i64 c.epoch, .int .i64 c.leader, .slice A1 c.isr.length c1, .slice A3 c.known.length c3, .slice A5 c.reps.length c5, .int .i64 c.few, .int .i64 c.base] := Blk.new_ _ 26 #[.int .i64 c.epoch, .int .i64 c.leader, .slice A1 c.isr.length c1, .slice A3 c.known.length c3, .slice A5 c.reps.length c5, .int .i64 c.few, .int .i64 c.base] (by first | rfl | (simp; done) | (simp; omega))
  have k_v1 := H.out.below hal1
  have hz1 : w.heap.size + 1 ≤ (w.alloc (.cells #[.int .i64 c.epoch, .int .i64 c.leader, .slice A1 c.isr.length c1, .slice A3 c.known.length c3, .slice A5 c.reps.length c5, .int .i64 c.few, .int .i64 c.base] 26)).heap.size := by first | omega | (simp; done) | (simp; omega)
  generalize w.alloc (.cells #[.int .i64 c.epoch, .int .i64 c.leader, .slice A1 c.isr.length c1, .slice A3 c.known.length c3, .slice A5 c.reps.length c5, .int .i64 c.few, .int .i64 c.base] 26) = W1 at *
  have HB1 := Lib.hid hb1
  have B1_bx := Lib.hid b_bx1
  have K1_v := Lib.hid k_v1
  clear hb1 b_bx1 k_v1
  clear H
  have c_bx0 := B1_bx.out.cell 0
  have c_bx1 := B1_bx.out.cell 1
  have c_bx2 := B1_bx.out.cell 2
  have c_bx3 := B1_bx.out.cell 3
  have c_bx4 := B1_bx.out.cell 4
  have c_bx5 := B1_bx.out.cell 5
  have c_bx6 := B1_bx.out.cell 6
  have l_bx := B1_bx.out.lt
  go_wp2_with fail
  clear c_bx0 c_bx1 c_bx2 c_bx3 c_bx4 c_bx5 c_bx6 l_bx
  refine (HF.out _ _ K1_v.out).mono ?_
  rintro e W2 ⟨v2, rfl, ha, hb⟩
  obtain ⟨A7, e7, rfl, -⟩ := ha.form
  have HA := Lib.hid ha
  clear ha
  have hb2 : Below w.heap.size w W2 := below_then HB1.out hb
  have b_bx2 := B1_bx.out.below hb B1_bx.out.lt
  have k_v2 := K1_v.out.below hb
  have hz2 := hb.size
  have HB2 := Lib.hid hb2
  have B2_bx := Lib.hid b_bx2
  have K2_v := Lib.hid k_v2
  clear hb2 b_bx2 k_v2
  clear B1_bx HB1 K1_v
  have c_bx0 := B2_bx.out.cell 0
  have c_bx1 := B2_bx.out.cell 1
  have c_bx2 := B2_bx.out.cell 2
  have c_bx3 := B2_bx.out.cell 3
  have c_bx4 := B2_bx.out.cell 4
  have c_bx5 := B2_bx.out.cell 5
  have c_bx6 := B2_bx.out.cell 6
  have l_bx := B2_bx.out.lt
  go_wp2_with fail
  clear c_bx0 c_bx1 c_bx2 c_bx3 c_bx4 c_bx5 c_bx6 l_bx
  refine (HG.out _ _ K2_v.out).mono ?_
  rintro e W3 ⟨v3, rfl, ha, hb⟩
  obtain ⟨A8, e8, rfl, -⟩ := ha.form
  have HB_ := Lib.hid ha
  clear ha
  have hb3 : Below w.heap.size w W3 := below_then HB2.out hb
  have b_bx3 := B2_bx.out.below hb B2_bx.out.lt
  have k_v3 := K2_v.out.below hb
  have k_a3 := Sl.below HA.out hb
  have hz3 := hb.size
  have HB3 := Lib.hid hb3
  have B3_bx := Lib.hid b_bx3
  have K3_v := Lib.hid k_v3
  have K3_a := Lib.hid k_a3
  clear hb3 b_bx3 k_v3 k_a3
  clear B2_bx HB2 K2_v HA
  go_wp2_with fail
  refine (sameTexts_same _ _ L _ K3_a.out HB_.out hL).mono ?_
  rintro e w9 ⟨rfl, hb⟩
  have hbf := below_then HB3.out hb
  go_wp2
  go_ret
  exact ⟨rfl, hbf⟩

set_option maxRecDepth 100000 in
theorem contract (H : Type) (enc : TypeId × Value → H) (W : World) (base : Nat) (args : Array Value) (ds gs : List (DataW H)) (before : List MemPlace)
    (hval : ∀ (j : Nat) t v, Try.f20.params[j]? = some t → args[j]? = some v → Value.okWide Try.prog W .any base t v)
    (hW : DataW.Whole enc Try.prog Try.f20.params.toList Rows.partReadsSpec.vars false W args.toList ds gs before) :
    Calls Try.prog 20 args W fun e W' => ∃ v, e = .returned v ∧ Rows.partReadsSpec.post enc Try.prog Try.f20 false true false false W args v W' := by
  have hW' := hW
  obtain ⟨p, q, hA0, hV, rfl, hfz, hnd⟩ := hW
  have hA : DataW.TrodAll enc Try.prog W 0 (fun _ => true) true Try.f20.params.toList args.toList ds p := hA0
  rw [Try.params20] at hA hval
  obtain ⟨v0, vs0, d0, ds0, p0, q0, hargs, rfl, rfl, h0, r0⟩ := trodAll_cons hA
  obtain ⟨v1, vs1, d1, ds1, p1, q1, rfl, rfl, rfl, h1, r1⟩ := trodAll_cons r0
  obtain ⟨v2, vs2, d2, ds2, p2, q2, rfl, rfl, rfl, h2, r2⟩ := trodAll_cons r1
  obtain ⟨rfl, rfl, rfl⟩ := trodAll_nil r2
  obtain rfl : args = #[v0, v1, v2] := by cases args; simp_all
  obtain ⟨rfl, rfl⟩ := trodVars_none hV
  obtain ⟨x, ptx, wfx, smx⟩ := open_part (hval 0 26 v0 rfl rfl) h0
  obtain ⟨n0, en0, -, -, wn0⟩ := open_int Try.underlying3 (hval 1 3 v1 rfl rfl) h1
  subst en0
  obtain ⟨n1, en1, -, -, wn1⟩ := open_int Try.underlying3 (hval 2 3 v2 rfl rfl) h2
  subst en1
  refine Calls.mono (R := fun e W' => e = .returned (.bool true) ∧ Below W.heap.size W W') ?_ fun e W' ⟨he, hb⟩ => ?_
  · by_cases hn : PartOk x
    · by_cases hl : x.leader < 0
      · exact walk v0 x n0 n1 [] 0 8 W ptx (by simp) (fun v w h => pread_none v x n0 n1 hn hl w h) (fun v w h => partRead_none v x n0 n1 hn hl w h)
      · obtain ⟨l, hl'⟩ : ∃ l : Nat, x.leader = l := ⟨x.leader.toNat, by omega⟩
        have hll : l < x.reps.length := by have := hn.leader; omega
        obtain ⟨es, j, hlog⟩ := hn.log l hll
        obtain ⟨-, r1, r2, -⟩ := hn.reps l hll hll (by rw [hn.known]; exact hll)
        obtain ⟨m, hm⟩ : ∃ m : Nat, x.reps[l].high = m := ⟨x.reps[l].high.toNat, by omega⟩
        have hle : m ≤ es.length := by have := (RepD.ents hlog).1; omega
        have hel := hlog.many
        by_cases hr : n0 < 0 ∨ (es.length : Int) < n0 ∨ n1 < 1 ∨ 20 < n1
        · exact walk v0 x n0 n1 [] 0 2 W ptx (by simp) (fun v w h => pread_range v x n0 n1 hn l hl' hll hlog m hm hle hr w h) (fun v w h => partRead_range v x n0 n1 hn l hl' hll hlog m hm hle hr w h)
        · obtain ⟨f, hf⟩ : ∃ f : Nat, n0 = f := ⟨n0.toNat, by omega⟩
          obtain ⟨r, hst⟩ := stab_ex_ hlog.plain hle
          obtain ⟨k, hs⟩ := stops_ex es m f r n1
          have hk : (textsTo es m f k).length ≤ 9223372036854775806 := by
            have h1 := textsTo_len (es := es) (h := m) (frm := f) k
            by_cases hk0 : k = 0
            · rw [hk0] at h1 ⊢; omega
            · have h2 := (hs.1 (k - 1) (by omega)).1
              have h3 := hst.1
              omega
          exact walk v0 x n0 n1 _ _ 0 W ptx hk (fun v w h => pread_ok v x n0 n1 hn l hl' hll hlog m hm hle f hf (by omega) (by omega) (by omega) hst hs w h) (fun v w h => partRead_ok v x n0 n1 hn l hl' hll hlog m hm hle f hf (by omega) (by omega) (by omega) hst hs w h)
    · exact walk v0 x n0 n1 [] 0 12 W ptx (by simp) (fun v w h => pread_state v x n0 n1 hn w h) (fun v w h => partRead_state v x n0 n1 hn w h)
  · subst he
    exact ⟨_, rfl, law_post laid_ rfl rfl (by rfl) Try.underlying4 (by rw [Try.params20]; exact rec_ok (by kernel_rfl)) hW' hb⟩

set_option maxRecDepth 100000 in
theorem lifted (os : Os) (started : os.Started) (H : Type) (enc : TypeId × Value → H) :
    ReturnsInHanded {} Try.checked os 20 .any (Rows.partReadsSpec.pre6 enc Try.prog Try.f20 Rows.partReadsRow.domain false) (Rows.partReadsSpec.post enc Try.prog Try.f20 false true false false) := by
  refine returnsInHanded_of_change (C := Try.checked) own_ started (by kernel_rfl) Try.func20
    (ChangeSpec.witness6 (enc := enc) (C := Try.checked) false ⟨#[], #[.agg #[.int .i64 0, .int .i64 0, .slice none 0 0, .slice none 0 0, .slice none 0 0, .int .i64 0, .int .i64 0], .int .i64 0, .int .i64 0], []⟩ 8 (by kernel_rfl) (by kernel_rfl) (by kernel_rfl) (by kernel_rfl)) ?_
  intro W base args ds gs before hval hW _ _
  exact contract H enc W base args ds gs before hval hW

theorem closed : joinedFacts Try.prog 20 Try.f20 Rows.partReadsSpec Rows.partReadsRow = true := by
  unfold joinedFacts
  rw [mayEnter_, lifts_, make_]
  kernel_rfl

theorem proved : Rows.PartReadsSaid :=
  OpenClaim.holds_of_wide 20 Try.f20 rfl rfl rfl rfl rfl rfl rfl ⟨rfl, rfl, rfl, rfl, rfl⟩ rfl rfl rfl rfl rfl (by kernel_rfl) Try.func20 closed
    (of_decide_eq_true (by kernel_rfl)) (by unfold Func.isWrapper; first | (rw [if_pos (by decide +kernel)]; kernel_rfl) | (rw [if_neg (by decide +kernel)]; exact ⟨rfl, rfl⟩))
    (fun os started H enc _ => lifted os started H enc)

end Go.Proofs.Ytpjjfnpdopdnkaa.lawPartReads
