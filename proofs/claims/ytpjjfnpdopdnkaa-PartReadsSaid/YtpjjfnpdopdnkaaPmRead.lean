/- part.Read, tailraceref.PartRead. -/
import Derived.Test.YtpjjfnpdopdnkaaPartQ
import Derived.Test.YtpjjfnpdopdnkaaViewK
import Derived.Deep.RegionHeld3
import Derived.Deep.DrawnRows
namespace Go.Proofs.Ytpjjfnpdopdnkaa
open Go.RowKit
attribute [local go_sem ↓] Go.wp_at_zero Go.wp_at_succ

theorem LogIs.plain {l : LogD} {es : List Ent} {j : Nat} (h : LogIs l es j) : PlainE es := fun k hk => by
  have := fault_kind (h.ok es[k] (List.getElem_mem hk))
  omega
theorem stops_ex (es : List Ent) (h frm : Nat) (end_ most : Int) : ∃ n, StopsAt es h frm end_ most n := by
  obtain ⟨m, hm⟩ : ∃ m : Nat, ¬ (((frm + m : Nat) : Int) < end_ ∧ ((textsTo es h frm m).length : Int) < most) := ⟨end_.toNat, fun hh => by omega⟩
  induction m using Nat.strongRecOn with
  | ind m ih =>
    by_cases hj : ∃ j : Nat, j < m ∧ ¬ (((frm + j : Nat) : Int) < end_ ∧ ((textsTo es h frm j).length : Int) < most)
    · obtain ⟨j, j1, j2⟩ := hj
      exact ih j j1 j2
    · refine ⟨m, fun j hj' => ?_, hm⟩
      by_cases hc : ((frm + j : Nat) : Int) < end_ ∧ ((textsTo es h frm j).length : Int) < most
      · exact hc
      · exact absurd ⟨j, hj', hc⟩ hj
theorem stab_ex_ {es : List Ent} (hp : PlainE es) {n : Nat} (hn : n ≤ es.length) : ∃ r, StabIs es n r := by
  by_cases hx : ∃ k : Nat, k < n ∧ OpenAt es n k
  · obtain ⟨k, hk⟩ := hx
    induction k using Nat.strongRecOn with
    | ind k ih =>
      by_cases hj : ∃ j : Nat, j < k ∧ OpenAt es n j
      · obtain ⟨j, j1, j2⟩ := hj
        exact ih j j1 ⟨by omega, j2⟩
      · exact ⟨k, stab_at hp hn hk.1 hk.2 (fun i h1 h2 => hj ⟨i, h1, h2⟩)⟩
  · exact ⟨n, stab_none hp hn (fun i h1 h2 => hx ⟨i, h1, h2⟩)⟩
/-- the call answers these texts, a place and a code -/
def RRes (L : List ByteArray) (n code : Int) (w : World) (e : Ending) (w' : World) : Prop := ∃ v, e = .returned (.tuple #[v, .int .i64 n, .int .i64 code]) ∧ Sl w' 1 v L.length (strs L) ∧ Below w.heap.size w w'
theorem RRes.nil {n code : Int} {w w' : World} (hb : Below w.heap.size w w') : RRes [] n code w (.returned (.tuple #[.slice none 0 0, .int .i64 n, .int .i64 code])) w' := ⟨_, rfl, Sl.nil_ _ _, hb⟩
set_option maxRecDepth 100000 in
set_option maxHeartbeats 4000000 in
theorem pread_state (v : Value) (c : PartD) (frm most : Int) (hn : ¬ PartOk c) (w : World) (h : Pv w v c) : Calls Try.prog 62 #[v, .int .i64 frm, .int .i64 most] w (RRes [] 0 12 w) := by
  obtain ⟨xi, xk, xr, rfl, ix, kx, rx, hli, hlk, hlr⟩ := id h
  obtain ⟨A5, c5, rfl, hc5, -⟩ := rx.at_
  obtain ⟨A1, c1, rfl, hc1, -⟩ := ix.at_
  obtain ⟨A3, c3, rfl, hc3, -⟩ := kx.at_
  have H := Lib.hid h
  clear h ix kx rx
  unfold partV at *
  obtain ⟨ep, ld, is, ks, rs, fw, ba⟩ := c
  simp only at *
  have HN := Lib.hid hn
  clear hn
  go_enter Try.func62, Try.ntmps62
  go_wp2_with fail
  have hb1 : Below w.heap.size w (w.alloc (.cells #[.int .i64 ep, .int .i64 ld, .slice A1 is.length c1, .slice A3 ks.length c3, .slice A5 rs.length c5, .int .i64 fw, .int .i64 ba] 26)) := (Below.refl _ _).alloc (by first | omega | (simp; done) | (simp; omega)) _
  have hal1 : Below w.heap.size w (w.alloc (.cells #[.int .i64 ep, .int .i64 ld, .slice A1 is.length c1, .slice A3 ks.length c3, .slice A5 rs.length c5, .int .i64 fw, .int .i64 ba] 26)) := (Below.refl _ _).alloc (by first | omega | (simp; done) | (simp; omega)) _
  have b_bx1 : Blk (w.alloc (.cells #[.int .i64 ep, .int .i64 ld, .slice A1 is.length c1, .slice A3 ks.length c3, .slice A5 rs.length c5, .int .i64 fw, .int .i64 ba] 26)) (w.heap.size) 26 #[.int .i64 ep, .int .i64 ld, .slice A1 is.length c1, .slice A3 ks.length c3, .slice A5 rs.length c5, .int .i64 fw, .int .i64 ba] := Blk.new_ _ 26 #[.int .i64 ep, .int .i64 ld, .slice A1 is.length c1, .slice A3 ks.length c3, .slice A5 rs.length c5, .int .i64 fw, .int .i64 ba] (by first | rfl | (simp; done) | (simp; omega))
  have k_v1 := H.out.below hal1
  have hz1 : w.heap.size + 1 ≤ (w.alloc (.cells #[.int .i64 ep, .int .i64 ld, .slice A1 is.length c1, .slice A3 ks.length c3, .slice A5 rs.length c5, .int .i64 fw, .int .i64 ba] 26)).heap.size := by first | omega | (simp; done) | (simp; omega)
  generalize w.alloc (.cells #[.int .i64 ep, .int .i64 ld, .slice A1 is.length c1, .slice A3 ks.length c3, .slice A5 rs.length c5, .int .i64 fw, .int .i64 ba] 26) = W1 at *
  have HB1 := Lib.hid hb1
  have B1_bx := Lib.hid b_bx1
  have K1_v := Lib.hid k_v1
  clear hb1 b_bx1 k_v1
  clear H
  have c_bx0 := B1_bx.out.cell 0
  have c_bx1 := B1_bx.out.cell 1
  have c_bx2 := B1_bx.out.cell 2
  have c_bx3 := B1_bx.out.cell 3
  have c_bx4 := B1_bx.out.cell 4
  have c_bx5 := B1_bx.out.cell 5
  have c_bx6 := B1_bx.out.cell 6
  have l_bx := B1_bx.out.lt
  go_wp2_with fail
  clear c_bx0 c_bx1 c_bx2 c_bx3 c_bx4 c_bx5 c_bx6 l_bx
  refine (partCheck_any _ ⟨ep, ld, is, ks, rs, fw, ba⟩ _ K1_v.out).mono ?_
  rintro e W2 hA
  obtain ⟨rfl, hb⟩ := hA.no HN.out
  have hb2 : Below w.heap.size w W2 := below_then HB1.out hb
  have b_bx2 := B1_bx.out.below hb B1_bx.out.lt
  have k_v2 := K1_v.out.below hb
  have hz2 := hb.size
  have HB2 := Lib.hid hb2
  have B2_bx := Lib.hid b_bx2
  have K2_v := Lib.hid k_v2
  clear hb2 b_bx2 k_v2
  clear B1_bx HB1 K1_v
  have c_bx0 := B2_bx.out.cell 0
  have c_bx1 := B2_bx.out.cell 1
  have c_bx2 := B2_bx.out.cell 2
  have c_bx3 := B2_bx.out.cell 3
  have c_bx4 := B2_bx.out.cell 4
  have c_bx5 := B2_bx.out.cell 5
  have c_bx6 := B2_bx.out.cell 6
  have l_bx := B2_bx.out.lt
  go_wp2
  exact bodyPost_ret (v := .tuple #[.slice none 0 0, .int .i64 0, .int .i64 12]) (by simp [results, Try.results62, go_sem]) rfl (RRes.nil HB2.out)
set_option maxRecDepth 100000 in
set_option maxHeartbeats 4000000 in
theorem pread_none (v : Value) (c : PartD) (frm most : Int) (hn : PartOk c) (hl : c.leader < 0) (w : World) (h : Pv w v c) : Calls Try.prog 62 #[v, .int .i64 frm, .int .i64 most] w (RRes [] 0 8 w) := by
  obtain ⟨xi, xk, xr, rfl, ix, kx, rx, hli, hlk, hlr⟩ := id h
  obtain ⟨A5, c5, rfl, hc5, -⟩ := rx.at_
  obtain ⟨A1, c1, rfl, hc1, -⟩ := ix.at_
  obtain ⟨A3, c3, rfl, hc3, -⟩ := kx.at_
  have H := Lib.hid h
  clear h ix kx rx
  unfold partV at *
  obtain ⟨ep, ld, is, ks, rs, fw, ba⟩ := c
  simp only at *
  have HN := Lib.hid hn
  have y0 : decide (ld < 0) = true := decide_eq_true hl
  clear hn hl
  go_enter Try.func62, Try.ntmps62
  go_wp2_with fail
  have hb1 : Below w.heap.size w (w.alloc (.cells #[.int .i64 ep, .int .i64 ld, .slice A1 is.length c1, .slice A3 ks.length c3, .slice A5 rs.length c5, .int .i64 fw, .int .i64 ba] 26)) := (Below.refl _ _).alloc (by first | omega | (simp; done) | (simp; omega)) _
  have hal1 : Below w.heap.size w (w.alloc (.cells #[.int .i64 ep, .int .i64 ld, .slice A1 is.length c1, .slice A3 ks.length c3, .slice A5 rs.length c5, .int .i64 fw, .int .i64 ba] 26)) := (Below.refl _ _).alloc (by first | omega | (simp; done) | (simp; omega)) _
  have b_bx1 : Blk (w.alloc (.cells #[.int .i64 ep, .int .i64 ld, .slice A1 is.length c1, .slice A3 ks.length c3, .slice A5 rs.length c5, .int .i64 fw, .int .i64 ba] 26)) (w.heap.size) 26 #[.int .i64 ep, .int .i64 ld, .slice A1 is.length c1, .slice A3 ks.length c3, .slice A5 rs.length c5, .int .i64 fw, .int .i64 ba] := Blk.new_ _ 26 #[.int .i64 ep, .int .i64 ld, .slice A1 is.length c1, .slice A3 ks.length c3, .slice A5 rs.length c5, .int .i64 fw, .int .i64 ba] (by first | rfl | (simp; done) | (simp; omega))
  have k_v1 := H.out.below hal1
  have hz1 : w.heap.size + 1 ≤ (w.alloc (.cells #[.int .i64 ep, .int .i64 ld, .slice A1 is.length c1, .slice A3 ks.length c3, .slice A5 rs.length c5, .int .i64 fw, .int .i64 ba] 26)).heap.size := by first | omega | (simp; done) | (simp; omega)
  generalize w.alloc (.cells #[.int .i64 ep, .int .i64 ld, .slice A1 is.length c1, .slice A3 ks.length c3, .slice A5 rs.length c5, .int .i64 fw, .int .i64 ba] 26) = W1 at *
  have HB1 := Lib.hid hb1
  have B1_bx := Lib.hid b_bx1
  have K1_v := Lib.hid k_v1
  clear hb1 b_bx1 k_v1
  clear H
  have c_bx0 := B1_bx.out.cell 0
  have c_bx1 := B1_bx.out.cell 1
  have c_bx2 := B1_bx.out.cell 2
  have c_bx3 := B1_bx.out.cell 3
  have c_bx4 := B1_bx.out.cell 4
  have c_bx5 := B1_bx.out.cell 5
  have c_bx6 := B1_bx.out.cell 6
  have l_bx := B1_bx.out.lt
  go_wp2_with fail
  clear c_bx0 c_bx1 c_bx2 c_bx3 c_bx4 c_bx5 c_bx6 l_bx
  refine (partCheck_any _ ⟨ep, ld, is, ks, rs, fw, ba⟩ _ K1_v.out).mono ?_
  rintro e W2 hA
  obtain ⟨rfl, hb⟩ := hA.yes HN.out
  have hb2 : Below w.heap.size w W2 := below_then HB1.out hb
  have b_bx2 := B1_bx.out.below hb B1_bx.out.lt
  have k_v2 := K1_v.out.below hb
  have hz2 := hb.size
  have HB2 := Lib.hid hb2
  have B2_bx := Lib.hid b_bx2
  have K2_v := Lib.hid k_v2
  clear hb2 b_bx2 k_v2
  clear B1_bx HB1 K1_v
  have c_bx0 := B2_bx.out.cell 0
  have c_bx1 := B2_bx.out.cell 1
  have c_bx2 := B2_bx.out.cell 2
  have c_bx3 := B2_bx.out.cell 3
  have c_bx4 := B2_bx.out.cell 4
  have c_bx5 := B2_bx.out.cell 5
  have c_bx6 := B2_bx.out.cell 6
  have l_bx := B2_bx.out.lt
  go_wp2
  exact bodyPost_ret (v := .tuple #[.slice none 0 0, .int .i64 0, .int .i64 8]) (by simp [results, Try.results62, go_sem]) rfl (RRes.nil HB2.out)
set_option maxRecDepth 100000 in
set_option maxHeartbeats 4000000 in
theorem pread_range (v : Value) (c : PartD) (frm most : Int) (hn : PartOk c) (l : Nat) (hl : c.leader = l) (hll : l < c.reps.length) {es : List Ent} {j : Nat} (hlog : LogIs c.reps[l].log es j) (n : Nat) (hhi : c.reps[l].high = n) (hle : n ≤ es.length) (hr : frm < 0 ∨ (es.length : Int) < frm ∨ most < 1 ∨ 20 < most) (w : World) (h : Pv w v c) : Calls Try.prog 62 #[v, .int .i64 frm, .int .i64 most] w (RRes [] 0 2 w) := by
  obtain ⟨xi, xk, xr, rfl, ix, kx, rx, hli, hlk, hlr⟩ := id h
  obtain ⟨A5, c5, rfl, hc5, hx5⟩ := rx.at_
  obtain ⟨A1, c1, rfl, hc1, -⟩ := ix.at_
  obtain ⟨A3, c3, rfl, hc3, -⟩ := kx.at_
  have H := Lib.hid h
  clear h ix kx rx
  unfold partV at *
  obtain ⟨ep, ld, is, ks, rs, fw, ba⟩ := c
  simp only at *
  obtain rfl : ld = (l : Int) := hl
  obtain ⟨b5, o5, rfl, hb5, hcell5⟩ := hx5 (Nat.lt_of_le_of_lt (Nat.zero_le _) hll)
  obtain ⟨pv, x0, x1, x2, x3, xb, xl⟩ := hcell5 l hll
  obtain ⟨A6, c6, rfl, -, -⟩ := xb.at_
  have XC := Lib.hid (And.intro x0 (And.intro x1 (And.intro x2 (And.intro x3 xb))))
  have HN := Lib.hid hn
  have HLG := Lib.hid hlog
  have HHI := Lib.hid hhi
  have HSM := Lib.hid hn.small
  have hel : es.length ≤ 400 := hlog.many
  have y0 : decide ((l : Int) < 0) = false := decide_eq_false (by omega)
  have l0 : (0 : Int) ≤ (l : Int) := by omega
  have l1 : (l : Int) < (rs.length : Int) := Int.ofNat_lt.2 hll
  clear hcell5 hx5 x0 x1 x2 x3 xb xl hn hlog hhi
  have HR := Lib.hid hr
  clear hr
  go_enter Try.func62, Try.ntmps62
  go_wp2_with fail
  have hb1 : Below w.heap.size w (w.alloc (.cells #[.int .i64 ep, .int .i64 l, .slice A1 is.length c1, .slice A3 ks.length c3, .slice (some ⟨b5, o5, none⟩) rs.length c5, .int .i64 fw, .int .i64 ba] 26)) := (Below.refl _ _).alloc (by first | omega | (simp; done) | (simp; omega)) _
  have hal1 : Below w.heap.size w (w.alloc (.cells #[.int .i64 ep, .int .i64 l, .slice A1 is.length c1, .slice A3 ks.length c3, .slice (some ⟨b5, o5, none⟩) rs.length c5, .int .i64 fw, .int .i64 ba] 26)) := (Below.refl _ _).alloc (by first | omega | (simp; done) | (simp; omega)) _
  have b_bx1 : Blk (w.alloc (.cells #[.int .i64 ep, .int .i64 l, .slice A1 is.length c1, .slice A3 ks.length c3, .slice (some ⟨b5, o5, none⟩) rs.length c5, .int .i64 fw, .int .i64 ba] 26)) (w.heap.size) 26 #[.int .i64 ep, .int .i64 l, .slice A1 is.length c1, .slice A3 ks.length c3, .slice (some ⟨b5, o5, none⟩) rs.length c5, .int .i64 fw, .int .i64 ba] := Blk.new_ _ 26 #[.int .i64 ep, .int .i64 l, .slice A1 is.length c1, .slice A3 ks.length c3, .slice (some ⟨b5, o5, none⟩) rs.length c5, .int .i64 fw, .int .i64 ba] (by first | rfl | (simp; done) | (simp; omega))
  have k_v1 := H.out.below hal1
  have hz1 : w.heap.size + 1 ≤ (w.alloc (.cells #[.int .i64 ep, .int .i64 l, .slice A1 is.length c1, .slice A3 ks.length c3, .slice (some ⟨b5, o5, none⟩) rs.length c5, .int .i64 fw, .int .i64 ba] 26)).heap.size := by first | omega | (simp; done) | (simp; omega)
  generalize w.alloc (.cells #[.int .i64 ep, .int .i64 l, .slice A1 is.length c1, .slice A3 ks.length c3, .slice (some ⟨b5, o5, none⟩) rs.length c5, .int .i64 fw, .int .i64 ba] 26) = W1 at *
  have HB1 := Lib.hid hb1
  have B1_bx := Lib.hid b_bx1
  have K1_v := Lib.hid k_v1
  clear hb1 b_bx1 k_v1
  clear H
  have c_bx0 := B1_bx.out.cell 0
  have c_bx1 := B1_bx.out.cell 1
  have c_bx2 := B1_bx.out.cell 2
  have c_bx3 := B1_bx.out.cell 3
  have c_bx4 := B1_bx.out.cell 4
  have c_bx5 := B1_bx.out.cell 5
  have c_bx6 := B1_bx.out.cell 6
  have l_bx := B1_bx.out.lt
  go_wp2_with fail
  clear c_bx0 c_bx1 c_bx2 c_bx3 c_bx4 c_bx5 c_bx6 l_bx
  refine (partCheck_any _ ⟨ep, (l : Int), is, ks, rs, fw, ba⟩ _ K1_v.out).mono ?_
  rintro e W2 hA
  obtain ⟨rfl, hb⟩ := hA.yes HN.out
  have hb2 : Below w.heap.size w W2 := below_then HB1.out hb
  have b_bx2 := B1_bx.out.below hb B1_bx.out.lt
  have k_v2 := K1_v.out.below hb
  have hz2 := hb.size
  have HB2 := Lib.hid hb2
  have B2_bx := Lib.hid b_bx2
  have K2_v := Lib.hid k_v2
  clear hb2 b_bx2 k_v2
  clear B1_bx HB1 K1_v
  have v0 := (HB2.out.cell (p := ⟨b5, o5 + l * 4, none⟩) hb5).trans XC.out.1
  have v1 := (HB2.out.cell (p := ⟨b5, o5 + l * 4 + 1, none⟩) hb5).trans XC.out.2.1
  have v2 := (HB2.out.cell (p := ⟨b5, o5 + l * 4 + 2, none⟩) hb5).trans XC.out.2.2.1
  have v3 := (HB2.out.cell (p := ⟨b5, o5 + l * 4 + 3, none⟩) hb5).trans XC.out.2.2.2.1
  have vl := Nat.lt_of_lt_of_le hb5 HB2.out.size
  have c_bx0 := B2_bx.out.cell 0
  have c_bx1 := B2_bx.out.cell 1
  have c_bx2 := B2_bx.out.cell 2
  have c_bx3 := B2_bx.out.cell 3
  have c_bx4 := B2_bx.out.cell 4
  have c_bx5 := B2_bx.out.cell 5
  have c_bx6 := B2_bx.out.cell 6
  have l_bx := B2_bx.out.lt
  go_upto_region 7 with fail
  clear v0 v1 v2 v3 vl c_bx0 c_bx1 c_bx2 c_bx3 c_bx4 c_bx5 c_bx6 l_bx
  have hsz3 := HB2.out.size
  have hb3 : Below w.heap.size w (W2.alloc (.cells #[.bool rs[l].up, .slice A6 rs[l].bytes.length c6, .int .i64 rs[l].synced, .int .i64 rs[l].high] 71)) := (HB2.out).alloc (by first | omega | (simp; done) | (simp; omega)) _
  have hal3 : Below W2.heap.size W2 (W2.alloc (.cells #[.bool rs[l].up, .slice A6 rs[l].bytes.length c6, .int .i64 rs[l].synced, .int .i64 rs[l].high] 71)) := (Below.refl _ _).alloc (by first | omega | (simp; done) | (simp; omega)) _
  have b_bx3 : Blk (W2.alloc (.cells #[.bool rs[l].up, .slice A6 rs[l].bytes.length c6, .int .i64 rs[l].synced, .int .i64 rs[l].high] 71)) (w.heap.size) 26 #[.int .i64 ep, .int .i64 l, .slice A1 is.length c1, .slice A3 ks.length c3, .slice (some ⟨b5, o5, none⟩) rs.length c5, .int .i64 fw, .int .i64 ba] := (B2_bx.out).alloc _
  have b_br3 : Blk (W2.alloc (.cells #[.bool rs[l].up, .slice A6 rs[l].bytes.length c6, .int .i64 rs[l].synced, .int .i64 rs[l].high] 71)) (W2.heap.size) 71 #[.bool rs[l].up, .slice A6 rs[l].bytes.length c6, .int .i64 rs[l].synced, .int .i64 rs[l].high] := Blk.new_ _ 71 #[.bool rs[l].up, .slice A6 rs[l].bytes.length c6, .int .i64 rs[l].synced, .int .i64 rs[l].high] (by first | rfl | (simp; done) | (simp; omega))
  have k_v3 := K2_v.out.below hal3
  have hz3 : W2.heap.size + 1 ≤ (W2.alloc (.cells #[.bool rs[l].up, .slice A6 rs[l].bytes.length c6, .int .i64 rs[l].synced, .int .i64 rs[l].high] 71)).heap.size := by first | omega | (simp; done) | (simp; omega)
  generalize W2.alloc (.cells #[.bool rs[l].up, .slice A6 rs[l].bytes.length c6, .int .i64 rs[l].synced, .int .i64 rs[l].high] 71) = W3 at *
  have HB3 := Lib.hid hb3
  have B3_bx := Lib.hid b_bx3
  have B3_br := Lib.hid b_br3
  have K3_v := Lib.hid k_v3
  clear hb3 b_bx3 b_br3 k_v3
  clear B2_bx HB2 K2_v
  have c_br0 := B3_br.out.cell 0
  have c_br1 := B3_br.out.cell 1
  have c_br2 := B3_br.out.cell 2
  have c_br3 := B3_br.out.cell 3
  have l_br := B3_br.out.lt
  go_wp2_with fail
  clear c_br0 c_br1 c_br2 c_br3 l_br
  refine (segEntries_ok _ rs[l].bytes rs[l].synced _ (XC.out.2.2.2.2.below HB3.out) HLG.out).mono ?_
  rintro e W4 ⟨v5, rfl, hp5, hb⟩
  obtain ⟨A9, c9, rfl, hc9⟩ := (Sl.of_own hp5).form
  have HES := Lib.hid (show Es _ _ es from Sl.of_own hp5)
  clear hp5
  have hb4 : Below w.heap.size w W4 := below_then HB3.out hb
  have b_bx4 := B3_bx.out.below hb B3_bx.out.lt
  have b_br4 := B3_br.out.below hb B3_br.out.lt
  have k_v4 := K3_v.out.below hb
  have hz4 := hb.size
  have HB4 := Lib.hid hb4
  have B4_bx := Lib.hid b_bx4
  have B4_br := Lib.hid b_br4
  have K4_v := Lib.hid k_v4
  clear hb4 b_bx4 b_br4 k_v4
  clear B3_bx B3_br HB3 K3_v
  have c_br0 := B4_br.out.cell 0
  have c_br1 := B4_br.out.cell 1
  have c_br2 := B4_br.out.cell 2
  have c_br3 := B4_br.out.cell 3
  have l_br := B4_br.out.lt
  go_wp2_with fail
  clear c_br0 c_br1 c_br2 c_br3 l_br
  refine (read_range _ es _ frm most _ HES.out n HHI.out hle HLG.out.plain HR.out (by omega)).mono ?_
  rintro e W5 ⟨rfl, hb⟩
  have hb5 : Below w.heap.size w W5 := below_then HB4.out hb
  have b_bx5 := B4_bx.out.below hb B4_bx.out.lt
  have b_br5 := B4_br.out.below hb B4_br.out.lt
  have k_v5 := K4_v.out.below hb
  have k_es5 := HES.out.below hb
  have hz5 := hb.size
  have HB5 := Lib.hid hb5
  have B5_bx := Lib.hid b_bx5
  have B5_br := Lib.hid b_br5
  have K5_v := Lib.hid k_v5
  have K5_es := Lib.hid k_es5
  clear hb5 b_bx5 b_br5 k_v5 k_es5
  clear B4_bx B4_br HB4 K4_v HES
  go_wp2
  exact bodyPost_ret (v := .tuple #[.slice none 0 0, .int .i64 0, .int .i64 2]) (by simp [results, Try.results62, go_sem]) rfl (RRes.nil HB5.out)
set_option maxRecDepth 100000 in
set_option maxHeartbeats 4000000 in
theorem pread_ok (v : Value) (c : PartD) (frm most : Int) (hn : PartOk c) (l : Nat) (hl : c.leader = l) (hll : l < c.reps.length) {es : List Ent} {j : Nat} (hlog : LogIs c.reps[l].log es j) (n : Nat) (hhi : c.reps[l].high = n) (hle : n ≤ es.length) (f : Nat) (hf : frm = f) (hfl : f ≤ es.length) (hm1 : 1 ≤ most) (hm2 : most ≤ 20) {r : Int} (hr : StabIs es n r) {k : Nat} (hs : StopsAt es n f r most k) (w : World) (h : Pv w v c) : Calls Try.prog 62 #[v, .int .i64 frm, .int .i64 most] w (RRes (textsTo es n f k) ((f + k : Nat) : Int) 0 w) := by
  obtain ⟨xi, xk, xr, rfl, ix, kx, rx, hli, hlk, hlr⟩ := id h
  obtain ⟨A5, c5, rfl, hc5, hx5⟩ := rx.at_
  obtain ⟨A1, c1, rfl, hc1, -⟩ := ix.at_
  obtain ⟨A3, c3, rfl, hc3, -⟩ := kx.at_
  have H := Lib.hid h
  clear h ix kx rx
  unfold partV at *
  obtain ⟨ep, ld, is, ks, rs, fw, ba⟩ := c
  simp only at *
  obtain rfl : ld = (l : Int) := hl
  obtain ⟨b5, o5, rfl, hb5, hcell5⟩ := hx5 (Nat.lt_of_le_of_lt (Nat.zero_le _) hll)
  obtain ⟨pv, x0, x1, x2, x3, xb, xl⟩ := hcell5 l hll
  obtain ⟨A6, c6, rfl, -, -⟩ := xb.at_
  have XC := Lib.hid (And.intro x0 (And.intro x1 (And.intro x2 (And.intro x3 xb))))
  have HN := Lib.hid hn
  have HLG := Lib.hid hlog
  have HHI := Lib.hid hhi
  have HSM := Lib.hid hn.small
  have hel : es.length ≤ 400 := hlog.many
  have y0 : decide ((l : Int) < 0) = false := decide_eq_false (by omega)
  have l0 : (0 : Int) ≤ (l : Int) := by omega
  have l1 : (l : Int) < (rs.length : Int) := Int.ofNat_lt.2 hll
  clear hcell5 hx5 x0 x1 x2 x3 xb xl hn hlog hhi
  have HR := Lib.hid hr
  have HS := Lib.hid hs
  clear hr hs
  subst hf
  go_enter Try.func62, Try.ntmps62
  go_wp2_with fail
  have hb1 : Below w.heap.size w (w.alloc (.cells #[.int .i64 ep, .int .i64 l, .slice A1 is.length c1, .slice A3 ks.length c3, .slice (some ⟨b5, o5, none⟩) rs.length c5, .int .i64 fw, .int .i64 ba] 26)) := (Below.refl _ _).alloc (by first | omega | (simp; done) | (simp; omega)) _
  have hal1 : Below w.heap.size w (w.alloc (.cells #[.int .i64 ep, .int .i64 l, .slice A1 is.length c1, .slice A3 ks.length c3, .slice (some ⟨b5, o5, none⟩) rs.length c5, .int .i64 fw, .int .i64 ba] 26)) := (Below.refl _ _).alloc (by first | omega | (simp; done) | (simp; omega)) _
  have b_bx1 : Blk (w.alloc (.cells #[.int .i64 ep, .int .i64 l, .slice A1 is.length c1, .slice A3 ks.length c3, .slice (some ⟨b5, o5, none⟩) rs.length c5, .int .i64 fw, .int .i64 ba] 26)) (w.heap.size) 26 #[.int .i64 ep, .int .i64 l, .slice A1 is.length c1, .slice A3 ks.length c3, .slice (some ⟨b5, o5, none⟩) rs.length c5, .int .i64 fw, .int .i64 ba] := Blk.new_ _ 26 #[.int .i64 ep, .int .i64 l, .slice A1 is.length c1, .slice A3 ks.length c3, .slice (some ⟨b5, o5, none⟩) rs.length c5, .int .i64 fw, .int .i64 ba] (by first | rfl | (simp; done) | (simp; omega))
  have k_v1 := H.out.below hal1
  have hz1 : w.heap.size + 1 ≤ (w.alloc (.cells #[.int .i64 ep, .int .i64 l, .slice A1 is.length c1, .slice A3 ks.length c3, .slice (some ⟨b5, o5, none⟩) rs.length c5, .int .i64 fw, .int .i64 ba] 26)).heap.size := by first | omega | (simp; done) | (simp; omega)
  generalize w.alloc (.cells #[.int .i64 ep, .int .i64 l, .slice A1 is.length c1, .slice A3 ks.length c3, .slice (some ⟨b5, o5, none⟩) rs.length c5, .int .i64 fw, .int .i64 ba] 26) = W1 at *
  have HB1 := Lib.hid hb1
  have B1_bx := Lib.hid b_bx1
  have K1_v := Lib.hid k_v1
  clear hb1 b_bx1 k_v1
  clear H
  have c_bx0 := B1_bx.out.cell 0
  have c_bx1 := B1_bx.out.cell 1
  have c_bx2 := B1_bx.out.cell 2
  have c_bx3 := B1_bx.out.cell 3
  have c_bx4 := B1_bx.out.cell 4
  have c_bx5 := B1_bx.out.cell 5
  have c_bx6 := B1_bx.out.cell 6
  have l_bx := B1_bx.out.lt
  go_wp2_with fail
  clear c_bx0 c_bx1 c_bx2 c_bx3 c_bx4 c_bx5 c_bx6 l_bx
  refine (partCheck_any _ ⟨ep, (l : Int), is, ks, rs, fw, ba⟩ _ K1_v.out).mono ?_
  rintro e W2 hA
  obtain ⟨rfl, hb⟩ := hA.yes HN.out
  have hb2 : Below w.heap.size w W2 := below_then HB1.out hb
  have b_bx2 := B1_bx.out.below hb B1_bx.out.lt
  have k_v2 := K1_v.out.below hb
  have hz2 := hb.size
  have HB2 := Lib.hid hb2
  have B2_bx := Lib.hid b_bx2
  have K2_v := Lib.hid k_v2
  clear hb2 b_bx2 k_v2
  clear B1_bx HB1 K1_v
  have v0 := (HB2.out.cell (p := ⟨b5, o5 + l * 4, none⟩) hb5).trans XC.out.1
  have v1 := (HB2.out.cell (p := ⟨b5, o5 + l * 4 + 1, none⟩) hb5).trans XC.out.2.1
  have v2 := (HB2.out.cell (p := ⟨b5, o5 + l * 4 + 2, none⟩) hb5).trans XC.out.2.2.1
  have v3 := (HB2.out.cell (p := ⟨b5, o5 + l * 4 + 3, none⟩) hb5).trans XC.out.2.2.2.1
  have vl := Nat.lt_of_lt_of_le hb5 HB2.out.size
  have c_bx0 := B2_bx.out.cell 0
  have c_bx1 := B2_bx.out.cell 1
  have c_bx2 := B2_bx.out.cell 2
  have c_bx3 := B2_bx.out.cell 3
  have c_bx4 := B2_bx.out.cell 4
  have c_bx5 := B2_bx.out.cell 5
  have c_bx6 := B2_bx.out.cell 6
  have l_bx := B2_bx.out.lt
  go_upto_region 7 with fail
  clear v0 v1 v2 v3 vl c_bx0 c_bx1 c_bx2 c_bx3 c_bx4 c_bx5 c_bx6 l_bx
  have hsz3 := HB2.out.size
  have hb3 : Below w.heap.size w (W2.alloc (.cells #[.bool rs[l].up, .slice A6 rs[l].bytes.length c6, .int .i64 rs[l].synced, .int .i64 rs[l].high] 71)) := (HB2.out).alloc (by first | omega | (simp; done) | (simp; omega)) _
  have hal3 : Below W2.heap.size W2 (W2.alloc (.cells #[.bool rs[l].up, .slice A6 rs[l].bytes.length c6, .int .i64 rs[l].synced, .int .i64 rs[l].high] 71)) := (Below.refl _ _).alloc (by first | omega | (simp; done) | (simp; omega)) _
  have b_bx3 : Blk (W2.alloc (.cells #[.bool rs[l].up, .slice A6 rs[l].bytes.length c6, .int .i64 rs[l].synced, .int .i64 rs[l].high] 71)) (w.heap.size) 26 #[.int .i64 ep, .int .i64 l, .slice A1 is.length c1, .slice A3 ks.length c3, .slice (some ⟨b5, o5, none⟩) rs.length c5, .int .i64 fw, .int .i64 ba] := (B2_bx.out).alloc _
  have b_br3 : Blk (W2.alloc (.cells #[.bool rs[l].up, .slice A6 rs[l].bytes.length c6, .int .i64 rs[l].synced, .int .i64 rs[l].high] 71)) (W2.heap.size) 71 #[.bool rs[l].up, .slice A6 rs[l].bytes.length c6, .int .i64 rs[l].synced, .int .i64 rs[l].high] := Blk.new_ _ 71 #[.bool rs[l].up, .slice A6 rs[l].bytes.length c6, .int .i64 rs[l].synced, .int .i64 rs[l].high] (by first | rfl | (simp; done) | (simp; omega))
  have k_v3 := K2_v.out.below hal3
  have hz3 : W2.heap.size + 1 ≤ (W2.alloc (.cells #[.bool rs[l].up, .slice A6 rs[l].bytes.length c6, .int .i64 rs[l].synced, .int .i64 rs[l].high] 71)).heap.size := by first | omega | (simp; done) | (simp; omega)
  generalize W2.alloc (.cells #[.bool rs[l].up, .slice A6 rs[l].bytes.length c6, .int .i64 rs[l].synced, .int .i64 rs[l].high] 71) = W3 at *
  have HB3 := Lib.hid hb3
  have B3_bx := Lib.hid b_bx3
  have B3_br := Lib.hid b_br3
  have K3_v := Lib.hid k_v3
  clear hb3 b_bx3 b_br3 k_v3
  clear B2_bx HB2 K2_v
  have c_br0 := B3_br.out.cell 0
  have c_br1 := B3_br.out.cell 1
  have c_br2 := B3_br.out.cell 2
  have c_br3 := B3_br.out.cell 3
  have l_br := B3_br.out.lt
  go_wp2_with fail
  clear c_br0 c_br1 c_br2 c_br3 l_br
  refine (segEntries_ok _ rs[l].bytes rs[l].synced _ (XC.out.2.2.2.2.below HB3.out) HLG.out).mono ?_
  rintro e W4 ⟨v5, rfl, hp5, hb⟩
  obtain ⟨A9, c9, rfl, hc9⟩ := (Sl.of_own hp5).form
  have HES := Lib.hid (show Es _ _ es from Sl.of_own hp5)
  clear hp5
  have hb4 : Below w.heap.size w W4 := below_then HB3.out hb
  have b_bx4 := B3_bx.out.below hb B3_bx.out.lt
  have b_br4 := B3_br.out.below hb B3_br.out.lt
  have k_v4 := K3_v.out.below hb
  have hz4 := hb.size
  have HB4 := Lib.hid hb4
  have B4_bx := Lib.hid b_bx4
  have B4_br := Lib.hid b_br4
  have K4_v := Lib.hid k_v4
  clear hb4 b_bx4 b_br4 k_v4
  clear B3_bx B3_br HB3 K3_v
  have c_br0 := B4_br.out.cell 0
  have c_br1 := B4_br.out.cell 1
  have c_br2 := B4_br.out.cell 2
  have c_br3 := B4_br.out.cell 3
  have l_br := B4_br.out.lt
  go_wp2_with fail
  clear c_br0 c_br1 c_br2 c_br3 l_br
  refine (read_ok _ es _ f most _ HES.out n HHI.out hle HLG.out.plain f rfl hfl hm1 hm2 HR.out (by omega)).mono ?_
  rintro e W5 ⟨v7, k7, a7, ha7, rfl, ho7, hs7, hb⟩
  obtain rfl := hs7.unique HS.out
  subst ha7
  obtain ⟨A7, c7, rfl, hc7⟩ := (Sl.of_own ho7).form
  have HO7 := Lib.hid (Sl.of_own ho7)
  clear ho7 hs7
  have hb5 : Below w.heap.size w W5 := below_then HB4.out hb
  have b_bx5 := B4_bx.out.below hb B4_bx.out.lt
  have b_br5 := B4_br.out.below hb B4_br.out.lt
  have k_v5 := K4_v.out.below hb
  have k_es5 := HES.out.below hb
  have hz5 := hb.size
  have HB5 := Lib.hid hb5
  have B5_bx := Lib.hid b_bx5
  have B5_br := Lib.hid b_br5
  have K5_v := Lib.hid k_v5
  have K5_es := Lib.hid k_es5
  clear hb5 b_bx5 b_br5 k_v5 k_es5
  clear B4_bx B4_br HB4 K4_v HES
  go_wp2
  exact bodyPost_ret (v := .tuple #[.slice A7 (textsTo es n f k7).length c7, .int .i64 ((f + k7 : Nat) : Int), .int .i64 0]) (by simp [results, Try.results62, go_sem]) rfl ⟨_, rfl, HO7.out, HB5.out⟩
set_option maxRecDepth 100000 in
set_option maxHeartbeats 4000000 in
theorem partRead_state (v : Value) (c : PartD) (frm most : Int) (hn : ¬ PartOk c) (w : World) (h : Pv w v c) : Calls Try.prog 63 #[v, .int .i64 frm, .int .i64 most] w (RRes [] 0 12 w) := by
  obtain ⟨xi, xk, xr, rfl, ix, kx, rx, hli, hlk, hlr⟩ := id h
  obtain ⟨A5, c5, rfl, hc5, -⟩ := rx.at_
  obtain ⟨A1, c1, rfl, hc1, -⟩ := ix.at_
  obtain ⟨A3, c3, rfl, hc3, -⟩ := kx.at_
  have H := Lib.hid h
  clear h ix kx rx
  unfold partV at *
  obtain ⟨ep, ld, is, ks, rs, fw, ba⟩ := c
  simp only at *
  have HN := Lib.hid hn
  clear hn
  go_enter Try.func63, Try.ntmps63
  go_wp2_with fail
  have hb1 : Below w.heap.size w (w.alloc (.cells #[.int .i64 ep, .int .i64 ld, .slice A1 is.length c1, .slice A3 ks.length c3, .slice A5 rs.length c5, .int .i64 fw, .int .i64 ba] 26)) := (Below.refl _ _).alloc (by first | omega | (simp; done) | (simp; omega)) _
  have hal1 : Below w.heap.size w (w.alloc (.cells #[.int .i64 ep, .int .i64 ld, .slice A1 is.length c1, .slice A3 ks.length c3, .slice A5 rs.length c5, .int .i64 fw, .int .i64 ba] 26)) := (Below.refl _ _).alloc (by first | omega | (simp; done) | (simp; omega)) _
  have b_bx1 : Blk (w.alloc (.cells #[.int .i64 ep, .int .i64 ld, .slice A1 is.length c1, .slice A3 ks.length c3, .slice A5 rs.length c5, .int .i64 fw, .int .i64 ba] 26)) (w.heap.size) 26 #[.int .i64 ep, .int .i64 ld, .slice A1 is.length c1, .slice A3 ks.length c3, .slice A5 rs.length c5, .int .i64 fw, .int .i64 ba] := Blk.new_ _ 26 #[.int .i64 ep, .int .i64 ld, .slice A1 is.length c1, .slice A3 ks.length c3, .slice A5 rs.length c5, .int .i64 fw, .int .i64 ba] (by first | rfl | (simp; done) | (simp; omega))
  have k_v1 := H.out.below hal1
  have hz1 : w.heap.size + 1 ≤ (w.alloc (.cells #[.int .i64 ep, .int .i64 ld, .slice A1 is.length c1, .slice A3 ks.length c3, .slice A5 rs.length c5, .int .i64 fw, .int .i64 ba] 26)).heap.size := by first | omega | (simp; done) | (simp; omega)
  generalize w.alloc (.cells #[.int .i64 ep, .int .i64 ld, .slice A1 is.length c1, .slice A3 ks.length c3, .slice A5 rs.length c5, .int .i64 fw, .int .i64 ba] 26) = W1 at *
  have HB1 := Lib.hid hb1
  have B1_bx := Lib.hid b_bx1
  have K1_v := Lib.hid k_v1
  clear hb1 b_bx1 k_v1
  clear H
  have c_bx0 := B1_bx.out.cell 0
  have c_bx1 := B1_bx.out.cell 1
  have c_bx2 := B1_bx.out.cell 2
  have c_bx3 := B1_bx.out.cell 3
  have c_bx4 := B1_bx.out.cell 4
  have c_bx5 := B1_bx.out.cell 5
  have c_bx6 := B1_bx.out.cell 6
  have l_bx := B1_bx.out.lt
  go_wp2_with fail
  clear c_bx0 c_bx1 c_bx2 c_bx3 c_bx4 c_bx5 c_bx6 l_bx
  refine (partMay_any _ ⟨ep, ld, is, ks, rs, fw, ba⟩ _ K1_v.out).mono ?_
  rintro e W2 hA
  obtain ⟨rfl, hb⟩ := hA.no HN.out
  have hb2 : Below w.heap.size w W2 := below_then HB1.out hb
  have b_bx2 := B1_bx.out.below hb B1_bx.out.lt
  have k_v2 := K1_v.out.below hb
  have hz2 := hb.size
  have HB2 := Lib.hid hb2
  have B2_bx := Lib.hid b_bx2
  have K2_v := Lib.hid k_v2
  clear hb2 b_bx2 k_v2
  clear B1_bx HB1 K1_v
  have c_bx0 := B2_bx.out.cell 0
  have c_bx1 := B2_bx.out.cell 1
  have c_bx2 := B2_bx.out.cell 2
  have c_bx3 := B2_bx.out.cell 3
  have c_bx4 := B2_bx.out.cell 4
  have c_bx5 := B2_bx.out.cell 5
  have c_bx6 := B2_bx.out.cell 6
  have l_bx := B2_bx.out.lt
  go_wp2
  exact bodyPost_ret (v := .tuple #[.slice none 0 0, .int .i64 0, .int .i64 12]) (by simp [results, Try.results63, go_sem]) rfl (RRes.nil HB2.out)
set_option maxRecDepth 100000 in
set_option maxHeartbeats 4000000 in
theorem partRead_none (v : Value) (c : PartD) (frm most : Int) (hn : PartOk c) (hl : c.leader < 0) (w : World) (h : Pv w v c) : Calls Try.prog 63 #[v, .int .i64 frm, .int .i64 most] w (RRes [] 0 8 w) := by
  obtain ⟨xi, xk, xr, rfl, ix, kx, rx, hli, hlk, hlr⟩ := id h
  obtain ⟨A5, c5, rfl, hc5, -⟩ := rx.at_
  obtain ⟨A1, c1, rfl, hc1, -⟩ := ix.at_
  obtain ⟨A3, c3, rfl, hc3, -⟩ := kx.at_
  have H := Lib.hid h
  clear h ix kx rx
  unfold partV at *
  obtain ⟨ep, ld, is, ks, rs, fw, ba⟩ := c
  simp only at *
  have HN := Lib.hid hn
  have y0 : decide (ld < 0) = true := decide_eq_true hl
  clear hn hl
  go_enter Try.func63, Try.ntmps63
  go_wp2_with fail
  have hb1 : Below w.heap.size w (w.alloc (.cells #[.int .i64 ep, .int .i64 ld, .slice A1 is.length c1, .slice A3 ks.length c3, .slice A5 rs.length c5, .int .i64 fw, .int .i64 ba] 26)) := (Below.refl _ _).alloc (by first | omega | (simp; done) | (simp; omega)) _
  have hal1 : Below w.heap.size w (w.alloc (.cells #[.int .i64 ep, .int .i64 ld, .slice A1 is.length c1, .slice A3 ks.length c3, .slice A5 rs.length c5, .int .i64 fw, .int .i64 ba] 26)) := (Below.refl _ _).alloc (by first | omega | (simp; done) | (simp; omega)) _
  have b_bx1 : Blk (w.alloc (.cells #[.int .i64 ep, .int .i64 ld, .slice A1 is.length c1, .slice A3 ks.length c3, .slice A5 rs.length c5, .int .i64 fw, .int .i64 ba] 26)) (w.heap.size) 26 #[.int .i64 ep, .int .i64 ld, .slice A1 is.length c1, .slice A3 ks.length c3, .slice A5 rs.length c5, .int .i64 fw, .int .i64 ba] := Blk.new_ _ 26 #[.int .i64 ep, .int .i64 ld, .slice A1 is.length c1, .slice A3 ks.length c3, .slice A5 rs.length c5, .int .i64 fw, .int .i64 ba] (by first | rfl | (simp; done) | (simp; omega))
  have k_v1 := H.out.below hal1
  have hz1 : w.heap.size + 1 ≤ (w.alloc (.cells #[.int .i64 ep, .int .i64 ld, .slice A1 is.length c1, .slice A3 ks.length c3, .slice A5 rs.length c5, .int .i64 fw, .int .i64 ba] 26)).heap.size := by first | omega | (simp; done) | (simp; omega)
  generalize w.alloc (.cells #[.int .i64 ep, .int .i64 ld, .slice A1 is.length c1, .slice A3 ks.length c3, .slice A5 rs.length c5, .int .i64 fw, .int .i64 ba] 26) = W1 at *
  have HB1 := Lib.hid hb1
  have B1_bx := Lib.hid b_bx1
  have K1_v := Lib.hid k_v1
  clear hb1 b_bx1 k_v1
  clear H
  have c_bx0 := B1_bx.out.cell 0
  have c_bx1 := B1_bx.out.cell 1
  have c_bx2 := B1_bx.out.cell 2
  have c_bx3 := B1_bx.out.cell 3
  have c_bx4 := B1_bx.out.cell 4
  have c_bx5 := B1_bx.out.cell 5
  have c_bx6 := B1_bx.out.cell 6
  have l_bx := B1_bx.out.lt
  go_wp2_with fail
  clear c_bx0 c_bx1 c_bx2 c_bx3 c_bx4 c_bx5 c_bx6 l_bx
  refine (partMay_any _ ⟨ep, ld, is, ks, rs, fw, ba⟩ _ K1_v.out).mono ?_
  rintro e W2 hA
  obtain ⟨rfl, hb⟩ := hA.yes HN.out
  have hb2 : Below w.heap.size w W2 := below_then HB1.out hb
  have b_bx2 := B1_bx.out.below hb B1_bx.out.lt
  have k_v2 := K1_v.out.below hb
  have hz2 := hb.size
  have HB2 := Lib.hid hb2
  have B2_bx := Lib.hid b_bx2
  have K2_v := Lib.hid k_v2
  clear hb2 b_bx2 k_v2
  clear B1_bx HB1 K1_v
  have c_bx0 := B2_bx.out.cell 0
  have c_bx1 := B2_bx.out.cell 1
  have c_bx2 := B2_bx.out.cell 2
  have c_bx3 := B2_bx.out.cell 3
  have c_bx4 := B2_bx.out.cell 4
  have c_bx5 := B2_bx.out.cell 5
  have c_bx6 := B2_bx.out.cell 6
  have l_bx := B2_bx.out.lt
  go_wp2
  exact bodyPost_ret (v := .tuple #[.slice none 0 0, .int .i64 0, .int .i64 8]) (by simp [results, Try.results63, go_sem]) rfl (RRes.nil HB2.out)
set_option maxRecDepth 100000 in
set_option maxHeartbeats 4000000 in
theorem partRead_range (v : Value) (c : PartD) (frm most : Int) (hn : PartOk c) (l : Nat) (hl : c.leader = l) (hll : l < c.reps.length) {es : List Ent} {j : Nat} (hlog : LogIs c.reps[l].log es j) (n : Nat) (hhi : c.reps[l].high = n) (hle : n ≤ es.length) (hr : frm < 0 ∨ (es.length : Int) < frm ∨ most < 1 ∨ 20 < most) (w : World) (h : Pv w v c) : Calls Try.prog 63 #[v, .int .i64 frm, .int .i64 most] w (RRes [] 0 2 w) := by
  obtain ⟨xi, xk, xr, rfl, ix, kx, rx, hli, hlk, hlr⟩ := id h
  obtain ⟨A5, c5, rfl, hc5, hx5⟩ := rx.at_
  obtain ⟨A1, c1, rfl, hc1, -⟩ := ix.at_
  obtain ⟨A3, c3, rfl, hc3, -⟩ := kx.at_
  have H := Lib.hid h
  clear h ix kx rx
  unfold partV at *
  obtain ⟨ep, ld, is, ks, rs, fw, ba⟩ := c
  simp only at *
  obtain rfl : ld = (l : Int) := hl
  obtain ⟨b5, o5, rfl, hb5, hcell5⟩ := hx5 (Nat.lt_of_le_of_lt (Nat.zero_le _) hll)
  obtain ⟨pv, x0, x1, x2, x3, xb, xl⟩ := hcell5 l hll
  obtain ⟨A6, c6, rfl, -, -⟩ := xb.at_
  have XC := Lib.hid (And.intro x0 (And.intro x1 (And.intro x2 (And.intro x3 xb))))
  have HN := Lib.hid hn
  have HLG := Lib.hid hlog
  have HHI := Lib.hid hhi
  have HSM := Lib.hid hn.small
  have hel : es.length ≤ 400 := hlog.many
  have y0 : decide ((l : Int) < 0) = false := decide_eq_false (by omega)
  have l0 : (0 : Int) ≤ (l : Int) := by omega
  have l1 : (l : Int) < (rs.length : Int) := Int.ofNat_lt.2 hll
  clear hcell5 hx5 x0 x1 x2 x3 xb xl hn hlog hhi
  have HR := Lib.hid hr
  clear hr
  go_enter Try.func63, Try.ntmps63
  go_wp2_with fail
  have hb1 : Below w.heap.size w (w.alloc (.cells #[.int .i64 ep, .int .i64 l, .slice A1 is.length c1, .slice A3 ks.length c3, .slice (some ⟨b5, o5, none⟩) rs.length c5, .int .i64 fw, .int .i64 ba] 26)) := (Below.refl _ _).alloc (by first | omega | (simp; done) | (simp; omega)) _
  have hal1 : Below w.heap.size w (w.alloc (.cells #[.int .i64 ep, .int .i64 l, .slice A1 is.length c1, .slice A3 ks.length c3, .slice (some ⟨b5, o5, none⟩) rs.length c5, .int .i64 fw, .int .i64 ba] 26)) := (Below.refl _ _).alloc (by first | omega | (simp; done) | (simp; omega)) _
  have b_bx1 : Blk (w.alloc (.cells #[.int .i64 ep, .int .i64 l, .slice A1 is.length c1, .slice A3 ks.length c3, .slice (some ⟨b5, o5, none⟩) rs.length c5, .int .i64 fw, .int .i64 ba] 26)) (w.heap.size) 26 #[.int .i64 ep, .int .i64 l, .slice A1 is.length c1, .slice A3 ks.length c3, .slice (some ⟨b5, o5, none⟩) rs.length c5, .int .i64 fw, .int .i64 ba] := Blk.new_ _ 26 #[.int .i64 ep, .int .i64 l, .slice A1 is.length c1, .slice A3 ks.length c3, .slice (some ⟨b5, o5, none⟩) rs.length c5, .int .i64 fw, .int .i64 ba] (by first | rfl | (simp; done) | (simp; omega))
  have k_v1 := H.out.below hal1
  have hz1 : w.heap.size + 1 ≤ (w.alloc (.cells #[.int .i64 ep, .int .i64 l, .slice A1 is.length c1, .slice A3 ks.length c3, .slice (some ⟨b5, o5, none⟩) rs.length c5, .int .i64 fw, .int .i64 ba] 26)).heap.size := by first | omega | (simp; done) | (simp; omega)
  generalize w.alloc (.cells #[.int .i64 ep, .int .i64 l, .slice A1 is.length c1, .slice A3 ks.length c3, .slice (some ⟨b5, o5, none⟩) rs.length c5, .int .i64 fw, .int .i64 ba] 26) = W1 at *
  have HB1 := Lib.hid hb1
  have B1_bx := Lib.hid b_bx1
  have K1_v := Lib.hid k_v1
  clear hb1 b_bx1 k_v1
  clear H
  have c_bx0 := B1_bx.out.cell 0
  have c_bx1 := B1_bx.out.cell 1
  have c_bx2 := B1_bx.out.cell 2
  have c_bx3 := B1_bx.out.cell 3
  have c_bx4 := B1_bx.out.cell 4
  have c_bx5 := B1_bx.out.cell 5
  have c_bx6 := B1_bx.out.cell 6
  have l_bx := B1_bx.out.lt
  go_wp2_with fail
  clear c_bx0 c_bx1 c_bx2 c_bx3 c_bx4 c_bx5 c_bx6 l_bx
  refine (partMay_any _ ⟨ep, (l : Int), is, ks, rs, fw, ba⟩ _ K1_v.out).mono ?_
  rintro e W2 hA
  obtain ⟨rfl, hb⟩ := hA.yes HN.out
  have hb2 : Below w.heap.size w W2 := below_then HB1.out hb
  have b_bx2 := B1_bx.out.below hb B1_bx.out.lt
  have k_v2 := K1_v.out.below hb
  have hz2 := hb.size
  have HB2 := Lib.hid hb2
  have B2_bx := Lib.hid b_bx2
  have K2_v := Lib.hid k_v2
  clear hb2 b_bx2 k_v2
  clear B1_bx HB1 K1_v
  have c_bx0 := B2_bx.out.cell 0
  have c_bx1 := B2_bx.out.cell 1
  have c_bx2 := B2_bx.out.cell 2
  have c_bx3 := B2_bx.out.cell 3
  have c_bx4 := B2_bx.out.cell 4
  have c_bx5 := B2_bx.out.cell 5
  have c_bx6 := B2_bx.out.cell 6
  have l_bx := B2_bx.out.lt
  go_wp2_with fail
  clear c_bx0 c_bx1 c_bx2 c_bx3 c_bx4 c_bx5 c_bx6 l_bx
  have x3 := (HB2.out.cell (p := ⟨b5, o5 + l * 4 + 3, none⟩) hb5).trans XC.out.2.2.2.1
  have vl := Nat.lt_of_lt_of_le hb5 HB2.out.size
  have c_bx0 := B2_bx.out.cell 0
  have c_bx1 := B2_bx.out.cell 1
  have c_bx2 := B2_bx.out.cell 2
  have c_bx3 := B2_bx.out.cell 3
  have c_bx4 := B2_bx.out.cell 4
  have c_bx5 := B2_bx.out.cell 5
  have c_bx6 := B2_bx.out.cell 6
  have l_bx := B2_bx.out.lt
  refine wp_region_held_drew (S := fun w0 => w0.cell? ⟨w.heap.size, 0, none⟩ = some (.int .i64 ep) ∧ w0.cell? ⟨w.heap.size, 1, none⟩ = some (.int .i64 l) ∧ w0.cell? ⟨w.heap.size, 2, none⟩ = some (.slice A1 is.length c1) ∧ w0.cell? ⟨w.heap.size, 3, none⟩ = some (.slice A3 ks.length c3) ∧ w0.cell? ⟨w.heap.size, 4, none⟩ = some (.slice (some ⟨b5, o5, none⟩) rs.length c5) ∧ w0.cell? ⟨w.heap.size, 5, none⟩ = some (.int .i64 fw) ∧ w0.cell? ⟨w.heap.size, 6, none⟩ = some (.int .i64 ba) ∧ w0.cell? ⟨b5, o5 + l * 4 + 3, none⟩ = some (.int .i64 rs[l].high)) (by kernel_rfl) ?_ (fun hHeld => ?_)
  · exact ⟨c_bx0, c_bx1, c_bx2, c_bx3, c_bx4, c_bx5, c_bx6, x3⟩
  clear c_bx0 c_bx1 c_bx2 c_bx3 c_bx4 c_bx5 c_bx6 l_bx
  generalize hd : World.drew W2 = W3 at *
  have hb : Below W2.heap.size W2 W3 := by rw [← hd]; exact (Below.refl _ _).drew
  have hb3 : Below w.heap.size w W3 := below_then HB2.out hb
  have b_bx3 := B2_bx.out.below hb B2_bx.out.lt
  have k_v3 := K2_v.out.below hb
  have hz3 := hb.size
  have HB3 := Lib.hid hb3
  have B3_bx := Lib.hid b_bx3
  have K3_v := Lib.hid k_v3
  clear hb3 b_bx3 k_v3
  clear B2_bx HB2 K2_v
  clear hd hb
  refine wpAnyH_take (i := 0) (v := ?_) rfl (by kernel_rfl) (by kernel_rfl) (by kernel_rfl) (fun _ _ _ h => h) (Or.inl ⟨by rfl, ?_⟩) (by assumption) ?_
  rotate_left
  · intro w0 hSw
    (try dsimp only at hSw)
    go_simp
    all_goals with_reducible rfl
  try simp only [Act.put, List.getElem_toArray, List.getElem_cons_zero, List.setIfInBounds_toArray, List.set_cons_zero, List.set_cons_succ]
  refine wpAnyH_take (i := 1) (v := ?_) rfl (by kernel_rfl) (by kernel_rfl) (by kernel_rfl) (fun _ _ _ h => h) (Or.inl ⟨by rfl, ?_⟩) (by assumption) ?_
  rotate_left
  · intro w0 hSw
    (try dsimp only at hSw)
    go_simp
    all_goals with_reducible rfl
  try simp only [Act.put, List.getElem_toArray, List.getElem_cons_zero, List.getElem_cons_succ, List.setIfInBounds_toArray, List.set_cons_zero, List.set_cons_succ]
  refine wpAnyH_take (i := 2) (v := ?_) rfl (by kernel_rfl) (by kernel_rfl) (by kernel_rfl) (fun _ _ _ h => h) (Or.inl ⟨by rfl, ?_⟩) (by assumption) ?_
  rotate_left
  · intro w0 hSw
    (try dsimp only at hSw)
    go_simp
    all_goals with_reducible rfl
  try simp only [Act.put, List.getElem_toArray, List.getElem_cons_zero, List.getElem_cons_succ, List.setIfInBounds_toArray, List.set_cons_zero, List.set_cons_succ]
  refine wpAnyH_take (i := 4) (v := ?_) rfl (by kernel_rfl) (by kernel_rfl) (by kernel_rfl) (fun _ _ _ h => h) (Or.inl ⟨by rfl, ?_⟩) (by assumption) ?_
  rotate_left
  · intro w0 hSw
    (try dsimp only at hSw)
    go_simp
    all_goals with_reducible rfl
  try simp only [Act.put, List.getElem_toArray, List.getElem_cons_zero, List.getElem_cons_succ, List.setIfInBounds_toArray, List.set_cons_zero, List.set_cons_succ]
  refine wpAnyH_take (i := 5) (v := ?_) rfl (by kernel_rfl) (by kernel_rfl) (by kernel_rfl) (fun _ _ _ h => h) (Or.inl ⟨by rfl, ?_⟩) (by assumption) ?_
  rotate_left
  · intro w0 hSw
    (try dsimp only at hSw)
    go_simp
    all_goals with_reducible rfl
  try simp only [Act.put, List.getElem_toArray, List.getElem_cons_zero, List.getElem_cons_succ, List.setIfInBounds_toArray, List.set_cons_zero, List.set_cons_succ]
  refine wpAnyH_take (i := 6) (v := ?_) rfl (by kernel_rfl) (by kernel_rfl) (by kernel_rfl) (fun _ _ _ h => h) (Or.inl ⟨by rfl, ?_⟩) (by assumption) ?_
  rotate_left
  · intro w0 hSw
    (try dsimp only at hSw)
    go_simp
    all_goals with_reducible rfl
  try simp only [Act.put, List.getElem_toArray, List.getElem_cons_zero, List.getElem_cons_succ, List.setIfInBounds_toArray, List.set_cons_zero, List.set_cons_succ]
  refine wpAnyH_take (i := 7) (v := ?_) rfl (by kernel_rfl) (by kernel_rfl) (by kernel_rfl) (fun _ _ _ h => h) (Or.inl ⟨by rfl, ?_⟩) (by assumption) ?_
  rotate_left
  · intro w0 hSw
    (try dsimp only at hSw)
    go_simp
    all_goals with_reducible rfl
  try simp only [Act.put, List.getElem_toArray, List.getElem_cons_zero, List.getElem_cons_succ, List.setIfInBounds_toArray, List.set_cons_zero, List.set_cons_succ]
  refine wpAnyH_take (i := 8) (v := ?_) rfl (by kernel_rfl) (by kernel_rfl) (by kernel_rfl) (fun _ _ _ h => h) (Or.inl ⟨by rfl, ?_⟩) (by assumption) ?_
  rotate_left
  · intro w0 hSw
    (try dsimp only at hSw)
    go_simp
    all_goals with_reducible rfl
  try simp only [Act.put, List.getElem_toArray, List.getElem_cons_zero, List.getElem_cons_succ, List.setIfInBounds_toArray, List.set_cons_zero, List.set_cons_succ]
  refine wpAnyH_take (i := 9) (v := ?_) rfl (by kernel_rfl) (by kernel_rfl) (by kernel_rfl) (fun _ _ _ h => h) (Or.inl ⟨by rfl, ?_⟩) (by assumption) ?_
  rotate_left
  · intro w0 hSw
    (try dsimp only at hSw)
    go_simp
    all_goals with_reducible rfl
  try simp only [Act.put, List.getElem_toArray, List.getElem_cons_zero, List.getElem_cons_succ, List.setIfInBounds_toArray, List.set_cons_zero, List.set_cons_succ]
  refine wpAnyH_take (i := 10) (v := ?_) rfl (by kernel_rfl) (by kernel_rfl) (by kernel_rfl) (fun _ _ _ h => h) (Or.inl ⟨by rfl, ?_⟩) (by assumption) ?_
  rotate_left
  · intro w0 hSw
    (try dsimp only at hSw)
    go_simp
    all_goals with_reducible rfl
  try simp only [Act.put, List.getElem_toArray, List.getElem_cons_zero, List.getElem_cons_succ, List.setIfInBounds_toArray, List.set_cons_zero, List.set_cons_succ]
  refine wpAnyH_take (i := 11) (v := ?_) rfl (by kernel_rfl) (by kernel_rfl) (by kernel_rfl) (fun _ _ _ h => h) (Or.inl ⟨by rfl, ?_⟩) (by assumption) ?_
  rotate_left
  · intro w0 hSw
    (try dsimp only at hSw)
    go_simp
    all_goals with_reducible rfl
  try simp only [Act.put, List.getElem_toArray, List.getElem_cons_zero, List.getElem_cons_succ, List.setIfInBounds_toArray, List.set_cons_zero, List.set_cons_succ]
  refine wpAnyH_take (i := 12) (v := ?_) rfl (by kernel_rfl) (by kernel_rfl) (by kernel_rfl) (fun _ _ _ h => h) (Or.inl ⟨by rfl, ?_⟩) (by assumption) ?_
  rotate_left
  · intro w0 hSw
    (try dsimp only at hSw)
    go_simp
    all_goals with_reducible rfl
  try simp only [Act.put, List.getElem_toArray, List.getElem_cons_zero, List.getElem_cons_succ, List.setIfInBounds_toArray, List.set_cons_zero, List.set_cons_succ]
  refine wpAnyH_ready (rs := [3]) (by kernel_rfl) (by simp) (AllReadyH.cons rfl (fun K hK => ?_) AllReadyH.nil)
  go_simp
  go_at_call 82
  refine (logOf_any _ ⟨ep, (l : Int), is, ks, rs, fw, ba⟩ l _ (K3_v.out) hll HLG.out).mono ?_
  rintro e W4 ⟨v5, rfl, hp5, hb⟩
  obtain ⟨A9, c9, rfl, hc9⟩ := (Sl.of_own hp5).form
  have HES := Lib.hid (show Es _ _ es from Sl.of_own hp5)
  clear hp5
  have hb4 : Below w.heap.size w W4 := below_then HB3.out hb
  have b_bx4 := B3_bx.out.below hb B3_bx.out.lt
  have k_v4 := K3_v.out.below hb
  have hz4 := hb.size
  have HB4 := Lib.hid hb4
  have B4_bx := Lib.hid b_bx4
  have K4_v := Lib.hid k_v4
  clear hb4 b_bx4 k_v4
  clear B3_bx HB3 K3_v
  have x3 := (HB4.out.cell (p := ⟨b5, o5 + l * 4 + 3, none⟩) hb5).trans XC.out.2.2.2.1
  have vl := Nat.lt_of_lt_of_le hb5 HB4.out.size
  refine hK.out _ _ ?_ (fun hHeld => ?_)
  · exact ⟨(B4_bx.out).cell 0, (B4_bx.out).cell 1, (B4_bx.out).cell 2, (B4_bx.out).cell 3, (B4_bx.out).cell 4, (B4_bx.out).cell 5, (B4_bx.out).cell 6, x3⟩
  clear hK K
  try simp only [Act.put, List.getElem_toArray, List.getElem_cons_zero, List.getElem_cons_succ, List.setIfInBounds_toArray, List.set_cons_zero, List.set_cons_succ]
  refine wpAnyH_ready (rs := [13]) (by kernel_rfl) (by simp) (AllReadyH.cons rfl (fun K hK => ?_) AllReadyH.nil)
  go_simp
  go_at_call 94
  refine (readOf_range _ es _ frm most _ HES.out n HHI.out hle HLG.out.plain HR.out (by omega)).mono ?_
  rintro e W5 ⟨rfl, hb⟩
  have hb5 : Below w.heap.size w W5 := below_then HB4.out hb
  have b_bx5 := B4_bx.out.below hb B4_bx.out.lt
  have k_v5 := K4_v.out.below hb
  have k_es5 := HES.out.below hb
  have hz5 := hb.size
  have HB5 := Lib.hid hb5
  have B5_bx := Lib.hid b_bx5
  have K5_v := Lib.hid k_v5
  have K5_es := Lib.hid k_es5
  clear hb5 b_bx5 k_v5 k_es5
  clear B4_bx HB4 K4_v HES
  have x3 := (HB5.out.cell (p := ⟨b5, o5 + l * 4 + 3, none⟩) hb5).trans XC.out.2.2.2.1
  have vl := Nat.lt_of_lt_of_le hb5 HB5.out.size
  refine hK.out _ _ ?_ (fun hHeld => ?_)
  · exact ⟨(B5_bx.out).cell 0, (B5_bx.out).cell 1, (B5_bx.out).cell 2, (B5_bx.out).cell 3, (B5_bx.out).cell 4, (B5_bx.out).cell 5, (B5_bx.out).cell 6, x3⟩
  clear hK K
  try simp only [Act.put, List.getElem_toArray, List.getElem_cons_zero, List.getElem_cons_succ, List.setIfInBounds_toArray, List.set_cons_zero, List.set_cons_succ]
  refine wpAnyH_take (i := 14) (v := ?_) rfl (by kernel_rfl) (by kernel_rfl) (by kernel_rfl) (fun _ _ _ h => h) (Or.inl ⟨by rfl, ?_⟩) (by assumption) ?_
  rotate_left
  · intro w0 hSw
    (try dsimp only at hSw)
    go_simp
    all_goals with_reducible rfl
  try simp only [Act.put, List.getElem_toArray, List.getElem_cons_zero, List.getElem_cons_succ, List.setIfInBounds_toArray, List.set_cons_zero, List.set_cons_succ]
  refine wpAnyH_take (i := 15) (v := ?_) rfl (by kernel_rfl) (by kernel_rfl) (by kernel_rfl) (fun _ _ _ h => h) (Or.inl ⟨by rfl, ?_⟩) (by assumption) ?_
  rotate_left
  · intro w0 hSw
    (try dsimp only at hSw)
    go_simp
    all_goals with_reducible rfl
  try simp only [Act.put, List.getElem_toArray, List.getElem_cons_zero, List.getElem_cons_succ, List.setIfInBounds_toArray, List.set_cons_zero, List.set_cons_succ]
  refine wpAnyH_take (i := 16) (v := ?_) rfl (by kernel_rfl) (by kernel_rfl) (by kernel_rfl) (fun _ _ _ h => h) (Or.inl ⟨by rfl, ?_⟩) (by assumption) ?_
  rotate_left
  · intro w0 hSw
    (try dsimp only at hSw)
    go_simp
    all_goals with_reducible rfl
  try simp only [Act.put, List.getElem_toArray, List.getElem_cons_zero, List.getElem_cons_succ, List.setIfInBounds_toArray, List.set_cons_zero, List.set_cons_succ]
  refine wpAnyH_take (i := 17) (v := ?_) rfl (by kernel_rfl) (by kernel_rfl) (by kernel_rfl) (fun _ _ _ h => h) (Or.inl ⟨by rfl, ?_⟩) (by assumption) ?_
  rotate_left
  · intro w0 hSw
    (try dsimp only at hSw)
    go_simp
    all_goals with_reducible rfl
  try simp only [Act.put, List.getElem_toArray, List.getElem_cons_zero, List.getElem_cons_succ, List.setIfInBounds_toArray, List.set_cons_zero, List.set_cons_succ]
  refine wpAnyH_take (i := 18) (v := ?_) rfl (by kernel_rfl) (by kernel_rfl) (by kernel_rfl) (fun _ _ _ h => h) (Or.inl ⟨by rfl, ?_⟩) (by assumption) ?_
  rotate_left
  · intro w0 hSw
    (try dsimp only at hSw)
    go_simp
    all_goals with_reducible rfl
  try simp only [Act.put, List.getElem_toArray, List.getElem_cons_zero, List.getElem_cons_succ, List.setIfInBounds_toArray, List.set_cons_zero, List.set_cons_succ]
  refine wpAnyH_take (i := 19) (v := ?_) rfl (by kernel_rfl) (by kernel_rfl) (by kernel_rfl) (fun _ _ _ h => h) (Or.inl ⟨by rfl, ?_⟩) (by assumption) ?_
  rotate_left
  · intro w0 hSw
    (try dsimp only at hSw)
    go_simp
    all_goals with_reducible rfl
  try simp only [Act.put, List.getElem_toArray, List.getElem_cons_zero, List.getElem_cons_succ, List.setIfInBounds_toArray, List.set_cons_zero, List.set_cons_succ]
  refine wpAnyH_done (by kernel_rfl) ?_ _
  go_wp2
  exact bodyPost_ret (v := .tuple #[.slice none 0 0, .int .i64 0, .int .i64 2]) (by simp [results, Try.results63, go_sem]) rfl (RRes.nil HB5.out)
set_option maxRecDepth 100000 in
set_option maxHeartbeats 4000000 in
theorem partRead_ok (v : Value) (c : PartD) (frm most : Int) (hn : PartOk c) (l : Nat) (hl : c.leader = l) (hll : l < c.reps.length) {es : List Ent} {j : Nat} (hlog : LogIs c.reps[l].log es j) (n : Nat) (hhi : c.reps[l].high = n) (hle : n ≤ es.length) (f : Nat) (hf : frm = f) (hfl : f ≤ es.length) (hm1 : 1 ≤ most) (hm2 : most ≤ 20) {r : Int} (hr : StabIs es n r) {k : Nat} (hs : StopsAt es n f r most k) (w : World) (h : Pv w v c) : Calls Try.prog 63 #[v, .int .i64 frm, .int .i64 most] w (RRes (textsTo es n f k) ((f + k : Nat) : Int) 0 w) := by
  obtain ⟨xi, xk, xr, rfl, ix, kx, rx, hli, hlk, hlr⟩ := id h
  obtain ⟨A5, c5, rfl, hc5, hx5⟩ := rx.at_
  obtain ⟨A1, c1, rfl, hc1, -⟩ := ix.at_
  obtain ⟨A3, c3, rfl, hc3, -⟩ := kx.at_
  have H := Lib.hid h
  clear h ix kx rx
  unfold partV at *
  obtain ⟨ep, ld, is, ks, rs, fw, ba⟩ := c
  simp only at *
  obtain rfl : ld = (l : Int) := hl
  obtain ⟨b5, o5, rfl, hb5, hcell5⟩ := hx5 (Nat.lt_of_le_of_lt (Nat.zero_le _) hll)
  obtain ⟨pv, x0, x1, x2, x3, xb, xl⟩ := hcell5 l hll
  obtain ⟨A6, c6, rfl, -, -⟩ := xb.at_
  have XC := Lib.hid (And.intro x0 (And.intro x1 (And.intro x2 (And.intro x3 xb))))
  have HN := Lib.hid hn
  have HLG := Lib.hid hlog
  have HHI := Lib.hid hhi
  have HSM := Lib.hid hn.small
  have hel : es.length ≤ 400 := hlog.many
  have y0 : decide ((l : Int) < 0) = false := decide_eq_false (by omega)
  have l0 : (0 : Int) ≤ (l : Int) := by omega
  have l1 : (l : Int) < (rs.length : Int) := Int.ofNat_lt.2 hll
  clear hcell5 hx5 x0 x1 x2 x3 xb xl hn hlog hhi
  have HR := Lib.hid hr
  have HS := Lib.hid hs
  clear hr hs
  subst hf
  go_enter Try.func63, Try.ntmps63
  go_wp2_with fail
  have hb1 : Below w.heap.size w (w.alloc (.cells #[.int .i64 ep, .int .i64 l, .slice A1 is.length c1, .slice A3 ks.length c3, .slice (some ⟨b5, o5, none⟩) rs.length c5, .int .i64 fw, .int .i64 ba] 26)) := (Below.refl _ _).alloc (by first | omega | (simp; done) | (simp; omega)) _
  have hal1 : Below w.heap.size w (w.alloc (.cells #[.int .i64 ep, .int .i64 l, .slice A1 is.length c1, .slice A3 ks.length c3, .slice (some ⟨b5, o5, none⟩) rs.length c5, .int .i64 fw, .int .i64 ba] 26)) := (Below.refl _ _).alloc (by first | omega | (simp; done) | (simp; omega)) _
  have b_bx1 : Blk (w.alloc (.cells #[.int .i64 ep, .int .i64 l, .slice A1 is.length c1, .slice A3 ks.length c3, .slice (some ⟨b5, o5, none⟩) rs.length c5, .int .i64 fw, .int .i64 ba] 26)) (w.heap.size) 26 #[.int .i64 ep, .int .i64 l, .slice A1 is.length c1, .slice A3 ks.length c3, .slice (some ⟨b5, o5, none⟩) rs.length c5, .int .i64 fw, .int .i64 ba] := Blk.new_ _ 26 #[.int .i64 ep, .int .i64 l, .slice A1 is.length c1, .slice A3 ks.length c3, .slice (some ⟨b5, o5, none⟩) rs.length c5, .int .i64 fw, .int .i64 ba] (by first | rfl | (simp; done) | (simp; omega))
  have k_v1 := H.out.below hal1
  have hz1 : w.heap.size + 1 ≤ (w.alloc (.cells #[.int .i64 ep, .int .i64 l, .slice A1 is.length c1, .slice A3 ks.length c3, .slice (some ⟨b5, o5, none⟩) rs.length c5, .int .i64 fw, .int .i64 ba] 26)).heap.size := by first | omega | (simp; done) | (simp; omega)
  generalize w.alloc (.cells #[.int .i64 ep, .int .i64 l, .slice A1 is.length c1, .slice A3 ks.length c3, .slice (some ⟨b5, o5, none⟩) rs.length c5, .int .i64 fw, .int .i64 ba] 26) = W1 at *
  have HB1 := Lib.hid hb1
  have B1_bx := Lib.hid b_bx1
  have K1_v := Lib.hid k_v1
  clear hb1 b_bx1 k_v1
  clear H
  have c_bx0 := B1_bx.out.cell 0
  have c_bx1 := B1_bx.out.cell 1
  have c_bx2 := B1_bx.out.cell 2
  have c_bx3 := B1_bx.out.cell 3
  have c_bx4 := B1_bx.out.cell 4
  have c_bx5 := B1_bx.out.cell 5
  have c_bx6 := B1_bx.out.cell 6
  have l_bx := B1_bx.out.lt
  go_wp2_with fail
  clear c_bx0 c_bx1 c_bx2 c_bx3 c_bx4 c_bx5 c_bx6 l_bx
  refine (partMay_any _ ⟨ep, (l : Int), is, ks, rs, fw, ba⟩ _ K1_v.out).mono ?_
  rintro e W2 hA
  obtain ⟨rfl, hb⟩ := hA.yes HN.out
  have hb2 : Below w.heap.size w W2 := below_then HB1.out hb
  have b_bx2 := B1_bx.out.below hb B1_bx.out.lt
  have k_v2 := K1_v.out.below hb
  have hz2 := hb.size
  have HB2 := Lib.hid hb2
  have B2_bx := Lib.hid b_bx2
  have K2_v := Lib.hid k_v2
  clear hb2 b_bx2 k_v2
  clear B1_bx HB1 K1_v
  have c_bx0 := B2_bx.out.cell 0
  have c_bx1 := B2_bx.out.cell 1
  have c_bx2 := B2_bx.out.cell 2
  have c_bx3 := B2_bx.out.cell 3
  have c_bx4 := B2_bx.out.cell 4
  have c_bx5 := B2_bx.out.cell 5
  have c_bx6 := B2_bx.out.cell 6
  have l_bx := B2_bx.out.lt
  go_wp2_with fail
  clear c_bx0 c_bx1 c_bx2 c_bx3 c_bx4 c_bx5 c_bx6 l_bx
  have x3 := (HB2.out.cell (p := ⟨b5, o5 + l * 4 + 3, none⟩) hb5).trans XC.out.2.2.2.1
  have vl := Nat.lt_of_lt_of_le hb5 HB2.out.size
  have c_bx0 := B2_bx.out.cell 0
  have c_bx1 := B2_bx.out.cell 1
  have c_bx2 := B2_bx.out.cell 2
  have c_bx3 := B2_bx.out.cell 3
  have c_bx4 := B2_bx.out.cell 4
  have c_bx5 := B2_bx.out.cell 5
  have c_bx6 := B2_bx.out.cell 6
  have l_bx := B2_bx.out.lt
  refine wp_region_held_drew (S := fun w0 => w0.cell? ⟨w.heap.size, 0, none⟩ = some (.int .i64 ep) ∧ w0.cell? ⟨w.heap.size, 1, none⟩ = some (.int .i64 l) ∧ w0.cell? ⟨w.heap.size, 2, none⟩ = some (.slice A1 is.length c1) ∧ w0.cell? ⟨w.heap.size, 3, none⟩ = some (.slice A3 ks.length c3) ∧ w0.cell? ⟨w.heap.size, 4, none⟩ = some (.slice (some ⟨b5, o5, none⟩) rs.length c5) ∧ w0.cell? ⟨w.heap.size, 5, none⟩ = some (.int .i64 fw) ∧ w0.cell? ⟨w.heap.size, 6, none⟩ = some (.int .i64 ba) ∧ w0.cell? ⟨b5, o5 + l * 4 + 3, none⟩ = some (.int .i64 rs[l].high)) (by kernel_rfl) ?_ (fun hHeld => ?_)
  · exact ⟨c_bx0, c_bx1, c_bx2, c_bx3, c_bx4, c_bx5, c_bx6, x3⟩
  clear c_bx0 c_bx1 c_bx2 c_bx3 c_bx4 c_bx5 c_bx6 l_bx
  generalize hd : World.drew W2 = W3 at *
  have hb : Below W2.heap.size W2 W3 := by rw [← hd]; exact (Below.refl _ _).drew
  have hb3 : Below w.heap.size w W3 := below_then HB2.out hb
  have b_bx3 := B2_bx.out.below hb B2_bx.out.lt
  have k_v3 := K2_v.out.below hb
  have hz3 := hb.size
  have HB3 := Lib.hid hb3
  have B3_bx := Lib.hid b_bx3
  have K3_v := Lib.hid k_v3
  clear hb3 b_bx3 k_v3
  clear B2_bx HB2 K2_v
  clear hd hb
  refine wpAnyH_take (i := 0) (v := ?_) rfl (by kernel_rfl) (by kernel_rfl) (by kernel_rfl) (fun _ _ _ h => h) (Or.inl ⟨by rfl, ?_⟩) (by assumption) ?_
  rotate_left
  · intro w0 hSw
    (try dsimp only at hSw)
    go_simp
    all_goals with_reducible rfl
  try simp only [Act.put, List.getElem_toArray, List.getElem_cons_zero, List.setIfInBounds_toArray, List.set_cons_zero, List.set_cons_succ]
  refine wpAnyH_take (i := 1) (v := ?_) rfl (by kernel_rfl) (by kernel_rfl) (by kernel_rfl) (fun _ _ _ h => h) (Or.inl ⟨by rfl, ?_⟩) (by assumption) ?_
  rotate_left
  · intro w0 hSw
    (try dsimp only at hSw)
    go_simp
    all_goals with_reducible rfl
  try simp only [Act.put, List.getElem_toArray, List.getElem_cons_zero, List.getElem_cons_succ, List.setIfInBounds_toArray, List.set_cons_zero, List.set_cons_succ]
  refine wpAnyH_take (i := 2) (v := ?_) rfl (by kernel_rfl) (by kernel_rfl) (by kernel_rfl) (fun _ _ _ h => h) (Or.inl ⟨by rfl, ?_⟩) (by assumption) ?_
  rotate_left
  · intro w0 hSw
    (try dsimp only at hSw)
    go_simp
    all_goals with_reducible rfl
  try simp only [Act.put, List.getElem_toArray, List.getElem_cons_zero, List.getElem_cons_succ, List.setIfInBounds_toArray, List.set_cons_zero, List.set_cons_succ]
  refine wpAnyH_take (i := 4) (v := ?_) rfl (by kernel_rfl) (by kernel_rfl) (by kernel_rfl) (fun _ _ _ h => h) (Or.inl ⟨by rfl, ?_⟩) (by assumption) ?_
  rotate_left
  · intro w0 hSw
    (try dsimp only at hSw)
    go_simp
    all_goals with_reducible rfl
  try simp only [Act.put, List.getElem_toArray, List.getElem_cons_zero, List.getElem_cons_succ, List.setIfInBounds_toArray, List.set_cons_zero, List.set_cons_succ]
  refine wpAnyH_take (i := 5) (v := ?_) rfl (by kernel_rfl) (by kernel_rfl) (by kernel_rfl) (fun _ _ _ h => h) (Or.inl ⟨by rfl, ?_⟩) (by assumption) ?_
  rotate_left
  · intro w0 hSw
    (try dsimp only at hSw)
    go_simp
    all_goals with_reducible rfl
  try simp only [Act.put, List.getElem_toArray, List.getElem_cons_zero, List.getElem_cons_succ, List.setIfInBounds_toArray, List.set_cons_zero, List.set_cons_succ]
  refine wpAnyH_take (i := 6) (v := ?_) rfl (by kernel_rfl) (by kernel_rfl) (by kernel_rfl) (fun _ _ _ h => h) (Or.inl ⟨by rfl, ?_⟩) (by assumption) ?_
  rotate_left
  · intro w0 hSw
    (try dsimp only at hSw)
    go_simp
    all_goals with_reducible rfl
  try simp only [Act.put, List.getElem_toArray, List.getElem_cons_zero, List.getElem_cons_succ, List.setIfInBounds_toArray, List.set_cons_zero, List.set_cons_succ]
  refine wpAnyH_take (i := 7) (v := ?_) rfl (by kernel_rfl) (by kernel_rfl) (by kernel_rfl) (fun _ _ _ h => h) (Or.inl ⟨by rfl, ?_⟩) (by assumption) ?_
  rotate_left
  · intro w0 hSw
    (try dsimp only at hSw)
    go_simp
    all_goals with_reducible rfl
  try simp only [Act.put, List.getElem_toArray, List.getElem_cons_zero, List.getElem_cons_succ, List.setIfInBounds_toArray, List.set_cons_zero, List.set_cons_succ]
  refine wpAnyH_take (i := 8) (v := ?_) rfl (by kernel_rfl) (by kernel_rfl) (by kernel_rfl) (fun _ _ _ h => h) (Or.inl ⟨by rfl, ?_⟩) (by assumption) ?_
  rotate_left
  · intro w0 hSw
    (try dsimp only at hSw)
    go_simp
    all_goals with_reducible rfl
  try simp only [Act.put, List.getElem_toArray, List.getElem_cons_zero, List.getElem_cons_succ, List.setIfInBounds_toArray, List.set_cons_zero, List.set_cons_succ]
  refine wpAnyH_take (i := 9) (v := ?_) rfl (by kernel_rfl) (by kernel_rfl) (by kernel_rfl) (fun _ _ _ h => h) (Or.inl ⟨by rfl, ?_⟩) (by assumption) ?_
  rotate_left
  · intro w0 hSw
    (try dsimp only at hSw)
    go_simp
    all_goals with_reducible rfl
  try simp only [Act.put, List.getElem_toArray, List.getElem_cons_zero, List.getElem_cons_succ, List.setIfInBounds_toArray, List.set_cons_zero, List.set_cons_succ]
  refine wpAnyH_take (i := 10) (v := ?_) rfl (by kernel_rfl) (by kernel_rfl) (by kernel_rfl) (fun _ _ _ h => h) (Or.inl ⟨by rfl, ?_⟩) (by assumption) ?_
  rotate_left
  · intro w0 hSw
    (try dsimp only at hSw)
    go_simp
    all_goals with_reducible rfl
  try simp only [Act.put, List.getElem_toArray, List.getElem_cons_zero, List.getElem_cons_succ, List.setIfInBounds_toArray, List.set_cons_zero, List.set_cons_succ]
  refine wpAnyH_take (i := 11) (v := ?_) rfl (by kernel_rfl) (by kernel_rfl) (by kernel_rfl) (fun _ _ _ h => h) (Or.inl ⟨by rfl, ?_⟩) (by assumption) ?_
  rotate_left
  · intro w0 hSw
    (try dsimp only at hSw)
    go_simp
    all_goals with_reducible rfl
  try simp only [Act.put, List.getElem_toArray, List.getElem_cons_zero, List.getElem_cons_succ, List.setIfInBounds_toArray, List.set_cons_zero, List.set_cons_succ]
  refine wpAnyH_take (i := 12) (v := ?_) rfl (by kernel_rfl) (by kernel_rfl) (by kernel_rfl) (fun _ _ _ h => h) (Or.inl ⟨by rfl, ?_⟩) (by assumption) ?_
  rotate_left
  · intro w0 hSw
    (try dsimp only at hSw)
    go_simp
    all_goals with_reducible rfl
  try simp only [Act.put, List.getElem_toArray, List.getElem_cons_zero, List.getElem_cons_succ, List.setIfInBounds_toArray, List.set_cons_zero, List.set_cons_succ]
  refine wpAnyH_ready (rs := [3]) (by kernel_rfl) (by simp) (AllReadyH.cons rfl (fun K hK => ?_) AllReadyH.nil)
  go_simp
  go_at_call 82
  refine (logOf_any _ ⟨ep, (l : Int), is, ks, rs, fw, ba⟩ l _ (K3_v.out) hll HLG.out).mono ?_
  rintro e W4 ⟨v5, rfl, hp5, hb⟩
  obtain ⟨A9, c9, rfl, hc9⟩ := (Sl.of_own hp5).form
  have HES := Lib.hid (show Es _ _ es from Sl.of_own hp5)
  clear hp5
  have hb4 : Below w.heap.size w W4 := below_then HB3.out hb
  have b_bx4 := B3_bx.out.below hb B3_bx.out.lt
  have k_v4 := K3_v.out.below hb
  have hz4 := hb.size
  have HB4 := Lib.hid hb4
  have B4_bx := Lib.hid b_bx4
  have K4_v := Lib.hid k_v4
  clear hb4 b_bx4 k_v4
  clear B3_bx HB3 K3_v
  have x3 := (HB4.out.cell (p := ⟨b5, o5 + l * 4 + 3, none⟩) hb5).trans XC.out.2.2.2.1
  have vl := Nat.lt_of_lt_of_le hb5 HB4.out.size
  refine hK.out _ _ ?_ (fun hHeld => ?_)
  · exact ⟨(B4_bx.out).cell 0, (B4_bx.out).cell 1, (B4_bx.out).cell 2, (B4_bx.out).cell 3, (B4_bx.out).cell 4, (B4_bx.out).cell 5, (B4_bx.out).cell 6, x3⟩
  clear hK K
  try simp only [Act.put, List.getElem_toArray, List.getElem_cons_zero, List.getElem_cons_succ, List.setIfInBounds_toArray, List.set_cons_zero, List.set_cons_succ]
  refine wpAnyH_ready (rs := [13]) (by kernel_rfl) (by simp) (AllReadyH.cons rfl (fun K hK => ?_) AllReadyH.nil)
  go_simp
  go_at_call 94
  refine (readOf_ok _ es _ f most _ HES.out n HHI.out hle HLG.out.plain f rfl hfl hm1 hm2 HR.out (by omega)).mono ?_
  rintro e W5 ⟨v7, k7, a7, ha7, rfl, ho7, hs7, hb⟩
  obtain rfl := hs7.unique HS.out
  subst ha7
  obtain ⟨A7, c7, rfl, hc7⟩ := (Sl.of_own ho7).form
  have HO7 := Lib.hid (Sl.of_own ho7)
  clear ho7 hs7
  have hb5 : Below w.heap.size w W5 := below_then HB4.out hb
  have b_bx5 := B4_bx.out.below hb B4_bx.out.lt
  have k_v5 := K4_v.out.below hb
  have k_es5 := HES.out.below hb
  have hz5 := hb.size
  have HB5 := Lib.hid hb5
  have B5_bx := Lib.hid b_bx5
  have K5_v := Lib.hid k_v5
  have K5_es := Lib.hid k_es5
  clear hb5 b_bx5 k_v5 k_es5
  clear B4_bx HB4 K4_v HES
  have x3 := (HB5.out.cell (p := ⟨b5, o5 + l * 4 + 3, none⟩) hb5).trans XC.out.2.2.2.1
  have vl := Nat.lt_of_lt_of_le hb5 HB5.out.size
  refine hK.out _ _ ?_ (fun hHeld => ?_)
  · exact ⟨(B5_bx.out).cell 0, (B5_bx.out).cell 1, (B5_bx.out).cell 2, (B5_bx.out).cell 3, (B5_bx.out).cell 4, (B5_bx.out).cell 5, (B5_bx.out).cell 6, x3⟩
  clear hK K
  try simp only [Act.put, List.getElem_toArray, List.getElem_cons_zero, List.getElem_cons_succ, List.setIfInBounds_toArray, List.set_cons_zero, List.set_cons_succ]
  refine wpAnyH_take (i := 14) (v := ?_) rfl (by kernel_rfl) (by kernel_rfl) (by kernel_rfl) (fun _ _ _ h => h) (Or.inl ⟨by rfl, ?_⟩) (by assumption) ?_
  rotate_left
  · intro w0 hSw
    (try dsimp only at hSw)
    go_simp
    all_goals with_reducible rfl
  try simp only [Act.put, List.getElem_toArray, List.getElem_cons_zero, List.getElem_cons_succ, List.setIfInBounds_toArray, List.set_cons_zero, List.set_cons_succ]
  refine wpAnyH_take (i := 15) (v := ?_) rfl (by kernel_rfl) (by kernel_rfl) (by kernel_rfl) (fun _ _ _ h => h) (Or.inl ⟨by rfl, ?_⟩) (by assumption) ?_
  rotate_left
  · intro w0 hSw
    (try dsimp only at hSw)
    go_simp
    all_goals with_reducible rfl
  try simp only [Act.put, List.getElem_toArray, List.getElem_cons_zero, List.getElem_cons_succ, List.setIfInBounds_toArray, List.set_cons_zero, List.set_cons_succ]
  refine wpAnyH_take (i := 16) (v := ?_) rfl (by kernel_rfl) (by kernel_rfl) (by kernel_rfl) (fun _ _ _ h => h) (Or.inl ⟨by rfl, ?_⟩) (by assumption) ?_
  rotate_left
  · intro w0 hSw
    (try dsimp only at hSw)
    go_simp
    all_goals with_reducible rfl
  try simp only [Act.put, List.getElem_toArray, List.getElem_cons_zero, List.getElem_cons_succ, List.setIfInBounds_toArray, List.set_cons_zero, List.set_cons_succ]
  refine wpAnyH_take (i := 17) (v := ?_) rfl (by kernel_rfl) (by kernel_rfl) (by kernel_rfl) (fun _ _ _ h => h) (Or.inl ⟨by rfl, ?_⟩) (by assumption) ?_
  rotate_left
  · intro w0 hSw
    (try dsimp only at hSw)
    go_simp
    all_goals with_reducible rfl
  try simp only [Act.put, List.getElem_toArray, List.getElem_cons_zero, List.getElem_cons_succ, List.setIfInBounds_toArray, List.set_cons_zero, List.set_cons_succ]
  refine wpAnyH_take (i := 18) (v := ?_) rfl (by kernel_rfl) (by kernel_rfl) (by kernel_rfl) (fun _ _ _ h => h) (Or.inl ⟨by rfl, ?_⟩) (by assumption) ?_
  rotate_left
  · intro w0 hSw
    (try dsimp only at hSw)
    go_simp
    all_goals with_reducible rfl
  try simp only [Act.put, List.getElem_toArray, List.getElem_cons_zero, List.getElem_cons_succ, List.setIfInBounds_toArray, List.set_cons_zero, List.set_cons_succ]
  refine wpAnyH_take (i := 19) (v := ?_) rfl (by kernel_rfl) (by kernel_rfl) (by kernel_rfl) (fun _ _ _ h => h) (Or.inl ⟨by rfl, ?_⟩) (by assumption) ?_
  rotate_left
  · intro w0 hSw
    (try dsimp only at hSw)
    go_simp
    all_goals with_reducible rfl
  try simp only [Act.put, List.getElem_toArray, List.getElem_cons_zero, List.getElem_cons_succ, List.setIfInBounds_toArray, List.set_cons_zero, List.set_cons_succ]
  refine wpAnyH_done (by kernel_rfl) ?_ _
  go_wp2
  exact bodyPost_ret (v := .tuple #[.slice A7 (textsTo es n f k7).length c7, .int .i64 ((f + k7 : Nat) : Int), .int .i64 0]) (by simp [results, Try.results63, go_sem]) rfl ⟨_, rfl, HO7.out, HB5.out⟩
end Go.Proofs.Ytpjjfnpdopdnkaa
