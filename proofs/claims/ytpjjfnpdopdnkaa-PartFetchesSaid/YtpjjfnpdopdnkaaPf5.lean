/- Parts of a proof, merged: PartM. No condition. -/
import Derived.Test.YtpjjfnpdopdnkaaPf4
import Derived.Deep.RegionHeld3
import Derived.Deep.DrawnRows
namespace Go.Proofs.Ytpjjfnpdopdnkaa
open Go.RowKit
attribute [local go_sem ↓] Go.wp_at_zero Go.wp_at_succ

theorem first_bad (b0 b1 b2 b3 b4 b5 b6 : Bool) : (b0 = true ∧ b1 = false ∧ b2 = false ∧ b3 = true ∧ b4 = true ∧ b5 = true ∧ b6 = true) ∨ (b0 = false) ∨ (b0 = true ∧ b1 = true) ∨ (b0 = true ∧ b1 = false ∧ b2 = true) ∨ (b0 = true ∧ b1 = false ∧ b2 = false ∧ b3 = false) ∨ (b0 = true ∧ b1 = false ∧ b2 = false ∧ b3 = true ∧ b4 = false) ∨ (b0 = true ∧ b1 = false ∧ b2 = false ∧ b3 = true ∧ b4 = true ∧ b5 = false) ∨ (b0 = true ∧ b1 = false ∧ b2 = false ∧ b3 = true ∧ b4 = true ∧ b5 = true ∧ b6 = false) := by
  cases b0 <;> simp
  cases b1 <;> simp
  cases b2 <;> simp
  cases b3 <;> simp
  cases b4 <;> simp
  cases b5 <;> simp
theorem may_cases (c : PartD) : PartHead c ∨ ¬ PartHead c ∧ ((inB (c.reps.length : Int) 1 5 = false) ∨
    (inB (c.reps.length : Int) 1 5 = true ∧ ((c.isr.length : Int) != (c.reps.length : Int)) = true) ∨
    (inB (c.reps.length : Int) 1 5 = true ∧ ((c.isr.length : Int) != (c.reps.length : Int)) = false ∧ ((c.known.length : Int) != (c.reps.length : Int)) = true) ∨
    (inB (c.reps.length : Int) 1 5 = true ∧ ((c.isr.length : Int) != (c.reps.length : Int)) = false ∧ ((c.known.length : Int) != (c.reps.length : Int)) = false ∧ inB c.few 1 (c.reps.length : Int) = false) ∨
    (inB (c.reps.length : Int) 1 5 = true ∧ ((c.isr.length : Int) != (c.reps.length : Int)) = false ∧ ((c.known.length : Int) != (c.reps.length : Int)) = false ∧ inB c.few 1 (c.reps.length : Int) = true ∧ inB c.epoch 0 1073741824 = false) ∨
    (inB (c.reps.length : Int) 1 5 = true ∧ ((c.isr.length : Int) != (c.reps.length : Int)) = false ∧ ((c.known.length : Int) != (c.reps.length : Int)) = false ∧ inB c.few 1 (c.reps.length : Int) = true ∧ inB c.epoch 0 1073741824 = true ∧ inB c.leader (-1) ((c.reps.length : Int) - 1) = false) ∨
    (inB (c.reps.length : Int) 1 5 = true ∧ ((c.isr.length : Int) != (c.reps.length : Int)) = false ∧ ((c.known.length : Int) != (c.reps.length : Int)) = false ∧ inB c.few 1 (c.reps.length : Int) = true ∧ inB c.epoch 0 1073741824 = true ∧ inB c.leader (-1) ((c.reps.length : Int) - 1) = true ∧ inB c.base 0 400 = false)) := by
  by_cases h : PartHead c
  · exact Or.inl h
  · refine Or.inr ⟨h, ?_⟩
    rcases first_bad (inB (c.reps.length : Int) 1 5) (((c.isr.length : Int) != (c.reps.length : Int))) (((c.known.length : Int) != (c.reps.length : Int))) (inB c.few 1 (c.reps.length : Int)) (inB c.epoch 0 1073741824) (inB c.leader (-1) ((c.reps.length : Int) - 1)) (inB c.base 0 400) with ⟨h0, h1, h2, h3, h4, h5, h6⟩ | h'
    · simp only [bne_eq_false_iff_eq, inB, Bool.and_eq_true, decide_eq_true_eq] at h0 h1 h2 h3 h4 h5 h6
      exact absurd ⟨⟨by omega, by omega⟩, by omega, by omega, ⟨by omega, by omega⟩, ⟨by omega, by omega⟩, ⟨by omega, by omega⟩, ⟨by omega, by omega⟩⟩ h
    · exact h'
set_option maxRecDepth 100000 in
set_option maxHeartbeats 16000000 in
theorem partMay_head (v : Value) (c : PartD) (w : World) (h : Pv w v c) (hn : ¬ PartHead c) (hcs : (inB (c.reps.length : Int) 1 5 = false) ∨ (inB (c.reps.length : Int) 1 5 = true ∧ ((c.isr.length : Int) != (c.reps.length : Int)) = true) ∨ (inB (c.reps.length : Int) 1 5 = true ∧ ((c.isr.length : Int) != (c.reps.length : Int)) = false ∧ ((c.known.length : Int) != (c.reps.length : Int)) = true) ∨ (inB (c.reps.length : Int) 1 5 = true ∧ ((c.isr.length : Int) != (c.reps.length : Int)) = false ∧ ((c.known.length : Int) != (c.reps.length : Int)) = false ∧ inB c.few 1 (c.reps.length : Int) = false) ∨ (inB (c.reps.length : Int) 1 5 = true ∧ ((c.isr.length : Int) != (c.reps.length : Int)) = false ∧ ((c.known.length : Int) != (c.reps.length : Int)) = false ∧ inB c.few 1 (c.reps.length : Int) = true ∧ inB c.epoch 0 1073741824 = false) ∨ (inB (c.reps.length : Int) 1 5 = true ∧ ((c.isr.length : Int) != (c.reps.length : Int)) = false ∧ ((c.known.length : Int) != (c.reps.length : Int)) = false ∧ inB c.few 1 (c.reps.length : Int) = true ∧ inB c.epoch 0 1073741824 = true ∧ inB c.leader (-1) ((c.reps.length : Int) - 1) = false) ∨ (inB (c.reps.length : Int) 1 5 = true ∧ ((c.isr.length : Int) != (c.reps.length : Int)) = false ∧ ((c.known.length : Int) != (c.reps.length : Int)) = false ∧ inB c.few 1 (c.reps.length : Int) = true ∧ inB c.epoch 0 1073741824 = true ∧ inB c.leader (-1) ((c.reps.length : Int) - 1) = true ∧ inB c.base 0 400 = false)) :
    Calls Try.prog 42 #[v] w (Tells (PartOk c) w) := by
  have HN := Lib.hid (show ¬ PartOk c from fun h => hn h.head)
  clear hn
  obtain ⟨xi, xk, xr, rfl, ix, kx, rx, hli, hlk, hlr⟩ := id h
  obtain ⟨A5, c5, rfl, hc5, hx2⟩ := rx.at_
  obtain ⟨A1, c1, rfl, hc1, hx1⟩ := ix.at_
  obtain ⟨A3, c3, rfl, hc3, hx3⟩ := kx.at_
  unfold partV at *
  clear h ix kx rx hx1 hx2 hx3
  obtain ⟨ep, ld, is, ks, rs, fw, ba⟩ := c
  simp only at *
  rcases hcs with z0 | ⟨z0, z1⟩ | ⟨z0, z1, z2⟩ | ⟨z0, z1, z2, z3⟩ | ⟨z0, z1, z2, z3, z4⟩ | ⟨z0, z1, z2, z3, z4, z5⟩ | ⟨z0, z1, z2, z3, z4, z5, z6⟩
  all_goals
    go_enter Try.func42, Try.ntmps42
    go_wp2_with (go_split_ands; go_at_call 69; refine (In_any _ _ _ _).mono ?_; rintro e w' ⟨rfl, rfl⟩)
    go_ret
    exact Tells.mk_no HN.out ((Below.refl _ _).alloc (Nat.le_refl _) _)
theorem logFault_no {v : Value} {t : RepD} {w : World} (hf : logFault t.log ≠ 0) (hv : By w v t.bytes) (hl : t.bytes.length ≤ 9223372036854775807) :
    Calls Try.prog 33 #[.agg #[v, .int .i64 t.synced]] w fun e w' => ∃ n : Int, e = .returned (.int .i64 n) ∧ (n != 0) = true ∧ Below w.heap.size w w' :=
  (logFault_any v t.bytes t.synced w hv hl).mono fun _ _ ⟨h1, h2⟩ => ⟨_, h1, by simp only [bne_iff_ne]; exact hf, h2⟩
theorem logFault_yes {v : Value} {t : RepD} {w : World} (hf : logFault t.log = 0) (hv : By w v t.bytes) (hl : t.bytes.length ≤ 9223372036854775807) :
    Calls Try.prog 33 #[.agg #[v, .int .i64 t.synced]] w fun e w' => e = .returned (.int .i64 0) ∧ Below w.heap.size w w' :=
  (logFault_any v t.bytes t.synced w hv hl).mono fun _ _ ⟨h1, h2⟩ => ⟨by rw [h1]; unfold RepD.log at hf; rw [hf], h2⟩
/-- so many of the flags were seen -/
def SomeTo (l : List Bool) (k : Nat) (b : Bool) : Prop := b = true ↔ ∃ j, j < k ∧ l[j]? = some true
theorem SomeTo.step {l : List Bool} {k : Nat} {b : Bool} (h : SomeTo l k b) (hk : k < l.length) : SomeTo l (k + 1) (b || l[k]) := by
  unfold SomeTo at *
  rw [Bool.or_eq_true, h]
  constructor
  · rintro (⟨j, hj, he⟩ | he)
    · exact ⟨j, by omega, he⟩
    · exact ⟨k, by omega, by rw [List.getElem?_eq_getElem hk, he]⟩
  · rintro ⟨j, hj, he⟩
    rcases Nat.lt_succ_iff_lt_or_eq.1 hj with h' | rfl
    · exact Or.inl ⟨j, h', he⟩
    · rw [List.getElem?_eq_getElem hk] at he
      exact Or.inr (by simpa using he)
theorem SomeTo.all {l : List Bool} {b : Bool} (h : SomeTo l l.length b) : b = true ↔ true ∈ l := by
  unfold SomeTo at h
  rw [h, List.mem_iff_getElem?]
  constructor
  · rintro ⟨j, _, he⟩; exact ⟨j, he⟩
  · rintro ⟨j, he⟩; exact ⟨j, (List.getElem?_eq_some_iff.1 he).1, he⟩
set_option maxRecDepth 100000 in
set_option maxHeartbeats 16000000 in
theorem partMay_good (v : Value) (c : PartD) (w : World) (h : Pv w v c) (hh : PartHead c) :
    Calls Try.prog 42 #[v] w (Tells (PartOk c) w) := by
  have HOK := Lib.hid (fun h1 h2 h3 => hh.ok h1 h2 h3)
  obtain ⟨xi, xk, xr, rfl, ix, kx, rx, hli, hlk, hlr⟩ := id h
  obtain ⟨A5, c5, rfl, hc5, hx2⟩ := rx.at_
  obtain ⟨A1, c1, rfl, hc1, hx1⟩ := ix.at_
  obtain ⟨A3, c3, rfl, hc3, hx3⟩ := kx.at_
  unfold partV at *
  have H := Lib.hid h
  have HC := Lib.hid hx2
  have HI := Lib.hid hx1
  have HK := Lib.hid hx3
  obtain ⟨g1, g2, g3, g4, g5, g6, g7⟩ := hh
  clear h ix hx1 hx2 hx3 kx rx
  obtain ⟨ep, ld, is, ks, rs, fw, ba⟩ := c
  simp only at *
  have HNR := Lib.hid (fun (k : Nat) (h1 : k < rs.length) (h2 : k < ks.length) (hn : ¬ RepOk rs[k] ks[k]) => not_ok_rep (c := ⟨ep, ld, is, ks, rs, fw, ba⟩) h1 h2 hn)
  have z0 : inB (rs.length : Int) 1 5 = true := by simp [inB]; omega
  have z1 : ((is.length : Int) != (rs.length : Int)) = false := by simp only [bne_eq_false_iff_eq]; omega
  have z2 : ((ks.length : Int) != (rs.length : Int)) = false := by simp only [bne_eq_false_iff_eq]; omega
  have z3 : inB fw 1 (rs.length : Int) = true := by simp [inB]; omega
  have z4 : inB ep 0 1073741824 = true := by simp [inB]; omega
  have z5 : inB ld (-1) ((rs.length : Int) - 1) = true := by simp [inB]; omega
  have z6 : inB ba 0 400 = true := by simp [inB]; omega
  have G2 := Lib.hid g2
  have G3 := Lib.hid g3
  have G6 := Lib.hid g6
  have hn5 : rs.length ≤ 5 := g1.2
  clear g1 g2 g3 g4 g5 g6 g7
  have hbl := (Below.refl w.heap.size w).alloc (Nat.le_refl _) (.cells #[.int .i64 ep, .int .i64 ld, .slice A1 is.length c1, .slice A3 ks.length c3, .slice A5 rs.length c5, .int .i64 fw, .int .i64 ba] 26)
  have bx := Blk.new w 26 #[.int .i64 ep, .int .i64 ld, .slice A1 is.length c1, .slice A3 ks.length c3, .slice A5 rs.length c5, .int .i64 fw, .int .i64 ba]
  go_enter Try.func42, Try.ntmps42
  go_wp2_with (go_split_ands; go_at_call 69; refine (In_any _ _ _ _).mono ?_; rintro e w' ⟨rfl, rfl⟩)
  clear z0 z1 z2 z3 z4 z5 z6
  generalize w.alloc (.cells #[.int .i64 ep, .int .i64 ld, .slice A1 is.length c1, .slice A3 ks.length c3, .slice A5 rs.length c5, .int .i64 fw, .int .i64 ba] 26) = W0 at *
  have HBL := Lib.hid hbl
  have HB := Lib.hid bx
  clear hbl bx
  go_loopw [4, 5] (fun s i wr => ∃ (k : Nat) (b : Bool), k ≤ rs.length ∧ s = .bool b ∧ i = .int .i64 k ∧ Hid (SomeTo is k b) ∧ Hid (RepsTo ⟨ep, ld, is, ks, rs, fw, ba⟩ k) ∧ Hid (Below W0.heap.size W0 wr)) (fun _ i _ => rs.length - (intOf i).toNat)
  case atStart => exact ⟨0, false, by omega, rfl, rfl, by constructor <;> (intro h; simp at h), fun j hj => by omega, Below.refl _ _⟩
  case round =>
    obtain ⟨k, s, hk, rfl, rfl, HS, HR, HW⟩ := hrel
    have hbw := below_then HBL.out HW.out
    have bw := HB.out.below HW.out HB.out.lt
    have q0 := bw.cell 0
    have q1 := bw.cell 1
    have q2 := bw.cell 2
    have q3 := bw.cell 3
    have q4 := bw.cell 4
    have q5 := bw.cell 5
    have q6 := bw.cell 6
    have ql := bw.lt
    have HBW := Lib.hid hbw
    have BW := Lib.hid bw
    clear bw hbw
    by_cases hlt : k < rs.length
    · have hltk : k < ks.length := by have := G3.out; omega
      have hlti : k < is.length := by have := G2.out; omega
      obtain ⟨b, off, rfl, hb, hcell⟩ := HC.out (Nat.lt_of_le_of_lt (Nat.zero_le _) hlt)
      obtain ⟨pv, x0, x1, x2, x3, xb, xl⟩ := hcell k hlt
      obtain ⟨b3, o3, rfl, hb3, hcell3⟩ := HK.out (Nat.lt_of_le_of_lt (Nat.zero_le _) hltk)
      have k0 := hcell3 k hltk
      obtain ⟨b1, o1, rfl, hb1, hcell1⟩ := HI.out (Nat.lt_of_le_of_lt (Nat.zero_le _) hlti)
      have y0 := hcell1 k hlti
      obtain ⟨A7, c7, rfl, hc7, -⟩ := xb.at_
      have X1 := (HBW.out.cell (p := ⟨b, off + k * 4 + 1, none⟩) hb).trans x1
      have X2 := (HBW.out.cell (p := ⟨b, off + k * 4 + 2, none⟩) hb).trans x2
      have X3 := (HBW.out.cell (p := ⟨b, off + k * 4 + 3, none⟩) hb).trans x3
      have Y0 := (HBW.out.cell (p := ⟨b1, o1 + k, none⟩) hb1).trans y0
      have K0 := (HBW.out.cell (p := ⟨b3, o3 + k, none⟩) hb3).trans k0
      have i0 : (0 : Int) ≤ (k : Int) := by omega
      have i1 : (k : Int) < (rs.length : Int) := Int.ofNat_lt.2 hlt
      have i2 : (k : Int) < (ks.length : Int) := Int.ofNat_lt.2 hltk
      have i3 : (k : Int) < (is.length : Int) := Int.ofNat_lt.2 hlti
      have XB := Lib.hid xb
      have XL := Lib.hid xl
      have HS' := Lib.hid (HS.out.step hlti)
      clear x0 x1 x2 x3 hcell hcell3 hcell1 xb xl k0 y0
      have hSK : ∀ w', Below wr.heap.size wr w' → (fun w' => Below wr.heap.size wr w' ∧ w.heap.size < w'.heap.size ∧ w'.cell? ⟨w.heap.size, 0, none⟩ = some (.int .i64 ep) ∧ w'.cell? ⟨w.heap.size, 1, none⟩ = some (.int .i64 ld) ∧ w'.cell? ⟨w.heap.size, 2, none⟩ = some (.slice (some ⟨b1, o1, none⟩) is.length c1) ∧ w'.cell? ⟨w.heap.size, 3, none⟩ = some (.slice (some ⟨b3, o3, none⟩) ks.length c3) ∧ w'.cell? ⟨w.heap.size, 4, none⟩ = some (.slice (some ⟨b, off, none⟩) rs.length c5) ∧ w'.cell? ⟨w.heap.size, 5, none⟩ = some (.int .i64 fw) ∧ w'.cell? ⟨w.heap.size, 6, none⟩ = some (.int .i64 ba) ∧ w'.cell? ⟨b, off + k * 4 + 1, none⟩ = some (.slice A7 rs[k].bytes.length c7) ∧ w'.cell? ⟨b, off + k * 4 + 1 + 1, none⟩ = some (.int .i64 rs[k].synced) ∧ w'.cell? ⟨b, off + k * 4 + 3, none⟩ = some (.int .i64 rs[k].high) ∧ w'.cell? ⟨b3, o3 + k, none⟩ = some (.int .i64 ks[k])) w' := by
        intro w' hb'
        have bw' := BW.out.below hb' BW.out.lt
        exact ⟨hb', bw'.lt, bw'.cell 0, bw'.cell 1, bw'.cell 2, bw'.cell 3, bw'.cell 4, bw'.cell 5, bw'.cell 6, (hb'.cell (p := ⟨b, off + k * 4 + 1, none⟩) (by have := HBW.out.size; show b < _; omega)).trans X1, (hb'.cell (p := ⟨b, off + k * 4 + 2, none⟩) (by have := HBW.out.size; show b < _; omega)).trans X2, (hb'.cell (p := ⟨b, off + k * 4 + 3, none⟩) (by have := HBW.out.size; show b < _; omega)).trans X3, (hb'.cell (p := ⟨b3, o3 + k, none⟩) (by have := HBW.out.size; show b3 < _; omega)).trans K0⟩
      have SK := Lib.hid hSK
      clear hSK
      go_upto_region 8 with fail
      go_cut [4] from 53 to 96 (fun c wx => c = .bool (s || is[k]) ∧ wr = wx)
      case first =>
        rcases s with _ | _
        all_goals
          go_wp2
          go_meet
          exact ⟨rfl, rfl⟩
      case rest =>
        obtain ⟨rfl, rfl⟩ := hcut
        go_wp2_with fail
        go_cut [96] from 66 to 96 (fun c wx => (c = .bool true ∧ ¬ RepOk rs[k] ks[k] ∨ c = .bool false ∧ RepOk rs[k] ks[k]) ∧ Hid (Below wr.heap.size wr wx))
        case first =>
          rcases logFault_cases rs[k].log with hf | ⟨es, j, hlog⟩
          · have HNO := Lib.hid (show ¬ RepOk rs[k] ks[k] from fun h => hf h.1)
            have HFN := Lib.hid hf
            clear hf X1 X2 X3 K0 Y0 q0 q1 q2 q3 q4 q5 q6 ql
            refine wp_region_held_drew (S := fun w' => Below wr.heap.size wr w' ∧ w.heap.size < w'.heap.size ∧ w'.cell? ⟨w.heap.size, 0, none⟩ = some (.int .i64 ep) ∧ w'.cell? ⟨w.heap.size, 1, none⟩ = some (.int .i64 ld) ∧ w'.cell? ⟨w.heap.size, 2, none⟩ = some (.slice (some ⟨b1, o1, none⟩) is.length c1) ∧ w'.cell? ⟨w.heap.size, 3, none⟩ = some (.slice (some ⟨b3, o3, none⟩) ks.length c3) ∧ w'.cell? ⟨w.heap.size, 4, none⟩ = some (.slice (some ⟨b, off, none⟩) rs.length c5) ∧ w'.cell? ⟨w.heap.size, 5, none⟩ = some (.int .i64 fw) ∧ w'.cell? ⟨w.heap.size, 6, none⟩ = some (.int .i64 ba) ∧ w'.cell? ⟨b, off + k * 4 + 1, none⟩ = some (.slice A7 rs[k].bytes.length c7) ∧ w'.cell? ⟨b, off + k * 4 + 1 + 1, none⟩ = some (.int .i64 rs[k].synced) ∧ w'.cell? ⟨b, off + k * 4 + 3, none⟩ = some (.int .i64 rs[k].high) ∧ w'.cell? ⟨b3, o3 + k, none⟩ = some (.int .i64 ks[k])) (by kernel_rfl) ?_ (fun hHeld => ?_)
            · exact SK.out _ (Below.refl _ _).drew
            refine wpAnyH_take (i := 0) (v := ?_) rfl (by kernel_rfl) (by kernel_rfl) (by kernel_rfl) (fun _ _ _ h => h) (Or.inl ⟨by rfl, ?_⟩) (by assumption) ?_
            rotate_left
            · intro w0 hSw
              (try dsimp only at hSw)
              go_simp
              all_goals with_reducible rfl
            try simp only [Act.put, List.getElem_toArray, List.getElem_cons_zero, List.setIfInBounds_toArray, List.set_cons_zero, List.set_cons_succ]
            refine wpAnyH_take (i := 1) (v := ?_) rfl (by kernel_rfl) (by kernel_rfl) (by kernel_rfl) (fun _ _ _ h => h) (Or.inl ⟨by rfl, ?_⟩) (by assumption) ?_
            rotate_left
            · intro w0 hSw
              (try dsimp only at hSw)
              go_simp
              all_goals with_reducible rfl
            try simp only [Act.put, List.getElem_toArray, List.getElem_cons_zero, List.getElem_cons_succ, List.setIfInBounds_toArray, List.set_cons_zero, List.set_cons_succ]
            refine wpAnyH_take (i := 2) (v := ?_) rfl (by kernel_rfl) (by kernel_rfl) (by kernel_rfl) (fun _ _ _ h => h) (Or.inl ⟨by rfl, ?_⟩) (by assumption) ?_
            rotate_left
            · intro w0 hSw
              (try dsimp only at hSw)
              go_simp
              all_goals with_reducible rfl
            try simp only [Act.put, List.getElem_toArray, List.getElem_cons_zero, List.getElem_cons_succ, List.setIfInBounds_toArray, List.set_cons_zero, List.set_cons_succ]
            refine wpAnyH_take (i := 3) (v := ?_) rfl (by kernel_rfl) (by kernel_rfl) (by kernel_rfl) (fun _ _ _ h => h) (Or.inl ⟨by rfl, ?_⟩) (by assumption) ?_
            rotate_left
            · intro w0 hSw
              (try dsimp only at hSw)
              go_simp
              all_goals with_reducible rfl
            try simp only [Act.put, List.getElem_toArray, List.getElem_cons_zero, List.getElem_cons_succ, List.setIfInBounds_toArray, List.set_cons_zero, List.set_cons_succ]
            refine wpAnyH_take (i := 4) (v := ?_) rfl (by kernel_rfl) (by kernel_rfl) (by kernel_rfl) (fun _ _ _ h => h) (Or.inl ⟨by rfl, ?_⟩) (by assumption) ?_
            rotate_left
            · intro w0 hSw
              (try dsimp only at hSw)
              go_simp
              all_goals with_reducible rfl
            try simp only [Act.put, List.getElem_toArray, List.getElem_cons_zero, List.getElem_cons_succ, List.setIfInBounds_toArray, List.set_cons_zero, List.set_cons_succ]
            refine wpAnyH_take (i := 5) (v := ?_) rfl (by kernel_rfl) (by kernel_rfl) (by kernel_rfl) (fun _ _ _ h => h) (Or.inl ⟨by rfl, ?_⟩) (by assumption) ?_
            rotate_left
            · intro w0 hSw
              (try dsimp only at hSw)
              go_simp
              all_goals with_reducible rfl
            try simp only [Act.put, List.getElem_toArray, List.getElem_cons_zero, List.getElem_cons_succ, List.setIfInBounds_toArray, List.set_cons_zero, List.set_cons_succ]
            refine wpAnyH_ready (rs := [6]) (by kernel_rfl) (by simp) (AllReadyH.cons rfl (fun K hK => ?_) AllReadyH.nil)
            go_simp
            go_at_call 33
            refine (logFault_no HFN.out (XB.out.below (below_then HBW.out (Below.refl wr.heap.size wr).drew)) XL.out).mono ?_
            rintro e w5 ⟨x5, rfl, hx5, hb5⟩
            have hW5 := below_then (Below.refl wr.heap.size wr).drew hb5
            refine hK.out _ _ ?_ (fun hHeld => ?_)
            · exact SK.out _ hW5
            clear hK K
            try simp only [Act.put, List.getElem_toArray, List.getElem_cons_zero, List.getElem_cons_succ, List.setIfInBounds_toArray, List.set_cons_zero, List.set_cons_succ]
            refine wpAnyH_take (i := 7) (v := ?_) rfl (by kernel_rfl) (by kernel_rfl) (by kernel_rfl) (fun _ _ _ h => h) (Or.inl ⟨by rfl, ?_⟩) (by assumption) ?_
            rotate_left
            · intro w0 hSw
              (try dsimp only at hSw)
              go_simp
              all_goals with_reducible rfl
            try simp only [Act.put, List.getElem_toArray, List.getElem_cons_zero, List.getElem_cons_succ, List.setIfInBounds_toArray, List.set_cons_zero, List.set_cons_succ]
            refine wpAnyH_take (i := 8) (v := ?_) rfl (by kernel_rfl) (by kernel_rfl) (by kernel_rfl) (fun _ _ _ h => h) (Or.inl ⟨by rfl, ?_⟩) (by assumption) ?_
            rotate_left
            · intro w0 hSw
              (try dsimp only at hSw)
              go_simp
              all_goals with_reducible rfl
            try simp only [Act.put, List.getElem_toArray, List.getElem_cons_zero, List.getElem_cons_succ, List.setIfInBounds_toArray, List.set_cons_zero, List.set_cons_succ]
            refine wpAnyH_take (i := 9) (v := undef) rfl (by kernel_rfl) (by kernel_rfl) (by kernel_rfl) (fun _ _ _ h => h) (Or.inr ⟨by rfl, rfl⟩) (by assumption) ?_
            try simp only [Act.put, List.getElem_toArray, List.getElem_cons_zero, List.getElem_cons_succ, List.setIfInBounds_toArray, List.set_cons_zero, List.set_cons_succ]
            refine wpAnyH_take (i := 10) (v := undef) rfl (by kernel_rfl) (by kernel_rfl) (by kernel_rfl) (fun _ _ _ h => h) (Or.inr ⟨by rfl, rfl⟩) (by assumption) ?_
            try simp only [Act.put, List.getElem_toArray, List.getElem_cons_zero, List.getElem_cons_succ, List.setIfInBounds_toArray, List.set_cons_zero, List.set_cons_succ]
            refine wpAnyH_take (i := 11) (v := undef) rfl (by kernel_rfl) (by kernel_rfl) (by kernel_rfl) (fun _ _ _ h => h) (Or.inr ⟨by rfl, rfl⟩) (by assumption) ?_
            try simp only [Act.put, List.getElem_toArray, List.getElem_cons_zero, List.getElem_cons_succ, List.setIfInBounds_toArray, List.set_cons_zero, List.set_cons_succ]
            refine wpAnyH_take (i := 12) (v := undef) rfl (by kernel_rfl) (by kernel_rfl) (by kernel_rfl) (fun _ _ _ h => h) (Or.inr ⟨by rfl, rfl⟩) (by assumption) ?_
            try simp only [Act.put, List.getElem_toArray, List.getElem_cons_zero, List.getElem_cons_succ, List.setIfInBounds_toArray, List.set_cons_zero, List.set_cons_succ]
            refine wpAnyH_take (i := 13) (v := undef) rfl (by kernel_rfl) (by kernel_rfl) (by kernel_rfl) (fun _ _ _ h => h) (Or.inr ⟨by rfl, rfl⟩) (by assumption) ?_
            try simp only [Act.put, List.getElem_toArray, List.getElem_cons_zero, List.getElem_cons_succ, List.setIfInBounds_toArray, List.set_cons_zero, List.set_cons_succ]
            refine wpAnyH_take (i := 14) (v := undef) rfl (by kernel_rfl) (by kernel_rfl) (by kernel_rfl) (fun _ _ _ h => h) (Or.inr ⟨by rfl, rfl⟩) (by assumption) ?_
            try simp only [Act.put, List.getElem_toArray, List.getElem_cons_zero, List.getElem_cons_succ, List.setIfInBounds_toArray, List.set_cons_zero, List.set_cons_succ]
            refine wpAnyH_take (i := 15) (v := undef) rfl (by kernel_rfl) (by kernel_rfl) (by kernel_rfl) (fun _ _ _ h => h) (Or.inr ⟨by rfl, rfl⟩) (by assumption) ?_
            try simp only [Act.put, List.getElem_toArray, List.getElem_cons_zero, List.getElem_cons_succ, List.setIfInBounds_toArray, List.set_cons_zero, List.set_cons_succ]
            refine wpAnyH_take (i := 16) (v := undef) rfl (by kernel_rfl) (by kernel_rfl) (by kernel_rfl) (fun _ _ _ h => h) (Or.inr ⟨by rfl, rfl⟩) (by assumption) ?_
            try simp only [Act.put, List.getElem_toArray, List.getElem_cons_zero, List.getElem_cons_succ, List.setIfInBounds_toArray, List.set_cons_zero, List.set_cons_succ]
            refine wpAnyH_take (i := 17) (v := undef) rfl (by kernel_rfl) (by kernel_rfl) (by kernel_rfl) (fun _ _ _ h => h) (Or.inr ⟨by rfl, rfl⟩) (by assumption) ?_
            try simp only [Act.put, List.getElem_toArray, List.getElem_cons_zero, List.getElem_cons_succ, List.setIfInBounds_toArray, List.set_cons_zero, List.set_cons_succ]
            refine wpAnyH_take (i := 18) (v := undef) rfl (by kernel_rfl) (by kernel_rfl) (by kernel_rfl) (fun _ _ _ h => h) (Or.inr ⟨by rfl, rfl⟩) (by assumption) ?_
            try simp only [Act.put, List.getElem_toArray, List.getElem_cons_zero, List.getElem_cons_succ, List.setIfInBounds_toArray, List.set_cons_zero, List.set_cons_succ]
            refine wpAnyH_take (i := 19) (v := undef) rfl (by kernel_rfl) (by kernel_rfl) (by kernel_rfl) (fun _ _ _ h => h) (Or.inr ⟨by rfl, rfl⟩) (by assumption) ?_
            try simp only [Act.put, List.getElem_toArray, List.getElem_cons_zero, List.getElem_cons_succ, List.setIfInBounds_toArray, List.set_cons_zero, List.set_cons_succ]
            refine wpAnyH_take (i := 20) (v := undef) rfl (by kernel_rfl) (by kernel_rfl) (by kernel_rfl) (fun _ _ _ h => h) (Or.inr ⟨by rfl, rfl⟩) (by assumption) ?_
            try simp only [Act.put, List.getElem_toArray, List.getElem_cons_zero, List.getElem_cons_succ, List.setIfInBounds_toArray, List.set_cons_zero, List.set_cons_succ]
            refine wpAnyH_take (i := 21) (v := ?_) rfl (by kernel_rfl) (by kernel_rfl) (by kernel_rfl) (fun _ _ _ h => h) (Or.inl ⟨by rfl, ?_⟩) (by assumption) ?_
            rotate_left
            · intro w0 hSw
              (try dsimp only at hSw)
              go_simp
              all_goals with_reducible rfl
            try simp only [Act.put, List.getElem_toArray, List.getElem_cons_zero, List.getElem_cons_succ, List.setIfInBounds_toArray, List.set_cons_zero, List.set_cons_succ]
            refine wpAnyH_take (i := 22) (v := ?_) rfl (by kernel_rfl) (by kernel_rfl) (by kernel_rfl) (fun _ _ _ h => h) (Or.inl ⟨by rfl, ?_⟩) (by assumption) ?_
            rotate_left
            · intro w0 hSw
              (try dsimp only at hSw)
              go_simp
              all_goals with_reducible rfl
            try simp only [Act.put, List.getElem_toArray, List.getElem_cons_zero, List.getElem_cons_succ, List.setIfInBounds_toArray, List.set_cons_zero, List.set_cons_succ]
            refine wpAnyH_take (i := 23) (v := undef) rfl (by kernel_rfl) (by kernel_rfl) (by kernel_rfl) (fun _ _ _ h => h) (Or.inr ⟨by rfl, rfl⟩) (by assumption) ?_
            try simp only [Act.put, List.getElem_toArray, List.getElem_cons_zero, List.getElem_cons_succ, List.setIfInBounds_toArray, List.set_cons_zero, List.set_cons_succ]
            refine wpAnyH_take (i := 24) (v := undef) rfl (by kernel_rfl) (by kernel_rfl) (by kernel_rfl) (fun _ _ _ h => h) (Or.inr ⟨by rfl, rfl⟩) (by assumption) ?_
            try simp only [Act.put, List.getElem_toArray, List.getElem_cons_zero, List.getElem_cons_succ, List.setIfInBounds_toArray, List.set_cons_zero, List.set_cons_succ]
            refine wpAnyH_take (i := 25) (v := undef) rfl (by kernel_rfl) (by kernel_rfl) (by kernel_rfl) (fun _ _ _ h => h) (Or.inr ⟨by rfl, rfl⟩) (by assumption) ?_
            try simp only [Act.put, List.getElem_toArray, List.getElem_cons_zero, List.getElem_cons_succ, List.setIfInBounds_toArray, List.set_cons_zero, List.set_cons_succ]
            refine wpAnyH_take (i := 26) (v := undef) rfl (by kernel_rfl) (by kernel_rfl) (by kernel_rfl) (fun _ _ _ h => h) (Or.inr ⟨by rfl, rfl⟩) (by assumption) ?_
            try simp only [Act.put, List.getElem_toArray, List.getElem_cons_zero, List.getElem_cons_succ, List.setIfInBounds_toArray, List.set_cons_zero, List.set_cons_succ]
            refine wpAnyH_take (i := 27) (v := undef) rfl (by kernel_rfl) (by kernel_rfl) (by kernel_rfl) (fun _ _ _ h => h) (Or.inr ⟨by rfl, rfl⟩) (by assumption) ?_
            try simp only [Act.put, List.getElem_toArray, List.getElem_cons_zero, List.getElem_cons_succ, List.setIfInBounds_toArray, List.set_cons_zero, List.set_cons_succ]
            refine wpAnyH_take (i := 28) (v := undef) rfl (by kernel_rfl) (by kernel_rfl) (by kernel_rfl) (fun _ _ _ h => h) (Or.inr ⟨by rfl, rfl⟩) (by assumption) ?_
            try simp only [Act.put, List.getElem_toArray, List.getElem_cons_zero, List.getElem_cons_succ, List.setIfInBounds_toArray, List.set_cons_zero, List.set_cons_succ]
            refine wpAnyH_take (i := 29) (v := undef) rfl (by kernel_rfl) (by kernel_rfl) (by kernel_rfl) (fun _ _ _ h => h) (Or.inr ⟨by rfl, rfl⟩) (by assumption) ?_
            try simp only [Act.put, List.getElem_toArray, List.getElem_cons_zero, List.getElem_cons_succ, List.setIfInBounds_toArray, List.set_cons_zero, List.set_cons_succ]
            refine wpAnyH_take (i := 30) (v := ?_) rfl (by kernel_rfl) (by kernel_rfl) (by kernel_rfl) (fun _ _ _ h => h) (Or.inl ⟨by rfl, ?_⟩) (by assumption) ?_
            rotate_left
            · intro w0 hSw
              (try dsimp only at hSw)
              go_simp
              all_goals with_reducible rfl
            try simp only [Act.put, List.getElem_toArray, List.getElem_cons_zero, List.getElem_cons_succ, List.setIfInBounds_toArray, List.set_cons_zero, List.set_cons_succ]
            refine wpAnyH_done (by kernel_rfl) ?_ _
            go_wp2
            go_meet
            exact ⟨Or.inl ⟨rfl, HNO.out⟩, hW5⟩
          · have HLG := Lib.hid hlog
            have HFY := Lib.hid hlog.fault
            have HA := Lib.hid (RepD.ents hlog).1
            clear hlog X1 X2 X3 K0 Y0 q0 q1 q2 q3 q4 q5 q6 ql
            rcases hI1 : inB rs[k].high 0 (es.length : Int) with _ | _
            · have HNO := Lib.hid (show ¬ RepOk rs[k] ks[k] from (fun h => by have h1 := h.2.1; have h2 := h.2.2.1; rw [HA.out] at h2; simp [inB, h1, h2] at hI1))
              refine wp_region_held_drew (S := fun w' => Below wr.heap.size wr w' ∧ w.heap.size < w'.heap.size ∧ w'.cell? ⟨w.heap.size, 0, none⟩ = some (.int .i64 ep) ∧ w'.cell? ⟨w.heap.size, 1, none⟩ = some (.int .i64 ld) ∧ w'.cell? ⟨w.heap.size, 2, none⟩ = some (.slice (some ⟨b1, o1, none⟩) is.length c1) ∧ w'.cell? ⟨w.heap.size, 3, none⟩ = some (.slice (some ⟨b3, o3, none⟩) ks.length c3) ∧ w'.cell? ⟨w.heap.size, 4, none⟩ = some (.slice (some ⟨b, off, none⟩) rs.length c5) ∧ w'.cell? ⟨w.heap.size, 5, none⟩ = some (.int .i64 fw) ∧ w'.cell? ⟨w.heap.size, 6, none⟩ = some (.int .i64 ba) ∧ w'.cell? ⟨b, off + k * 4 + 1, none⟩ = some (.slice A7 rs[k].bytes.length c7) ∧ w'.cell? ⟨b, off + k * 4 + 1 + 1, none⟩ = some (.int .i64 rs[k].synced) ∧ w'.cell? ⟨b, off + k * 4 + 3, none⟩ = some (.int .i64 rs[k].high) ∧ w'.cell? ⟨b3, o3 + k, none⟩ = some (.int .i64 ks[k])) (by kernel_rfl) ?_ (fun hHeld => ?_)
              · exact SK.out _ (Below.refl _ _).drew
              refine wpAnyH_take (i := 0) (v := ?_) rfl (by kernel_rfl) (by kernel_rfl) (by kernel_rfl) (fun _ _ _ h => h) (Or.inl ⟨by rfl, ?_⟩) (by assumption) ?_
              rotate_left
              · intro w0 hSw
                (try dsimp only at hSw)
                go_simp
                all_goals with_reducible rfl
              try simp only [Act.put, List.getElem_toArray, List.getElem_cons_zero, List.setIfInBounds_toArray, List.set_cons_zero, List.set_cons_succ]
              refine wpAnyH_take (i := 1) (v := ?_) rfl (by kernel_rfl) (by kernel_rfl) (by kernel_rfl) (fun _ _ _ h => h) (Or.inl ⟨by rfl, ?_⟩) (by assumption) ?_
              rotate_left
              · intro w0 hSw
                (try dsimp only at hSw)
                go_simp
                all_goals with_reducible rfl
              try simp only [Act.put, List.getElem_toArray, List.getElem_cons_zero, List.getElem_cons_succ, List.setIfInBounds_toArray, List.set_cons_zero, List.set_cons_succ]
              refine wpAnyH_take (i := 2) (v := ?_) rfl (by kernel_rfl) (by kernel_rfl) (by kernel_rfl) (fun _ _ _ h => h) (Or.inl ⟨by rfl, ?_⟩) (by assumption) ?_
              rotate_left
              · intro w0 hSw
                (try dsimp only at hSw)
                go_simp
                all_goals with_reducible rfl
              try simp only [Act.put, List.getElem_toArray, List.getElem_cons_zero, List.getElem_cons_succ, List.setIfInBounds_toArray, List.set_cons_zero, List.set_cons_succ]
              refine wpAnyH_take (i := 3) (v := ?_) rfl (by kernel_rfl) (by kernel_rfl) (by kernel_rfl) (fun _ _ _ h => h) (Or.inl ⟨by rfl, ?_⟩) (by assumption) ?_
              rotate_left
              · intro w0 hSw
                (try dsimp only at hSw)
                go_simp
                all_goals with_reducible rfl
              try simp only [Act.put, List.getElem_toArray, List.getElem_cons_zero, List.getElem_cons_succ, List.setIfInBounds_toArray, List.set_cons_zero, List.set_cons_succ]
              refine wpAnyH_take (i := 4) (v := ?_) rfl (by kernel_rfl) (by kernel_rfl) (by kernel_rfl) (fun _ _ _ h => h) (Or.inl ⟨by rfl, ?_⟩) (by assumption) ?_
              rotate_left
              · intro w0 hSw
                (try dsimp only at hSw)
                go_simp
                all_goals with_reducible rfl
              try simp only [Act.put, List.getElem_toArray, List.getElem_cons_zero, List.getElem_cons_succ, List.setIfInBounds_toArray, List.set_cons_zero, List.set_cons_succ]
              refine wpAnyH_take (i := 5) (v := ?_) rfl (by kernel_rfl) (by kernel_rfl) (by kernel_rfl) (fun _ _ _ h => h) (Or.inl ⟨by rfl, ?_⟩) (by assumption) ?_
              rotate_left
              · intro w0 hSw
                (try dsimp only at hSw)
                go_simp
                all_goals with_reducible rfl
              try simp only [Act.put, List.getElem_toArray, List.getElem_cons_zero, List.getElem_cons_succ, List.setIfInBounds_toArray, List.set_cons_zero, List.set_cons_succ]
              refine wpAnyH_ready (rs := [6]) (by kernel_rfl) (by simp) (AllReadyH.cons rfl (fun K hK => ?_) AllReadyH.nil)
              go_simp
              go_at_call 33
              refine (logFault_yes HFY.out (XB.out.below (below_then HBW.out (Below.refl wr.heap.size wr).drew)) XL.out).mono ?_
              rintro e w5 ⟨rfl, hb5⟩
              have hW5 := below_then (Below.refl wr.heap.size wr).drew hb5
              refine hK.out _ _ ?_ (fun hHeld => ?_)
              · exact SK.out _ hW5
              clear hK K
              try simp only [Act.put, List.getElem_toArray, List.getElem_cons_zero, List.getElem_cons_succ, List.setIfInBounds_toArray, List.set_cons_zero, List.set_cons_succ]
              refine wpAnyH_take (i := 7) (v := ?_) rfl (by kernel_rfl) (by kernel_rfl) (by kernel_rfl) (fun _ _ _ h => h) (Or.inl ⟨by rfl, ?_⟩) (by assumption) ?_
              rotate_left
              · intro w0 hSw
                (try dsimp only at hSw)
                go_simp
                all_goals with_reducible rfl
              try simp only [Act.put, List.getElem_toArray, List.getElem_cons_zero, List.getElem_cons_succ, List.setIfInBounds_toArray, List.set_cons_zero, List.set_cons_succ]
              refine wpAnyH_take (i := 8) (v := ?_) rfl (by kernel_rfl) (by kernel_rfl) (by kernel_rfl) (fun _ _ _ h => h) (Or.inl ⟨by rfl, ?_⟩) (by assumption) ?_
              rotate_left
              · intro w0 hSw
                (try dsimp only at hSw)
                go_simp
                all_goals with_reducible rfl
              try simp only [Act.put, List.getElem_toArray, List.getElem_cons_zero, List.getElem_cons_succ, List.setIfInBounds_toArray, List.set_cons_zero, List.set_cons_succ]
              refine wpAnyH_take (i := 9) (v := ?_) rfl (by kernel_rfl) (by kernel_rfl) (by kernel_rfl) (fun _ _ _ h => h) (Or.inl ⟨by rfl, ?_⟩) (by assumption) ?_
              rotate_left
              · intro w0 hSw
                (try dsimp only at hSw)
                go_simp
                all_goals with_reducible rfl
              try simp only [Act.put, List.getElem_toArray, List.getElem_cons_zero, List.getElem_cons_succ, List.setIfInBounds_toArray, List.set_cons_zero, List.set_cons_succ]
              refine wpAnyH_take (i := 10) (v := ?_) rfl (by kernel_rfl) (by kernel_rfl) (by kernel_rfl) (fun _ _ _ h => h) (Or.inl ⟨by rfl, ?_⟩) (by assumption) ?_
              rotate_left
              · intro w0 hSw
                (try dsimp only at hSw)
                go_simp
                all_goals with_reducible rfl
              try simp only [Act.put, List.getElem_toArray, List.getElem_cons_zero, List.getElem_cons_succ, List.setIfInBounds_toArray, List.set_cons_zero, List.set_cons_succ]
              refine wpAnyH_take (i := 11) (v := ?_) rfl (by kernel_rfl) (by kernel_rfl) (by kernel_rfl) (fun _ _ _ h => h) (Or.inl ⟨by rfl, ?_⟩) (by assumption) ?_
              rotate_left
              · intro w0 hSw
                (try dsimp only at hSw)
                go_simp
                all_goals with_reducible rfl
              try simp only [Act.put, List.getElem_toArray, List.getElem_cons_zero, List.getElem_cons_succ, List.setIfInBounds_toArray, List.set_cons_zero, List.set_cons_succ]
              refine wpAnyH_take (i := 12) (v := ?_) rfl (by kernel_rfl) (by kernel_rfl) (by kernel_rfl) (fun _ _ _ h => h) (Or.inl ⟨by rfl, ?_⟩) (by assumption) ?_
              rotate_left
              · intro w0 hSw
                (try dsimp only at hSw)
                go_simp
                all_goals with_reducible rfl
              try simp only [Act.put, List.getElem_toArray, List.getElem_cons_zero, List.getElem_cons_succ, List.setIfInBounds_toArray, List.set_cons_zero, List.set_cons_succ]
              refine wpAnyH_take (i := 13) (v := ?_) rfl (by kernel_rfl) (by kernel_rfl) (by kernel_rfl) (fun _ _ _ h => h) (Or.inl ⟨by rfl, ?_⟩) (by assumption) ?_
              rotate_left
              · intro w0 hSw
                (try dsimp only at hSw)
                go_simp
                all_goals with_reducible rfl
              try simp only [Act.put, List.getElem_toArray, List.getElem_cons_zero, List.getElem_cons_succ, List.setIfInBounds_toArray, List.set_cons_zero, List.set_cons_succ]
              refine wpAnyH_take (i := 14) (v := ?_) rfl (by kernel_rfl) (by kernel_rfl) (by kernel_rfl) (fun _ _ _ h => h) (Or.inl ⟨by rfl, ?_⟩) (by assumption) ?_
              rotate_left
              · intro w0 hSw
                (try dsimp only at hSw)
                go_simp
                all_goals with_reducible rfl
              try simp only [Act.put, List.getElem_toArray, List.getElem_cons_zero, List.getElem_cons_succ, List.setIfInBounds_toArray, List.set_cons_zero, List.set_cons_succ]
              refine wpAnyH_take (i := 15) (v := ?_) rfl (by kernel_rfl) (by kernel_rfl) (by kernel_rfl) (fun _ _ _ h => h) (Or.inl ⟨by rfl, ?_⟩) (by assumption) ?_
              rotate_left
              · intro w0 hSw
                (try dsimp only at hSw)
                go_simp
                all_goals with_reducible rfl
              try simp only [Act.put, List.getElem_toArray, List.getElem_cons_zero, List.getElem_cons_succ, List.setIfInBounds_toArray, List.set_cons_zero, List.set_cons_succ]
              refine wpAnyH_take (i := 16) (v := ?_) rfl (by kernel_rfl) (by kernel_rfl) (by kernel_rfl) (fun _ _ _ h => h) (Or.inl ⟨by rfl, ?_⟩) (by assumption) ?_
              rotate_left
              · intro w0 hSw
                (try dsimp only at hSw)
                go_simp
                all_goals with_reducible rfl
              try simp only [Act.put, List.getElem_toArray, List.getElem_cons_zero, List.getElem_cons_succ, List.setIfInBounds_toArray, List.set_cons_zero, List.set_cons_succ]
              refine wpAnyH_ready (rs := [17]) (by kernel_rfl) (by simp) (AllReadyH.cons rfl (fun K hK => ?_) AllReadyH.nil)
              go_simp
              go_at_call 82
              refine (logOf_any _ ⟨ep, ld, is, ks, rs, fw, ba⟩ k _ (H.out.below (below_then HBW.out hW5)) hlt HLG.out).mono ?_
              rintro e w6 ⟨v6, rfl, ho6, hb6⟩
              obtain ⟨A6, c6, rfl, -⟩ := (Sl.of_own ho6).form
              clear ho6
              have hW6 := below_then hW5 hb6
              refine hK.out _ _ ?_ (fun hHeld => ?_)
              · exact SK.out _ hW6
              clear hK K
              try simp only [Act.put, List.getElem_toArray, List.getElem_cons_zero, List.getElem_cons_succ, List.setIfInBounds_toArray, List.set_cons_zero, List.set_cons_succ]
              refine wpAnyH_take (i := 18) (v := ?_) rfl (by kernel_rfl) (by kernel_rfl) (by kernel_rfl) (fun _ _ _ h => h) (Or.inl ⟨by rfl, ?_⟩) (by assumption) ?_
              rotate_left
              · intro w0 hSw
                (try dsimp only at hSw)
                go_simp
                all_goals with_reducible rfl
              try simp only [Act.put, List.getElem_toArray, List.getElem_cons_zero, List.getElem_cons_succ, List.setIfInBounds_toArray, List.set_cons_zero, List.set_cons_succ]
              refine wpAnyH_ready (rs := [19]) (by kernel_rfl) (by simp) (AllReadyH.cons rfl (fun K hK => ?_) AllReadyH.nil)
              go_simp
              go_at_call 69
              refine (In_any _ _ _ _).mono ?_
              rintro e w7 ⟨rfl, rfl⟩
              rw [hI1]
              refine hK.out _ _ ?_ (fun hHeld => ?_)
              · assumption
              clear hK K
              try simp only [Act.put, List.getElem_toArray, List.getElem_cons_zero, List.getElem_cons_succ, List.setIfInBounds_toArray, List.set_cons_zero, List.set_cons_succ]
              refine wpAnyH_take (i := 20) (v := ?_) rfl (by kernel_rfl) (by kernel_rfl) (by kernel_rfl) (fun _ _ _ h => h) (Or.inl ⟨by rfl, ?_⟩) (by assumption) ?_
              rotate_left
              · intro w0 hSw
                (try dsimp only at hSw)
                go_simp
                all_goals with_reducible rfl
              try simp only [Act.put, List.getElem_toArray, List.getElem_cons_zero, List.getElem_cons_succ, List.setIfInBounds_toArray, List.set_cons_zero, List.set_cons_succ]
              refine wpAnyH_take (i := 21) (v := ?_) rfl (by kernel_rfl) (by kernel_rfl) (by kernel_rfl) (fun _ _ _ h => h) (Or.inl ⟨by rfl, ?_⟩) (by assumption) ?_
              rotate_left
              · intro w0 hSw
                (try dsimp only at hSw)
                go_simp
                all_goals with_reducible rfl
              try simp only [Act.put, List.getElem_toArray, List.getElem_cons_zero, List.getElem_cons_succ, List.setIfInBounds_toArray, List.set_cons_zero, List.set_cons_succ]
              refine wpAnyH_take (i := 22) (v := ?_) rfl (by kernel_rfl) (by kernel_rfl) (by kernel_rfl) (fun _ _ _ h => h) (Or.inl ⟨by rfl, ?_⟩) (by assumption) ?_
              rotate_left
              · intro w0 hSw
                (try dsimp only at hSw)
                go_simp
                all_goals with_reducible rfl
              try simp only [Act.put, List.getElem_toArray, List.getElem_cons_zero, List.getElem_cons_succ, List.setIfInBounds_toArray, List.set_cons_zero, List.set_cons_succ]
              refine wpAnyH_take (i := 23) (v := undef) rfl (by kernel_rfl) (by kernel_rfl) (by kernel_rfl) (fun _ _ _ h => h) (Or.inr ⟨by rfl, rfl⟩) (by assumption) ?_
              try simp only [Act.put, List.getElem_toArray, List.getElem_cons_zero, List.getElem_cons_succ, List.setIfInBounds_toArray, List.set_cons_zero, List.set_cons_succ]
              refine wpAnyH_take (i := 24) (v := undef) rfl (by kernel_rfl) (by kernel_rfl) (by kernel_rfl) (fun _ _ _ h => h) (Or.inr ⟨by rfl, rfl⟩) (by assumption) ?_
              try simp only [Act.put, List.getElem_toArray, List.getElem_cons_zero, List.getElem_cons_succ, List.setIfInBounds_toArray, List.set_cons_zero, List.set_cons_succ]
              refine wpAnyH_take (i := 25) (v := undef) rfl (by kernel_rfl) (by kernel_rfl) (by kernel_rfl) (fun _ _ _ h => h) (Or.inr ⟨by rfl, rfl⟩) (by assumption) ?_
              try simp only [Act.put, List.getElem_toArray, List.getElem_cons_zero, List.getElem_cons_succ, List.setIfInBounds_toArray, List.set_cons_zero, List.set_cons_succ]
              refine wpAnyH_take (i := 26) (v := undef) rfl (by kernel_rfl) (by kernel_rfl) (by kernel_rfl) (fun _ _ _ h => h) (Or.inr ⟨by rfl, rfl⟩) (by assumption) ?_
              try simp only [Act.put, List.getElem_toArray, List.getElem_cons_zero, List.getElem_cons_succ, List.setIfInBounds_toArray, List.set_cons_zero, List.set_cons_succ]
              refine wpAnyH_take (i := 27) (v := undef) rfl (by kernel_rfl) (by kernel_rfl) (by kernel_rfl) (fun _ _ _ h => h) (Or.inr ⟨by rfl, rfl⟩) (by assumption) ?_
              try simp only [Act.put, List.getElem_toArray, List.getElem_cons_zero, List.getElem_cons_succ, List.setIfInBounds_toArray, List.set_cons_zero, List.set_cons_succ]
              refine wpAnyH_take (i := 28) (v := undef) rfl (by kernel_rfl) (by kernel_rfl) (by kernel_rfl) (fun _ _ _ h => h) (Or.inr ⟨by rfl, rfl⟩) (by assumption) ?_
              try simp only [Act.put, List.getElem_toArray, List.getElem_cons_zero, List.getElem_cons_succ, List.setIfInBounds_toArray, List.set_cons_zero, List.set_cons_succ]
              refine wpAnyH_take (i := 29) (v := undef) rfl (by kernel_rfl) (by kernel_rfl) (by kernel_rfl) (fun _ _ _ h => h) (Or.inr ⟨by rfl, rfl⟩) (by assumption) ?_
              try simp only [Act.put, List.getElem_toArray, List.getElem_cons_zero, List.getElem_cons_succ, List.setIfInBounds_toArray, List.set_cons_zero, List.set_cons_succ]
              refine wpAnyH_take (i := 30) (v := ?_) rfl (by kernel_rfl) (by kernel_rfl) (by kernel_rfl) (fun _ _ _ h => h) (Or.inl ⟨by rfl, ?_⟩) (by assumption) ?_
              rotate_left
              · intro w0 hSw
                (try dsimp only at hSw)
                go_simp
                all_goals with_reducible rfl
              try simp only [Act.put, List.getElem_toArray, List.getElem_cons_zero, List.getElem_cons_succ, List.setIfInBounds_toArray, List.set_cons_zero, List.set_cons_succ]
              refine wpAnyH_done (by kernel_rfl) ?_ _
              go_wp2
              go_meet
              exact ⟨Or.inl ⟨rfl, HNO.out⟩, hW6⟩
            · rcases hI2 : inB ks[k] 0 400 with _ | _
              · have HNO := Lib.hid (show ¬ RepOk rs[k] ks[k] from (fun h => by have h1 := h.2.2.2.1; have h2 := h.2.2.2.2; simp [inB, h1, h2] at hI2))
                refine wp_region_held_drew (S := fun w' => Below wr.heap.size wr w' ∧ w.heap.size < w'.heap.size ∧ w'.cell? ⟨w.heap.size, 0, none⟩ = some (.int .i64 ep) ∧ w'.cell? ⟨w.heap.size, 1, none⟩ = some (.int .i64 ld) ∧ w'.cell? ⟨w.heap.size, 2, none⟩ = some (.slice (some ⟨b1, o1, none⟩) is.length c1) ∧ w'.cell? ⟨w.heap.size, 3, none⟩ = some (.slice (some ⟨b3, o3, none⟩) ks.length c3) ∧ w'.cell? ⟨w.heap.size, 4, none⟩ = some (.slice (some ⟨b, off, none⟩) rs.length c5) ∧ w'.cell? ⟨w.heap.size, 5, none⟩ = some (.int .i64 fw) ∧ w'.cell? ⟨w.heap.size, 6, none⟩ = some (.int .i64 ba) ∧ w'.cell? ⟨b, off + k * 4 + 1, none⟩ = some (.slice A7 rs[k].bytes.length c7) ∧ w'.cell? ⟨b, off + k * 4 + 1 + 1, none⟩ = some (.int .i64 rs[k].synced) ∧ w'.cell? ⟨b, off + k * 4 + 3, none⟩ = some (.int .i64 rs[k].high) ∧ w'.cell? ⟨b3, o3 + k, none⟩ = some (.int .i64 ks[k])) (by kernel_rfl) ?_ (fun hHeld => ?_)
                · exact SK.out _ (Below.refl _ _).drew
                refine wpAnyH_take (i := 0) (v := ?_) rfl (by kernel_rfl) (by kernel_rfl) (by kernel_rfl) (fun _ _ _ h => h) (Or.inl ⟨by rfl, ?_⟩) (by assumption) ?_
                rotate_left
                · intro w0 hSw
                  (try dsimp only at hSw)
                  go_simp
                  all_goals with_reducible rfl
                try simp only [Act.put, List.getElem_toArray, List.getElem_cons_zero, List.setIfInBounds_toArray, List.set_cons_zero, List.set_cons_succ]
                refine wpAnyH_take (i := 1) (v := ?_) rfl (by kernel_rfl) (by kernel_rfl) (by kernel_rfl) (fun _ _ _ h => h) (Or.inl ⟨by rfl, ?_⟩) (by assumption) ?_
                rotate_left
                · intro w0 hSw
                  (try dsimp only at hSw)
                  go_simp
                  all_goals with_reducible rfl
                try simp only [Act.put, List.getElem_toArray, List.getElem_cons_zero, List.getElem_cons_succ, List.setIfInBounds_toArray, List.set_cons_zero, List.set_cons_succ]
                refine wpAnyH_take (i := 2) (v := ?_) rfl (by kernel_rfl) (by kernel_rfl) (by kernel_rfl) (fun _ _ _ h => h) (Or.inl ⟨by rfl, ?_⟩) (by assumption) ?_
                rotate_left
                · intro w0 hSw
                  (try dsimp only at hSw)
                  go_simp
                  all_goals with_reducible rfl
                try simp only [Act.put, List.getElem_toArray, List.getElem_cons_zero, List.getElem_cons_succ, List.setIfInBounds_toArray, List.set_cons_zero, List.set_cons_succ]
                refine wpAnyH_take (i := 3) (v := ?_) rfl (by kernel_rfl) (by kernel_rfl) (by kernel_rfl) (fun _ _ _ h => h) (Or.inl ⟨by rfl, ?_⟩) (by assumption) ?_
                rotate_left
                · intro w0 hSw
                  (try dsimp only at hSw)
                  go_simp
                  all_goals with_reducible rfl
                try simp only [Act.put, List.getElem_toArray, List.getElem_cons_zero, List.getElem_cons_succ, List.setIfInBounds_toArray, List.set_cons_zero, List.set_cons_succ]
                refine wpAnyH_take (i := 4) (v := ?_) rfl (by kernel_rfl) (by kernel_rfl) (by kernel_rfl) (fun _ _ _ h => h) (Or.inl ⟨by rfl, ?_⟩) (by assumption) ?_
                rotate_left
                · intro w0 hSw
                  (try dsimp only at hSw)
                  go_simp
                  all_goals with_reducible rfl
                try simp only [Act.put, List.getElem_toArray, List.getElem_cons_zero, List.getElem_cons_succ, List.setIfInBounds_toArray, List.set_cons_zero, List.set_cons_succ]
                refine wpAnyH_take (i := 5) (v := ?_) rfl (by kernel_rfl) (by kernel_rfl) (by kernel_rfl) (fun _ _ _ h => h) (Or.inl ⟨by rfl, ?_⟩) (by assumption) ?_
                rotate_left
                · intro w0 hSw
                  (try dsimp only at hSw)
                  go_simp
                  all_goals with_reducible rfl
                try simp only [Act.put, List.getElem_toArray, List.getElem_cons_zero, List.getElem_cons_succ, List.setIfInBounds_toArray, List.set_cons_zero, List.set_cons_succ]
                refine wpAnyH_ready (rs := [6]) (by kernel_rfl) (by simp) (AllReadyH.cons rfl (fun K hK => ?_) AllReadyH.nil)
                go_simp
                go_at_call 33
                refine (logFault_yes HFY.out (XB.out.below (below_then HBW.out (Below.refl wr.heap.size wr).drew)) XL.out).mono ?_
                rintro e w5 ⟨rfl, hb5⟩
                have hW5 := below_then (Below.refl wr.heap.size wr).drew hb5
                refine hK.out _ _ ?_ (fun hHeld => ?_)
                · exact SK.out _ hW5
                clear hK K
                try simp only [Act.put, List.getElem_toArray, List.getElem_cons_zero, List.getElem_cons_succ, List.setIfInBounds_toArray, List.set_cons_zero, List.set_cons_succ]
                refine wpAnyH_take (i := 7) (v := ?_) rfl (by kernel_rfl) (by kernel_rfl) (by kernel_rfl) (fun _ _ _ h => h) (Or.inl ⟨by rfl, ?_⟩) (by assumption) ?_
                rotate_left
                · intro w0 hSw
                  (try dsimp only at hSw)
                  go_simp
                  all_goals with_reducible rfl
                try simp only [Act.put, List.getElem_toArray, List.getElem_cons_zero, List.getElem_cons_succ, List.setIfInBounds_toArray, List.set_cons_zero, List.set_cons_succ]
                refine wpAnyH_take (i := 8) (v := ?_) rfl (by kernel_rfl) (by kernel_rfl) (by kernel_rfl) (fun _ _ _ h => h) (Or.inl ⟨by rfl, ?_⟩) (by assumption) ?_
                rotate_left
                · intro w0 hSw
                  (try dsimp only at hSw)
                  go_simp
                  all_goals with_reducible rfl
                try simp only [Act.put, List.getElem_toArray, List.getElem_cons_zero, List.getElem_cons_succ, List.setIfInBounds_toArray, List.set_cons_zero, List.set_cons_succ]
                refine wpAnyH_take (i := 9) (v := ?_) rfl (by kernel_rfl) (by kernel_rfl) (by kernel_rfl) (fun _ _ _ h => h) (Or.inl ⟨by rfl, ?_⟩) (by assumption) ?_
                rotate_left
                · intro w0 hSw
                  (try dsimp only at hSw)
                  go_simp
                  all_goals with_reducible rfl
                try simp only [Act.put, List.getElem_toArray, List.getElem_cons_zero, List.getElem_cons_succ, List.setIfInBounds_toArray, List.set_cons_zero, List.set_cons_succ]
                refine wpAnyH_take (i := 10) (v := ?_) rfl (by kernel_rfl) (by kernel_rfl) (by kernel_rfl) (fun _ _ _ h => h) (Or.inl ⟨by rfl, ?_⟩) (by assumption) ?_
                rotate_left
                · intro w0 hSw
                  (try dsimp only at hSw)
                  go_simp
                  all_goals with_reducible rfl
                try simp only [Act.put, List.getElem_toArray, List.getElem_cons_zero, List.getElem_cons_succ, List.setIfInBounds_toArray, List.set_cons_zero, List.set_cons_succ]
                refine wpAnyH_take (i := 11) (v := ?_) rfl (by kernel_rfl) (by kernel_rfl) (by kernel_rfl) (fun _ _ _ h => h) (Or.inl ⟨by rfl, ?_⟩) (by assumption) ?_
                rotate_left
                · intro w0 hSw
                  (try dsimp only at hSw)
                  go_simp
                  all_goals with_reducible rfl
                try simp only [Act.put, List.getElem_toArray, List.getElem_cons_zero, List.getElem_cons_succ, List.setIfInBounds_toArray, List.set_cons_zero, List.set_cons_succ]
                refine wpAnyH_take (i := 12) (v := ?_) rfl (by kernel_rfl) (by kernel_rfl) (by kernel_rfl) (fun _ _ _ h => h) (Or.inl ⟨by rfl, ?_⟩) (by assumption) ?_
                rotate_left
                · intro w0 hSw
                  (try dsimp only at hSw)
                  go_simp
                  all_goals with_reducible rfl
                try simp only [Act.put, List.getElem_toArray, List.getElem_cons_zero, List.getElem_cons_succ, List.setIfInBounds_toArray, List.set_cons_zero, List.set_cons_succ]
                refine wpAnyH_take (i := 13) (v := ?_) rfl (by kernel_rfl) (by kernel_rfl) (by kernel_rfl) (fun _ _ _ h => h) (Or.inl ⟨by rfl, ?_⟩) (by assumption) ?_
                rotate_left
                · intro w0 hSw
                  (try dsimp only at hSw)
                  go_simp
                  all_goals with_reducible rfl
                try simp only [Act.put, List.getElem_toArray, List.getElem_cons_zero, List.getElem_cons_succ, List.setIfInBounds_toArray, List.set_cons_zero, List.set_cons_succ]
                refine wpAnyH_take (i := 14) (v := ?_) rfl (by kernel_rfl) (by kernel_rfl) (by kernel_rfl) (fun _ _ _ h => h) (Or.inl ⟨by rfl, ?_⟩) (by assumption) ?_
                rotate_left
                · intro w0 hSw
                  (try dsimp only at hSw)
                  go_simp
                  all_goals with_reducible rfl
                try simp only [Act.put, List.getElem_toArray, List.getElem_cons_zero, List.getElem_cons_succ, List.setIfInBounds_toArray, List.set_cons_zero, List.set_cons_succ]
                refine wpAnyH_take (i := 15) (v := ?_) rfl (by kernel_rfl) (by kernel_rfl) (by kernel_rfl) (fun _ _ _ h => h) (Or.inl ⟨by rfl, ?_⟩) (by assumption) ?_
                rotate_left
                · intro w0 hSw
                  (try dsimp only at hSw)
                  go_simp
                  all_goals with_reducible rfl
                try simp only [Act.put, List.getElem_toArray, List.getElem_cons_zero, List.getElem_cons_succ, List.setIfInBounds_toArray, List.set_cons_zero, List.set_cons_succ]
                refine wpAnyH_take (i := 16) (v := ?_) rfl (by kernel_rfl) (by kernel_rfl) (by kernel_rfl) (fun _ _ _ h => h) (Or.inl ⟨by rfl, ?_⟩) (by assumption) ?_
                rotate_left
                · intro w0 hSw
                  (try dsimp only at hSw)
                  go_simp
                  all_goals with_reducible rfl
                try simp only [Act.put, List.getElem_toArray, List.getElem_cons_zero, List.getElem_cons_succ, List.setIfInBounds_toArray, List.set_cons_zero, List.set_cons_succ]
                refine wpAnyH_ready (rs := [17]) (by kernel_rfl) (by simp) (AllReadyH.cons rfl (fun K hK => ?_) AllReadyH.nil)
                go_simp
                go_at_call 82
                refine (logOf_any _ ⟨ep, ld, is, ks, rs, fw, ba⟩ k _ (H.out.below (below_then HBW.out hW5)) hlt HLG.out).mono ?_
                rintro e w6 ⟨v6, rfl, ho6, hb6⟩
                obtain ⟨A6, c6, rfl, -⟩ := (Sl.of_own ho6).form
                clear ho6
                have hW6 := below_then hW5 hb6
                refine hK.out _ _ ?_ (fun hHeld => ?_)
                · exact SK.out _ hW6
                clear hK K
                try simp only [Act.put, List.getElem_toArray, List.getElem_cons_zero, List.getElem_cons_succ, List.setIfInBounds_toArray, List.set_cons_zero, List.set_cons_succ]
                refine wpAnyH_take (i := 18) (v := ?_) rfl (by kernel_rfl) (by kernel_rfl) (by kernel_rfl) (fun _ _ _ h => h) (Or.inl ⟨by rfl, ?_⟩) (by assumption) ?_
                rotate_left
                · intro w0 hSw
                  (try dsimp only at hSw)
                  go_simp
                  all_goals with_reducible rfl
                try simp only [Act.put, List.getElem_toArray, List.getElem_cons_zero, List.getElem_cons_succ, List.setIfInBounds_toArray, List.set_cons_zero, List.set_cons_succ]
                refine wpAnyH_ready (rs := [19]) (by kernel_rfl) (by simp) (AllReadyH.cons rfl (fun K hK => ?_) AllReadyH.nil)
                go_simp
                go_at_call 69
                refine (In_any _ _ _ _).mono ?_
                rintro e w7 ⟨rfl, rfl⟩
                rw [hI1]
                refine hK.out _ _ ?_ (fun hHeld => ?_)
                · assumption
                clear hK K
                try simp only [Act.put, List.getElem_toArray, List.getElem_cons_zero, List.getElem_cons_succ, List.setIfInBounds_toArray, List.set_cons_zero, List.set_cons_succ]
                refine wpAnyH_take (i := 20) (v := ?_) rfl (by kernel_rfl) (by kernel_rfl) (by kernel_rfl) (fun _ _ _ h => h) (Or.inl ⟨by rfl, ?_⟩) (by assumption) ?_
                rotate_left
                · intro w0 hSw
                  (try dsimp only at hSw)
                  go_simp
                  all_goals with_reducible rfl
                try simp only [Act.put, List.getElem_toArray, List.getElem_cons_zero, List.getElem_cons_succ, List.setIfInBounds_toArray, List.set_cons_zero, List.set_cons_succ]
                refine wpAnyH_take (i := 21) (v := ?_) rfl (by kernel_rfl) (by kernel_rfl) (by kernel_rfl) (fun _ _ _ h => h) (Or.inl ⟨by rfl, ?_⟩) (by assumption) ?_
                rotate_left
                · intro w0 hSw
                  (try dsimp only at hSw)
                  go_simp
                  all_goals with_reducible rfl
                try simp only [Act.put, List.getElem_toArray, List.getElem_cons_zero, List.getElem_cons_succ, List.setIfInBounds_toArray, List.set_cons_zero, List.set_cons_succ]
                refine wpAnyH_take (i := 22) (v := ?_) rfl (by kernel_rfl) (by kernel_rfl) (by kernel_rfl) (fun _ _ _ h => h) (Or.inl ⟨by rfl, ?_⟩) (by assumption) ?_
                rotate_left
                · intro w0 hSw
                  (try dsimp only at hSw)
                  go_simp
                  all_goals with_reducible rfl
                try simp only [Act.put, List.getElem_toArray, List.getElem_cons_zero, List.getElem_cons_succ, List.setIfInBounds_toArray, List.set_cons_zero, List.set_cons_succ]
                refine wpAnyH_take (i := 23) (v := ?_) rfl (by kernel_rfl) (by kernel_rfl) (by kernel_rfl) (fun _ _ _ h => h) (Or.inl ⟨by rfl, ?_⟩) (by assumption) ?_
                rotate_left
                · intro w0 hSw
                  (try dsimp only at hSw)
                  go_simp
                  all_goals with_reducible rfl
                try simp only [Act.put, List.getElem_toArray, List.getElem_cons_zero, List.getElem_cons_succ, List.setIfInBounds_toArray, List.set_cons_zero, List.set_cons_succ]
                refine wpAnyH_take (i := 24) (v := ?_) rfl (by kernel_rfl) (by kernel_rfl) (by kernel_rfl) (fun _ _ _ h => h) (Or.inl ⟨by rfl, ?_⟩) (by assumption) ?_
                rotate_left
                · intro w0 hSw
                  (try dsimp only at hSw)
                  go_simp
                  all_goals with_reducible rfl
                try simp only [Act.put, List.getElem_toArray, List.getElem_cons_zero, List.getElem_cons_succ, List.setIfInBounds_toArray, List.set_cons_zero, List.set_cons_succ]
                refine wpAnyH_take (i := 25) (v := ?_) rfl (by kernel_rfl) (by kernel_rfl) (by kernel_rfl) (fun _ _ _ h => h) (Or.inl ⟨by rfl, ?_⟩) (by assumption) ?_
                rotate_left
                · intro w0 hSw
                  (try dsimp only at hSw)
                  go_simp
                  all_goals with_reducible rfl
                try simp only [Act.put, List.getElem_toArray, List.getElem_cons_zero, List.getElem_cons_succ, List.setIfInBounds_toArray, List.set_cons_zero, List.set_cons_succ]
                refine wpAnyH_take (i := 26) (v := ?_) rfl (by kernel_rfl) (by kernel_rfl) (by kernel_rfl) (fun _ _ _ h => h) (Or.inl ⟨by rfl, ?_⟩) (by assumption) ?_
                rotate_left
                · intro w0 hSw
                  (try dsimp only at hSw)
                  go_simp
                  all_goals with_reducible rfl
                try simp only [Act.put, List.getElem_toArray, List.getElem_cons_zero, List.getElem_cons_succ, List.setIfInBounds_toArray, List.set_cons_zero, List.set_cons_succ]
                refine wpAnyH_take (i := 27) (v := ?_) rfl (by kernel_rfl) (by kernel_rfl) (by kernel_rfl) (fun _ _ _ h => h) (Or.inl ⟨by rfl, ?_⟩) (by assumption) ?_
                rotate_left
                · intro w0 hSw
                  (try dsimp only at hSw)
                  go_simp
                  all_goals with_reducible rfl
                try simp only [Act.put, List.getElem_toArray, List.getElem_cons_zero, List.getElem_cons_succ, List.setIfInBounds_toArray, List.set_cons_zero, List.set_cons_succ]
                refine wpAnyH_ready (rs := [28]) (by kernel_rfl) (by simp) (AllReadyH.cons rfl (fun K hK => ?_) AllReadyH.nil)
                go_simp
                go_at_call 69
                refine (In_any _ _ _ _).mono ?_
                rintro e w7 ⟨rfl, rfl⟩
                rw [hI2]
                refine hK.out _ _ ?_ (fun hHeld => ?_)
                · assumption
                clear hK K
                try simp only [Act.put, List.getElem_toArray, List.getElem_cons_zero, List.getElem_cons_succ, List.setIfInBounds_toArray, List.set_cons_zero, List.set_cons_succ]
                refine wpAnyH_take (i := 29) (v := ?_) rfl (by kernel_rfl) (by kernel_rfl) (by kernel_rfl) (fun _ _ _ h => h) (Or.inl ⟨by rfl, ?_⟩) (by assumption) ?_
                rotate_left
                · intro w0 hSw
                  (try dsimp only at hSw)
                  go_simp
                  all_goals with_reducible rfl
                try simp only [Act.put, List.getElem_toArray, List.getElem_cons_zero, List.getElem_cons_succ, List.setIfInBounds_toArray, List.set_cons_zero, List.set_cons_succ]
                refine wpAnyH_take (i := 30) (v := ?_) rfl (by kernel_rfl) (by kernel_rfl) (by kernel_rfl) (fun _ _ _ h => h) (Or.inl ⟨by rfl, ?_⟩) (by assumption) ?_
                rotate_left
                · intro w0 hSw
                  (try dsimp only at hSw)
                  go_simp
                  all_goals with_reducible rfl
                try simp only [Act.put, List.getElem_toArray, List.getElem_cons_zero, List.getElem_cons_succ, List.setIfInBounds_toArray, List.set_cons_zero, List.set_cons_succ]
                refine wpAnyH_done (by kernel_rfl) ?_ _
                go_wp2
                go_meet
                exact ⟨Or.inl ⟨rfl, HNO.out⟩, hW6⟩
              · have HYES := Lib.hid (show RepOk rs[k] ks[k] from ⟨HFY.out, by simp [inB] at hI1; exact hI1.1, by simp [inB] at hI1; rw [HA.out]; exact hI1.2, by simp [inB] at hI2; exact hI2.1, by simp [inB] at hI2; exact hI2.2⟩)
                refine wp_region_held_drew (S := fun w' => Below wr.heap.size wr w' ∧ w.heap.size < w'.heap.size ∧ w'.cell? ⟨w.heap.size, 0, none⟩ = some (.int .i64 ep) ∧ w'.cell? ⟨w.heap.size, 1, none⟩ = some (.int .i64 ld) ∧ w'.cell? ⟨w.heap.size, 2, none⟩ = some (.slice (some ⟨b1, o1, none⟩) is.length c1) ∧ w'.cell? ⟨w.heap.size, 3, none⟩ = some (.slice (some ⟨b3, o3, none⟩) ks.length c3) ∧ w'.cell? ⟨w.heap.size, 4, none⟩ = some (.slice (some ⟨b, off, none⟩) rs.length c5) ∧ w'.cell? ⟨w.heap.size, 5, none⟩ = some (.int .i64 fw) ∧ w'.cell? ⟨w.heap.size, 6, none⟩ = some (.int .i64 ba) ∧ w'.cell? ⟨b, off + k * 4 + 1, none⟩ = some (.slice A7 rs[k].bytes.length c7) ∧ w'.cell? ⟨b, off + k * 4 + 1 + 1, none⟩ = some (.int .i64 rs[k].synced) ∧ w'.cell? ⟨b, off + k * 4 + 3, none⟩ = some (.int .i64 rs[k].high) ∧ w'.cell? ⟨b3, o3 + k, none⟩ = some (.int .i64 ks[k])) (by kernel_rfl) ?_ (fun hHeld => ?_)
                · exact SK.out _ (Below.refl _ _).drew
                refine wpAnyH_take (i := 0) (v := ?_) rfl (by kernel_rfl) (by kernel_rfl) (by kernel_rfl) (fun _ _ _ h => h) (Or.inl ⟨by rfl, ?_⟩) (by assumption) ?_
                rotate_left
                · intro w0 hSw
                  (try dsimp only at hSw)
                  go_simp
                  all_goals with_reducible rfl
                try simp only [Act.put, List.getElem_toArray, List.getElem_cons_zero, List.setIfInBounds_toArray, List.set_cons_zero, List.set_cons_succ]
                refine wpAnyH_take (i := 1) (v := ?_) rfl (by kernel_rfl) (by kernel_rfl) (by kernel_rfl) (fun _ _ _ h => h) (Or.inl ⟨by rfl, ?_⟩) (by assumption) ?_
                rotate_left
                · intro w0 hSw
                  (try dsimp only at hSw)
                  go_simp
                  all_goals with_reducible rfl
                try simp only [Act.put, List.getElem_toArray, List.getElem_cons_zero, List.getElem_cons_succ, List.setIfInBounds_toArray, List.set_cons_zero, List.set_cons_succ]
                refine wpAnyH_take (i := 2) (v := ?_) rfl (by kernel_rfl) (by kernel_rfl) (by kernel_rfl) (fun _ _ _ h => h) (Or.inl ⟨by rfl, ?_⟩) (by assumption) ?_
                rotate_left
                · intro w0 hSw
                  (try dsimp only at hSw)
                  go_simp
                  all_goals with_reducible rfl
                try simp only [Act.put, List.getElem_toArray, List.getElem_cons_zero, List.getElem_cons_succ, List.setIfInBounds_toArray, List.set_cons_zero, List.set_cons_succ]
                refine wpAnyH_take (i := 3) (v := ?_) rfl (by kernel_rfl) (by kernel_rfl) (by kernel_rfl) (fun _ _ _ h => h) (Or.inl ⟨by rfl, ?_⟩) (by assumption) ?_
                rotate_left
                · intro w0 hSw
                  (try dsimp only at hSw)
                  go_simp
                  all_goals with_reducible rfl
                try simp only [Act.put, List.getElem_toArray, List.getElem_cons_zero, List.getElem_cons_succ, List.setIfInBounds_toArray, List.set_cons_zero, List.set_cons_succ]
                refine wpAnyH_take (i := 4) (v := ?_) rfl (by kernel_rfl) (by kernel_rfl) (by kernel_rfl) (fun _ _ _ h => h) (Or.inl ⟨by rfl, ?_⟩) (by assumption) ?_
                rotate_left
                · intro w0 hSw
                  (try dsimp only at hSw)
                  go_simp
                  all_goals with_reducible rfl
                try simp only [Act.put, List.getElem_toArray, List.getElem_cons_zero, List.getElem_cons_succ, List.setIfInBounds_toArray, List.set_cons_zero, List.set_cons_succ]
                refine wpAnyH_take (i := 5) (v := ?_) rfl (by kernel_rfl) (by kernel_rfl) (by kernel_rfl) (fun _ _ _ h => h) (Or.inl ⟨by rfl, ?_⟩) (by assumption) ?_
                rotate_left
                · intro w0 hSw
                  (try dsimp only at hSw)
                  go_simp
                  all_goals with_reducible rfl
                try simp only [Act.put, List.getElem_toArray, List.getElem_cons_zero, List.getElem_cons_succ, List.setIfInBounds_toArray, List.set_cons_zero, List.set_cons_succ]
                refine wpAnyH_ready (rs := [6]) (by kernel_rfl) (by simp) (AllReadyH.cons rfl (fun K hK => ?_) AllReadyH.nil)
                go_simp
                go_at_call 33
                refine (logFault_yes HFY.out (XB.out.below (below_then HBW.out (Below.refl wr.heap.size wr).drew)) XL.out).mono ?_
                rintro e w5 ⟨rfl, hb5⟩
                have hW5 := below_then (Below.refl wr.heap.size wr).drew hb5
                refine hK.out _ _ ?_ (fun hHeld => ?_)
                · exact SK.out _ hW5
                clear hK K
                try simp only [Act.put, List.getElem_toArray, List.getElem_cons_zero, List.getElem_cons_succ, List.setIfInBounds_toArray, List.set_cons_zero, List.set_cons_succ]
                refine wpAnyH_take (i := 7) (v := ?_) rfl (by kernel_rfl) (by kernel_rfl) (by kernel_rfl) (fun _ _ _ h => h) (Or.inl ⟨by rfl, ?_⟩) (by assumption) ?_
                rotate_left
                · intro w0 hSw
                  (try dsimp only at hSw)
                  go_simp
                  all_goals with_reducible rfl
                try simp only [Act.put, List.getElem_toArray, List.getElem_cons_zero, List.getElem_cons_succ, List.setIfInBounds_toArray, List.set_cons_zero, List.set_cons_succ]
                refine wpAnyH_take (i := 8) (v := ?_) rfl (by kernel_rfl) (by kernel_rfl) (by kernel_rfl) (fun _ _ _ h => h) (Or.inl ⟨by rfl, ?_⟩) (by assumption) ?_
                rotate_left
                · intro w0 hSw
                  (try dsimp only at hSw)
                  go_simp
                  all_goals with_reducible rfl
                try simp only [Act.put, List.getElem_toArray, List.getElem_cons_zero, List.getElem_cons_succ, List.setIfInBounds_toArray, List.set_cons_zero, List.set_cons_succ]
                refine wpAnyH_take (i := 9) (v := ?_) rfl (by kernel_rfl) (by kernel_rfl) (by kernel_rfl) (fun _ _ _ h => h) (Or.inl ⟨by rfl, ?_⟩) (by assumption) ?_
                rotate_left
                · intro w0 hSw
                  (try dsimp only at hSw)
                  go_simp
                  all_goals with_reducible rfl
                try simp only [Act.put, List.getElem_toArray, List.getElem_cons_zero, List.getElem_cons_succ, List.setIfInBounds_toArray, List.set_cons_zero, List.set_cons_succ]
                refine wpAnyH_take (i := 10) (v := ?_) rfl (by kernel_rfl) (by kernel_rfl) (by kernel_rfl) (fun _ _ _ h => h) (Or.inl ⟨by rfl, ?_⟩) (by assumption) ?_
                rotate_left
                · intro w0 hSw
                  (try dsimp only at hSw)
                  go_simp
                  all_goals with_reducible rfl
                try simp only [Act.put, List.getElem_toArray, List.getElem_cons_zero, List.getElem_cons_succ, List.setIfInBounds_toArray, List.set_cons_zero, List.set_cons_succ]
                refine wpAnyH_take (i := 11) (v := ?_) rfl (by kernel_rfl) (by kernel_rfl) (by kernel_rfl) (fun _ _ _ h => h) (Or.inl ⟨by rfl, ?_⟩) (by assumption) ?_
                rotate_left
                · intro w0 hSw
                  (try dsimp only at hSw)
                  go_simp
                  all_goals with_reducible rfl
                try simp only [Act.put, List.getElem_toArray, List.getElem_cons_zero, List.getElem_cons_succ, List.setIfInBounds_toArray, List.set_cons_zero, List.set_cons_succ]
                refine wpAnyH_take (i := 12) (v := ?_) rfl (by kernel_rfl) (by kernel_rfl) (by kernel_rfl) (fun _ _ _ h => h) (Or.inl ⟨by rfl, ?_⟩) (by assumption) ?_
                rotate_left
                · intro w0 hSw
                  (try dsimp only at hSw)
                  go_simp
                  all_goals with_reducible rfl
                try simp only [Act.put, List.getElem_toArray, List.getElem_cons_zero, List.getElem_cons_succ, List.setIfInBounds_toArray, List.set_cons_zero, List.set_cons_succ]
                refine wpAnyH_take (i := 13) (v := ?_) rfl (by kernel_rfl) (by kernel_rfl) (by kernel_rfl) (fun _ _ _ h => h) (Or.inl ⟨by rfl, ?_⟩) (by assumption) ?_
                rotate_left
                · intro w0 hSw
                  (try dsimp only at hSw)
                  go_simp
                  all_goals with_reducible rfl
                try simp only [Act.put, List.getElem_toArray, List.getElem_cons_zero, List.getElem_cons_succ, List.setIfInBounds_toArray, List.set_cons_zero, List.set_cons_succ]
                refine wpAnyH_take (i := 14) (v := ?_) rfl (by kernel_rfl) (by kernel_rfl) (by kernel_rfl) (fun _ _ _ h => h) (Or.inl ⟨by rfl, ?_⟩) (by assumption) ?_
                rotate_left
                · intro w0 hSw
                  (try dsimp only at hSw)
                  go_simp
                  all_goals with_reducible rfl
                try simp only [Act.put, List.getElem_toArray, List.getElem_cons_zero, List.getElem_cons_succ, List.setIfInBounds_toArray, List.set_cons_zero, List.set_cons_succ]
                refine wpAnyH_take (i := 15) (v := ?_) rfl (by kernel_rfl) (by kernel_rfl) (by kernel_rfl) (fun _ _ _ h => h) (Or.inl ⟨by rfl, ?_⟩) (by assumption) ?_
                rotate_left
                · intro w0 hSw
                  (try dsimp only at hSw)
                  go_simp
                  all_goals with_reducible rfl
                try simp only [Act.put, List.getElem_toArray, List.getElem_cons_zero, List.getElem_cons_succ, List.setIfInBounds_toArray, List.set_cons_zero, List.set_cons_succ]
                refine wpAnyH_take (i := 16) (v := ?_) rfl (by kernel_rfl) (by kernel_rfl) (by kernel_rfl) (fun _ _ _ h => h) (Or.inl ⟨by rfl, ?_⟩) (by assumption) ?_
                rotate_left
                · intro w0 hSw
                  (try dsimp only at hSw)
                  go_simp
                  all_goals with_reducible rfl
                try simp only [Act.put, List.getElem_toArray, List.getElem_cons_zero, List.getElem_cons_succ, List.setIfInBounds_toArray, List.set_cons_zero, List.set_cons_succ]
                refine wpAnyH_ready (rs := [17]) (by kernel_rfl) (by simp) (AllReadyH.cons rfl (fun K hK => ?_) AllReadyH.nil)
                go_simp
                go_at_call 82
                refine (logOf_any _ ⟨ep, ld, is, ks, rs, fw, ba⟩ k _ (H.out.below (below_then HBW.out hW5)) hlt HLG.out).mono ?_
                rintro e w6 ⟨v6, rfl, ho6, hb6⟩
                obtain ⟨A6, c6, rfl, -⟩ := (Sl.of_own ho6).form
                clear ho6
                have hW6 := below_then hW5 hb6
                refine hK.out _ _ ?_ (fun hHeld => ?_)
                · exact SK.out _ hW6
                clear hK K
                try simp only [Act.put, List.getElem_toArray, List.getElem_cons_zero, List.getElem_cons_succ, List.setIfInBounds_toArray, List.set_cons_zero, List.set_cons_succ]
                refine wpAnyH_take (i := 18) (v := ?_) rfl (by kernel_rfl) (by kernel_rfl) (by kernel_rfl) (fun _ _ _ h => h) (Or.inl ⟨by rfl, ?_⟩) (by assumption) ?_
                rotate_left
                · intro w0 hSw
                  (try dsimp only at hSw)
                  go_simp
                  all_goals with_reducible rfl
                try simp only [Act.put, List.getElem_toArray, List.getElem_cons_zero, List.getElem_cons_succ, List.setIfInBounds_toArray, List.set_cons_zero, List.set_cons_succ]
                refine wpAnyH_ready (rs := [19]) (by kernel_rfl) (by simp) (AllReadyH.cons rfl (fun K hK => ?_) AllReadyH.nil)
                go_simp
                go_at_call 69
                refine (In_any _ _ _ _).mono ?_
                rintro e w7 ⟨rfl, rfl⟩
                rw [hI1]
                refine hK.out _ _ ?_ (fun hHeld => ?_)
                · assumption
                clear hK K
                try simp only [Act.put, List.getElem_toArray, List.getElem_cons_zero, List.getElem_cons_succ, List.setIfInBounds_toArray, List.set_cons_zero, List.set_cons_succ]
                refine wpAnyH_take (i := 20) (v := ?_) rfl (by kernel_rfl) (by kernel_rfl) (by kernel_rfl) (fun _ _ _ h => h) (Or.inl ⟨by rfl, ?_⟩) (by assumption) ?_
                rotate_left
                · intro w0 hSw
                  (try dsimp only at hSw)
                  go_simp
                  all_goals with_reducible rfl
                try simp only [Act.put, List.getElem_toArray, List.getElem_cons_zero, List.getElem_cons_succ, List.setIfInBounds_toArray, List.set_cons_zero, List.set_cons_succ]
                refine wpAnyH_take (i := 21) (v := ?_) rfl (by kernel_rfl) (by kernel_rfl) (by kernel_rfl) (fun _ _ _ h => h) (Or.inl ⟨by rfl, ?_⟩) (by assumption) ?_
                rotate_left
                · intro w0 hSw
                  (try dsimp only at hSw)
                  go_simp
                  all_goals with_reducible rfl
                try simp only [Act.put, List.getElem_toArray, List.getElem_cons_zero, List.getElem_cons_succ, List.setIfInBounds_toArray, List.set_cons_zero, List.set_cons_succ]
                refine wpAnyH_take (i := 22) (v := ?_) rfl (by kernel_rfl) (by kernel_rfl) (by kernel_rfl) (fun _ _ _ h => h) (Or.inl ⟨by rfl, ?_⟩) (by assumption) ?_
                rotate_left
                · intro w0 hSw
                  (try dsimp only at hSw)
                  go_simp
                  all_goals with_reducible rfl
                try simp only [Act.put, List.getElem_toArray, List.getElem_cons_zero, List.getElem_cons_succ, List.setIfInBounds_toArray, List.set_cons_zero, List.set_cons_succ]
                refine wpAnyH_take (i := 23) (v := ?_) rfl (by kernel_rfl) (by kernel_rfl) (by kernel_rfl) (fun _ _ _ h => h) (Or.inl ⟨by rfl, ?_⟩) (by assumption) ?_
                rotate_left
                · intro w0 hSw
                  (try dsimp only at hSw)
                  go_simp
                  all_goals with_reducible rfl
                try simp only [Act.put, List.getElem_toArray, List.getElem_cons_zero, List.getElem_cons_succ, List.setIfInBounds_toArray, List.set_cons_zero, List.set_cons_succ]
                refine wpAnyH_take (i := 24) (v := ?_) rfl (by kernel_rfl) (by kernel_rfl) (by kernel_rfl) (fun _ _ _ h => h) (Or.inl ⟨by rfl, ?_⟩) (by assumption) ?_
                rotate_left
                · intro w0 hSw
                  (try dsimp only at hSw)
                  go_simp
                  all_goals with_reducible rfl
                try simp only [Act.put, List.getElem_toArray, List.getElem_cons_zero, List.getElem_cons_succ, List.setIfInBounds_toArray, List.set_cons_zero, List.set_cons_succ]
                refine wpAnyH_take (i := 25) (v := ?_) rfl (by kernel_rfl) (by kernel_rfl) (by kernel_rfl) (fun _ _ _ h => h) (Or.inl ⟨by rfl, ?_⟩) (by assumption) ?_
                rotate_left
                · intro w0 hSw
                  (try dsimp only at hSw)
                  go_simp
                  all_goals with_reducible rfl
                try simp only [Act.put, List.getElem_toArray, List.getElem_cons_zero, List.getElem_cons_succ, List.setIfInBounds_toArray, List.set_cons_zero, List.set_cons_succ]
                refine wpAnyH_take (i := 26) (v := ?_) rfl (by kernel_rfl) (by kernel_rfl) (by kernel_rfl) (fun _ _ _ h => h) (Or.inl ⟨by rfl, ?_⟩) (by assumption) ?_
                rotate_left
                · intro w0 hSw
                  (try dsimp only at hSw)
                  go_simp
                  all_goals with_reducible rfl
                try simp only [Act.put, List.getElem_toArray, List.getElem_cons_zero, List.getElem_cons_succ, List.setIfInBounds_toArray, List.set_cons_zero, List.set_cons_succ]
                refine wpAnyH_take (i := 27) (v := ?_) rfl (by kernel_rfl) (by kernel_rfl) (by kernel_rfl) (fun _ _ _ h => h) (Or.inl ⟨by rfl, ?_⟩) (by assumption) ?_
                rotate_left
                · intro w0 hSw
                  (try dsimp only at hSw)
                  go_simp
                  all_goals with_reducible rfl
                try simp only [Act.put, List.getElem_toArray, List.getElem_cons_zero, List.getElem_cons_succ, List.setIfInBounds_toArray, List.set_cons_zero, List.set_cons_succ]
                refine wpAnyH_ready (rs := [28]) (by kernel_rfl) (by simp) (AllReadyH.cons rfl (fun K hK => ?_) AllReadyH.nil)
                go_simp
                go_at_call 69
                refine (In_any _ _ _ _).mono ?_
                rintro e w7 ⟨rfl, rfl⟩
                rw [hI2]
                refine hK.out _ _ ?_ (fun hHeld => ?_)
                · assumption
                clear hK K
                try simp only [Act.put, List.getElem_toArray, List.getElem_cons_zero, List.getElem_cons_succ, List.setIfInBounds_toArray, List.set_cons_zero, List.set_cons_succ]
                refine wpAnyH_take (i := 29) (v := ?_) rfl (by kernel_rfl) (by kernel_rfl) (by kernel_rfl) (fun _ _ _ h => h) (Or.inl ⟨by rfl, ?_⟩) (by assumption) ?_
                rotate_left
                · intro w0 hSw
                  (try dsimp only at hSw)
                  go_simp
                  all_goals with_reducible rfl
                try simp only [Act.put, List.getElem_toArray, List.getElem_cons_zero, List.getElem_cons_succ, List.setIfInBounds_toArray, List.set_cons_zero, List.set_cons_succ]
                refine wpAnyH_take (i := 30) (v := ?_) rfl (by kernel_rfl) (by kernel_rfl) (by kernel_rfl) (fun _ _ _ h => h) (Or.inl ⟨by rfl, ?_⟩) (by assumption) ?_
                rotate_left
                · intro w0 hSw
                  (try dsimp only at hSw)
                  go_simp
                  all_goals with_reducible rfl
                try simp only [Act.put, List.getElem_toArray, List.getElem_cons_zero, List.getElem_cons_succ, List.setIfInBounds_toArray, List.set_cons_zero, List.set_cons_succ]
                refine wpAnyH_done (by kernel_rfl) ?_ _
                go_wp2
                go_meet
                exact ⟨Or.inr ⟨rfl, HYES.out⟩, hW6⟩
        case rest =>
          obtain ⟨⟨rfl, hno⟩ | ⟨rfl, hyes⟩, HWX⟩ := hcut
          · have HNO := Lib.hid (HNR.out k hlt hltk hno)
            clear hno
            go_wp2
            go_ret
            exact Tells.mk_no HNO.out (below_then HBW.out HWX.out)
          · have HR' := Lib.hid (HR.out.step (fun _ _ => hyes))
            have HWX' := Lib.hid (below_then HW.out HWX.out)
            clear hyes
            go_wp2
            go_light
            exact ⟨⟨k + 1, _, by omega, rfl, by go_num, HS'.out, HR'.out, HWX'.out⟩, by simp [intOf]; omega⟩
    · obtain rfl : k = rs.length := by omega
      have hs := HS.out
      rw [← G2.out] at hs
      have hall := hs.all
      have HALL := Lib.hid hall
      clear hs hall hlt
      rcases Int.lt_or_le ld 0 with h0 | h0
      · have y0 : decide (0 ≤ ld) = false := decide_eq_false (by omega)
        have hled : LedOk ⟨ep, ld, is, ks, rs, fw, ba⟩ := fun i he => by simp only at he; omega
        have HLD := Lib.hid hled
        clear h0 hled
        go_wp2
        go_ret
        exact ⟨s, rfl, ⟨fun h => HOK.out (HALL.out.1 h) HLD.out HR.out, fun h => HALL.out.2 h.some_⟩, HBW.out⟩
      · obtain ⟨i, rfl⟩ : ∃ i : Nat, ld = i := ⟨ld.toNat, by omega⟩
        have hi : i < rs.length := by have := G6.out; omega
        have hi' : i < is.length := by have := G2.out; omega
        obtain ⟨b1, o1, rfl, hb1, q1'⟩ := HI.out (Nat.lt_of_le_of_lt (Nat.zero_le _) hi')
        have Y1 := (HBW.out.cell (p := ⟨b1, o1 + i, none⟩) hb1).trans (q1' i hi')
        obtain ⟨b, off, rfl, hb, q5'⟩ := HC.out (Nat.lt_of_le_of_lt (Nat.zero_le _) hi)
        obtain ⟨pv, x0, x1, x2, x3, xb, xl⟩ := q5' i hi
        have X0 := (HBW.out.cell (p := ⟨b, off + i * 4, none⟩) hb).trans x0
        have i0 : (0 : Int) ≤ (i : Int) := by omega
        have i1 : (i : Int) < (is.length : Int) := Int.ofNat_lt.2 hi'
        have i2 : (i : Int) < (rs.length : Int) := Int.ofNat_lt.2 hi
        have y0 : decide (0 ≤ (i : Int)) = true := decide_eq_true i0
        clear q1' q5' xb xl x1 x2 x3 x0
        have hno : ¬ (is[i] = true ∧ rs[i].up = true) → ¬ PartOk ⟨ep, (i : Int), is, ks, rs, fw, ba⟩ := fun h hp => h (hp.led i rfl hi' hi)
        have hyes : is[i] = true ∧ rs[i].up = true → LedOk ⟨ep, (i : Int), is, ks, rs, fw, ba⟩ := fun h j he h1 h2 => by
          simp only at he
          have e : j = i := by omega
          subst e
          exact h
        have HNO := Lib.hid hno
        have HYES := Lib.hid hyes
        clear hno hyes
        rcases e1 : is[i] with _ | _
        · rw [e1] at Y1
          have E1 := Lib.hid e1
          clear e1
          go_wp2
          go_ret
          exact Tells.mk_no (HNO.out (fun h => by rw [E1.out] at h; cases h.1)) HBW.out
        · rcases e2 : rs[i].up with _ | _
          · rw [e1] at Y1
            rw [e2] at X0
            have E2 := Lib.hid e2
            clear e1 e2
            go_wp2
            go_ret
            exact Tells.mk_no (HNO.out (fun h => by rw [E2.out] at h; cases h.2)) HBW.out
          · rw [e1] at Y1
            rw [e2] at X0
            have E1 := Lib.hid e1
            have E2 := Lib.hid e2
            clear e1 e2
            go_wp2
            go_ret
            exact ⟨s, rfl, ⟨fun h => HOK.out (HALL.out.1 h) (HYES.out ⟨E1.out, E2.out⟩) HR.out, fun h => HALL.out.2 h.some_⟩, HBW.out⟩

theorem partMay_any (v : Value) (c : PartD) (w : World) (h : Pv w v c) : Calls Try.prog 42 #[v] w (Tells (PartOk c) w) := by
  rcases may_cases c with hh | ⟨hn, hcs⟩
  · exact partMay_good v c w h hh
  · exact partMay_head v c w h hn hcs
end Go.Proofs.Ytpjjfnpdopdnkaa
