/- Parts of a proof, merged: ViewC. No condition. -/
import Derived.Test.YtpjjfnpdopdnkaaPq6
import Derived.Test.YtpjjfnpdopdnkaaPq1
namespace Go.Proofs.Ytpjjfnpdopdnkaa
open Go.RowKit

/-- what the first k entries tell, of the producers that have a number -/
def prG (es : List Ent) (k : Nat) (pid : Int) : Option PrD := if pid = 0 then none else prTo es pid k
theorem prG_zero (es : List Ent) : prG es 0 = fun _ => none := by
  funext pid
  simp [prG, prTo]
theorem prG_skip {es : List Ent} {k : Nat} (h : k < es.length) (hp : es[k].pid = 0) : prG es (k + 1) = prG es k := by
  funext pid
  unfold prG
  by_cases h0 : pid = 0
  · simp [h0]
  · rw [if_neg h0, if_neg h0, prTo_miss h (by omega)]
theorem prG_next {es : List Ent} {k : Nat} (h : k < es.length) (hp : es[k].pid ≠ 0) : prG es (k + 1) = fun p => if p = es[k].pid then some (prNext k es[k] ((prG es k es[k].pid).getD prZ)) else prG es k p := by
  funext p
  unfold prG
  rw [if_neg hp]
  by_cases h0 : p = es[k].pid
  · rw [if_pos h0, h0, if_neg hp, prTo_hit h rfl]
  · rw [if_neg h0]
    by_cases h1 : p = 0
    · simp [h1]
    · rw [if_neg h1, if_neg h1, prTo_miss h (fun e => h0 e.symm)]
/-- entries of numbers that are numbers -/
def PlainE (es : List Ent) : Prop := ∀ (k : Nat) (h : k < es.length), 0 ≤ es[k].ver ∧ es[k].ver ≤ 1073741824 ∧ 0 ≤ es[k].seq ∧ es[k].seq ≤ 1073741824 ∧ 0 ≤ es[k].pid ∧ es[k].pid ≤ 1073741824 ∧ 1 ≤ es[k].kind ∧ es[k].kind ≤ 3
theorem PlainE.ver {es : List Ent} (h : PlainE es) : VerOk es := fun k hk => (h k hk).1
/-- the map that replay hands back -/
def ReplayPost (es : List Ent) (w : World) (e : Ending) (w' : World) : Prop := ∃ (M : Nat) (f : Int → Option Nat), e = .returned (.map (some M)) ∧ PrMap w.heap.size w' M es.length f (prG es es.length) ∧ Below w.heap.size w w' ∧ w.heap.size ≤ M
theorem below_dn (w : World) (n : Nat) : Below w.heap.size w (w.drewN n) := ⟨rfl, rfl, rfl, Nat.le_refl _, fun _ _ => rfl⟩
theorem gself (w : World) (row : Option Nat) : w.grownBy w row := ⟨rfl, rfl, rfl, Nat.le_refl _, fun _ _ _ => rfl⟩
theorem gset {w wr : World} {g : Nat} (h : w.grownBy wr (some g)) (i : Nat) (u : Value) : w.grownBy (wr.setCell ⟨g, i, none⟩ u) (some g) :=
  ⟨h.os, h.tape, h.output, by simpa using h.size, fun j hj hne => by rw [heap_setCell_other _ _ _ _ (fun e => hne (by rw [e]))]; exact h.block j hj hne⟩
set_option maxRecDepth 100000 in
set_option maxHeartbeats 4000000 in
theorem replay_any (v : Value) (es : List Ent) (w : World) (h : Es w v es) (hp : PlainE es) (hl : es.length ≤ 9223372036854775806) :
    Calls Try.prog 108 #[v] w (ReplayPost es w) := by
  obtain ⟨A, c, rfl, hc, hx⟩ := h.at_
  have HX := Lib.hid hx
  have HP := Lib.hid hp
  clear h hx hp
  have hmm := @run_makeMap Try.prog
  go_enter Try.func108, Try.ntmps108
  go_wp2
  clear hmm
  have hm0 := PrMap.made w w.heap.size
  rw [← prG_zero es] at hm0
  have hb0 : Below w.heap.size w (w.alloc (.map #[] 0)) := (Below.refl _ _).alloc (Nat.le_refl _) _
  have HM0 := Lib.hid hm0
  have HB0 := Lib.hid hb0
  have hs0 : w.heap.size + 1 ≤ (w.alloc (.map #[] 0)).heap.size := by simp
  clear hm0 hb0
  generalize w.alloc (.map #[] 0) = W0 at *
  go_loopw [10] (fun x wr => ∃ (k : Nat) (f : Int → Option Nat), k ≤ es.length ∧ x = .int .i64 k ∧ Hid (PrMap w.heap.size wr w.heap.size k f (prG es k)) ∧ Hid (Below w.heap.size w wr) ∧ w.heap.size + 1 ≤ wr.heap.size) (fun x _ => es.length - (intOf x).toNat)
  case atStart => exact ⟨0, _, Nat.zero_le _, rfl, HM0, HB0, hs0⟩
  case round =>
    clear HM0 HB0 hs0
    obtain ⟨k, f, hk, rfl, HM, HB, hs⟩ := hrel
    by_cases hlt : k < es.length
    · obtain ⟨b1, o1, rfl, hb1, hcell⟩ := HX.out (Nat.lt_of_le_of_lt (Nat.zero_le _) hlt)
      obtain ⟨x0, x1, x2, x3, x4, x5, x6⟩ := hcell k hlt
      have hpl := HP.out k hlt
      have HN := Lib.hid (fun h => prG_next (es := es) (k := k) hlt h)
      have HS := Lib.hid (fun h => prG_skip (es := es) (k := k) hlt h)
      generalize es[k] = y at *
      obtain ⟨ep, pid, ver, seq, kind, txn, text⟩ := y
      simp only at *
      have X0 := (HB.out.cell (p := ⟨b1, o1 + k * 7, none⟩) hb1).trans x0
      have X1 := (HB.out.cell (p := ⟨b1, o1 + k * 7 + 1, none⟩) hb1).trans x1
      have X2 := (HB.out.cell (p := ⟨b1, o1 + k * 7 + 2, none⟩) hb1).trans x2
      have X3 := (HB.out.cell (p := ⟨b1, o1 + k * 7 + 3, none⟩) hb1).trans x3
      have X4 := (HB.out.cell (p := ⟨b1, o1 + k * 7 + 4, none⟩) hb1).trans x4
      have X5 := (HB.out.cell (p := ⟨b1, o1 + k * 7 + 5, none⟩) hb1).trans x5
      have X6 := (HB.out.cell (p := ⟨b1, o1 + k * 7 + 6, none⟩) hb1).trans x6
      have hbl : b1 < wr.heap.size := by omega
      obtain ⟨p0, p1, p2, p3, p4, p5, p6, p7⟩ := hpl
      clear x0 x1 x2 x3 x4 x5 x6 hcell
      have k0 : (0 : Int) ≤ (k : Int) := by omega
      have k1 : (k : Int) < (es.length : Int) := by omega
      by_cases h0 : pid = 0
      · have z1 : (pid == 0) = true := beq_iff_eq.2 h0
        have HS0 := Lib.hid (HS.out h0)
        clear HN HS h0
        go_wp2
        go_light
        have hal := (Below.refl wr.heap.size wr).alloc (Nat.le_refl _) (.cells #[.int .i64 ep, .int .i64 pid, .int .i64 ver, .int .i64 seq, .int .i64 kind, .bool txn, .string text] 55)
        exact ⟨⟨k + 1, f, by omega, by go_num, Lib.hid (by rw [HS0.out]; exact (HM.out.keep hal).mono (Nat.le_succ _)), Lib.hid (below_then HB.out hal), by simp; omega⟩, by simp [intOf]; omega⟩
      · have z1 : (pid == 0) = false := beq_eq_false_iff_ne.2 h0
        have hwf : (Lit.int .i64 pid).wf = true := WalkArith.wf_i64 (by omega)
        have HWF := Lib.hid hwf
        clear hwf
        go_upto_region 6 with fail
        have hsz1 := HB.out.size
        have hb1 : Below w.heap.size w (wr.alloc (.cells #[.int .i64 ep, .int .i64 pid, .int .i64 ver, .int .i64 seq, .int .i64 kind, .bool txn, .string text] 55)) := (HB.out).alloc (by first | omega | (simp; done) | (simp; omega)) _
        have hal1 : Below wr.heap.size wr (wr.alloc (.cells #[.int .i64 ep, .int .i64 pid, .int .i64 ver, .int .i64 seq, .int .i64 kind, .bool txn, .string text] 55)) := (Below.refl _ _).alloc (by first | omega | (simp; done) | (simp; omega)) _
        have b_be1 : Blk (wr.alloc (.cells #[.int .i64 ep, .int .i64 pid, .int .i64 ver, .int .i64 seq, .int .i64 kind, .bool txn, .string text] 55)) (wr.heap.size) 55 #[.int .i64 ep, .int .i64 pid, .int .i64 ver, .int .i64 seq, .int .i64 kind, .bool txn, .string text] := Blk.new_ _ 55 #[.int .i64 ep, .int .i64 pid, .int .i64 ver, .int .i64 seq, .int .i64 kind, .bool txn, .string text] (by first | rfl | (simp; done) | (simp; omega))
        have k_m1 := HM.out.keep hal1
        have hz1 : wr.heap.size + 1 ≤ (wr.alloc (.cells #[.int .i64 ep, .int .i64 pid, .int .i64 ver, .int .i64 seq, .int .i64 kind, .bool txn, .string text] 55)).heap.size := by first | omega | (simp; done) | (simp; omega)
        generalize wr.alloc (.cells #[.int .i64 ep, .int .i64 pid, .int .i64 ver, .int .i64 seq, .int .i64 kind, .bool txn, .string text] 55) = W1 at *
        have HB1 := Lib.hid hb1
        have B1_be := Lib.hid b_be1
        have K1_m := Lib.hid k_m1
        clear hb1 b_be1 k_m1
        clear HB HM
        obtain ⟨D, hown, hat⟩ := K1_m.out.map
        have HOWN := Lib.hid hown
        have HAT := Lib.hid hat
        clear hown hat
        obtain ⟨E, hE⟩ : ∃ E, E = wr.heap.size := ⟨_, rfl⟩
        rw [← hE] at B1_be
        rw [← hE]
        have e1 : w.heap.size < E := by omega
        have e2 : E < W1.heap.size := B1_be.out.lt
        clear hE
        have c1 := B1_be.out.cell 1
        have c2 := B1_be.out.cell 2
        have cl := B1_be.out.lt
        rcases hf : f pid with _ | b
        · have HF := Lib.hid hf
          have hgn := K1_m.out.none_ pid hf
          have HGN := Lib.hid hgn
          clear hf hgn
          have hnew : ∀ p b', f p = some b' → b' ≠ W1.heap.size := fun p b' h => by
            obtain ⟨_, q, _, h2⟩ := K1_m.out.blk p b' h
            have := h2.lt
            omega
          have HNEW := Lib.hid hnew
          clear hnew
          go_upto_region 10 with (first | (at_lookup; refine wpList_lookup_pr _ rfl _ _ 107 rfl Try.underlying107 K1_m.out rfl pid rfl HWF.out none HF.out ?_; simp only [ptrV]) | (at_mapUpdate; refine wpList_mapUpdate_own _ rfl _ _ _ 107 rfl 3 106 (Maps.int_keyed Try.underlying3) Try.underlying107 ptrR w.heap.size k D rfl (HOWN.out.alloc _) (by simp only [maxLen]; omega) _ _ (pkey pid) rfl rfl (pkey_of HWF.out) (.lit (.int .i64 (W1.heap.size : Nat))) [] rfl ?_; intro wc hput hgr) | fail)
          have hb9 := Blk.new W1 110 #[.int .i64 0, .int .i64 (-1), .int .i64 (-1), .int .i64 (-1)]
          have hal := (Below.refl W1.heap.size W1).alloc (Nat.le_refl _) (.cells #[.int .i64 0, .int .i64 (-1), .int .i64 (-1), .int .i64 (-1)] 110)
          have hmp := PrMap.put (q := prZ) (K1_m.out.keep hal) (HOWN.out.alloc _) HAT.out HF.out hb9 (by omega) HNEW.out hgr hput
          have hs2 := hgr.size
          have hbe := (B1_be.out.alloc (.cells #[.int .i64 0, .int .i64 (-1), .int .i64 (-1), .int .i64 (-1)] 110)).grown hgr (fun e => by injection e with e; omega)
          have hbw := (HB1.out.alloc (by omega) (.cells #[.int .i64 0, .int .i64 (-1), .int .i64 (-1), .int .i64 (-1)] 110)).grown hgr (by simp; omega) (fun j hj => by injection hj with hj; omega)
          have hbq := hb9.grown hgr (fun e => by injection e with e; omega)
          have hq := (show prZ = (prG es k pid).getD prZ by rw [HGN.out]; rfl)
          have hf2 := (show (fun p => if p = pid then some W1.heap.size else f p) pid = some W1.heap.size by simp)
          have hs : W1.heap.size + 1 ≤ wc.heap.size := by simp at hs2; omega
          have hmp' : PrMap w.heap.size wc w.heap.size (k + 1) (fun p => if p = pid then some W1.heap.size else f p) (fun p => if p = pid then some ⟨0, -1, -1, -1⟩ else prG es k p) := hmp
          obtain ⟨b, hb⟩ : ∃ b, b = W1.heap.size := ⟨_, rfl⟩
          rw [← hb] at hmp' hf2 hbq hs
          rw [← hb]
          have hbb : w.heap.size ≤ b := by omega
          have hbE : b ≠ E := by omega
          obtain ⟨f2, hff⟩ : ∃ f2, f2 = (fun p => if p = pid then some b else f p) := ⟨_, rfl⟩
          rw [← hff] at hmp' hf2
          have HF2 := Lib.hid hf2
          have HM2 := Lib.hid hmp'
          have HBE2 := Lib.hid hbe
          have HB2 := Lib.hid hbw
          have HBQ := Lib.hid hbq
          have HQ := Lib.hid hq
          clear hff hb hf2 hmp hmp' hbe hbw hbq hq hput hgr hb9 hal hs2 c1 c2 cl HF HGN HNEW K1_m B1_be HB1 HOWN HAT
          by_cases hv : ver = 0
          · have HV := Lib.hid hv
            have z2 : (ver != 0) = false := by simpa using hv
            clear hv
            by_cases hk : kind = 1
            · have HK := Lib.hid hk
              have z3 : (kind != 1) = false := by simpa using hk
              clear hk
              rcases txn with _ | _
              · skip
                skip
                have c_be0 := HBE2.out.cell 0
                have c_be1 := HBE2.out.cell 1
                have c_be2 := HBE2.out.cell 2
                have c_be3 := HBE2.out.cell 3
                have c_be4 := HBE2.out.cell 4
                have c_be5 := HBE2.out.cell 5
                have c_be6 := HBE2.out.cell 6
                have l_be := HBE2.out.lt
                have c_bp0 := HBQ.out.cell 0
                have f_bp0 := HBQ.out.frozen 0
                have c_bp1 := HBQ.out.cell 1
                have f_bp1 := HBQ.out.frozen 1
                have c_bp2 := HBQ.out.cell 2
                have f_bp2 := HBQ.out.frozen 2
                have c_bp3 := HBQ.out.cell 3
                have f_bp3 := HBQ.out.frozen 3
                have l_bp := HBQ.out.lt
                go_quiet (fail)
                clear c_be0 c_be1 c_be2 c_be3 c_be4 c_be5 c_be6 l_be c_bp0 f_bp0 c_bp1 f_bp1 c_bp2 f_bp2 c_bp3 f_bp3 l_bp
                generalize hd : World.drewN wc _ = W21 at *
                have hb : Below wc.heap.size wc W21 := by rw [← hd]; exact below_dn _ _
                have hb21 : Below w.heap.size w W21 := below_then HB2.out hb
                have b_be21 := HBE2.out.below hb HBE2.out.lt
                have b_bp21 := HBQ.out.below hb HBQ.out.lt
                have k_m21 := HM2.out.keep hb
                have hz21 := hb.size
                have HB21 := Lib.hid hb21
                have B21_be := Lib.hid b_be21
                have B21_bp := Lib.hid b_bp21
                have K21_m := Lib.hid k_m21
                clear hb21 b_be21 b_bp21 k_m21
                clear HBE2 HBQ HB2 HM2
                clear hd hb
                have c_be0 := B21_be.out.cell 0
                have c_be1 := B21_be.out.cell 1
                have c_be2 := B21_be.out.cell 2
                have c_be3 := B21_be.out.cell 3
                have c_be4 := B21_be.out.cell 4
                have c_be5 := B21_be.out.cell 5
                have c_be6 := B21_be.out.cell 6
                have l_be := B21_be.out.lt
                have c_bp0 := B21_bp.out.cell 0
                have f_bp0 := B21_bp.out.frozen 0
                have c_bp1 := B21_bp.out.cell 1
                have f_bp1 := B21_bp.out.frozen 1
                have c_bp2 := B21_bp.out.cell 2
                have f_bp2 := B21_bp.out.frozen 2
                have c_bp3 := B21_bp.out.cell 3
                have f_bp3 := B21_bp.out.frozen 3
                have l_bp := B21_bp.out.lt
                go_wp2
                clear c_be0 c_be1 c_be2 c_be3 c_be4 c_be5 c_be6 l_be c_bp0 f_bp0 c_bp1 f_bp1 c_bp2 f_bp2 c_bp3 f_bp3 l_bp
                go_light
                have hszF := HB21.out.size
                have hbF : Below w.heap.size w (W21.setCell ⟨b, 1, none⟩ (.int .i64 seq)) := (HB21.out).setCell (by show w.heap.size ≤ b; omega) _
                have b_beF : Blk (W21.setCell ⟨b, 1, none⟩ (.int .i64 seq)) (E) 55 #[.int .i64 ep, .int .i64 pid, .int .i64 ver, .int .i64 seq, .int .i64 kind, .bool false, .string text] := (B21_be.out).far (p := ⟨b, 1, none⟩) (by show E ≠ b; omega) _
                have b_bpF : Blk (W21.setCell ⟨b, 1, none⟩ (.int .i64 seq)) (b) 110 #[.int .i64 0, .int .i64 seq, .int .i64 (-1), .int .i64 (-1)] := (B21_bp.out).set_ 1 _
                have hturn := PrMap.turn (q := ⟨0, seq, -1, -1⟩) K21_m.out HF2.out (gset (gself W21 (some b)) 1 (.int .i64 seq)) b_bpF
                have heq : (fun p => if p = pid then some (⟨0, seq, -1, -1⟩ : PrD) else (fun p => if p = pid then some (⟨0, -1, -1, -1⟩ : PrD) else prG es k p) p) = prG es (k + 1) := by
                  rw [HN.out (by omega), ← HQ.out]
                  funext p
                  by_cases hp : p = pid
                  · simp [hp, prNext, prVer, prKind, prZ, HV.out, HK.out]
                  · simp [hp]
                rw [heq] at hturn
                exact ⟨⟨k + 1, f2, by omega, by go_num, Lib.hid hturn, Lib.hid hbF, by simp; omega⟩, by simp [intOf]; omega⟩
              · by_cases ho : -1 < 0
                · have HO := Lib.hid ho
                  have z4 : decide (-1 < 0) = true := decide_eq_true ho
                  clear ho
                  skip
                  have c_be0 := HBE2.out.cell 0
                  have c_be1 := HBE2.out.cell 1
                  have c_be2 := HBE2.out.cell 2
                  have c_be3 := HBE2.out.cell 3
                  have c_be4 := HBE2.out.cell 4
                  have c_be5 := HBE2.out.cell 5
                  have c_be6 := HBE2.out.cell 6
                  have l_be := HBE2.out.lt
                  have c_bp0 := HBQ.out.cell 0
                  have f_bp0 := HBQ.out.frozen 0
                  have c_bp1 := HBQ.out.cell 1
                  have f_bp1 := HBQ.out.frozen 1
                  have c_bp2 := HBQ.out.cell 2
                  have f_bp2 := HBQ.out.frozen 2
                  have c_bp3 := HBQ.out.cell 3
                  have f_bp3 := HBQ.out.frozen 3
                  have l_bp := HBQ.out.lt
                  go_quiet (fail)
                  clear c_be0 c_be1 c_be2 c_be3 c_be4 c_be5 c_be6 l_be c_bp0 f_bp0 c_bp1 f_bp1 c_bp2 f_bp2 c_bp3 f_bp3 l_bp
                  generalize hd : World.drewN wc _ = W21 at *
                  have hb : Below wc.heap.size wc W21 := by rw [← hd]; exact below_dn _ _
                  have hb21 : Below w.heap.size w W21 := below_then HB2.out hb
                  have b_be21 := HBE2.out.below hb HBE2.out.lt
                  have b_bp21 := HBQ.out.below hb HBQ.out.lt
                  have k_m21 := HM2.out.keep hb
                  have hz21 := hb.size
                  have HB21 := Lib.hid hb21
                  have B21_be := Lib.hid b_be21
                  have B21_bp := Lib.hid b_bp21
                  have K21_m := Lib.hid k_m21
                  clear hb21 b_be21 b_bp21 k_m21
                  clear HBE2 HBQ HB2 HM2
                  clear hd hb
                  have c_be0 := B21_be.out.cell 0
                  have c_be1 := B21_be.out.cell 1
                  have c_be2 := B21_be.out.cell 2
                  have c_be3 := B21_be.out.cell 3
                  have c_be4 := B21_be.out.cell 4
                  have c_be5 := B21_be.out.cell 5
                  have c_be6 := B21_be.out.cell 6
                  have l_be := B21_be.out.lt
                  have c_bp0 := B21_bp.out.cell 0
                  have f_bp0 := B21_bp.out.frozen 0
                  have c_bp1 := B21_bp.out.cell 1
                  have f_bp1 := B21_bp.out.frozen 1
                  have c_bp2 := B21_bp.out.cell 2
                  have f_bp2 := B21_bp.out.frozen 2
                  have c_bp3 := B21_bp.out.cell 3
                  have f_bp3 := B21_bp.out.frozen 3
                  have l_bp := B21_bp.out.lt
                  go_wp2
                  clear c_be0 c_be1 c_be2 c_be3 c_be4 c_be5 c_be6 l_be c_bp0 f_bp0 c_bp1 f_bp1 c_bp2 f_bp2 c_bp3 f_bp3 l_bp
                  go_light
                  have hszF := HB21.out.size
                  have hbF : Below w.heap.size w ((W21.setCell ⟨b, 1, none⟩ (.int .i64 seq)).setCell ⟨b, 2, none⟩ (.int .i64 k)) := ((HB21.out).setCell (by show w.heap.size ≤ b; omega) _).setCell (by show w.heap.size ≤ b; omega) _
                  have b_beF : Blk ((W21.setCell ⟨b, 1, none⟩ (.int .i64 seq)).setCell ⟨b, 2, none⟩ (.int .i64 k)) (E) 55 #[.int .i64 ep, .int .i64 pid, .int .i64 ver, .int .i64 seq, .int .i64 kind, .bool true, .string text] := ((B21_be.out).far (p := ⟨b, 1, none⟩) (by show E ≠ b; omega) _).far (p := ⟨b, 2, none⟩) (by show E ≠ b; omega) _
                  have b_bpF : Blk ((W21.setCell ⟨b, 1, none⟩ (.int .i64 seq)).setCell ⟨b, 2, none⟩ (.int .i64 k)) (b) 110 #[.int .i64 0, .int .i64 seq, .int .i64 (k : Int), .int .i64 (-1)] := ((B21_bp.out).set_ 1 _).set_ 2 _
                  have hturn := PrMap.turn (q := ⟨0, seq, (k : Int), -1⟩) K21_m.out HF2.out (gset (gset (gself W21 (some b)) 1 (.int .i64 seq)) 2 (.int .i64 k)) b_bpF
                  have heq : (fun p => if p = pid then some (⟨0, seq, (k : Int), -1⟩ : PrD) else (fun p => if p = pid then some (⟨0, -1, -1, -1⟩ : PrD) else prG es k p) p) = prG es (k + 1) := by
                    rw [HN.out (by omega), ← HQ.out]
                    funext p
                    by_cases hp : p = pid
                    · simp [hp, prNext, prVer, prKind, prZ, HV.out, HK.out]
                    · simp [hp]
                  rw [heq] at hturn
                  exact ⟨⟨k + 1, f2, by omega, by go_num, Lib.hid hturn, Lib.hid hbF, by simp; omega⟩, by simp [intOf]; omega⟩
                · have HO := Lib.hid ho
                  have z4 : decide (-1 < 0) = false := decide_eq_false ho
                  clear ho
                  exact absurd (by omega) HO.out
            · have HK := Lib.hid hk
              have z3 : (kind != 1) = true := by simpa using hk
              clear hk
              skip
              have c_be0 := HBE2.out.cell 0
              have c_be1 := HBE2.out.cell 1
              have c_be2 := HBE2.out.cell 2
              have c_be3 := HBE2.out.cell 3
              have c_be4 := HBE2.out.cell 4
              have c_be5 := HBE2.out.cell 5
              have c_be6 := HBE2.out.cell 6
              have l_be := HBE2.out.lt
              have c_bp0 := HBQ.out.cell 0
              have f_bp0 := HBQ.out.frozen 0
              have c_bp1 := HBQ.out.cell 1
              have f_bp1 := HBQ.out.frozen 1
              have c_bp2 := HBQ.out.cell 2
              have f_bp2 := HBQ.out.frozen 2
              have c_bp3 := HBQ.out.cell 3
              have f_bp3 := HBQ.out.frozen 3
              have l_bp := HBQ.out.lt
              go_quiet (fail)
              clear c_be0 c_be1 c_be2 c_be3 c_be4 c_be5 c_be6 l_be c_bp0 f_bp0 c_bp1 f_bp1 c_bp2 f_bp2 c_bp3 f_bp3 l_bp
              generalize hd : World.drewN wc _ = W21 at *
              have hb : Below wc.heap.size wc W21 := by rw [← hd]; exact below_dn _ _
              have hb21 : Below w.heap.size w W21 := below_then HB2.out hb
              have b_be21 := HBE2.out.below hb HBE2.out.lt
              have b_bp21 := HBQ.out.below hb HBQ.out.lt
              have k_m21 := HM2.out.keep hb
              have hz21 := hb.size
              have HB21 := Lib.hid hb21
              have B21_be := Lib.hid b_be21
              have B21_bp := Lib.hid b_bp21
              have K21_m := Lib.hid k_m21
              clear hb21 b_be21 b_bp21 k_m21
              clear HBE2 HBQ HB2 HM2
              clear hd hb
              have c_be0 := B21_be.out.cell 0
              have c_be1 := B21_be.out.cell 1
              have c_be2 := B21_be.out.cell 2
              have c_be3 := B21_be.out.cell 3
              have c_be4 := B21_be.out.cell 4
              have c_be5 := B21_be.out.cell 5
              have c_be6 := B21_be.out.cell 6
              have l_be := B21_be.out.lt
              have c_bp0 := B21_bp.out.cell 0
              have f_bp0 := B21_bp.out.frozen 0
              have c_bp1 := B21_bp.out.cell 1
              have f_bp1 := B21_bp.out.frozen 1
              have c_bp2 := B21_bp.out.cell 2
              have f_bp2 := B21_bp.out.frozen 2
              have c_bp3 := B21_bp.out.cell 3
              have f_bp3 := B21_bp.out.frozen 3
              have l_bp := B21_bp.out.lt
              go_wp2
              clear c_be0 c_be1 c_be2 c_be3 c_be4 c_be5 c_be6 l_be c_bp0 f_bp0 c_bp1 f_bp1 c_bp2 f_bp2 c_bp3 f_bp3 l_bp
              go_light
              have hszF := HB21.out.size
              have hbF : Below w.heap.size w ((W21.setCell ⟨b, 2, none⟩ (.int .i64 (-1))).setCell ⟨b, 3, none⟩ (.int .i64 k)) := ((HB21.out).setCell (by show w.heap.size ≤ b; omega) _).setCell (by show w.heap.size ≤ b; omega) _
              have b_beF : Blk ((W21.setCell ⟨b, 2, none⟩ (.int .i64 (-1))).setCell ⟨b, 3, none⟩ (.int .i64 k)) (E) 55 #[.int .i64 ep, .int .i64 pid, .int .i64 ver, .int .i64 seq, .int .i64 kind, .bool txn, .string text] := ((B21_be.out).far (p := ⟨b, 2, none⟩) (by show E ≠ b; omega) _).far (p := ⟨b, 3, none⟩) (by show E ≠ b; omega) _
              have b_bpF : Blk ((W21.setCell ⟨b, 2, none⟩ (.int .i64 (-1))).setCell ⟨b, 3, none⟩ (.int .i64 k)) (b) 110 #[.int .i64 0, .int .i64 (-1), .int .i64 (-1), .int .i64 (k : Int)] := ((B21_bp.out).set_ 2 _).set_ 3 _
              have hturn := PrMap.turn (q := ⟨0, -1, -1, (k : Int)⟩) K21_m.out HF2.out (gset (gset (gself W21 (some b)) 2 (.int .i64 (-1))) 3 (.int .i64 k)) b_bpF
              have heq : (fun p => if p = pid then some (⟨0, -1, -1, (k : Int)⟩ : PrD) else (fun p => if p = pid then some (⟨0, -1, -1, -1⟩ : PrD) else prG es k p) p) = prG es (k + 1) := by
                rw [HN.out (by omega), ← HQ.out]
                funext p
                by_cases hp : p = pid
                · simp [hp, prNext, prVer, prKind, prZ, HV.out, HK.out]
                · simp [hp]
              rw [heq] at hturn
              exact ⟨⟨k + 1, f2, by omega, by go_num, Lib.hid hturn, Lib.hid hbF, by simp; omega⟩, by simp [intOf]; omega⟩
          · have HV := Lib.hid hv
            have z2 : (ver != 0) = true := by simpa using hv
            clear hv
            by_cases hk : kind = 1
            · have HK := Lib.hid hk
              have z3 : (kind != 1) = false := by simpa using hk
              clear hk
              rcases txn with _ | _
              · skip
                skip
                have c_be0 := HBE2.out.cell 0
                have c_be1 := HBE2.out.cell 1
                have c_be2 := HBE2.out.cell 2
                have c_be3 := HBE2.out.cell 3
                have c_be4 := HBE2.out.cell 4
                have c_be5 := HBE2.out.cell 5
                have c_be6 := HBE2.out.cell 6
                have l_be := HBE2.out.lt
                have c_bp0 := HBQ.out.cell 0
                have f_bp0 := HBQ.out.frozen 0
                have c_bp1 := HBQ.out.cell 1
                have f_bp1 := HBQ.out.frozen 1
                have c_bp2 := HBQ.out.cell 2
                have f_bp2 := HBQ.out.frozen 2
                have c_bp3 := HBQ.out.cell 3
                have f_bp3 := HBQ.out.frozen 3
                have l_bp := HBQ.out.lt
                go_quiet (fail)
                clear c_be0 c_be1 c_be2 c_be3 c_be4 c_be5 c_be6 l_be c_bp0 f_bp0 c_bp1 f_bp1 c_bp2 f_bp2 c_bp3 f_bp3 l_bp
                generalize hd : World.drewN wc _ = W21 at *
                have hb : Below wc.heap.size wc W21 := by rw [← hd]; exact below_dn _ _
                have hb21 : Below w.heap.size w W21 := below_then HB2.out hb
                have b_be21 := HBE2.out.below hb HBE2.out.lt
                have b_bp21 := HBQ.out.below hb HBQ.out.lt
                have k_m21 := HM2.out.keep hb
                have hz21 := hb.size
                have HB21 := Lib.hid hb21
                have B21_be := Lib.hid b_be21
                have B21_bp := Lib.hid b_bp21
                have K21_m := Lib.hid k_m21
                clear hb21 b_be21 b_bp21 k_m21
                clear HBE2 HBQ HB2 HM2
                clear hd hb
                have c_be0 := B21_be.out.cell 0
                have c_be1 := B21_be.out.cell 1
                have c_be2 := B21_be.out.cell 2
                have c_be3 := B21_be.out.cell 3
                have c_be4 := B21_be.out.cell 4
                have c_be5 := B21_be.out.cell 5
                have c_be6 := B21_be.out.cell 6
                have l_be := B21_be.out.lt
                have c_bp0 := B21_bp.out.cell 0
                have f_bp0 := B21_bp.out.frozen 0
                have c_bp1 := B21_bp.out.cell 1
                have f_bp1 := B21_bp.out.frozen 1
                have c_bp2 := B21_bp.out.cell 2
                have f_bp2 := B21_bp.out.frozen 2
                have c_bp3 := B21_bp.out.cell 3
                have f_bp3 := B21_bp.out.frozen 3
                have l_bp := B21_bp.out.lt
                go_wp2
                clear c_be0 c_be1 c_be2 c_be3 c_be4 c_be5 c_be6 l_be c_bp0 f_bp0 c_bp1 f_bp1 c_bp2 f_bp2 c_bp3 f_bp3 l_bp
                go_light
                have hszF := HB21.out.size
                have hbF : Below w.heap.size w (((W21.setCell ⟨b, 0, none⟩ (.int .i64 ver)).setCell ⟨b, 1, none⟩ (.int .i64 (-1))).setCell ⟨b, 1, none⟩ (.int .i64 seq)) := (((HB21.out).setCell (by show w.heap.size ≤ b; omega) _).setCell (by show w.heap.size ≤ b; omega) _).setCell (by show w.heap.size ≤ b; omega) _
                have b_beF : Blk (((W21.setCell ⟨b, 0, none⟩ (.int .i64 ver)).setCell ⟨b, 1, none⟩ (.int .i64 (-1))).setCell ⟨b, 1, none⟩ (.int .i64 seq)) (E) 55 #[.int .i64 ep, .int .i64 pid, .int .i64 ver, .int .i64 seq, .int .i64 kind, .bool false, .string text] := (((B21_be.out).far (p := ⟨b, 0, none⟩) (by show E ≠ b; omega) _).far (p := ⟨b, 1, none⟩) (by show E ≠ b; omega) _).far (p := ⟨b, 1, none⟩) (by show E ≠ b; omega) _
                have b_bpF : Blk (((W21.setCell ⟨b, 0, none⟩ (.int .i64 ver)).setCell ⟨b, 1, none⟩ (.int .i64 (-1))).setCell ⟨b, 1, none⟩ (.int .i64 seq)) (b) 110 #[.int .i64 ver, .int .i64 seq, .int .i64 (-1), .int .i64 (-1)] := (((B21_bp.out).set_ 0 _).set_ 1 _).set_ 1 _
                have hturn := PrMap.turn (q := ⟨ver, seq, -1, -1⟩) K21_m.out HF2.out (gset (gset (gset (gself W21 (some b)) 0 (.int .i64 ver)) 1 (.int .i64 (-1))) 1 (.int .i64 seq)) b_bpF
                have heq : (fun p => if p = pid then some (⟨ver, seq, -1, -1⟩ : PrD) else (fun p => if p = pid then some (⟨0, -1, -1, -1⟩ : PrD) else prG es k p) p) = prG es (k + 1) := by
                  rw [HN.out (by omega), ← HQ.out]
                  funext p
                  by_cases hp : p = pid
                  · simp [hp, prNext, prVer, prKind, prZ, HV.out, HK.out]
                  · simp [hp]
                rw [heq] at hturn
                exact ⟨⟨k + 1, f2, by omega, by go_num, Lib.hid hturn, Lib.hid hbF, by simp; omega⟩, by simp [intOf]; omega⟩
              · by_cases ho : -1 < 0
                · have HO := Lib.hid ho
                  have z4 : decide (-1 < 0) = true := decide_eq_true ho
                  clear ho
                  skip
                  have c_be0 := HBE2.out.cell 0
                  have c_be1 := HBE2.out.cell 1
                  have c_be2 := HBE2.out.cell 2
                  have c_be3 := HBE2.out.cell 3
                  have c_be4 := HBE2.out.cell 4
                  have c_be5 := HBE2.out.cell 5
                  have c_be6 := HBE2.out.cell 6
                  have l_be := HBE2.out.lt
                  have c_bp0 := HBQ.out.cell 0
                  have f_bp0 := HBQ.out.frozen 0
                  have c_bp1 := HBQ.out.cell 1
                  have f_bp1 := HBQ.out.frozen 1
                  have c_bp2 := HBQ.out.cell 2
                  have f_bp2 := HBQ.out.frozen 2
                  have c_bp3 := HBQ.out.cell 3
                  have f_bp3 := HBQ.out.frozen 3
                  have l_bp := HBQ.out.lt
                  go_quiet (fail)
                  clear c_be0 c_be1 c_be2 c_be3 c_be4 c_be5 c_be6 l_be c_bp0 f_bp0 c_bp1 f_bp1 c_bp2 f_bp2 c_bp3 f_bp3 l_bp
                  generalize hd : World.drewN wc _ = W21 at *
                  have hb : Below wc.heap.size wc W21 := by rw [← hd]; exact below_dn _ _
                  have hb21 : Below w.heap.size w W21 := below_then HB2.out hb
                  have b_be21 := HBE2.out.below hb HBE2.out.lt
                  have b_bp21 := HBQ.out.below hb HBQ.out.lt
                  have k_m21 := HM2.out.keep hb
                  have hz21 := hb.size
                  have HB21 := Lib.hid hb21
                  have B21_be := Lib.hid b_be21
                  have B21_bp := Lib.hid b_bp21
                  have K21_m := Lib.hid k_m21
                  clear hb21 b_be21 b_bp21 k_m21
                  clear HBE2 HBQ HB2 HM2
                  clear hd hb
                  have c_be0 := B21_be.out.cell 0
                  have c_be1 := B21_be.out.cell 1
                  have c_be2 := B21_be.out.cell 2
                  have c_be3 := B21_be.out.cell 3
                  have c_be4 := B21_be.out.cell 4
                  have c_be5 := B21_be.out.cell 5
                  have c_be6 := B21_be.out.cell 6
                  have l_be := B21_be.out.lt
                  have c_bp0 := B21_bp.out.cell 0
                  have f_bp0 := B21_bp.out.frozen 0
                  have c_bp1 := B21_bp.out.cell 1
                  have f_bp1 := B21_bp.out.frozen 1
                  have c_bp2 := B21_bp.out.cell 2
                  have f_bp2 := B21_bp.out.frozen 2
                  have c_bp3 := B21_bp.out.cell 3
                  have f_bp3 := B21_bp.out.frozen 3
                  have l_bp := B21_bp.out.lt
                  go_wp2
                  clear c_be0 c_be1 c_be2 c_be3 c_be4 c_be5 c_be6 l_be c_bp0 f_bp0 c_bp1 f_bp1 c_bp2 f_bp2 c_bp3 f_bp3 l_bp
                  go_light
                  have hszF := HB21.out.size
                  have hbF : Below w.heap.size w ((((W21.setCell ⟨b, 0, none⟩ (.int .i64 ver)).setCell ⟨b, 1, none⟩ (.int .i64 (-1))).setCell ⟨b, 1, none⟩ (.int .i64 seq)).setCell ⟨b, 2, none⟩ (.int .i64 k)) := ((((HB21.out).setCell (by show w.heap.size ≤ b; omega) _).setCell (by show w.heap.size ≤ b; omega) _).setCell (by show w.heap.size ≤ b; omega) _).setCell (by show w.heap.size ≤ b; omega) _
                  have b_beF : Blk ((((W21.setCell ⟨b, 0, none⟩ (.int .i64 ver)).setCell ⟨b, 1, none⟩ (.int .i64 (-1))).setCell ⟨b, 1, none⟩ (.int .i64 seq)).setCell ⟨b, 2, none⟩ (.int .i64 k)) (E) 55 #[.int .i64 ep, .int .i64 pid, .int .i64 ver, .int .i64 seq, .int .i64 kind, .bool true, .string text] := ((((B21_be.out).far (p := ⟨b, 0, none⟩) (by show E ≠ b; omega) _).far (p := ⟨b, 1, none⟩) (by show E ≠ b; omega) _).far (p := ⟨b, 1, none⟩) (by show E ≠ b; omega) _).far (p := ⟨b, 2, none⟩) (by show E ≠ b; omega) _
                  have b_bpF : Blk ((((W21.setCell ⟨b, 0, none⟩ (.int .i64 ver)).setCell ⟨b, 1, none⟩ (.int .i64 (-1))).setCell ⟨b, 1, none⟩ (.int .i64 seq)).setCell ⟨b, 2, none⟩ (.int .i64 k)) (b) 110 #[.int .i64 ver, .int .i64 seq, .int .i64 (k : Int), .int .i64 (-1)] := ((((B21_bp.out).set_ 0 _).set_ 1 _).set_ 1 _).set_ 2 _
                  have hturn := PrMap.turn (q := ⟨ver, seq, (k : Int), -1⟩) K21_m.out HF2.out (gset (gset (gset (gset (gself W21 (some b)) 0 (.int .i64 ver)) 1 (.int .i64 (-1))) 1 (.int .i64 seq)) 2 (.int .i64 k)) b_bpF
                  have heq : (fun p => if p = pid then some (⟨ver, seq, (k : Int), -1⟩ : PrD) else (fun p => if p = pid then some (⟨0, -1, -1, -1⟩ : PrD) else prG es k p) p) = prG es (k + 1) := by
                    rw [HN.out (by omega), ← HQ.out]
                    funext p
                    by_cases hp : p = pid
                    · simp [hp, prNext, prVer, prKind, prZ, HV.out, HK.out]
                    · simp [hp]
                  rw [heq] at hturn
                  exact ⟨⟨k + 1, f2, by omega, by go_num, Lib.hid hturn, Lib.hid hbF, by simp; omega⟩, by simp [intOf]; omega⟩
                · have HO := Lib.hid ho
                  have z4 : decide (-1 < 0) = false := decide_eq_false ho
                  clear ho
                  exact absurd (by omega) HO.out
            · have HK := Lib.hid hk
              have z3 : (kind != 1) = true := by simpa using hk
              clear hk
              skip
              have c_be0 := HBE2.out.cell 0
              have c_be1 := HBE2.out.cell 1
              have c_be2 := HBE2.out.cell 2
              have c_be3 := HBE2.out.cell 3
              have c_be4 := HBE2.out.cell 4
              have c_be5 := HBE2.out.cell 5
              have c_be6 := HBE2.out.cell 6
              have l_be := HBE2.out.lt
              have c_bp0 := HBQ.out.cell 0
              have f_bp0 := HBQ.out.frozen 0
              have c_bp1 := HBQ.out.cell 1
              have f_bp1 := HBQ.out.frozen 1
              have c_bp2 := HBQ.out.cell 2
              have f_bp2 := HBQ.out.frozen 2
              have c_bp3 := HBQ.out.cell 3
              have f_bp3 := HBQ.out.frozen 3
              have l_bp := HBQ.out.lt
              go_quiet (fail)
              clear c_be0 c_be1 c_be2 c_be3 c_be4 c_be5 c_be6 l_be c_bp0 f_bp0 c_bp1 f_bp1 c_bp2 f_bp2 c_bp3 f_bp3 l_bp
              generalize hd : World.drewN wc _ = W21 at *
              have hb : Below wc.heap.size wc W21 := by rw [← hd]; exact below_dn _ _
              have hb21 : Below w.heap.size w W21 := below_then HB2.out hb
              have b_be21 := HBE2.out.below hb HBE2.out.lt
              have b_bp21 := HBQ.out.below hb HBQ.out.lt
              have k_m21 := HM2.out.keep hb
              have hz21 := hb.size
              have HB21 := Lib.hid hb21
              have B21_be := Lib.hid b_be21
              have B21_bp := Lib.hid b_bp21
              have K21_m := Lib.hid k_m21
              clear hb21 b_be21 b_bp21 k_m21
              clear HBE2 HBQ HB2 HM2
              clear hd hb
              have c_be0 := B21_be.out.cell 0
              have c_be1 := B21_be.out.cell 1
              have c_be2 := B21_be.out.cell 2
              have c_be3 := B21_be.out.cell 3
              have c_be4 := B21_be.out.cell 4
              have c_be5 := B21_be.out.cell 5
              have c_be6 := B21_be.out.cell 6
              have l_be := B21_be.out.lt
              have c_bp0 := B21_bp.out.cell 0
              have f_bp0 := B21_bp.out.frozen 0
              have c_bp1 := B21_bp.out.cell 1
              have f_bp1 := B21_bp.out.frozen 1
              have c_bp2 := B21_bp.out.cell 2
              have f_bp2 := B21_bp.out.frozen 2
              have c_bp3 := B21_bp.out.cell 3
              have f_bp3 := B21_bp.out.frozen 3
              have l_bp := B21_bp.out.lt
              go_wp2
              clear c_be0 c_be1 c_be2 c_be3 c_be4 c_be5 c_be6 l_be c_bp0 f_bp0 c_bp1 f_bp1 c_bp2 f_bp2 c_bp3 f_bp3 l_bp
              go_light
              have hszF := HB21.out.size
              have hbF : Below w.heap.size w ((((W21.setCell ⟨b, 0, none⟩ (.int .i64 ver)).setCell ⟨b, 1, none⟩ (.int .i64 (-1))).setCell ⟨b, 2, none⟩ (.int .i64 (-1))).setCell ⟨b, 3, none⟩ (.int .i64 k)) := ((((HB21.out).setCell (by show w.heap.size ≤ b; omega) _).setCell (by show w.heap.size ≤ b; omega) _).setCell (by show w.heap.size ≤ b; omega) _).setCell (by show w.heap.size ≤ b; omega) _
              have b_beF : Blk ((((W21.setCell ⟨b, 0, none⟩ (.int .i64 ver)).setCell ⟨b, 1, none⟩ (.int .i64 (-1))).setCell ⟨b, 2, none⟩ (.int .i64 (-1))).setCell ⟨b, 3, none⟩ (.int .i64 k)) (E) 55 #[.int .i64 ep, .int .i64 pid, .int .i64 ver, .int .i64 seq, .int .i64 kind, .bool txn, .string text] := ((((B21_be.out).far (p := ⟨b, 0, none⟩) (by show E ≠ b; omega) _).far (p := ⟨b, 1, none⟩) (by show E ≠ b; omega) _).far (p := ⟨b, 2, none⟩) (by show E ≠ b; omega) _).far (p := ⟨b, 3, none⟩) (by show E ≠ b; omega) _
              have b_bpF : Blk ((((W21.setCell ⟨b, 0, none⟩ (.int .i64 ver)).setCell ⟨b, 1, none⟩ (.int .i64 (-1))).setCell ⟨b, 2, none⟩ (.int .i64 (-1))).setCell ⟨b, 3, none⟩ (.int .i64 k)) (b) 110 #[.int .i64 ver, .int .i64 (-1), .int .i64 (-1), .int .i64 (k : Int)] := ((((B21_bp.out).set_ 0 _).set_ 1 _).set_ 2 _).set_ 3 _
              have hturn := PrMap.turn (q := ⟨ver, -1, -1, (k : Int)⟩) K21_m.out HF2.out (gset (gset (gset (gset (gself W21 (some b)) 0 (.int .i64 ver)) 1 (.int .i64 (-1))) 2 (.int .i64 (-1))) 3 (.int .i64 k)) b_bpF
              have heq : (fun p => if p = pid then some (⟨ver, -1, -1, (k : Int)⟩ : PrD) else (fun p => if p = pid then some (⟨0, -1, -1, -1⟩ : PrD) else prG es k p) p) = prG es (k + 1) := by
                rw [HN.out (by omega), ← HQ.out]
                funext p
                by_cases hp : p = pid
                · simp [hp, prNext, prVer, prKind, prZ, HV.out, HK.out]
                · simp [hp]
              rw [heq] at hturn
              exact ⟨⟨k + 1, f2, by omega, by go_num, Lib.hid hturn, Lib.hid hbF, by simp; omega⟩, by simp [intOf]; omega⟩
        · obtain ⟨hbb, q, hq, hbq⟩ := K1_m.out.blk pid b hf
          have hbE : b ≠ E := fun e => by
            subst e
            have h1 : W1.heap[b]? = _ := hbq
            have h2 : W1.heap[b]? = _ := B1_be.out
            rw [h1] at h2
            cases h2
          have HF := Lib.hid hf
          have he : (fun p => if p = pid then some q else prG es k p) = prG es k := by
            funext p
            by_cases hp : p = pid
            · rw [if_pos hp, hp, hq]
            · rw [if_neg hp]
          have hq2 : q = (prG es k pid).getD prZ := by rw [hq]; rfl
          obtain ⟨qv, qs, qo, qm⟩ := q
          have hbq' : Blk W1 b 110 #[.int .i64 qv, .int .i64 qs, .int .i64 qo, .int .i64 qm] := hbq
          have hm2 : PrMap w.heap.size W1 w.heap.size (k + 1) f (fun p => if p = pid then some ⟨qv, qs, qo, qm⟩ else prG es k p) := by rw [he]; exact K1_m.out.mono (Nat.le_succ _)
          have HBQ := Lib.hid hbq'
          have HM2 := Lib.hid hm2
          have HQ := Lib.hid hq2
          clear hf hq hq2 hbq hbq' hm2 he
          go_upto_region 10 with (first | (at_lookup; refine wpList_lookup_pr _ rfl _ _ 107 rfl Try.underlying107 K1_m.out rfl pid rfl HWF.out (some b) HF.out ?_; simp only [ptrV]) | fail)
          clear c1 c2 cl K1_m HOWN HAT
          have hs : b + 1 ≤ W1.heap.size := HBQ.out.lt
          have HF2 := HF
          have HBE2 := B1_be
          have HB2 := HB1
          clear HF B1_be HB1
          by_cases hv : ver = qv
          · have HV := Lib.hid hv
            have z2 : (ver != qv) = false := by simpa using hv
            clear hv
            by_cases hk : kind = 1
            · have HK := Lib.hid hk
              have z3 : (kind != 1) = false := by simpa using hk
              clear hk
              rcases txn with _ | _
              · skip
                skip
                have c_be0 := HBE2.out.cell 0
                have c_be1 := HBE2.out.cell 1
                have c_be2 := HBE2.out.cell 2
                have c_be3 := HBE2.out.cell 3
                have c_be4 := HBE2.out.cell 4
                have c_be5 := HBE2.out.cell 5
                have c_be6 := HBE2.out.cell 6
                have l_be := HBE2.out.lt
                have c_bp0 := HBQ.out.cell 0
                have f_bp0 := HBQ.out.frozen 0
                have c_bp1 := HBQ.out.cell 1
                have f_bp1 := HBQ.out.frozen 1
                have c_bp2 := HBQ.out.cell 2
                have f_bp2 := HBQ.out.frozen 2
                have c_bp3 := HBQ.out.cell 3
                have f_bp3 := HBQ.out.frozen 3
                have l_bp := HBQ.out.lt
                go_quiet (fail)
                clear c_be0 c_be1 c_be2 c_be3 c_be4 c_be5 c_be6 l_be c_bp0 f_bp0 c_bp1 f_bp1 c_bp2 f_bp2 c_bp3 f_bp3 l_bp
                generalize hd : World.drewN W1 _ = W21 at *
                have hb : Below W1.heap.size W1 W21 := by rw [← hd]; exact below_dn _ _
                have hb21 : Below w.heap.size w W21 := below_then HB2.out hb
                have b_be21 := HBE2.out.below hb HBE2.out.lt
                have b_bp21 := HBQ.out.below hb HBQ.out.lt
                have k_m21 := HM2.out.keep hb
                have hz21 := hb.size
                have HB21 := Lib.hid hb21
                have B21_be := Lib.hid b_be21
                have B21_bp := Lib.hid b_bp21
                have K21_m := Lib.hid k_m21
                clear hb21 b_be21 b_bp21 k_m21
                clear HBE2 HBQ HB2 HM2
                clear hd hb
                have c_be0 := B21_be.out.cell 0
                have c_be1 := B21_be.out.cell 1
                have c_be2 := B21_be.out.cell 2
                have c_be3 := B21_be.out.cell 3
                have c_be4 := B21_be.out.cell 4
                have c_be5 := B21_be.out.cell 5
                have c_be6 := B21_be.out.cell 6
                have l_be := B21_be.out.lt
                have c_bp0 := B21_bp.out.cell 0
                have f_bp0 := B21_bp.out.frozen 0
                have c_bp1 := B21_bp.out.cell 1
                have f_bp1 := B21_bp.out.frozen 1
                have c_bp2 := B21_bp.out.cell 2
                have f_bp2 := B21_bp.out.frozen 2
                have c_bp3 := B21_bp.out.cell 3
                have f_bp3 := B21_bp.out.frozen 3
                have l_bp := B21_bp.out.lt
                go_wp2
                clear c_be0 c_be1 c_be2 c_be3 c_be4 c_be5 c_be6 l_be c_bp0 f_bp0 c_bp1 f_bp1 c_bp2 f_bp2 c_bp3 f_bp3 l_bp
                go_light
                have hszF := HB21.out.size
                have hbF : Below w.heap.size w (W21.setCell ⟨b, 1, none⟩ (.int .i64 seq)) := (HB21.out).setCell (by show w.heap.size ≤ b; omega) _
                have b_beF : Blk (W21.setCell ⟨b, 1, none⟩ (.int .i64 seq)) (E) 55 #[.int .i64 ep, .int .i64 pid, .int .i64 ver, .int .i64 seq, .int .i64 kind, .bool false, .string text] := (B21_be.out).far (p := ⟨b, 1, none⟩) (by show E ≠ b; omega) _
                have b_bpF : Blk (W21.setCell ⟨b, 1, none⟩ (.int .i64 seq)) (b) 110 #[.int .i64 qv, .int .i64 seq, .int .i64 qo, .int .i64 qm] := (B21_bp.out).set_ 1 _
                have hturn := PrMap.turn (q := ⟨qv, seq, qo, qm⟩) K21_m.out HF2.out (gset (gself W21 (some b)) 1 (.int .i64 seq)) b_bpF
                have heq : (fun p => if p = pid then some (⟨qv, seq, qo, qm⟩ : PrD) else (fun p => if p = pid then some (⟨qv, qs, qo, qm⟩ : PrD) else prG es k p) p) = prG es (k + 1) := by
                  rw [HN.out (by omega), ← HQ.out]
                  funext p
                  by_cases hp : p = pid
                  · simp [hp, prNext, prVer, prKind, HV.out, HK.out]
                  · simp [hp]
                rw [heq] at hturn
                exact ⟨⟨k + 1, f, by omega, by go_num, Lib.hid hturn, Lib.hid hbF, by simp; omega⟩, by simp [intOf]; omega⟩
              · by_cases ho : qo < 0
                · have HO := Lib.hid ho
                  have z4 : decide (qo < 0) = true := decide_eq_true ho
                  clear ho
                  skip
                  have c_be0 := HBE2.out.cell 0
                  have c_be1 := HBE2.out.cell 1
                  have c_be2 := HBE2.out.cell 2
                  have c_be3 := HBE2.out.cell 3
                  have c_be4 := HBE2.out.cell 4
                  have c_be5 := HBE2.out.cell 5
                  have c_be6 := HBE2.out.cell 6
                  have l_be := HBE2.out.lt
                  have c_bp0 := HBQ.out.cell 0
                  have f_bp0 := HBQ.out.frozen 0
                  have c_bp1 := HBQ.out.cell 1
                  have f_bp1 := HBQ.out.frozen 1
                  have c_bp2 := HBQ.out.cell 2
                  have f_bp2 := HBQ.out.frozen 2
                  have c_bp3 := HBQ.out.cell 3
                  have f_bp3 := HBQ.out.frozen 3
                  have l_bp := HBQ.out.lt
                  go_quiet (fail)
                  clear c_be0 c_be1 c_be2 c_be3 c_be4 c_be5 c_be6 l_be c_bp0 f_bp0 c_bp1 f_bp1 c_bp2 f_bp2 c_bp3 f_bp3 l_bp
                  generalize hd : World.drewN W1 _ = W21 at *
                  have hb : Below W1.heap.size W1 W21 := by rw [← hd]; exact below_dn _ _
                  have hb21 : Below w.heap.size w W21 := below_then HB2.out hb
                  have b_be21 := HBE2.out.below hb HBE2.out.lt
                  have b_bp21 := HBQ.out.below hb HBQ.out.lt
                  have k_m21 := HM2.out.keep hb
                  have hz21 := hb.size
                  have HB21 := Lib.hid hb21
                  have B21_be := Lib.hid b_be21
                  have B21_bp := Lib.hid b_bp21
                  have K21_m := Lib.hid k_m21
                  clear hb21 b_be21 b_bp21 k_m21
                  clear HBE2 HBQ HB2 HM2
                  clear hd hb
                  have c_be0 := B21_be.out.cell 0
                  have c_be1 := B21_be.out.cell 1
                  have c_be2 := B21_be.out.cell 2
                  have c_be3 := B21_be.out.cell 3
                  have c_be4 := B21_be.out.cell 4
                  have c_be5 := B21_be.out.cell 5
                  have c_be6 := B21_be.out.cell 6
                  have l_be := B21_be.out.lt
                  have c_bp0 := B21_bp.out.cell 0
                  have f_bp0 := B21_bp.out.frozen 0
                  have c_bp1 := B21_bp.out.cell 1
                  have f_bp1 := B21_bp.out.frozen 1
                  have c_bp2 := B21_bp.out.cell 2
                  have f_bp2 := B21_bp.out.frozen 2
                  have c_bp3 := B21_bp.out.cell 3
                  have f_bp3 := B21_bp.out.frozen 3
                  have l_bp := B21_bp.out.lt
                  go_wp2
                  clear c_be0 c_be1 c_be2 c_be3 c_be4 c_be5 c_be6 l_be c_bp0 f_bp0 c_bp1 f_bp1 c_bp2 f_bp2 c_bp3 f_bp3 l_bp
                  go_light
                  have hszF := HB21.out.size
                  have hbF : Below w.heap.size w ((W21.setCell ⟨b, 1, none⟩ (.int .i64 seq)).setCell ⟨b, 2, none⟩ (.int .i64 k)) := ((HB21.out).setCell (by show w.heap.size ≤ b; omega) _).setCell (by show w.heap.size ≤ b; omega) _
                  have b_beF : Blk ((W21.setCell ⟨b, 1, none⟩ (.int .i64 seq)).setCell ⟨b, 2, none⟩ (.int .i64 k)) (E) 55 #[.int .i64 ep, .int .i64 pid, .int .i64 ver, .int .i64 seq, .int .i64 kind, .bool true, .string text] := ((B21_be.out).far (p := ⟨b, 1, none⟩) (by show E ≠ b; omega) _).far (p := ⟨b, 2, none⟩) (by show E ≠ b; omega) _
                  have b_bpF : Blk ((W21.setCell ⟨b, 1, none⟩ (.int .i64 seq)).setCell ⟨b, 2, none⟩ (.int .i64 k)) (b) 110 #[.int .i64 qv, .int .i64 seq, .int .i64 (k : Int), .int .i64 qm] := ((B21_bp.out).set_ 1 _).set_ 2 _
                  have hturn := PrMap.turn (q := ⟨qv, seq, (k : Int), qm⟩) K21_m.out HF2.out (gset (gset (gself W21 (some b)) 1 (.int .i64 seq)) 2 (.int .i64 k)) b_bpF
                  have heq : (fun p => if p = pid then some (⟨qv, seq, (k : Int), qm⟩ : PrD) else (fun p => if p = pid then some (⟨qv, qs, qo, qm⟩ : PrD) else prG es k p) p) = prG es (k + 1) := by
                    rw [HN.out (by omega), ← HQ.out]
                    funext p
                    by_cases hp : p = pid
                    · simp [hp, prNext, prVer, prKind, HV.out, HK.out, HO.out]
                    · simp [hp]
                  rw [heq] at hturn
                  exact ⟨⟨k + 1, f, by omega, by go_num, Lib.hid hturn, Lib.hid hbF, by simp; omega⟩, by simp [intOf]; omega⟩
                · have HO := Lib.hid ho
                  have z4 : decide (qo < 0) = false := decide_eq_false ho
                  clear ho
                  skip
                  have c_be0 := HBE2.out.cell 0
                  have c_be1 := HBE2.out.cell 1
                  have c_be2 := HBE2.out.cell 2
                  have c_be3 := HBE2.out.cell 3
                  have c_be4 := HBE2.out.cell 4
                  have c_be5 := HBE2.out.cell 5
                  have c_be6 := HBE2.out.cell 6
                  have l_be := HBE2.out.lt
                  have c_bp0 := HBQ.out.cell 0
                  have f_bp0 := HBQ.out.frozen 0
                  have c_bp1 := HBQ.out.cell 1
                  have f_bp1 := HBQ.out.frozen 1
                  have c_bp2 := HBQ.out.cell 2
                  have f_bp2 := HBQ.out.frozen 2
                  have c_bp3 := HBQ.out.cell 3
                  have f_bp3 := HBQ.out.frozen 3
                  have l_bp := HBQ.out.lt
                  go_quiet (fail)
                  clear c_be0 c_be1 c_be2 c_be3 c_be4 c_be5 c_be6 l_be c_bp0 f_bp0 c_bp1 f_bp1 c_bp2 f_bp2 c_bp3 f_bp3 l_bp
                  generalize hd : World.drewN W1 _ = W21 at *
                  have hb : Below W1.heap.size W1 W21 := by rw [← hd]; exact below_dn _ _
                  have hb21 : Below w.heap.size w W21 := below_then HB2.out hb
                  have b_be21 := HBE2.out.below hb HBE2.out.lt
                  have b_bp21 := HBQ.out.below hb HBQ.out.lt
                  have k_m21 := HM2.out.keep hb
                  have hz21 := hb.size
                  have HB21 := Lib.hid hb21
                  have B21_be := Lib.hid b_be21
                  have B21_bp := Lib.hid b_bp21
                  have K21_m := Lib.hid k_m21
                  clear hb21 b_be21 b_bp21 k_m21
                  clear HBE2 HBQ HB2 HM2
                  clear hd hb
                  have c_be0 := B21_be.out.cell 0
                  have c_be1 := B21_be.out.cell 1
                  have c_be2 := B21_be.out.cell 2
                  have c_be3 := B21_be.out.cell 3
                  have c_be4 := B21_be.out.cell 4
                  have c_be5 := B21_be.out.cell 5
                  have c_be6 := B21_be.out.cell 6
                  have l_be := B21_be.out.lt
                  have c_bp0 := B21_bp.out.cell 0
                  have f_bp0 := B21_bp.out.frozen 0
                  have c_bp1 := B21_bp.out.cell 1
                  have f_bp1 := B21_bp.out.frozen 1
                  have c_bp2 := B21_bp.out.cell 2
                  have f_bp2 := B21_bp.out.frozen 2
                  have c_bp3 := B21_bp.out.cell 3
                  have f_bp3 := B21_bp.out.frozen 3
                  have l_bp := B21_bp.out.lt
                  go_wp2
                  clear c_be0 c_be1 c_be2 c_be3 c_be4 c_be5 c_be6 l_be c_bp0 f_bp0 c_bp1 f_bp1 c_bp2 f_bp2 c_bp3 f_bp3 l_bp
                  go_light
                  have hszF := HB21.out.size
                  have hbF : Below w.heap.size w (W21.setCell ⟨b, 1, none⟩ (.int .i64 seq)) := (HB21.out).setCell (by show w.heap.size ≤ b; omega) _
                  have b_beF : Blk (W21.setCell ⟨b, 1, none⟩ (.int .i64 seq)) (E) 55 #[.int .i64 ep, .int .i64 pid, .int .i64 ver, .int .i64 seq, .int .i64 kind, .bool true, .string text] := (B21_be.out).far (p := ⟨b, 1, none⟩) (by show E ≠ b; omega) _
                  have b_bpF : Blk (W21.setCell ⟨b, 1, none⟩ (.int .i64 seq)) (b) 110 #[.int .i64 qv, .int .i64 seq, .int .i64 qo, .int .i64 qm] := (B21_bp.out).set_ 1 _
                  have hturn := PrMap.turn (q := ⟨qv, seq, qo, qm⟩) K21_m.out HF2.out (gset (gself W21 (some b)) 1 (.int .i64 seq)) b_bpF
                  have heq : (fun p => if p = pid then some (⟨qv, seq, qo, qm⟩ : PrD) else (fun p => if p = pid then some (⟨qv, qs, qo, qm⟩ : PrD) else prG es k p) p) = prG es (k + 1) := by
                    rw [HN.out (by omega), ← HQ.out]
                    funext p
                    by_cases hp : p = pid
                    · simp [hp, prNext, prVer, prKind, HV.out, HK.out, HO.out]
                    · simp [hp]
                  rw [heq] at hturn
                  exact ⟨⟨k + 1, f, by omega, by go_num, Lib.hid hturn, Lib.hid hbF, by simp; omega⟩, by simp [intOf]; omega⟩
            · have HK := Lib.hid hk
              have z3 : (kind != 1) = true := by simpa using hk
              clear hk
              skip
              have c_be0 := HBE2.out.cell 0
              have c_be1 := HBE2.out.cell 1
              have c_be2 := HBE2.out.cell 2
              have c_be3 := HBE2.out.cell 3
              have c_be4 := HBE2.out.cell 4
              have c_be5 := HBE2.out.cell 5
              have c_be6 := HBE2.out.cell 6
              have l_be := HBE2.out.lt
              have c_bp0 := HBQ.out.cell 0
              have f_bp0 := HBQ.out.frozen 0
              have c_bp1 := HBQ.out.cell 1
              have f_bp1 := HBQ.out.frozen 1
              have c_bp2 := HBQ.out.cell 2
              have f_bp2 := HBQ.out.frozen 2
              have c_bp3 := HBQ.out.cell 3
              have f_bp3 := HBQ.out.frozen 3
              have l_bp := HBQ.out.lt
              go_quiet (fail)
              clear c_be0 c_be1 c_be2 c_be3 c_be4 c_be5 c_be6 l_be c_bp0 f_bp0 c_bp1 f_bp1 c_bp2 f_bp2 c_bp3 f_bp3 l_bp
              generalize hd : World.drewN W1 _ = W21 at *
              have hb : Below W1.heap.size W1 W21 := by rw [← hd]; exact below_dn _ _
              have hb21 : Below w.heap.size w W21 := below_then HB2.out hb
              have b_be21 := HBE2.out.below hb HBE2.out.lt
              have b_bp21 := HBQ.out.below hb HBQ.out.lt
              have k_m21 := HM2.out.keep hb
              have hz21 := hb.size
              have HB21 := Lib.hid hb21
              have B21_be := Lib.hid b_be21
              have B21_bp := Lib.hid b_bp21
              have K21_m := Lib.hid k_m21
              clear hb21 b_be21 b_bp21 k_m21
              clear HBE2 HBQ HB2 HM2
              clear hd hb
              have c_be0 := B21_be.out.cell 0
              have c_be1 := B21_be.out.cell 1
              have c_be2 := B21_be.out.cell 2
              have c_be3 := B21_be.out.cell 3
              have c_be4 := B21_be.out.cell 4
              have c_be5 := B21_be.out.cell 5
              have c_be6 := B21_be.out.cell 6
              have l_be := B21_be.out.lt
              have c_bp0 := B21_bp.out.cell 0
              have f_bp0 := B21_bp.out.frozen 0
              have c_bp1 := B21_bp.out.cell 1
              have f_bp1 := B21_bp.out.frozen 1
              have c_bp2 := B21_bp.out.cell 2
              have f_bp2 := B21_bp.out.frozen 2
              have c_bp3 := B21_bp.out.cell 3
              have f_bp3 := B21_bp.out.frozen 3
              have l_bp := B21_bp.out.lt
              go_wp2
              clear c_be0 c_be1 c_be2 c_be3 c_be4 c_be5 c_be6 l_be c_bp0 f_bp0 c_bp1 f_bp1 c_bp2 f_bp2 c_bp3 f_bp3 l_bp
              go_light
              have hszF := HB21.out.size
              have hbF : Below w.heap.size w ((W21.setCell ⟨b, 2, none⟩ (.int .i64 (-1))).setCell ⟨b, 3, none⟩ (.int .i64 k)) := ((HB21.out).setCell (by show w.heap.size ≤ b; omega) _).setCell (by show w.heap.size ≤ b; omega) _
              have b_beF : Blk ((W21.setCell ⟨b, 2, none⟩ (.int .i64 (-1))).setCell ⟨b, 3, none⟩ (.int .i64 k)) (E) 55 #[.int .i64 ep, .int .i64 pid, .int .i64 ver, .int .i64 seq, .int .i64 kind, .bool txn, .string text] := ((B21_be.out).far (p := ⟨b, 2, none⟩) (by show E ≠ b; omega) _).far (p := ⟨b, 3, none⟩) (by show E ≠ b; omega) _
              have b_bpF : Blk ((W21.setCell ⟨b, 2, none⟩ (.int .i64 (-1))).setCell ⟨b, 3, none⟩ (.int .i64 k)) (b) 110 #[.int .i64 qv, .int .i64 qs, .int .i64 (-1), .int .i64 (k : Int)] := ((B21_bp.out).set_ 2 _).set_ 3 _
              have hturn := PrMap.turn (q := ⟨qv, qs, -1, (k : Int)⟩) K21_m.out HF2.out (gset (gset (gself W21 (some b)) 2 (.int .i64 (-1))) 3 (.int .i64 k)) b_bpF
              have heq : (fun p => if p = pid then some (⟨qv, qs, -1, (k : Int)⟩ : PrD) else (fun p => if p = pid then some (⟨qv, qs, qo, qm⟩ : PrD) else prG es k p) p) = prG es (k + 1) := by
                rw [HN.out (by omega), ← HQ.out]
                funext p
                by_cases hp : p = pid
                · simp [hp, prNext, prVer, prKind, HV.out, HK.out]
                · simp [hp]
              rw [heq] at hturn
              exact ⟨⟨k + 1, f, by omega, by go_num, Lib.hid hturn, Lib.hid hbF, by simp; omega⟩, by simp [intOf]; omega⟩
          · have HV := Lib.hid hv
            have z2 : (ver != qv) = true := by simpa using hv
            clear hv
            by_cases hk : kind = 1
            · have HK := Lib.hid hk
              have z3 : (kind != 1) = false := by simpa using hk
              clear hk
              rcases txn with _ | _
              · skip
                skip
                have c_be0 := HBE2.out.cell 0
                have c_be1 := HBE2.out.cell 1
                have c_be2 := HBE2.out.cell 2
                have c_be3 := HBE2.out.cell 3
                have c_be4 := HBE2.out.cell 4
                have c_be5 := HBE2.out.cell 5
                have c_be6 := HBE2.out.cell 6
                have l_be := HBE2.out.lt
                have c_bp0 := HBQ.out.cell 0
                have f_bp0 := HBQ.out.frozen 0
                have c_bp1 := HBQ.out.cell 1
                have f_bp1 := HBQ.out.frozen 1
                have c_bp2 := HBQ.out.cell 2
                have f_bp2 := HBQ.out.frozen 2
                have c_bp3 := HBQ.out.cell 3
                have f_bp3 := HBQ.out.frozen 3
                have l_bp := HBQ.out.lt
                go_quiet (fail)
                clear c_be0 c_be1 c_be2 c_be3 c_be4 c_be5 c_be6 l_be c_bp0 f_bp0 c_bp1 f_bp1 c_bp2 f_bp2 c_bp3 f_bp3 l_bp
                generalize hd : World.drewN W1 _ = W21 at *
                have hb : Below W1.heap.size W1 W21 := by rw [← hd]; exact below_dn _ _
                have hb21 : Below w.heap.size w W21 := below_then HB2.out hb
                have b_be21 := HBE2.out.below hb HBE2.out.lt
                have b_bp21 := HBQ.out.below hb HBQ.out.lt
                have k_m21 := HM2.out.keep hb
                have hz21 := hb.size
                have HB21 := Lib.hid hb21
                have B21_be := Lib.hid b_be21
                have B21_bp := Lib.hid b_bp21
                have K21_m := Lib.hid k_m21
                clear hb21 b_be21 b_bp21 k_m21
                clear HBE2 HBQ HB2 HM2
                clear hd hb
                have c_be0 := B21_be.out.cell 0
                have c_be1 := B21_be.out.cell 1
                have c_be2 := B21_be.out.cell 2
                have c_be3 := B21_be.out.cell 3
                have c_be4 := B21_be.out.cell 4
                have c_be5 := B21_be.out.cell 5
                have c_be6 := B21_be.out.cell 6
                have l_be := B21_be.out.lt
                have c_bp0 := B21_bp.out.cell 0
                have f_bp0 := B21_bp.out.frozen 0
                have c_bp1 := B21_bp.out.cell 1
                have f_bp1 := B21_bp.out.frozen 1
                have c_bp2 := B21_bp.out.cell 2
                have f_bp2 := B21_bp.out.frozen 2
                have c_bp3 := B21_bp.out.cell 3
                have f_bp3 := B21_bp.out.frozen 3
                have l_bp := B21_bp.out.lt
                go_wp2
                clear c_be0 c_be1 c_be2 c_be3 c_be4 c_be5 c_be6 l_be c_bp0 f_bp0 c_bp1 f_bp1 c_bp2 f_bp2 c_bp3 f_bp3 l_bp
                go_light
                have hszF := HB21.out.size
                have hbF : Below w.heap.size w (((W21.setCell ⟨b, 0, none⟩ (.int .i64 ver)).setCell ⟨b, 1, none⟩ (.int .i64 (-1))).setCell ⟨b, 1, none⟩ (.int .i64 seq)) := (((HB21.out).setCell (by show w.heap.size ≤ b; omega) _).setCell (by show w.heap.size ≤ b; omega) _).setCell (by show w.heap.size ≤ b; omega) _
                have b_beF : Blk (((W21.setCell ⟨b, 0, none⟩ (.int .i64 ver)).setCell ⟨b, 1, none⟩ (.int .i64 (-1))).setCell ⟨b, 1, none⟩ (.int .i64 seq)) (E) 55 #[.int .i64 ep, .int .i64 pid, .int .i64 ver, .int .i64 seq, .int .i64 kind, .bool false, .string text] := (((B21_be.out).far (p := ⟨b, 0, none⟩) (by show E ≠ b; omega) _).far (p := ⟨b, 1, none⟩) (by show E ≠ b; omega) _).far (p := ⟨b, 1, none⟩) (by show E ≠ b; omega) _
                have b_bpF : Blk (((W21.setCell ⟨b, 0, none⟩ (.int .i64 ver)).setCell ⟨b, 1, none⟩ (.int .i64 (-1))).setCell ⟨b, 1, none⟩ (.int .i64 seq)) (b) 110 #[.int .i64 ver, .int .i64 seq, .int .i64 qo, .int .i64 qm] := (((B21_bp.out).set_ 0 _).set_ 1 _).set_ 1 _
                have hturn := PrMap.turn (q := ⟨ver, seq, qo, qm⟩) K21_m.out HF2.out (gset (gset (gset (gself W21 (some b)) 0 (.int .i64 ver)) 1 (.int .i64 (-1))) 1 (.int .i64 seq)) b_bpF
                have heq : (fun p => if p = pid then some (⟨ver, seq, qo, qm⟩ : PrD) else (fun p => if p = pid then some (⟨qv, qs, qo, qm⟩ : PrD) else prG es k p) p) = prG es (k + 1) := by
                  rw [HN.out (by omega), ← HQ.out]
                  funext p
                  by_cases hp : p = pid
                  · simp [hp, prNext, prVer, prKind, HV.out, HK.out]
                  · simp [hp]
                rw [heq] at hturn
                exact ⟨⟨k + 1, f, by omega, by go_num, Lib.hid hturn, Lib.hid hbF, by simp; omega⟩, by simp [intOf]; omega⟩
              · by_cases ho : qo < 0
                · have HO := Lib.hid ho
                  have z4 : decide (qo < 0) = true := decide_eq_true ho
                  clear ho
                  skip
                  have c_be0 := HBE2.out.cell 0
                  have c_be1 := HBE2.out.cell 1
                  have c_be2 := HBE2.out.cell 2
                  have c_be3 := HBE2.out.cell 3
                  have c_be4 := HBE2.out.cell 4
                  have c_be5 := HBE2.out.cell 5
                  have c_be6 := HBE2.out.cell 6
                  have l_be := HBE2.out.lt
                  have c_bp0 := HBQ.out.cell 0
                  have f_bp0 := HBQ.out.frozen 0
                  have c_bp1 := HBQ.out.cell 1
                  have f_bp1 := HBQ.out.frozen 1
                  have c_bp2 := HBQ.out.cell 2
                  have f_bp2 := HBQ.out.frozen 2
                  have c_bp3 := HBQ.out.cell 3
                  have f_bp3 := HBQ.out.frozen 3
                  have l_bp := HBQ.out.lt
                  go_quiet (fail)
                  clear c_be0 c_be1 c_be2 c_be3 c_be4 c_be5 c_be6 l_be c_bp0 f_bp0 c_bp1 f_bp1 c_bp2 f_bp2 c_bp3 f_bp3 l_bp
                  generalize hd : World.drewN W1 _ = W21 at *
                  have hb : Below W1.heap.size W1 W21 := by rw [← hd]; exact below_dn _ _
                  have hb21 : Below w.heap.size w W21 := below_then HB2.out hb
                  have b_be21 := HBE2.out.below hb HBE2.out.lt
                  have b_bp21 := HBQ.out.below hb HBQ.out.lt
                  have k_m21 := HM2.out.keep hb
                  have hz21 := hb.size
                  have HB21 := Lib.hid hb21
                  have B21_be := Lib.hid b_be21
                  have B21_bp := Lib.hid b_bp21
                  have K21_m := Lib.hid k_m21
                  clear hb21 b_be21 b_bp21 k_m21
                  clear HBE2 HBQ HB2 HM2
                  clear hd hb
                  have c_be0 := B21_be.out.cell 0
                  have c_be1 := B21_be.out.cell 1
                  have c_be2 := B21_be.out.cell 2
                  have c_be3 := B21_be.out.cell 3
                  have c_be4 := B21_be.out.cell 4
                  have c_be5 := B21_be.out.cell 5
                  have c_be6 := B21_be.out.cell 6
                  have l_be := B21_be.out.lt
                  have c_bp0 := B21_bp.out.cell 0
                  have f_bp0 := B21_bp.out.frozen 0
                  have c_bp1 := B21_bp.out.cell 1
                  have f_bp1 := B21_bp.out.frozen 1
                  have c_bp2 := B21_bp.out.cell 2
                  have f_bp2 := B21_bp.out.frozen 2
                  have c_bp3 := B21_bp.out.cell 3
                  have f_bp3 := B21_bp.out.frozen 3
                  have l_bp := B21_bp.out.lt
                  go_wp2
                  clear c_be0 c_be1 c_be2 c_be3 c_be4 c_be5 c_be6 l_be c_bp0 f_bp0 c_bp1 f_bp1 c_bp2 f_bp2 c_bp3 f_bp3 l_bp
                  go_light
                  have hszF := HB21.out.size
                  have hbF : Below w.heap.size w ((((W21.setCell ⟨b, 0, none⟩ (.int .i64 ver)).setCell ⟨b, 1, none⟩ (.int .i64 (-1))).setCell ⟨b, 1, none⟩ (.int .i64 seq)).setCell ⟨b, 2, none⟩ (.int .i64 k)) := ((((HB21.out).setCell (by show w.heap.size ≤ b; omega) _).setCell (by show w.heap.size ≤ b; omega) _).setCell (by show w.heap.size ≤ b; omega) _).setCell (by show w.heap.size ≤ b; omega) _
                  have b_beF : Blk ((((W21.setCell ⟨b, 0, none⟩ (.int .i64 ver)).setCell ⟨b, 1, none⟩ (.int .i64 (-1))).setCell ⟨b, 1, none⟩ (.int .i64 seq)).setCell ⟨b, 2, none⟩ (.int .i64 k)) (E) 55 #[.int .i64 ep, .int .i64 pid, .int .i64 ver, .int .i64 seq, .int .i64 kind, .bool true, .string text] := ((((B21_be.out).far (p := ⟨b, 0, none⟩) (by show E ≠ b; omega) _).far (p := ⟨b, 1, none⟩) (by show E ≠ b; omega) _).far (p := ⟨b, 1, none⟩) (by show E ≠ b; omega) _).far (p := ⟨b, 2, none⟩) (by show E ≠ b; omega) _
                  have b_bpF : Blk ((((W21.setCell ⟨b, 0, none⟩ (.int .i64 ver)).setCell ⟨b, 1, none⟩ (.int .i64 (-1))).setCell ⟨b, 1, none⟩ (.int .i64 seq)).setCell ⟨b, 2, none⟩ (.int .i64 k)) (b) 110 #[.int .i64 ver, .int .i64 seq, .int .i64 (k : Int), .int .i64 qm] := ((((B21_bp.out).set_ 0 _).set_ 1 _).set_ 1 _).set_ 2 _
                  have hturn := PrMap.turn (q := ⟨ver, seq, (k : Int), qm⟩) K21_m.out HF2.out (gset (gset (gset (gset (gself W21 (some b)) 0 (.int .i64 ver)) 1 (.int .i64 (-1))) 1 (.int .i64 seq)) 2 (.int .i64 k)) b_bpF
                  have heq : (fun p => if p = pid then some (⟨ver, seq, (k : Int), qm⟩ : PrD) else (fun p => if p = pid then some (⟨qv, qs, qo, qm⟩ : PrD) else prG es k p) p) = prG es (k + 1) := by
                    rw [HN.out (by omega), ← HQ.out]
                    funext p
                    by_cases hp : p = pid
                    · simp [hp, prNext, prVer, prKind, HV.out, HK.out, HO.out]
                    · simp [hp]
                  rw [heq] at hturn
                  exact ⟨⟨k + 1, f, by omega, by go_num, Lib.hid hturn, Lib.hid hbF, by simp; omega⟩, by simp [intOf]; omega⟩
                · have HO := Lib.hid ho
                  have z4 : decide (qo < 0) = false := decide_eq_false ho
                  clear ho
                  skip
                  have c_be0 := HBE2.out.cell 0
                  have c_be1 := HBE2.out.cell 1
                  have c_be2 := HBE2.out.cell 2
                  have c_be3 := HBE2.out.cell 3
                  have c_be4 := HBE2.out.cell 4
                  have c_be5 := HBE2.out.cell 5
                  have c_be6 := HBE2.out.cell 6
                  have l_be := HBE2.out.lt
                  have c_bp0 := HBQ.out.cell 0
                  have f_bp0 := HBQ.out.frozen 0
                  have c_bp1 := HBQ.out.cell 1
                  have f_bp1 := HBQ.out.frozen 1
                  have c_bp2 := HBQ.out.cell 2
                  have f_bp2 := HBQ.out.frozen 2
                  have c_bp3 := HBQ.out.cell 3
                  have f_bp3 := HBQ.out.frozen 3
                  have l_bp := HBQ.out.lt
                  go_quiet (fail)
                  clear c_be0 c_be1 c_be2 c_be3 c_be4 c_be5 c_be6 l_be c_bp0 f_bp0 c_bp1 f_bp1 c_bp2 f_bp2 c_bp3 f_bp3 l_bp
                  generalize hd : World.drewN W1 _ = W21 at *
                  have hb : Below W1.heap.size W1 W21 := by rw [← hd]; exact below_dn _ _
                  have hb21 : Below w.heap.size w W21 := below_then HB2.out hb
                  have b_be21 := HBE2.out.below hb HBE2.out.lt
                  have b_bp21 := HBQ.out.below hb HBQ.out.lt
                  have k_m21 := HM2.out.keep hb
                  have hz21 := hb.size
                  have HB21 := Lib.hid hb21
                  have B21_be := Lib.hid b_be21
                  have B21_bp := Lib.hid b_bp21
                  have K21_m := Lib.hid k_m21
                  clear hb21 b_be21 b_bp21 k_m21
                  clear HBE2 HBQ HB2 HM2
                  clear hd hb
                  have c_be0 := B21_be.out.cell 0
                  have c_be1 := B21_be.out.cell 1
                  have c_be2 := B21_be.out.cell 2
                  have c_be3 := B21_be.out.cell 3
                  have c_be4 := B21_be.out.cell 4
                  have c_be5 := B21_be.out.cell 5
                  have c_be6 := B21_be.out.cell 6
                  have l_be := B21_be.out.lt
                  have c_bp0 := B21_bp.out.cell 0
                  have f_bp0 := B21_bp.out.frozen 0
                  have c_bp1 := B21_bp.out.cell 1
                  have f_bp1 := B21_bp.out.frozen 1
                  have c_bp2 := B21_bp.out.cell 2
                  have f_bp2 := B21_bp.out.frozen 2
                  have c_bp3 := B21_bp.out.cell 3
                  have f_bp3 := B21_bp.out.frozen 3
                  have l_bp := B21_bp.out.lt
                  go_wp2
                  clear c_be0 c_be1 c_be2 c_be3 c_be4 c_be5 c_be6 l_be c_bp0 f_bp0 c_bp1 f_bp1 c_bp2 f_bp2 c_bp3 f_bp3 l_bp
                  go_light
                  have hszF := HB21.out.size
                  have hbF : Below w.heap.size w (((W21.setCell ⟨b, 0, none⟩ (.int .i64 ver)).setCell ⟨b, 1, none⟩ (.int .i64 (-1))).setCell ⟨b, 1, none⟩ (.int .i64 seq)) := (((HB21.out).setCell (by show w.heap.size ≤ b; omega) _).setCell (by show w.heap.size ≤ b; omega) _).setCell (by show w.heap.size ≤ b; omega) _
                  have b_beF : Blk (((W21.setCell ⟨b, 0, none⟩ (.int .i64 ver)).setCell ⟨b, 1, none⟩ (.int .i64 (-1))).setCell ⟨b, 1, none⟩ (.int .i64 seq)) (E) 55 #[.int .i64 ep, .int .i64 pid, .int .i64 ver, .int .i64 seq, .int .i64 kind, .bool true, .string text] := (((B21_be.out).far (p := ⟨b, 0, none⟩) (by show E ≠ b; omega) _).far (p := ⟨b, 1, none⟩) (by show E ≠ b; omega) _).far (p := ⟨b, 1, none⟩) (by show E ≠ b; omega) _
                  have b_bpF : Blk (((W21.setCell ⟨b, 0, none⟩ (.int .i64 ver)).setCell ⟨b, 1, none⟩ (.int .i64 (-1))).setCell ⟨b, 1, none⟩ (.int .i64 seq)) (b) 110 #[.int .i64 ver, .int .i64 seq, .int .i64 qo, .int .i64 qm] := (((B21_bp.out).set_ 0 _).set_ 1 _).set_ 1 _
                  have hturn := PrMap.turn (q := ⟨ver, seq, qo, qm⟩) K21_m.out HF2.out (gset (gset (gset (gself W21 (some b)) 0 (.int .i64 ver)) 1 (.int .i64 (-1))) 1 (.int .i64 seq)) b_bpF
                  have heq : (fun p => if p = pid then some (⟨ver, seq, qo, qm⟩ : PrD) else (fun p => if p = pid then some (⟨qv, qs, qo, qm⟩ : PrD) else prG es k p) p) = prG es (k + 1) := by
                    rw [HN.out (by omega), ← HQ.out]
                    funext p
                    by_cases hp : p = pid
                    · simp [hp, prNext, prVer, prKind, HV.out, HK.out, HO.out]
                    · simp [hp]
                  rw [heq] at hturn
                  exact ⟨⟨k + 1, f, by omega, by go_num, Lib.hid hturn, Lib.hid hbF, by simp; omega⟩, by simp [intOf]; omega⟩
            · have HK := Lib.hid hk
              have z3 : (kind != 1) = true := by simpa using hk
              clear hk
              skip
              have c_be0 := HBE2.out.cell 0
              have c_be1 := HBE2.out.cell 1
              have c_be2 := HBE2.out.cell 2
              have c_be3 := HBE2.out.cell 3
              have c_be4 := HBE2.out.cell 4
              have c_be5 := HBE2.out.cell 5
              have c_be6 := HBE2.out.cell 6
              have l_be := HBE2.out.lt
              have c_bp0 := HBQ.out.cell 0
              have f_bp0 := HBQ.out.frozen 0
              have c_bp1 := HBQ.out.cell 1
              have f_bp1 := HBQ.out.frozen 1
              have c_bp2 := HBQ.out.cell 2
              have f_bp2 := HBQ.out.frozen 2
              have c_bp3 := HBQ.out.cell 3
              have f_bp3 := HBQ.out.frozen 3
              have l_bp := HBQ.out.lt
              go_quiet (fail)
              clear c_be0 c_be1 c_be2 c_be3 c_be4 c_be5 c_be6 l_be c_bp0 f_bp0 c_bp1 f_bp1 c_bp2 f_bp2 c_bp3 f_bp3 l_bp
              generalize hd : World.drewN W1 _ = W21 at *
              have hb : Below W1.heap.size W1 W21 := by rw [← hd]; exact below_dn _ _
              have hb21 : Below w.heap.size w W21 := below_then HB2.out hb
              have b_be21 := HBE2.out.below hb HBE2.out.lt
              have b_bp21 := HBQ.out.below hb HBQ.out.lt
              have k_m21 := HM2.out.keep hb
              have hz21 := hb.size
              have HB21 := Lib.hid hb21
              have B21_be := Lib.hid b_be21
              have B21_bp := Lib.hid b_bp21
              have K21_m := Lib.hid k_m21
              clear hb21 b_be21 b_bp21 k_m21
              clear HBE2 HBQ HB2 HM2
              clear hd hb
              have c_be0 := B21_be.out.cell 0
              have c_be1 := B21_be.out.cell 1
              have c_be2 := B21_be.out.cell 2
              have c_be3 := B21_be.out.cell 3
              have c_be4 := B21_be.out.cell 4
              have c_be5 := B21_be.out.cell 5
              have c_be6 := B21_be.out.cell 6
              have l_be := B21_be.out.lt
              have c_bp0 := B21_bp.out.cell 0
              have f_bp0 := B21_bp.out.frozen 0
              have c_bp1 := B21_bp.out.cell 1
              have f_bp1 := B21_bp.out.frozen 1
              have c_bp2 := B21_bp.out.cell 2
              have f_bp2 := B21_bp.out.frozen 2
              have c_bp3 := B21_bp.out.cell 3
              have f_bp3 := B21_bp.out.frozen 3
              have l_bp := B21_bp.out.lt
              go_wp2
              clear c_be0 c_be1 c_be2 c_be3 c_be4 c_be5 c_be6 l_be c_bp0 f_bp0 c_bp1 f_bp1 c_bp2 f_bp2 c_bp3 f_bp3 l_bp
              go_light
              have hszF := HB21.out.size
              have hbF : Below w.heap.size w ((((W21.setCell ⟨b, 0, none⟩ (.int .i64 ver)).setCell ⟨b, 1, none⟩ (.int .i64 (-1))).setCell ⟨b, 2, none⟩ (.int .i64 (-1))).setCell ⟨b, 3, none⟩ (.int .i64 k)) := ((((HB21.out).setCell (by show w.heap.size ≤ b; omega) _).setCell (by show w.heap.size ≤ b; omega) _).setCell (by show w.heap.size ≤ b; omega) _).setCell (by show w.heap.size ≤ b; omega) _
              have b_beF : Blk ((((W21.setCell ⟨b, 0, none⟩ (.int .i64 ver)).setCell ⟨b, 1, none⟩ (.int .i64 (-1))).setCell ⟨b, 2, none⟩ (.int .i64 (-1))).setCell ⟨b, 3, none⟩ (.int .i64 k)) (E) 55 #[.int .i64 ep, .int .i64 pid, .int .i64 ver, .int .i64 seq, .int .i64 kind, .bool txn, .string text] := ((((B21_be.out).far (p := ⟨b, 0, none⟩) (by show E ≠ b; omega) _).far (p := ⟨b, 1, none⟩) (by show E ≠ b; omega) _).far (p := ⟨b, 2, none⟩) (by show E ≠ b; omega) _).far (p := ⟨b, 3, none⟩) (by show E ≠ b; omega) _
              have b_bpF : Blk ((((W21.setCell ⟨b, 0, none⟩ (.int .i64 ver)).setCell ⟨b, 1, none⟩ (.int .i64 (-1))).setCell ⟨b, 2, none⟩ (.int .i64 (-1))).setCell ⟨b, 3, none⟩ (.int .i64 k)) (b) 110 #[.int .i64 ver, .int .i64 (-1), .int .i64 (-1), .int .i64 (k : Int)] := ((((B21_bp.out).set_ 0 _).set_ 1 _).set_ 2 _).set_ 3 _
              have hturn := PrMap.turn (q := ⟨ver, -1, -1, (k : Int)⟩) K21_m.out HF2.out (gset (gset (gset (gset (gself W21 (some b)) 0 (.int .i64 ver)) 1 (.int .i64 (-1))) 2 (.int .i64 (-1))) 3 (.int .i64 k)) b_bpF
              have heq : (fun p => if p = pid then some (⟨ver, -1, -1, (k : Int)⟩ : PrD) else (fun p => if p = pid then some (⟨qv, qs, qo, qm⟩ : PrD) else prG es k p) p) = prG es (k + 1) := by
                rw [HN.out (by omega), ← HQ.out]
                funext p
                by_cases hp : p = pid
                · simp [hp, prNext, prVer, prKind, HV.out, HK.out]
                · simp [hp]
              rw [heq] at hturn
              exact ⟨⟨k + 1, f, by omega, by go_num, Lib.hid hturn, Lib.hid hbF, by simp; omega⟩, by simp [intOf]; omega⟩
    · obtain rfl : k = es.length := by omega
      go_wp2
      go_ret
      exact ⟨_, f, rfl, HM.out, HB.out, Nat.le_refl _⟩
end Go.Proofs.Ytpjjfnpdopdnkaa
