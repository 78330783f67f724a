/- Parts of a proof, merged: PartV, PmLed, SegH. No condition. -/
import Derived.Test.YtpjjfnpdopdnkaaPf6
import Derived.Lib.MinMax
import Derived.Test.YtpjjfnpdopdnkaaPf7
import Derived.Test.YtpjjfnpdopdnkaaPf4
namespace Go.Proofs.Ytpjjfnpdopdnkaa
open Go.RowKit

def minK (l : List (Bool × Int)) (s : Int) : Int := l.foldl (fun s p => if p.1 = true ∧ p.2 < s then p.2 else s) s
theorem minK_cap : ∀ (l : List (Bool × Int)) (s m : Int), minK l (if m < s then m else s) = if m < minK l s then m else minK l s
  | [], s, m => rfl
  | (b, k) :: l, s, m => by
    have e1 : minK ((b, k) :: l) s = minK l (if b = true ∧ k < s then k else s) := rfl
    have e2 : minK ((b, k) :: l) (if m < s then m else s) = minK l (if b = true ∧ k < (if m < s then m else s) then k else (if m < s then m else s)) := rfl
    rw [e1, e2, ← minK_cap l _ m]
    congr 1
    rcases b with _ | _
    · simp
    · simp only [true_and]
      (repeat' split) <;> omega
theorem minK_take {bs : List Bool} {ks : List Int} {k : Nat} (h1 : k < bs.length) (h2 : k < ks.length) (s : Int) : minK ((bs.zip ks).take (k + 1)) s = if bs[k] = true ∧ ks[k] < minK ((bs.zip ks).take k) s then ks[k] else minK ((bs.zip ks).take k) s := by
  have hz : k < (bs.zip ks).length := by rw [List.length_zip]; omega
  rw [List.take_succ_eq_append_getElem hz]
  simp only [minK, List.foldl_append, List.foldl_cons, List.foldl_nil, List.getElem_zip]
  rfl
theorem modify_eq {α : Type} : ∀ (l : List α) (i : Nat) (f : α → α) (h : i < l.length), l.modify i f = l.set i (f l[i])
  | a :: l, 0, f, _ => rfl
  | a :: l, i + 1, f, h => by
    simp only [List.modify_succ_cons, List.set_cons_succ, List.getElem_cons_succ]
    rw [modify_eq l i f (by simpa using h)]
def PartD.updR (c : PartD) (i : Nat) (f : RepD → RepD) : PartD := { c with reps := c.reps.modify i f }
def raiseT (l : List (Bool × Int)) (t : RepD) : RepD := { t with high := if t.high < minK l t.all then minK l t.all else t.high }
def advD (c : PartD) : PartD := if c.leader < 0 then c else c.updR c.leader.toNat (raiseT (c.isr.zip c.known))
theorem advD_at {c : PartD} {i : Nat} (h : c.leader = i) : advD c = c.updR i (raiseT (c.isr.zip c.known)) := by
  unfold advD
  rw [if_neg (by omega), h]
  rfl
theorem PSm.updR {c : PartD} (h : PSm c) (i : Nat) (f : RepD → RepD) (hf : ∀ t, t.bytes.length ≤ 40000 → (f t).bytes.length ≤ 40000) : PSm (c.updR i f) := by
  refine ⟨h.isr, h.known, by simp only [PartD.updR, List.length_modify]; exact h.reps, fun t ht => ?_⟩
  simp only [PartD.updR] at ht
  obtain ⟨j, hj, rfl⟩ := List.mem_iff_getElem.1 ht
  rw [List.getElem_modify]
  have hj' : j < c.reps.length := by simpa using hj
  have := h.bytes c.reps[j] (List.getElem_mem hj')
  split
  · exact hf _ this
  · exact this
/-- the call gives the part back, raised, in the same rows -/
def AdvPost (base : Nat) (w : World) (c : PartD) (iv kv rv : Value) (e : Ending) (w' : World) : Prop := e = .returned (partV (advD c) iv kv rv) ∧ PO base w' (advD c) iv kv rv ∧ w.grownBy w' rv.ownBlock
-- walks
theorem grown_of_below {w w' : World} (h : Below w.heap.size w w') (row : Option Nat) : w.grownBy w' row := ⟨h.os, h.tape, h.output, h.size, fun i hi _ => h.block i hi⟩
theorem grown_set_ {w w1 : World} {g : Nat} (h : w.grownBy w1 (some g)) (p : Addr) (hp : p.block = g ∨ w.heap.size ≤ p.block) (u : Value) : w.grownBy (w1.setCell p u) (some g) :=
  ⟨h.os, h.tape, h.output, by have := h.size; simpa using this, fun i hi hne => (Below.heap_setCell _ _ _ _ (by
    rintro rfl
    rcases hp with hp | hp
    · exact hne (by rw [hp])
    · omega)).trans (h.block i hi hne)⟩
theorem raiseT_eq {l : List (Bool × Int)} {t : RepD} (h : (raiseT l t).high = t.high) : raiseT l t = t := by
  obtain ⟨u, b, s, g⟩ := t
  unfold raiseT at h ⊢
  simp only at h ⊢
  rw [h]
set_option maxRecDepth 100000 in
set_option maxHeartbeats 4000000 in
theorem advance_at (c : PartD) (iv kv rv : Value) (w : World) (base : Nat) (_hb : base ≤ w.heap.size) (ho : PO base w c iv kv rv) (i : Nat) (hl : c.leader = i) (hi : i < c.reps.length) (h1 : c.isr.length = c.reps.length) (h2 : c.known.length = c.reps.length) (hs : PSm c) {es : List Ent} {j : Nat} (hlog : LogIs c.reps[i].log es j) : Calls Try.prog 90 #[partV c iv kv rv] w (AdvPost base w c iv kv rv) := by
  have hn := ho.rows (by omega) (by omega) (by omega)
  obtain ⟨gi, d1, gk, d3, gr, d5, rfl, rfl, rfl, hgi, hgk, hgr, hgi', hgk', hgr'⟩ := hn
  unfold AdvPost
  rw [advD_at hl]
  have HPV := Lib.hid (fun (W : World) (h : PO base W c (.slice (some ⟨gi, 0, none⟩) c.isr.length d1) (.slice (some ⟨gk, 0, none⟩) c.known.length d3) (.slice (some ⟨gr, 0, none⟩) c.reps.length d5)) => h.pv hs)
  unfold partV at *
  obtain ⟨ep, ld, is, ks, rs, fw, ba⟩ := c
  simp only at hl
  subst hl
  simp only at *
  have HO := Lib.hid ho
  have y0 : decide ((i : Int) < 0) = false := decide_eq_false (by omega)
  have HLG := Lib.hid hlog
  have HA := Lib.hid (RepD.ents hlog).1
  have hm := hlog.many
  have hl5 : ks.length ≤ 5 := hs.known
  have hl6 : is.length ≤ 5 := hs.isr
  have HS := Lib.hid hs
  have i0 : (0 : Int) ≤ (i : Int) := by omega
  have i1 : (i : Int) < (rs.length : Int) := Int.ofNat_lt.2 hi
  have j2 : (i : Int) < (is.length : Int) := by omega
  have j3 : (i : Int) < (ks.length : Int) := by omega
  have E1 := Lib.hid h1
  have E2 := Lib.hid h2
  clear ho hlog hs h1 h2
  go_enter Try.func90, Try.ntmps90
  go_wp2_with fail
  have hb1 : Below w.heap.size w ((w.alloc (.cells #[.int .i64 ep, .int .i64 i, .slice (some ⟨gi, 0, none⟩) is.length d1, .slice (some ⟨gk, 0, none⟩) ks.length d3, .slice (some ⟨gr, 0, none⟩) rs.length d5, .int .i64 fw, .int .i64 ba] 26)).alloc (.cells #[.int .i64 0, .int .i64 0, .slice none 0 0, .slice none 0 0, .slice none 0 0, .int .i64 0, .int .i64 0] 26)) := ((Below.refl _ _).alloc (by first | omega | (simp; done) | (simp; omega)) _).alloc (by first | omega | (simp; done) | (simp; omega)) _
  have hal1 : Below w.heap.size w ((w.alloc (.cells #[.int .i64 ep, .int .i64 i, .slice (some ⟨gi, 0, none⟩) is.length d1, .slice (some ⟨gk, 0, none⟩) ks.length d3, .slice (some ⟨gr, 0, none⟩) rs.length d5, .int .i64 fw, .int .i64 ba] 26)).alloc (.cells #[.int .i64 0, .int .i64 0, .slice none 0 0, .slice none 0 0, .slice none 0 0, .int .i64 0, .int .i64 0] 26)) := ((Below.refl _ _).alloc (by first | omega | (simp; done) | (simp; omega)) _).alloc (by first | omega | (simp; done) | (simp; omega)) _
  have b_bx1 : Blk ((w.alloc (.cells #[.int .i64 ep, .int .i64 i, .slice (some ⟨gi, 0, none⟩) is.length d1, .slice (some ⟨gk, 0, none⟩) ks.length d3, .slice (some ⟨gr, 0, none⟩) rs.length d5, .int .i64 fw, .int .i64 ba] 26)).alloc (.cells #[.int .i64 0, .int .i64 0, .slice none 0 0, .slice none 0 0, .slice none 0 0, .int .i64 0, .int .i64 0] 26)) (w.heap.size) 26 #[.int .i64 ep, .int .i64 i, .slice (some ⟨gi, 0, none⟩) is.length d1, .slice (some ⟨gk, 0, none⟩) ks.length d3, .slice (some ⟨gr, 0, none⟩) rs.length d5, .int .i64 fw, .int .i64 ba] := (Blk.new_ _ 26 #[.int .i64 ep, .int .i64 i, .slice (some ⟨gi, 0, none⟩) is.length d1, .slice (some ⟨gk, 0, none⟩) ks.length d3, .slice (some ⟨gr, 0, none⟩) rs.length d5, .int .i64 fw, .int .i64 ba] (by first | rfl | (simp; done) | (simp; omega))).alloc _
  have b_bz1 : Blk ((w.alloc (.cells #[.int .i64 ep, .int .i64 i, .slice (some ⟨gi, 0, none⟩) is.length d1, .slice (some ⟨gk, 0, none⟩) ks.length d3, .slice (some ⟨gr, 0, none⟩) rs.length d5, .int .i64 fw, .int .i64 ba] 26)).alloc (.cells #[.int .i64 0, .int .i64 0, .slice none 0 0, .slice none 0 0, .slice none 0 0, .int .i64 0, .int .i64 0] 26)) (w.heap.size + 1) 26 #[.int .i64 0, .int .i64 0, .slice none 0 0, .slice none 0 0, .slice none 0 0, .int .i64 0, .int .i64 0] := Blk.new_ _ 26 #[.int .i64 0, .int .i64 0, .slice none 0 0, .slice none 0 0, .slice none 0 0, .int .i64 0, .int .i64 0] (by first | rfl | (simp; done) | (simp; omega))
  have k_own1 := ((HO.out).alloc (.cells #[.int .i64 ep, .int .i64 i, .slice (some ⟨gi, 0, none⟩) is.length d1, .slice (some ⟨gk, 0, none⟩) ks.length d3, .slice (some ⟨gr, 0, none⟩) rs.length d5, .int .i64 fw, .int .i64 ba] 26)).alloc (.cells #[.int .i64 0, .int .i64 0, .slice none 0 0, .slice none 0 0, .slice none 0 0, .int .i64 0, .int .i64 0] 26)
  have hz1 : w.heap.size + 2 ≤ ((w.alloc (.cells #[.int .i64 ep, .int .i64 i, .slice (some ⟨gi, 0, none⟩) is.length d1, .slice (some ⟨gk, 0, none⟩) ks.length d3, .slice (some ⟨gr, 0, none⟩) rs.length d5, .int .i64 fw, .int .i64 ba] 26)).alloc (.cells #[.int .i64 0, .int .i64 0, .slice none 0 0, .slice none 0 0, .slice none 0 0, .int .i64 0, .int .i64 0] 26)).heap.size := by first | omega | (simp; done) | (simp; omega)
  generalize (w.alloc (.cells #[.int .i64 ep, .int .i64 i, .slice (some ⟨gi, 0, none⟩) is.length d1, .slice (some ⟨gk, 0, none⟩) ks.length d3, .slice (some ⟨gr, 0, none⟩) rs.length d5, .int .i64 fw, .int .i64 ba] 26)).alloc (.cells #[.int .i64 0, .int .i64 0, .slice none 0 0, .slice none 0 0, .slice none 0 0, .int .i64 0, .int .i64 0] 26) = W1 at *
  have HB1 := Lib.hid hb1
  have B1_bx := Lib.hid b_bx1
  have B1_bz := Lib.hid b_bz1
  have K1_own := Lib.hid k_own1
  clear hb1 b_bx1 b_bz1 k_own1
  clear HO
  have HZ1 := Lib.hid hz1
  have c_bx0 := B1_bx.out.cell 0
  have c_bx1 := B1_bx.out.cell 1
  have c_bx2 := B1_bx.out.cell 2
  have c_bx3 := B1_bx.out.cell 3
  have c_bx4 := B1_bx.out.cell 4
  have c_bx5 := B1_bx.out.cell 5
  have c_bx6 := B1_bx.out.cell 6
  have l_bx := B1_bx.out.lt
  go_loop [3, 16] (fun s x => ∃ k : Nat, k ≤ ks.length ∧ s = .int .i64 (minK ((is.zip ks).take k) 400) ∧ x = .int .i64 k) (fun _ x => ks.length - (intOf x).toNat)
  case atStart => exact ⟨0, Nat.zero_le _, rfl, rfl⟩
  case round =>
    obtain ⟨k, hk, rfl, rfl⟩ := hrel
    by_cases hlt : k < ks.length
    · have hlt' : k < is.length := by have := E1.out; have := E2.out; omega
      have hks := (K1_own.out.knownAt k hlt).1
      have his := (K1_own.out.isrAt k hlt').1
      simp only at hks his
      have HT := Lib.hid (minK_take (bs := is) (ks := ks) hlt' hlt 400)
      generalize minK ((is.zip ks).take k) 400 = s at *
      generalize is[k] = b at *
      generalize ks[k] = x at *
      have k0 : (0 : Int) ≤ (k : Int) := by omega
      have k1 : (k : Int) < (ks.length : Int) := by omega
      have k2 : (k : Int) < (is.length : Int) := by omega
      rcases b with _ | _
      · have hs' := HT.out
        simp only [Bool.false_eq_true, false_and, if_false] at hs'
        have HS' := Lib.hid hs'
        clear hs'
        go_wp2
        go_round
        case rel => exact ⟨k + 1, by omega, by rw [HS'.out], by go_num⟩
        case measure => simp [intOf]; omega
      · have hs' := HT.out
        simp only [true_and] at hs'
        obtain ⟨s', he'⟩ : ∃ s' : Int, minK ((is.zip ks).take (k + 1)) 400 = s' := ⟨_, rfl⟩
        have HS' := Lib.hid he'
        have zm : min s x = s' := by rw [← he', hs']; split <;> omega
        clear hs' he'
        go_wp2
        go_round
        case rel => exact ⟨k + 1, by omega, by rw [HS'.out], by go_num⟩
        case measure => simp [intOf]; omega
    · obtain rfl : k = ks.length := by omega
      have hzl : (is.zip ks).length = ks.length := by rw [List.length_zip]; have := E1.out; have := E2.out; omega
      have htk : (is.zip ks).take ks.length = is.zip ks := by rw [← hzl, List.take_length]
      rw [htk]
      have hcap := minK_cap (is.zip ks) 400 (es.length : Int)
      have h400 : (if (es.length : Int) < 400 then (es.length : Int) else 400) = (es.length : Int) := by split <;> omega
      rw [h400] at hcap
      generalize hsv : minK (is.zip ks) 400 = s at *
      have HSV := Lib.hid hsv
      have HCAP := Lib.hid hcap
      clear htk hzl hcap h400 hsv hlt
      go_wp2_with fail
      clear c_bx0 c_bx1 c_bx2 c_bx3 c_bx4 c_bx5 c_bx6 l_bx
      refine (ends_ok _ ⟨ep, (i : Int), is, ks, rs, fw, ba⟩ i _ (HPV.out _ K1_own.out) hi HLG.out).mono ?_
      rintro e W2 ⟨rfl, hb⟩
      have hb2 : Below w.heap.size w W2 := below_then HB1.out hb
      have b_bx2 := B1_bx.out.below hb B1_bx.out.lt
      have b_bz2 := B1_bz.out.below hb B1_bz.out.lt
      have k_own2 := K1_own.out.keep hb
      have hz2 := hb.size
      have HB2 := Lib.hid hb2
      have B2_bx := Lib.hid b_bx2
      have B2_bz := Lib.hid b_bz2
      have K2_own := Lib.hid k_own2
      clear hb2 b_bx2 b_bz2 k_own2
      clear B1_bx B1_bz HB1 K1_own
      have c_bx0 := B2_bx.out.cell 0
      have c_bx1 := B2_bx.out.cell 1
      have c_bx2 := B2_bx.out.cell 2
      have c_bx3 := B2_bx.out.cell 3
      have c_bx4 := B2_bx.out.cell 4
      have c_bx5 := B2_bx.out.cell 5
      have c_bx6 := B2_bx.out.cell 6
      have l_bx := B2_bx.out.lt
      have c_bz0 := B2_bz.out.cell 0
      have f_bz0 := B2_bz.out.frozen 0
      have c_bz1 := B2_bz.out.cell 1
      have f_bz1 := B2_bz.out.frozen 1
      have c_bz2 := B2_bz.out.cell 2
      have f_bz2 := B2_bz.out.frozen 2
      have c_bz3 := B2_bz.out.cell 3
      have f_bz3 := B2_bz.out.frozen 3
      have c_bz4 := B2_bz.out.cell 4
      have f_bz4 := B2_bz.out.frozen 4
      have c_bz5 := B2_bz.out.cell 5
      have f_bz5 := B2_bz.out.frozen 5
      have c_bz6 := B2_bz.out.cell 6
      have f_bz6 := B2_bz.out.frozen 6
      have l_bz := B2_bz.out.lt
      have hrp := (K2_own.out.repAt i hi)
      obtain ⟨A7, c7, ⟨r0, r1, r2, r3⟩, ⟨f0, f1, f2, f3⟩, -⟩ := hrp
      simp only at r3
      clear r0 r1 r2 f0 f1 f2
      obtain ⟨q, hq⟩ : ∃ q : Int, q = minK (is.zip ks) (es.length : Int) := ⟨_, rfl⟩
      have zm : min s (es.length : Int) = q := by rw [hq, HCAP.out]; split <;> omega
      have zr : (raiseT (is.zip ks) rs[i]).high = if rs[i].high < q then q else rs[i].high := by simp only [raiseT, HA.out, ← hq]
      have zh : max rs[i].high q = (raiseT (is.zip ks) rs[i]).high := by rw [zr]; split <;> omega
      clear zr
      clear hq
      have hszS := HB2.out.size
      have b_bxS : Blk (W2.setCell ⟨gr, i * 4 + 3, none⟩ (.int .i64 (raiseT (is.zip ks) rs[i]).high)) (w.heap.size) 26 #[.int .i64 ep, .int .i64 i, .slice (some ⟨gi, 0, none⟩) is.length d1, .slice (some ⟨gk, 0, none⟩) ks.length d3, .slice (some ⟨gr, 0, none⟩) rs.length d5, .int .i64 fw, .int .i64 ba] := (B2_bx.out).far (p := ⟨gr, i * 4 + 3, none⟩) (by show w.heap.size ≠ gr; omega) _
      have b_bzS : Blk (W2.setCell ⟨gr, i * 4 + 3, none⟩ (.int .i64 (raiseT (is.zip ks) rs[i]).high)) (w.heap.size + 1) 26 #[.int .i64 0, .int .i64 0, .slice none 0 0, .slice none 0 0, .slice none 0 0, .int .i64 0, .int .i64 0] := (B2_bz.out).far (p := ⟨gr, i * 4 + 3, none⟩) (by show w.heap.size + 1 ≠ gr; omega) _
      have k_ownS := (K2_own.out).setRep i 3 hi (.int .i64 (raiseT (is.zip ks) rs[i]).high) (raiseT (is.zip ks) rs[i]) (by decide) (fun _ => rfl) rfl
      have p0 := b_bxS.cell 0
      have p1 := b_bxS.cell 1
      have p2 := b_bxS.cell 2
      have p3 := b_bxS.cell 3
      have p4 := b_bxS.cell 4
      have p5 := b_bxS.cell 5
      have p6 := b_bxS.cell 6
      have pl := b_bxS.lt
      have z0 := b_bzS.cell 0
      have zf0 := b_bzS.frozen 0
      have z1 := b_bzS.cell 1
      have zf1 := b_bzS.frozen 1
      have z2 := b_bzS.cell 2
      have zf2 := b_bzS.frozen 2
      have z3 := b_bzS.cell 3
      have zf3 := b_bzS.frozen 3
      have z4 := b_bzS.cell 4
      have zf4 := b_bzS.frozen 4
      have z5 := b_bzS.cell 5
      have zf5 := b_bzS.frozen 5
      have z6 := b_bzS.cell 6
      have zf6 := b_bzS.frozen 6
      have zl := b_bzS.lt
      have KS := Lib.hid k_ownS
      have BZS := Lib.hid b_bzS
      clear b_bxS b_bzS k_ownS
      go_wp2_with fail
      clear c_bx0 c_bx1 c_bx2 c_bx3 c_bx4 c_bx5 c_bx6 l_bx c_bz0 f_bz0 c_bz1 f_bz1 c_bz2 f_bz2 c_bz3 f_bz3 c_bz4 f_bz4 c_bz5 f_bz5 c_bz6 f_bz6 l_bz
      have hszF := HB2.out.size
      have b_bxF : Blk ((((((((W2.setCell ⟨gr, i * 4 + 3, none⟩ (.int .i64 (raiseT (is.zip ks) rs[i]).high)).setCell ⟨w.heap.size + 1, 0, none⟩ (.int .i64 ep)).setCell ⟨w.heap.size + 1, 1, none⟩ (.int .i64 i)).setCell ⟨w.heap.size + 1, 2, none⟩ (.slice (some ⟨gi, 0, none⟩) is.length d1)).setCell ⟨w.heap.size + 1, 3, none⟩ (.slice (some ⟨gk, 0, none⟩) ks.length d3)).setCell ⟨w.heap.size + 1, 4, none⟩ (.slice (some ⟨gr, 0, none⟩) rs.length d5)).setCell ⟨w.heap.size + 1, 5, none⟩ (.int .i64 fw)).setCell ⟨w.heap.size + 1, 6, none⟩ (.int .i64 ba)) (w.heap.size) 26 #[.int .i64 ep, .int .i64 i, .slice (some ⟨gi, 0, none⟩) is.length d1, .slice (some ⟨gk, 0, none⟩) ks.length d3, .slice (some ⟨gr, 0, none⟩) rs.length d5, .int .i64 fw, .int .i64 ba] := ((((((((B2_bx.out).far (p := ⟨gr, i * 4 + 3, none⟩) (by show w.heap.size ≠ gr; omega) _).far (p := ⟨w.heap.size + 1, 0, none⟩) (by show w.heap.size ≠ w.heap.size + 1; omega) _).far (p := ⟨w.heap.size + 1, 1, none⟩) (by show w.heap.size ≠ w.heap.size + 1; omega) _).far (p := ⟨w.heap.size + 1, 2, none⟩) (by show w.heap.size ≠ w.heap.size + 1; omega) _).far (p := ⟨w.heap.size + 1, 3, none⟩) (by show w.heap.size ≠ w.heap.size + 1; omega) _).far (p := ⟨w.heap.size + 1, 4, none⟩) (by show w.heap.size ≠ w.heap.size + 1; omega) _).far (p := ⟨w.heap.size + 1, 5, none⟩) (by show w.heap.size ≠ w.heap.size + 1; omega) _).far (p := ⟨w.heap.size + 1, 6, none⟩) (by show w.heap.size ≠ w.heap.size + 1; omega) _
      have b_bzF : Blk ((((((((W2.setCell ⟨gr, i * 4 + 3, none⟩ (.int .i64 (raiseT (is.zip ks) rs[i]).high)).setCell ⟨w.heap.size + 1, 0, none⟩ (.int .i64 ep)).setCell ⟨w.heap.size + 1, 1, none⟩ (.int .i64 i)).setCell ⟨w.heap.size + 1, 2, none⟩ (.slice (some ⟨gi, 0, none⟩) is.length d1)).setCell ⟨w.heap.size + 1, 3, none⟩ (.slice (some ⟨gk, 0, none⟩) ks.length d3)).setCell ⟨w.heap.size + 1, 4, none⟩ (.slice (some ⟨gr, 0, none⟩) rs.length d5)).setCell ⟨w.heap.size + 1, 5, none⟩ (.int .i64 fw)).setCell ⟨w.heap.size + 1, 6, none⟩ (.int .i64 ba)) (w.heap.size + 1) 26 #[.int .i64 ep, .int .i64 i, .slice (some ⟨gi, 0, none⟩) is.length d1, .slice (some ⟨gk, 0, none⟩) ks.length d3, .slice (some ⟨gr, 0, none⟩) rs.length d5, .int .i64 fw, .int .i64 ba] := ((((((((B2_bz.out).far (p := ⟨gr, i * 4 + 3, none⟩) (by show w.heap.size + 1 ≠ gr; omega) _).set_ 0 _).set_ 1 _).set_ 2 _).set_ 3 _).set_ 4 _).set_ 5 _).set_ 6 _
      have k_ownF := KS.out.blk7 BZS.out (.int .i64 ep) (.int .i64 i) (.slice (some ⟨gi, 0, none⟩) is.length d1) (.slice (some ⟨gk, 0, none⟩) ks.length d3) (.slice (some ⟨gr, 0, none⟩) rs.length d5) (.int .i64 fw) (.int .i64 ba)
      have hgF : w.grownBy ((((((((W2.setCell ⟨gr, i * 4 + 3, none⟩ (.int .i64 (raiseT (is.zip ks) rs[i]).high)).setCell ⟨w.heap.size + 1, 0, none⟩ (.int .i64 ep)).setCell ⟨w.heap.size + 1, 1, none⟩ (.int .i64 i)).setCell ⟨w.heap.size + 1, 2, none⟩ (.slice (some ⟨gi, 0, none⟩) is.length d1)).setCell ⟨w.heap.size + 1, 3, none⟩ (.slice (some ⟨gk, 0, none⟩) ks.length d3)).setCell ⟨w.heap.size + 1, 4, none⟩ (.slice (some ⟨gr, 0, none⟩) rs.length d5)).setCell ⟨w.heap.size + 1, 5, none⟩ (.int .i64 fw)).setCell ⟨w.heap.size + 1, 6, none⟩ (.int .i64 ba)) (some gr) := grown_set_ (grown_set_ (grown_set_ (grown_set_ (grown_set_ (grown_set_ (grown_set_ (grown_set_ (grown_of_below HB2.out (some gr)) ⟨gr, i * 4 + 3, none⟩ (by (try dsimp only); first | exact Or.inl rfl | exact Or.inr (by omega)) _) ⟨w.heap.size + 1, 0, none⟩ (by (try dsimp only); first | exact Or.inl rfl | exact Or.inr (by omega)) _) ⟨w.heap.size + 1, 1, none⟩ (by (try dsimp only); first | exact Or.inl rfl | exact Or.inr (by omega)) _) ⟨w.heap.size + 1, 2, none⟩ (by (try dsimp only); first | exact Or.inl rfl | exact Or.inr (by omega)) _) ⟨w.heap.size + 1, 3, none⟩ (by (try dsimp only); first | exact Or.inl rfl | exact Or.inr (by omega)) _) ⟨w.heap.size + 1, 4, none⟩ (by (try dsimp only); first | exact Or.inl rfl | exact Or.inr (by omega)) _) ⟨w.heap.size + 1, 5, none⟩ (by (try dsimp only); first | exact Or.inl rfl | exact Or.inr (by omega)) _) ⟨w.heap.size + 1, 6, none⟩ (by (try dsimp only); first | exact Or.inl rfl | exact Or.inr (by omega)) _
      have hup : (PartD.updR ⟨ep, (i : Int), is, ks, rs, fw, ba⟩ i (raiseT (is.zip ks))) = ⟨ep, (i : Int), is, ks, rs.set i (raiseT (is.zip ks) rs[i]), fw, ba⟩ := by simp only [PartD.updR]; rw [modify_eq _ _ _ hi]
      rw [hup]
      (try simp only at k_ownF)
      have y0 := b_bzF.cell 0
      have y1 := b_bzF.cell 1
      have y2 := b_bzF.cell 2
      have y3 := b_bzF.cell 3
      have y4 := b_bzF.cell 4
      have y5 := b_bzF.cell 5
      have y6 := b_bzF.cell 6
      exact bodyPost_ret (v := .agg #[.int .i64 ep, .int .i64 i, .slice (some ⟨gi, 0, none⟩) is.length d1, .slice (some ⟨gk, 0, none⟩) ks.length d3, .slice (some ⟨gr, 0, none⟩) rs.length d5, .int .i64 fw, .int .i64 ba]) (by simp [results, Try.results90, go_sem, y0, y1, y2, y3, y4, y5, y6]) rfl (⟨rfl, k_ownF, hgF⟩)
set_option maxRecDepth 100000 in
set_option maxHeartbeats 4000000 in
theorem raised_at (c : PartD) (iv kv rv : Value) (w : World) (base : Nat) (_hb : base ≤ w.heap.size) (ho : PO base w c iv kv rv) (i : Nat) (hl : c.leader = i) (hi : i < c.reps.length) (h1 : c.isr.length = c.reps.length) (h2 : c.known.length = c.reps.length) (hs : PSm c) {es : List Ent} {j : Nat} (hlog : LogIs c.reps[i].log es j) : Calls Try.prog 91 #[partV c iv kv rv] w (AdvPost base w c iv kv rv) := by
  have hn := ho.rows (by omega) (by omega) (by omega)
  obtain ⟨gi, d1, gk, d3, gr, d5, rfl, rfl, rfl, hgi, hgk, hgr, hgi', hgk', hgr'⟩ := hn
  unfold AdvPost
  rw [advD_at hl]
  have HPV := Lib.hid (fun (W : World) (h : PO base W c (.slice (some ⟨gi, 0, none⟩) c.isr.length d1) (.slice (some ⟨gk, 0, none⟩) c.known.length d3) (.slice (some ⟨gr, 0, none⟩) c.reps.length d5)) => h.pv hs)
  unfold partV at *
  obtain ⟨ep, ld, is, ks, rs, fw, ba⟩ := c
  simp only at hl
  subst hl
  simp only at *
  have HO := Lib.hid ho
  have y0 : decide ((i : Int) < 0) = false := decide_eq_false (by omega)
  have HLG := Lib.hid hlog
  have HA := Lib.hid (RepD.ents hlog).1
  have hm := hlog.many
  have hl5 : ks.length ≤ 5 := hs.known
  have hl6 : is.length ≤ 5 := hs.isr
  have HS := Lib.hid hs
  have i0 : (0 : Int) ≤ (i : Int) := by omega
  have i1 : (i : Int) < (rs.length : Int) := Int.ofNat_lt.2 hi
  have j2 : (i : Int) < (is.length : Int) := by omega
  have j3 : (i : Int) < (ks.length : Int) := by omega
  have E1 := Lib.hid h1
  have E2 := Lib.hid h2
  clear ho hlog hs h1 h2
  go_enter Try.func91, Try.ntmps91
  go_wp2_with fail
  have hb1 : Below w.heap.size w ((w.alloc (.cells #[.int .i64 ep, .int .i64 i, .slice (some ⟨gi, 0, none⟩) is.length d1, .slice (some ⟨gk, 0, none⟩) ks.length d3, .slice (some ⟨gr, 0, none⟩) rs.length d5, .int .i64 fw, .int .i64 ba] 26)).alloc (.cells #[.int .i64 0, .int .i64 0, .slice none 0 0, .slice none 0 0, .slice none 0 0, .int .i64 0, .int .i64 0] 26)) := ((Below.refl _ _).alloc (by first | omega | (simp; done) | (simp; omega)) _).alloc (by first | omega | (simp; done) | (simp; omega)) _
  have hal1 : Below w.heap.size w ((w.alloc (.cells #[.int .i64 ep, .int .i64 i, .slice (some ⟨gi, 0, none⟩) is.length d1, .slice (some ⟨gk, 0, none⟩) ks.length d3, .slice (some ⟨gr, 0, none⟩) rs.length d5, .int .i64 fw, .int .i64 ba] 26)).alloc (.cells #[.int .i64 0, .int .i64 0, .slice none 0 0, .slice none 0 0, .slice none 0 0, .int .i64 0, .int .i64 0] 26)) := ((Below.refl _ _).alloc (by first | omega | (simp; done) | (simp; omega)) _).alloc (by first | omega | (simp; done) | (simp; omega)) _
  have b_bx1 : Blk ((w.alloc (.cells #[.int .i64 ep, .int .i64 i, .slice (some ⟨gi, 0, none⟩) is.length d1, .slice (some ⟨gk, 0, none⟩) ks.length d3, .slice (some ⟨gr, 0, none⟩) rs.length d5, .int .i64 fw, .int .i64 ba] 26)).alloc (.cells #[.int .i64 0, .int .i64 0, .slice none 0 0, .slice none 0 0, .slice none 0 0, .int .i64 0, .int .i64 0] 26)) (w.heap.size) 26 #[.int .i64 ep, .int .i64 i, .slice (some ⟨gi, 0, none⟩) is.length d1, .slice (some ⟨gk, 0, none⟩) ks.length d3, .slice (some ⟨gr, 0, none⟩) rs.length d5, .int .i64 fw, .int .i64 ba] := (Blk.new_ _ 26 #[.int .i64 ep, .int .i64 i, .slice (some ⟨gi, 0, none⟩) is.length d1, .slice (some ⟨gk, 0, none⟩) ks.length d3, .slice (some ⟨gr, 0, none⟩) rs.length d5, .int .i64 fw, .int .i64 ba] (by first | rfl | (simp; done) | (simp; omega))).alloc _
  have b_bz1 : Blk ((w.alloc (.cells #[.int .i64 ep, .int .i64 i, .slice (some ⟨gi, 0, none⟩) is.length d1, .slice (some ⟨gk, 0, none⟩) ks.length d3, .slice (some ⟨gr, 0, none⟩) rs.length d5, .int .i64 fw, .int .i64 ba] 26)).alloc (.cells #[.int .i64 0, .int .i64 0, .slice none 0 0, .slice none 0 0, .slice none 0 0, .int .i64 0, .int .i64 0] 26)) (w.heap.size + 1) 26 #[.int .i64 0, .int .i64 0, .slice none 0 0, .slice none 0 0, .slice none 0 0, .int .i64 0, .int .i64 0] := Blk.new_ _ 26 #[.int .i64 0, .int .i64 0, .slice none 0 0, .slice none 0 0, .slice none 0 0, .int .i64 0, .int .i64 0] (by first | rfl | (simp; done) | (simp; omega))
  have k_own1 := ((HO.out).alloc (.cells #[.int .i64 ep, .int .i64 i, .slice (some ⟨gi, 0, none⟩) is.length d1, .slice (some ⟨gk, 0, none⟩) ks.length d3, .slice (some ⟨gr, 0, none⟩) rs.length d5, .int .i64 fw, .int .i64 ba] 26)).alloc (.cells #[.int .i64 0, .int .i64 0, .slice none 0 0, .slice none 0 0, .slice none 0 0, .int .i64 0, .int .i64 0] 26)
  have hz1 : w.heap.size + 2 ≤ ((w.alloc (.cells #[.int .i64 ep, .int .i64 i, .slice (some ⟨gi, 0, none⟩) is.length d1, .slice (some ⟨gk, 0, none⟩) ks.length d3, .slice (some ⟨gr, 0, none⟩) rs.length d5, .int .i64 fw, .int .i64 ba] 26)).alloc (.cells #[.int .i64 0, .int .i64 0, .slice none 0 0, .slice none 0 0, .slice none 0 0, .int .i64 0, .int .i64 0] 26)).heap.size := by first | omega | (simp; done) | (simp; omega)
  generalize (w.alloc (.cells #[.int .i64 ep, .int .i64 i, .slice (some ⟨gi, 0, none⟩) is.length d1, .slice (some ⟨gk, 0, none⟩) ks.length d3, .slice (some ⟨gr, 0, none⟩) rs.length d5, .int .i64 fw, .int .i64 ba] 26)).alloc (.cells #[.int .i64 0, .int .i64 0, .slice none 0 0, .slice none 0 0, .slice none 0 0, .int .i64 0, .int .i64 0] 26) = W1 at *
  have HB1 := Lib.hid hb1
  have B1_bx := Lib.hid b_bx1
  have B1_bz := Lib.hid b_bz1
  have K1_own := Lib.hid k_own1
  clear hb1 b_bx1 b_bz1 k_own1
  clear HO
  refine (logOf_any _ ⟨ep, (i : Int), is, ks, rs, fw, ba⟩ i _ (HPV.out _ K1_own.out) hi HLG.out).mono ?_
  rintro e W2 ⟨v2, rfl, ho2, hb⟩
  obtain ⟨A2, c2, rfl, -⟩ := (Sl.of_own ho2).form
  clear ho2
  have hb2 : Below w.heap.size w W2 := below_then HB1.out hb
  have b_bx2 := B1_bx.out.below hb B1_bx.out.lt
  have b_bz2 := B1_bz.out.below hb B1_bz.out.lt
  have k_own2 := K1_own.out.keep hb
  have hz2 := hb.size
  have HB2 := Lib.hid hb2
  have B2_bx := Lib.hid b_bx2
  have B2_bz := Lib.hid b_bz2
  have K2_own := Lib.hid k_own2
  clear hb2 b_bx2 b_bz2 k_own2
  clear B1_bx B1_bz HB1 K1_own
  have c_bx0 := B2_bx.out.cell 0
  have c_bx1 := B2_bx.out.cell 1
  have c_bx2 := B2_bx.out.cell 2
  have c_bx3 := B2_bx.out.cell 3
  have c_bx4 := B2_bx.out.cell 4
  have c_bx5 := B2_bx.out.cell 5
  have c_bx6 := B2_bx.out.cell 6
  have l_bx := B2_bx.out.lt
  go_wp2_with fail
  go_loop [3, 4] (fun s x => ∃ k : Nat, k ≤ is.length ∧ s = .int .i64 (minK ((is.zip ks).take k) (es.length : Int)) ∧ x = .int .i64 k) (fun _ x => is.length - (intOf x).toNat)
  case atStart => exact ⟨0, Nat.zero_le _, rfl, rfl⟩
  case round =>
    obtain ⟨k, hk, rfl, rfl⟩ := hrel
    by_cases hlt : k < is.length
    · have hlt' : k < ks.length := by have := E1.out; have := E2.out; omega
      have hks := (K2_own.out.knownAt k hlt').1
      have his := (K2_own.out.isrAt k hlt).1
      simp only at hks his
      have HT := Lib.hid (minK_take (bs := is) (ks := ks) hlt hlt' (es.length : Int))
      generalize minK ((is.zip ks).take k) (es.length : Int) = s at *
      generalize is[k] = b at *
      generalize ks[k] = x at *
      have k0 : (0 : Int) ≤ (k : Int) := by omega
      have k1 : (k : Int) < (ks.length : Int) := by omega
      have k2 : (k : Int) < (is.length : Int) := by omega
      rcases b with _ | _
      · have hs' := HT.out
        simp only [Bool.false_eq_true, false_and, if_false] at hs'
        have HS' := Lib.hid hs'
        clear hs'
        go_wp2
        go_round
        case rel => exact ⟨k + 1, by omega, by rw [HS'.out], by go_num⟩
        case measure => simp [intOf]; omega
      · have hs' := HT.out
        simp only [true_and] at hs'
        by_cases hxs : x < s
        · rw [if_pos hxs] at hs'
          have d1 : decide (x < s) = true := decide_eq_true hxs
          have HS' := Lib.hid hs'
          clear hs' hxs
          go_wp2
          go_round
          case rel => exact ⟨k + 1, by omega, by rw [HS'.out], by go_num⟩
          case measure => simp [intOf]; omega
        · rw [if_neg hxs] at hs'
          have d1 : decide (x < s) = false := decide_eq_false hxs
          have HS' := Lib.hid hs'
          clear hs' hxs
          go_wp2
          go_round
          case rel => exact ⟨k + 1, by omega, by rw [HS'.out], by go_num⟩
          case measure => simp [intOf]; omega
    · obtain rfl : k = is.length := by omega
      have hzl : (is.zip ks).length = is.length := by rw [List.length_zip]; have := E1.out; have := E2.out; omega
      have htk : (is.zip ks).take is.length = is.zip ks := by rw [← hzl, List.take_length]
      rw [htk]
      have hra : (raiseT (is.zip ks) rs[i]).high = if rs[i].high < minK (is.zip ks) (es.length : Int) then minK (is.zip ks) (es.length : Int) else rs[i].high := by simp only [raiseT, HA.out]
      generalize hsv : minK (is.zip ks) (es.length : Int) = s at *
      have HSV := Lib.hid hsv
      have HRA := Lib.hid hra
      clear htk hzl hsv hlt hra
      have c_bz0 := B2_bz.out.cell 0
      have f_bz0 := B2_bz.out.frozen 0
      have c_bz1 := B2_bz.out.cell 1
      have f_bz1 := B2_bz.out.frozen 1
      have c_bz2 := B2_bz.out.cell 2
      have f_bz2 := B2_bz.out.frozen 2
      have c_bz3 := B2_bz.out.cell 3
      have f_bz3 := B2_bz.out.frozen 3
      have c_bz4 := B2_bz.out.cell 4
      have f_bz4 := B2_bz.out.frozen 4
      have c_bz5 := B2_bz.out.cell 5
      have f_bz5 := B2_bz.out.frozen 5
      have c_bz6 := B2_bz.out.cell 6
      have f_bz6 := B2_bz.out.frozen 6
      have l_bz := B2_bz.out.lt
      have hrp := (K2_own.out.repAt i hi)
      obtain ⟨A7, c7, ⟨r0, r1, r2, r3⟩, ⟨f0, f1, f2, f3⟩, -⟩ := hrp
      simp only at r3
      clear r0 r1 r2 f0 f1 f2
      have hup : (PartD.updR ⟨ep, (i : Int), is, ks, rs, fw, ba⟩ i (raiseT (is.zip ks))) = ⟨ep, (i : Int), is, ks, rs.set i (raiseT (is.zip ks) rs[i]), fw, ba⟩ := by simp only [PartD.updR]; rw [modify_eq _ _ _ hi]
      have HUP := Lib.hid hup
      clear hup
      by_cases hh : rs[i].high < s
      · have dd : decide (rs[i].high < s) = true := decide_eq_true hh
        have hsr : (raiseT (is.zip ks) rs[i]).high = s := by rw [HRA.out, if_pos hh]
        have HSR := Lib.hid hsr
        clear hh hsr
        have hszS := HB2.out.size
        have b_bxS : Blk (W2.setCell ⟨gr, i * 4 + 3, none⟩ (.int .i64 s)) (w.heap.size) 26 #[.int .i64 ep, .int .i64 i, .slice (some ⟨gi, 0, none⟩) is.length d1, .slice (some ⟨gk, 0, none⟩) ks.length d3, .slice (some ⟨gr, 0, none⟩) rs.length d5, .int .i64 fw, .int .i64 ba] := (B2_bx.out).far (p := ⟨gr, i * 4 + 3, none⟩) (by show w.heap.size ≠ gr; omega) _
        have b_bzS : Blk (W2.setCell ⟨gr, i * 4 + 3, none⟩ (.int .i64 s)) (w.heap.size + 1) 26 #[.int .i64 0, .int .i64 0, .slice none 0 0, .slice none 0 0, .slice none 0 0, .int .i64 0, .int .i64 0] := (B2_bz.out).far (p := ⟨gr, i * 4 + 3, none⟩) (by show w.heap.size + 1 ≠ gr; omega) _
        have k_ownS := (K2_own.out).setRep i 3 hi (.int .i64 s) (raiseT (is.zip ks) rs[i]) (by decide) (fun _ => by simp only [rcells, HSR.out]; rfl) rfl
        have p0 := b_bxS.cell 0
        have p1 := b_bxS.cell 1
        have p2 := b_bxS.cell 2
        have p3 := b_bxS.cell 3
        have p4 := b_bxS.cell 4
        have p5 := b_bxS.cell 5
        have p6 := b_bxS.cell 6
        have pl := b_bxS.lt
        have z0 := b_bzS.cell 0
        have zf0 := b_bzS.frozen 0
        have z1 := b_bzS.cell 1
        have zf1 := b_bzS.frozen 1
        have z2 := b_bzS.cell 2
        have zf2 := b_bzS.frozen 2
        have z3 := b_bzS.cell 3
        have zf3 := b_bzS.frozen 3
        have z4 := b_bzS.cell 4
        have zf4 := b_bzS.frozen 4
        have z5 := b_bzS.cell 5
        have zf5 := b_bzS.frozen 5
        have z6 := b_bzS.cell 6
        have zf6 := b_bzS.frozen 6
        have zl := b_bzS.lt
        have KS := Lib.hid k_ownS
        have BZS := Lib.hid b_bzS
        clear b_bxS b_bzS k_ownS
        go_wp2_with fail
        clear c_bx0 c_bx1 c_bx2 c_bx3 c_bx4 c_bx5 c_bx6 l_bx c_bz0 f_bz0 c_bz1 f_bz1 c_bz2 f_bz2 c_bz3 f_bz3 c_bz4 f_bz4 c_bz5 f_bz5 c_bz6 f_bz6 l_bz
        have hszF := HB2.out.size
        have b_bxF : Blk ((((((((W2.setCell ⟨gr, i * 4 + 3, none⟩ (.int .i64 s)).setCell ⟨w.heap.size + 1, 0, none⟩ (.int .i64 ep)).setCell ⟨w.heap.size + 1, 1, none⟩ (.int .i64 i)).setCell ⟨w.heap.size + 1, 2, none⟩ (.slice (some ⟨gi, 0, none⟩) is.length d1)).setCell ⟨w.heap.size + 1, 3, none⟩ (.slice (some ⟨gk, 0, none⟩) ks.length d3)).setCell ⟨w.heap.size + 1, 4, none⟩ (.slice (some ⟨gr, 0, none⟩) rs.length d5)).setCell ⟨w.heap.size + 1, 5, none⟩ (.int .i64 fw)).setCell ⟨w.heap.size + 1, 6, none⟩ (.int .i64 ba)) (w.heap.size) 26 #[.int .i64 ep, .int .i64 i, .slice (some ⟨gi, 0, none⟩) is.length d1, .slice (some ⟨gk, 0, none⟩) ks.length d3, .slice (some ⟨gr, 0, none⟩) rs.length d5, .int .i64 fw, .int .i64 ba] := ((((((((B2_bx.out).far (p := ⟨gr, i * 4 + 3, none⟩) (by show w.heap.size ≠ gr; omega) _).far (p := ⟨w.heap.size + 1, 0, none⟩) (by show w.heap.size ≠ w.heap.size + 1; omega) _).far (p := ⟨w.heap.size + 1, 1, none⟩) (by show w.heap.size ≠ w.heap.size + 1; omega) _).far (p := ⟨w.heap.size + 1, 2, none⟩) (by show w.heap.size ≠ w.heap.size + 1; omega) _).far (p := ⟨w.heap.size + 1, 3, none⟩) (by show w.heap.size ≠ w.heap.size + 1; omega) _).far (p := ⟨w.heap.size + 1, 4, none⟩) (by show w.heap.size ≠ w.heap.size + 1; omega) _).far (p := ⟨w.heap.size + 1, 5, none⟩) (by show w.heap.size ≠ w.heap.size + 1; omega) _).far (p := ⟨w.heap.size + 1, 6, none⟩) (by show w.heap.size ≠ w.heap.size + 1; omega) _
        have b_bzF : Blk ((((((((W2.setCell ⟨gr, i * 4 + 3, none⟩ (.int .i64 s)).setCell ⟨w.heap.size + 1, 0, none⟩ (.int .i64 ep)).setCell ⟨w.heap.size + 1, 1, none⟩ (.int .i64 i)).setCell ⟨w.heap.size + 1, 2, none⟩ (.slice (some ⟨gi, 0, none⟩) is.length d1)).setCell ⟨w.heap.size + 1, 3, none⟩ (.slice (some ⟨gk, 0, none⟩) ks.length d3)).setCell ⟨w.heap.size + 1, 4, none⟩ (.slice (some ⟨gr, 0, none⟩) rs.length d5)).setCell ⟨w.heap.size + 1, 5, none⟩ (.int .i64 fw)).setCell ⟨w.heap.size + 1, 6, none⟩ (.int .i64 ba)) (w.heap.size + 1) 26 #[.int .i64 ep, .int .i64 i, .slice (some ⟨gi, 0, none⟩) is.length d1, .slice (some ⟨gk, 0, none⟩) ks.length d3, .slice (some ⟨gr, 0, none⟩) rs.length d5, .int .i64 fw, .int .i64 ba] := ((((((((B2_bz.out).far (p := ⟨gr, i * 4 + 3, none⟩) (by show w.heap.size + 1 ≠ gr; omega) _).set_ 0 _).set_ 1 _).set_ 2 _).set_ 3 _).set_ 4 _).set_ 5 _).set_ 6 _
        have k_ownF := KS.out.blk7 BZS.out (.int .i64 ep) (.int .i64 i) (.slice (some ⟨gi, 0, none⟩) is.length d1) (.slice (some ⟨gk, 0, none⟩) ks.length d3) (.slice (some ⟨gr, 0, none⟩) rs.length d5) (.int .i64 fw) (.int .i64 ba)
        have hgF : w.grownBy ((((((((W2.setCell ⟨gr, i * 4 + 3, none⟩ (.int .i64 s)).setCell ⟨w.heap.size + 1, 0, none⟩ (.int .i64 ep)).setCell ⟨w.heap.size + 1, 1, none⟩ (.int .i64 i)).setCell ⟨w.heap.size + 1, 2, none⟩ (.slice (some ⟨gi, 0, none⟩) is.length d1)).setCell ⟨w.heap.size + 1, 3, none⟩ (.slice (some ⟨gk, 0, none⟩) ks.length d3)).setCell ⟨w.heap.size + 1, 4, none⟩ (.slice (some ⟨gr, 0, none⟩) rs.length d5)).setCell ⟨w.heap.size + 1, 5, none⟩ (.int .i64 fw)).setCell ⟨w.heap.size + 1, 6, none⟩ (.int .i64 ba)) (some gr) := grown_set_ (grown_set_ (grown_set_ (grown_set_ (grown_set_ (grown_set_ (grown_set_ (grown_set_ (grown_of_below HB2.out (some gr)) ⟨gr, i * 4 + 3, none⟩ (by (try dsimp only); first | exact Or.inl rfl | exact Or.inr (by omega)) _) ⟨w.heap.size + 1, 0, none⟩ (by (try dsimp only); first | exact Or.inl rfl | exact Or.inr (by omega)) _) ⟨w.heap.size + 1, 1, none⟩ (by (try dsimp only); first | exact Or.inl rfl | exact Or.inr (by omega)) _) ⟨w.heap.size + 1, 2, none⟩ (by (try dsimp only); first | exact Or.inl rfl | exact Or.inr (by omega)) _) ⟨w.heap.size + 1, 3, none⟩ (by (try dsimp only); first | exact Or.inl rfl | exact Or.inr (by omega)) _) ⟨w.heap.size + 1, 4, none⟩ (by (try dsimp only); first | exact Or.inl rfl | exact Or.inr (by omega)) _) ⟨w.heap.size + 1, 5, none⟩ (by (try dsimp only); first | exact Or.inl rfl | exact Or.inr (by omega)) _) ⟨w.heap.size + 1, 6, none⟩ (by (try dsimp only); first | exact Or.inl rfl | exact Or.inr (by omega)) _
        rw [HUP.out]
        (try simp only at k_ownF)
        have y0 := b_bzF.cell 0
        have y1 := b_bzF.cell 1
        have y2 := b_bzF.cell 2
        have y3 := b_bzF.cell 3
        have y4 := b_bzF.cell 4
        have y5 := b_bzF.cell 5
        have y6 := b_bzF.cell 6
        exact bodyPost_ret (v := .agg #[.int .i64 ep, .int .i64 i, .slice (some ⟨gi, 0, none⟩) is.length d1, .slice (some ⟨gk, 0, none⟩) ks.length d3, .slice (some ⟨gr, 0, none⟩) rs.length d5, .int .i64 fw, .int .i64 ba]) (by simp [results, Try.results91, go_sem, y0, y1, y2, y3, y4, y5, y6]) rfl (⟨rfl, k_ownF, hgF⟩)
      · have dd : decide (rs[i].high < s) = false := decide_eq_false hh
        have hsr : raiseT (is.zip ks) rs[i] = rs[i] := by have h3 := HRA.out; rw [if_neg hh] at h3; exact raiseT_eq h3
        have HSR := Lib.hid hsr
        clear hh hsr
        go_wp2_with fail
        have BZS := Lib.hid B2_bz.out
        clear c_bx0 c_bx1 c_bx2 c_bx3 c_bx4 c_bx5 c_bx6 l_bx c_bz0 f_bz0 c_bz1 f_bz1 c_bz2 f_bz2 c_bz3 f_bz3 c_bz4 f_bz4 c_bz5 f_bz5 c_bz6 f_bz6 l_bz
        have hszF := HB2.out.size
        have hbF : Below w.heap.size w (((((((W2.setCell ⟨w.heap.size + 1, 0, none⟩ (.int .i64 ep)).setCell ⟨w.heap.size + 1, 1, none⟩ (.int .i64 i)).setCell ⟨w.heap.size + 1, 2, none⟩ (.slice (some ⟨gi, 0, none⟩) is.length d1)).setCell ⟨w.heap.size + 1, 3, none⟩ (.slice (some ⟨gk, 0, none⟩) ks.length d3)).setCell ⟨w.heap.size + 1, 4, none⟩ (.slice (some ⟨gr, 0, none⟩) rs.length d5)).setCell ⟨w.heap.size + 1, 5, none⟩ (.int .i64 fw)).setCell ⟨w.heap.size + 1, 6, none⟩ (.int .i64 ba)) := (((((((HB2.out).setCell (by show w.heap.size ≤ w.heap.size + 1; omega) _).setCell (by show w.heap.size ≤ w.heap.size + 1; omega) _).setCell (by show w.heap.size ≤ w.heap.size + 1; omega) _).setCell (by show w.heap.size ≤ w.heap.size + 1; omega) _).setCell (by show w.heap.size ≤ w.heap.size + 1; omega) _).setCell (by show w.heap.size ≤ w.heap.size + 1; omega) _).setCell (by show w.heap.size ≤ w.heap.size + 1; omega) _
        have b_bxF : Blk (((((((W2.setCell ⟨w.heap.size + 1, 0, none⟩ (.int .i64 ep)).setCell ⟨w.heap.size + 1, 1, none⟩ (.int .i64 i)).setCell ⟨w.heap.size + 1, 2, none⟩ (.slice (some ⟨gi, 0, none⟩) is.length d1)).setCell ⟨w.heap.size + 1, 3, none⟩ (.slice (some ⟨gk, 0, none⟩) ks.length d3)).setCell ⟨w.heap.size + 1, 4, none⟩ (.slice (some ⟨gr, 0, none⟩) rs.length d5)).setCell ⟨w.heap.size + 1, 5, none⟩ (.int .i64 fw)).setCell ⟨w.heap.size + 1, 6, none⟩ (.int .i64 ba)) (w.heap.size) 26 #[.int .i64 ep, .int .i64 i, .slice (some ⟨gi, 0, none⟩) is.length d1, .slice (some ⟨gk, 0, none⟩) ks.length d3, .slice (some ⟨gr, 0, none⟩) rs.length d5, .int .i64 fw, .int .i64 ba] := (((((((B2_bx.out).far (p := ⟨w.heap.size + 1, 0, none⟩) (by show w.heap.size ≠ w.heap.size + 1; omega) _).far (p := ⟨w.heap.size + 1, 1, none⟩) (by show w.heap.size ≠ w.heap.size + 1; omega) _).far (p := ⟨w.heap.size + 1, 2, none⟩) (by show w.heap.size ≠ w.heap.size + 1; omega) _).far (p := ⟨w.heap.size + 1, 3, none⟩) (by show w.heap.size ≠ w.heap.size + 1; omega) _).far (p := ⟨w.heap.size + 1, 4, none⟩) (by show w.heap.size ≠ w.heap.size + 1; omega) _).far (p := ⟨w.heap.size + 1, 5, none⟩) (by show w.heap.size ≠ w.heap.size + 1; omega) _).far (p := ⟨w.heap.size + 1, 6, none⟩) (by show w.heap.size ≠ w.heap.size + 1; omega) _
        have b_bzF : Blk (((((((W2.setCell ⟨w.heap.size + 1, 0, none⟩ (.int .i64 ep)).setCell ⟨w.heap.size + 1, 1, none⟩ (.int .i64 i)).setCell ⟨w.heap.size + 1, 2, none⟩ (.slice (some ⟨gi, 0, none⟩) is.length d1)).setCell ⟨w.heap.size + 1, 3, none⟩ (.slice (some ⟨gk, 0, none⟩) ks.length d3)).setCell ⟨w.heap.size + 1, 4, none⟩ (.slice (some ⟨gr, 0, none⟩) rs.length d5)).setCell ⟨w.heap.size + 1, 5, none⟩ (.int .i64 fw)).setCell ⟨w.heap.size + 1, 6, none⟩ (.int .i64 ba)) (w.heap.size + 1) 26 #[.int .i64 ep, .int .i64 i, .slice (some ⟨gi, 0, none⟩) is.length d1, .slice (some ⟨gk, 0, none⟩) ks.length d3, .slice (some ⟨gr, 0, none⟩) rs.length d5, .int .i64 fw, .int .i64 ba] := (((((((B2_bz.out).set_ 0 _).set_ 1 _).set_ 2 _).set_ 3 _).set_ 4 _).set_ 5 _).set_ 6 _
        have k_ownF := K2_own.out.blk7 BZS.out (.int .i64 ep) (.int .i64 i) (.slice (some ⟨gi, 0, none⟩) is.length d1) (.slice (some ⟨gk, 0, none⟩) ks.length d3) (.slice (some ⟨gr, 0, none⟩) rs.length d5) (.int .i64 fw) (.int .i64 ba)
        rw [HUP.out, HSR.out, List.set_getElem_self]
        have y0 := b_bzF.cell 0
        have y1 := b_bzF.cell 1
        have y2 := b_bzF.cell 2
        have y3 := b_bzF.cell 3
        have y4 := b_bzF.cell 4
        have y5 := b_bzF.cell 5
        have y6 := b_bzF.cell 6
        exact bodyPost_ret (v := .agg #[.int .i64 ep, .int .i64 i, .slice (some ⟨gi, 0, none⟩) is.length d1, .slice (some ⟨gk, 0, none⟩) ks.length d3, .slice (some ⟨gr, 0, none⟩) rs.length d5, .int .i64 fw, .int .i64 ba]) (by simp [results, Try.results91, go_sem, y0, y1, y2, y3, y4, y5, y6]) rfl (⟨rfl, k_ownF, grown_of_below hbF _⟩)
end Go.Proofs.Ytpjjfnpdopdnkaa
namespace Go.Proofs.Ytpjjfnpdopdnkaa
open Go.RowKit

def LedFault (c : PartD) (r n : Int) : Prop := AtFault c r n ∨ PartOk c ∧ 0 ≤ r ∧ r < c.reps.length ∧ (c.leader < 0 ∨ c.leader = r) ∧ n = 8
theorem LedFault.ne {c : PartD} {r n : Int} (h : LedFault c r n) : n ≠ 0 := by
  rcases h with h | ⟨_, _, _, _, rfl⟩
  · exact h.ne
  · decide
theorem partV_adv (c : PartD) (iv kv rv : Value) : partV (advD c) iv kv rv = partV c iv kv rv := by
  unfold advD
  split <;> rfl
theorem PSm.setKnown {c : PartD} (h : PSm c) (i : Nat) (x : Int) : PSm { c with known := c.known.set i x } := ⟨h.isr, by simp only [List.length_set]; exact h.known, h.reps, h.bytes⟩
end Go.Proofs.Ytpjjfnpdopdnkaa
namespace Go.Proofs.Ytpjjfnpdopdnkaa
open Go.RowKit

set_option maxRecDepth 100000 in
set_option maxHeartbeats 2000000 in
theorem cut_all (v : Value) (l : List UInt8) (s : Int) (w : World) (hv : By w v l) {es : List Ent} {j : Nat} (h : LogIs ⟨l, s⟩ es j) :
    Calls Try.prog 43 #[.agg #[v, .int .i64 s], .int .i64 (es.length : Int)] w (LogPost ⟨l, s⟩ 0 w) := by
  obtain ⟨A, c, rfl, hc, -⟩ := hv.at_
  have HV := Lib.hid hv
  have hbx := (Blk.new w 42 #[.slice A l.length c, .int .i64 s]).alloc (.cells #[.slice none 0 0, .int .i64 0] 42)
  have hbz := Blk.new (w.alloc (.cells #[.slice A l.length c, .int .i64 s] 42)) 42 #[.slice none 0 0, .int .i64 0]
  have hbl : Below w.heap.size w ((w.alloc (.cells #[.slice A l.length c, .int .i64 s] 42)).alloc (.cells #[.slice none 0 0, .int .i64 0] 42)) := ((Below.refl _ _).alloc (Nat.le_refl _) _).alloc (by simp) _
  simp only [World.size_alloc] at hbz
  have hv0 := hv.below hbl
  clear hv
  obtain ⟨hlen, k, rfl, hk, -, -, -⟩ := log_long h
  have HE := Lib.hid (segEntries_ok _ l k _ hv0 h)
  have HB0 : Hid (l = flat es) := Lib.hid h.bytes
  have hmany := h.many
  have HOK := Lib.hid h.ok
  clear h
  have z0' : decide ((es.length : Int) < 0) = false := decide_eq_false (by omega)
  have z1' : decide ((es.length : Int) < (es.length : Int)) = false := decide_eq_false (by omega)
  go_enter Try.func43, Try.ntmps43
  go_wp2_with fail
  refine HE.out.mono ?_
  rintro e w1 ⟨v1, rfl, ho1, hb1⟩
  have he1 : Es w1 v1 es := Sl.of_own ho1
  obtain ⟨A1, c1, rfl, hc1, he1'⟩ := he1.at_
  have HES := Lib.hid he1'
  clear ho1 he1 he1'
  have bx := hbx.below hb1 hbx.lt
  have bz := hbz.below hb1 hbz.lt
  have hb := hbl.trans (hb1.mono hbl.size)
  clear hbx hbz hbl hb1 hv0
  have q0 := bx.cell 0
  have q1 := bx.cell 1
  have z0 := bz.cell 0
  have z1 := bz.cell 1
  have zf0 := bz.frozen 0
  have zf1 := bz.frozen 1
  have zl := bz.lt
  have ql := bx.lt
  have hbd := (Below.refl w1.heap.size w1).drew
  go_wp2_with fail
  go_region_with (go_at_call 74; refine (CloneByte_any _ l.length (bvs l) _ (HV.out.below (below_then hb hbd)) (bvs_one _) (by simp only [maxLen]; omega) (by omega)).mono ?_; rintro e w5 ⟨v5, rfl, ho5, hb5⟩; obtain ⟨A5, c5, rfl, hc5⟩ := (Sl.of_own ho5).form; have hbel := below_then hbd hb5; have bx5 := bx.below hbel bx.lt; have bz5 := bz.below hbel bz.lt; have y0 := bx5.cell 0; have y1 := bx5.cell 1; have u0 := bz5.cell 0; have u1 := bz5.cell 1; have uf0 := bz5.frozen 0; have uf1 := bz5.frozen 1; have ul := bz5.lt; have yl := bx5.lt; have hsz5 := (hb.trans (hbel.mono hb.size)).size)
  all_goals go_wp2
  all_goals obtain ⟨r0, r1, ro, rb⟩ := log_stored (v := .slice A5 l.length c5) (s := k) bz5 rfl
  all_goals generalize (w5.setCell ⟨w.heap.size + 1, 0, none⟩ (.slice A5 l.length c5)).setCell ⟨w.heap.size + 1, 1, none⟩ (.int .i64 k) = W6 at *
  all_goals exact bodyPost_ret (v := .tuple #[.agg #[.slice A5 l.length c5, .int .i64 k], .int .i64 0]) (by simp [results, Try.results43, go_sem, r0, r1]) rfl ⟨.slice A5 l.length c5, rfl, ro _ _ _ _ (own_base ho5 hb.size), rb _ _ (Nat.le_succ _) (hb.trans (hbel.mono hb.size))⟩

set_option maxRecDepth 100000 in
set_option maxHeartbeats 2000000 in
theorem cut_less (v : Value) (l : List UInt8) (s : Int) (n : Nat) (w : World) (hv : By w v l) {es : List Ent} {j : Nat} (h : LogIs ⟨l, s⟩ es j) (hn : n < es.length) {z : Nat} (hze : z = (flat (es.take n)).length) :
    Calls Try.prog 43 #[.agg #[v, .int .i64 s], .int .i64 (n : Int)] w (LogPost ⟨l.take z, (min s.toNat z : Nat)⟩ 0 w) := by
  obtain ⟨A, c, rfl, hc, -⟩ := hv.at_
  have HV := Lib.hid hv
  have hbx := (Blk.new w 42 #[.slice A l.length c, .int .i64 s]).alloc (.cells #[.slice none 0 0, .int .i64 0] 42)
  have hbz := Blk.new (w.alloc (.cells #[.slice A l.length c, .int .i64 s] 42)) 42 #[.slice none 0 0, .int .i64 0]
  have hbl : Below w.heap.size w ((w.alloc (.cells #[.slice A l.length c, .int .i64 s] 42)).alloc (.cells #[.slice none 0 0, .int .i64 0] 42)) := ((Below.refl _ _).alloc (Nat.le_refl _) _).alloc (by simp) _
  simp only [World.size_alloc] at hbz
  have hv0 := hv.below hbl
  clear hv
  obtain ⟨hlen, k, rfl, hk, -, -, -⟩ := log_long h
  have HE := Lib.hid (segEntries_ok _ l k _ hv0 h)
  have HB0 : Hid (l = flat es) := Lib.hid h.bytes
  have hmany := h.many
  have HOK := Lib.hid h.ok
  clear h
  simp only [Int.toNat_natCast]
  have hz : z ≤ l.length := by rw [hze, HB0.out]; exact flat_take_le _ _
  have hzl : (l.take z).length = z := by rw [List.length_take]; omega
  have HZE := Lib.hid hze
  have z0' : decide ((n : Int) < 0) = false := decide_eq_false (by omega)
  have z1' : decide ((es.length : Int) < (n : Int)) = false := decide_eq_false (by omega)
  have z3' : decide (es.length < n) = false := decide_eq_false (by omega)
  have z2' : ((n : Int) == (es.length : Int)) = false := by simp only [beq_eq_false_iff_ne]; omega
  clear hze
  obtain ⟨r, hr⟩ : ∃ r : Nat, r = min k z := ⟨_, rfl⟩
  have HR := Lib.hid hr
  rw [← hr]
  clear hr
  go_enter Try.func43, Try.ntmps43
  go_wp2_with fail
  refine HE.out.mono ?_
  rintro e w1 ⟨v1, rfl, ho1, hb1⟩
  have he1 : Es w1 v1 es := Sl.of_own ho1
  obtain ⟨A1, c1, rfl, hc1, he1'⟩ := he1.at_
  have HES := Lib.hid he1'
  clear ho1 he1 he1'
  have bx := hbx.below hb1 hbx.lt
  have bz := hbz.below hb1 hbz.lt
  have hb := hbl.trans (hb1.mono hbl.size)
  clear hbx hbz hbl hb1 hv0
  have q0 := bx.cell 0
  have q1 := bx.cell 1
  have z0 := bz.cell 0
  have z1 := bz.cell 1
  have zf0 := bz.frozen 0
  have zf1 := bz.frozen 1
  have zl := bz.lt
  have ql := bx.lt
  have i0 : (0 : Int) ≤ (n : Int) := by omega
  have i1 : (n : Int) ≤ (c1 : Int) := by omega
  have BX := Lib.hid bx
  have BZ := Lib.hid bz
  have HB := Lib.hid hb
  clear bx bz hb
  go_wp2
  go_loopw [9, 47] (fun sz ix wr => ∃ i : Nat, i ≤ n ∧ sz = .int .i64 (((flat (es.take i)).length : Nat) : Int) ∧ ix = .int .i64 i ∧ Hid (Below w1.heap.size w1 wr)) (fun _ ix _ => n - (intOf ix).toNat)
  case atStart => exact ⟨0, Nat.zero_le _, rfl, rfl, Below.refl _ _⟩
  case round =>
    obtain ⟨i, hi, rfl, rfl, hbw⟩ := hrel
    by_cases hlt : i < n
    · have hle : i < es.length := by omega
      obtain ⟨b, off, rfl, hbl1, he⟩ := HES.out (by omega)
      obtain ⟨x0, x1, x2, x3, x4, x5, x6⟩ := he i hle
      have kk : ∀ o, wr.cell? ⟨b, o, none⟩ = w1.cell? ⟨b, o, none⟩ := fun o => hbw.out.cell (p := ⟨b, o, none⟩) hbl1
      replace x0 := (kk _).trans x0
      replace x1 := (kk _).trans x1
      replace x2 := (kk _).trans x2
      replace x3 := (kk _).trans x3
      replace x4 := (kk _).trans x4
      replace x5 := (kk _).trans x5
      replace x6 := (kk _).trans x6
      have HF := Lib.hid (flat_take_succ es i hle)
      have hfl : (flat (es.take i)).length ≤ 40000 := by have := flat_take_le es i; have := congrArg List.length HB0.out; omega
      have hye : es[i].enc.length ≤ 64 := by have := (Ent.body_len_ (HOK.out es[i] (List.getElem_mem _))).2; rw [Ent.enc_len]; omega
      have hok := HOK.out es[i] (List.getElem_mem _)
      generalize es[i] = y at *
      have hq := fun W => encode_ent y W hok
      have HQ := Lib.hid hq
      have i2 : (0 : Int) ≤ (i : Int) := by omega
      have i3 : (i : Int) < (n : Int) := by omega
      clear he kk hok hq
      go_wp2_with fail
      refine (HQ.out _).mono ?_
      rintro e w3 ⟨v3, rfl, ho3, hb3⟩
      obtain ⟨A3, c3, rfl, -⟩ := (Sl.of_own ho3).form
      go_wp2
      have hs := hbw.out.size
      go_roundw
      case rel =>
        refine ⟨i + 1, by omega, ?_, ?_, (hbw.out.alloc hs _).trans (hb3.mono (by simp; omega))⟩
        · rw [HF.out, List.length_append]; go_num
        · go_num
      case measure => simp [intOf]; omega
    · obtain rfl : i = n := by omega
      rw [← HZE.out]
      have hb2 := HB.out.trans (hbw.out.mono HB.out.size)
      have bx2 := BX.out.below hbw.out BX.out.lt
      have bz2 := BZ.out.below hbw.out BZ.out.lt
      clear q0 q1 z0 z1 zf0 zf1 zl ql
      have q0 := bx2.cell 0
      have q1 := bx2.cell 1
      have z0 := bz2.cell 0
      have z1 := bz2.cell 1
      have zf0 := bz2.frozen 0
      have zf1 := bz2.frozen 1
      have zl := bz2.lt
      have ql := bx2.lt
      have hbd := (Below.refl wr.heap.size wr).drew
      have i4 : (0 : Int) ≤ (z : Int) := by omega
      have i5 : (z : Int) ≤ (c : Int) := by omega
      have zm : min (k : Int) (z : Int) = (r : Int) := by have := HR.out; omega
      clear hbw
      go_wp2_with fail
      go_region_with (go_at_call 74; refine (CloneByte_any _ z (bvs (l.take z)) _ (By.take_n (HV.out.below (below_then hb2 hbd)) hz) (bvs_one _) (by simp only [maxLen]; omega) (by omega)).mono ?_; rintro e w5 ⟨v5, rfl, ho5, hb5⟩; obtain ⟨A5, c5, rfl, hc5⟩ := (Sl.of_own ho5).form; have hbel := below_then hbd hb5; have bx5 := bx2.below hbel bx2.lt; have bz5 := bz2.below hbel bz2.lt; have y0 := bx5.cell 0; have y1 := bx5.cell 1; have u0 := bz5.cell 0; have u1 := bz5.cell 1; have uf0 := bz5.frozen 0; have uf1 := bz5.frozen 1; have ul := bz5.lt; have yl := bx5.lt)
      all_goals go_wp2
      all_goals obtain ⟨r0, r1, ro, rb⟩ := log_stored (v := .slice A5 z c5) (s := r) bz5 rfl
      all_goals generalize (w5.setCell ⟨w.heap.size + 1, 0, none⟩ (.slice A5 z c5)).setCell ⟨w.heap.size + 1, 1, none⟩ (.int .i64 r) = W6 at *
      all_goals exact bodyPost_ret (v := .tuple #[.agg #[.slice A5 z c5, .int .i64 r], .int .i64 0]) (by simp [results, Try.results43, go_sem, r0, r1]) rfl ⟨.slice A5 z c5, rfl, ro _ _ _ _ (own_base (own_eq ho5 hzl.symm rfl) hb2.size), rb _ _ (Nat.le_succ _) (hb2.trans (hbel.mono hb2.size))⟩

end Go.Proofs.Ytpjjfnpdopdnkaa
