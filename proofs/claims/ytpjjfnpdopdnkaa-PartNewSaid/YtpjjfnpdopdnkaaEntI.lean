/- tailraceref.entryIn: what a body says. -/
import Derived.Test.YtpjjfnpdopdnkaaBodyX
namespace Go.Proofs.Ytpjjfnpdopdnkaa
open Go.RowKit

/-- the four numbers of a body as far as they are read, and where the reading stands: at the bytes l -/
def numsTo (l : List UInt8) : Nat → List Nat → List UInt8 → Prop
  | 0, ns, r => ns = [] ∧ r = l
  | k + 1, ns, r => ∃ ns' r' m, numsTo l k ns' r' ∧ numP r' = some (m, r) ∧ ns = ns' ++ [m]
theorem numsTo_len {l : List UInt8} : ∀ {k : Nat} {ns : List Nat} {r : List UInt8}, numsTo l k ns r → ns.length = k
  | 0, _, _, ⟨h, _⟩ => by subst h; rfl
  | k + 1, _, _, ⟨ns', r', m, h, _, e⟩ => by subst e; simp [numsTo_len h]
theorem numsTo_suffix {l : List UInt8} : ∀ {k : Nat} {ns : List Nat} {r : List UInt8}, numsTo l k ns r → ∃ p, l = p ++ r
  | 0, _, _, ⟨_, h⟩ => ⟨[], by simp [h]⟩
  | k + 1, _, r, ⟨ns', r', m, h, hp, _⟩ => by
    obtain ⟨p, e⟩ := numsTo_suffix h
    obtain ⟨q, e2, _⟩ := numGo_suffix 5 0 0 r' m r hp
    exact ⟨p ++ q, by rw [e, e2, List.append_assoc]⟩
theorem numsTo_none {l r : List UInt8} {k : Nat} {ns : List Nat} (h : numsTo l k ns r) (hk : k < 4) (hn : numP r = none) (c : UInt8) : entP (c :: l) = none := by
  match k, hk with
  | 0, _ =>
    obtain ⟨_, rfl⟩ := h
    simp [entP, hn]
  | 1, _ =>
    obtain ⟨_, _, m0, ⟨_, rfl⟩, p0, _⟩ := h
    simp [entP, p0, hn]
  | 2, _ =>
    obtain ⟨_, _, m1, ⟨_, _, m0, ⟨_, rfl⟩, p0, _⟩, p1, _⟩ := h
    simp [entP, p0, p1, hn]
  | 3, _ =>
    obtain ⟨_, _, m2, ⟨_, _, m1, ⟨_, _, m0, ⟨_, rfl⟩, p0, _⟩, p1, _⟩, p2, _⟩ := h
    simp [entP, p0, p1, p2, hn]
theorem numsTo_four {l r : List UInt8} {ns : List Nat} (h : numsTo l 4 ns r) : ∃ a b c d l1 l2 l3, ns = [a, b, c, d] ∧ numP l = some (a, l1) ∧ numP l1 = some (b, l2) ∧ numP l2 = some (c, l3) ∧ numP l3 = some (d, r) := by
  obtain ⟨_, l3, d, ⟨_, l2, c, ⟨_, l1, b, ⟨_, _, a, ⟨rfl, rfl⟩, p0, rfl⟩, p1, rfl⟩, p2, rfl⟩, p3, rfl⟩ := h
  exact ⟨a, b, c, d, l1, l2, l3, rfl, p0, p1, p2, p3⟩
/-! the walk -/
theorem By.drop_ {w : World} {b off c i : Nat} {l : List UInt8} (h : By w (.slice (some ⟨b, off, none⟩) l.length c) l) (hi : i ≤ l.length) : By w (.slice (some ⟨b, off + i, none⟩) (l.drop i).length (c - i)) (l.drop i) := by
  obtain ⟨h1, A, c', hv, hc, h2⟩ := h
  injection hv with hA _ hcc
  subst hA hcc
  refine ⟨by simp [bvs], _, _, rfl, by rw [List.length_drop]; omega, fun hn => ?_⟩
  obtain ⟨b', off', hA, hb, hcell⟩ := h2 (by rw [List.length_drop] at hn; omega)
  injection hA with hA
  injection hA with hA1 hA2
  subst hA1 hA2
  refine ⟨b, off + i, rfl, hb, fun j x hx => ?_⟩
  rw [Nat.add_assoc]
  refine hcell (i + j) x ?_
  rw [← hx]
  simp [bvs, List.getElem?_drop]
theorem By.take_ {w : World} {A : Option Addr} {c n : Nat} {l : List UInt8} (h : By w (.slice A l.length c) l) (hn : n ≤ l.length) : By w (.slice A (l.take n).length c) (l.take n) := by
  obtain ⟨h1, A', c', hv, hc, h2⟩ := h
  injection hv with hA _ hcc
  subst hA hcc
  refine ⟨by simp [bvs], _, _, rfl, by rw [List.length_take]; omega, fun h0 => ?_⟩
  obtain ⟨b, off, hA, hb, hcell⟩ := h2 (by rw [List.length_take] at h0; omega)
  refine ⟨b, off, hA, hb, fun j x hx => hcell j x ?_⟩
  simp only [bvs, List.map_take, List.getElem?_take] at hx
  split at hx
  · exact hx
  · cases hx
theorem By.keep_ {w : World} {v : Value} {l : List UInt8} {g : Nat} (h : By w v l) (hne : v.ownBlock ≠ some g) {x0 x1 x2 x3 : Value} : By ((((w.setCell ⟨g, 0, none⟩ x0).setCell ⟨g, 1, none⟩ x1).setCell ⟨g, 2, none⟩ x2).setCell ⟨g, 3, none⟩ x3) v l :=
  By.grown h (grown_set (grown_set (grown_set (grown_set (World.grownBy.refl _ _) 0 _) 1 _) 2 _) 3 _) hne
def padN (ns : List Nat) : Array Value := ((ns ++ List.replicate (4 - ns.length) 0).map fun n : Nat => Value.int .i64 (n : Int)).toArray
theorem padN_set {ns : List Nat} {m : Nat} (h : ns.length < 4) : (padN ns).setIfInBounds ns.length (.int .i64 (m : Int)) = padN (ns ++ [m]) := by
  match ns, h with
  | [], _ | [_], _ | [_, _], _ | [_, _, _], _ => rfl
theorem padN_get {ns : List Nat} (h : ns.length < 4) : (padN ns)[ns.length]? = some (.int .i64 (0 : Int)) := by
  match ns, h with
  | [], _ | [_], _ | [_, _], _ | [_, _, _], _ => rfl
theorem div16 (k : UInt8) : ((k.toNat : Int) / 16 == 1) = decide (k.toNat / 16 = 1) := by
  have h := k.toNat_lt
  generalize k.toNat = n at *
  by_cases hn : n / 16 = 1
  · rw [decide_eq_true hn, beq_iff_eq]; omega
  · rw [decide_eq_false hn, beq_eq_false_iff_ne]; omega
/-- the loop of entryIn: the blocks of the result, of the entry and of the numbers -/
def NumsAt (w : World) (r : List UInt8) (n : Nat) (k : UInt8) (T : Bool) (a i : Value) (wr : World) : Prop :=
  ∃ (j at_ : Nat) (ns : List Nat) (rr : List UInt8), j ≤ 4 ∧ i = .int .i64 j ∧ a = .int .i64 at_ ∧ at_ ≤ n ∧ Hid ((k :: r).drop at_ = rr) ∧ Hid (numsTo r j ns rr) ∧ Blk wr w.heap.size 55 #[.int .i64 0, .int .i64 0, .int .i64 0, .int .i64 0, .int .i64 0, .bool false, .string ⟨#[]⟩] ∧ Blk wr (w.heap.size + 1) 55 #[.int .i64 0, .int .i64 0, .int .i64 0, .int .i64 0, .int .i64 ((k.toNat : Int) % 16), .bool T, .string ⟨#[]⟩] ∧
    Blk wr (w.heap.size + 2) 3 (padN ns) ∧ Below w.heap.size w wr

set_option maxRecDepth 100000 in
set_option maxHeartbeats 4000000 in
theorem entryIn_any (v : Value) (k : UInt8) (r : List UInt8) (w : World) (hv : By w v (k :: r)) (hl : r.length ≤ 65535) :
    Calls Try.prog 77 #[v] w (BodyPost (k :: r) w) := by
  obtain ⟨b, off, c, u', r', rfl, hc, hur, hbl, hcell, -⟩ := byte_cons hv (by simp)
  injection hur with hu' hr'
  subst hu' hr'
  have hvB := Lib.hid hv
  clear hv
  simp only [List.length_cons] at hc
  have hk256 := k.toNat_lt
  go_enter Try.func77, Try.ntmps77
  go_wp2
  have bE := Blk.new w 55 #[.int .i64 0, .int .i64 0, .int .i64 0, .int .i64 0, .int .i64 0, .bool false, .string ⟨#[]⟩]
  have hbw : Below w.heap.size w (w.alloc (.cells #[.int .i64 0, .int .i64 0, .int .i64 0, .int .i64 0, .int .i64 0, .bool false, .string ⟨#[]⟩] 55)) := (Below.refl _ _).alloc (Nat.le_refl _) _
  have hsz : (w.alloc (.cells #[.int .i64 0, .int .i64 0, .int .i64 0, .int .i64 0, .int .i64 0, .bool false, .string ⟨#[]⟩] 55)).heap.size = w.heap.size + 1 := by simp
  change Code.wp _ _ _ _ (w.alloc (.cells #[.int .i64 0, .int .i64 0, .int .i64 0, .int .i64 0, .int .i64 0, .bool false, .string ⟨#[]⟩] 55))
  generalize (w.alloc (.cells #[.int .i64 0, .int .i64 0, .int .i64 0, .int .i64 0, .int .i64 0, .bool false, .string ⟨#[]⟩] 55)) = W0 at *
  have X := (hbw.cell (p := ⟨b, off, none⟩) hbl).trans hcell
  have hlt : b < W0.heap.size := by omega
  have X2 : (W0.alloc (.cells #[.int .i64 0, .int .i64 0, .int .i64 0, .int .i64 0, .int .i64 0, .bool false, .string ⟨#[]⟩] 55)).cell? ⟨b, off, none⟩ = some (.int .u8 k.toNat) := (World.cell?_alloc_lt W0 _ _ hlt).trans X
  go_region
  have bX : Blk (W0.alloc (.cells #[.int .i64 0, .int .i64 0, .int .i64 0, .int .i64 0, .int .i64 ((k.toNat : Int) % 16), .bool ((k.toNat : Int) / 16 == 1), .string ⟨#[]⟩] 55)).drew (w.heap.size + 1) 55 #[.int .i64 0, .int .i64 0, .int .i64 0, .int .i64 0, .int .i64 ((k.toNat : Int) % 16), .bool ((k.toNat : Int) / 16 == 1), .string ⟨#[]⟩] := by rw [← hsz]; exact Blk.new W0 _ _
  have bE1 : Blk (W0.alloc (.cells #[.int .i64 0, .int .i64 0, .int .i64 0, .int .i64 0, .int .i64 ((k.toNat : Int) % 16), .bool ((k.toNat : Int) / 16 == 1), .string ⟨#[]⟩] 55)).drew w.heap.size 55 #[.int .i64 0, .int .i64 0, .int .i64 0, .int .i64 0, .int .i64 0, .bool false, .string ⟨#[]⟩] := bE.alloc _
  have hb1 : Below w.heap.size w (W0.alloc (.cells #[.int .i64 0, .int .i64 0, .int .i64 0, .int .i64 0, .int .i64 ((k.toNat : Int) % 16), .bool ((k.toNat : Int) / 16 == 1), .string ⟨#[]⟩] 55)).drew := (hbw.alloc (by omega) _).drew
  have hs1 : (W0.alloc (.cells #[.int .i64 0, .int .i64 0, .int .i64 0, .int .i64 0, .int .i64 ((k.toNat : Int) % 16), .bool ((k.toNat : Int) / 16 == 1), .string ⟨#[]⟩] 55)).drew.heap.size = w.heap.size + 2 := by simp [hsz]
  generalize (W0.alloc (.cells #[.int .i64 0, .int .i64 0, .int .i64 0, .int .i64 0, .int .i64 ((k.toNat : Int) % 16), .bool ((k.toNat : Int) / 16 == 1), .string ⟨#[]⟩] 55)).drew = W1 at *
  have hdv := div16 k
  generalize hT : ((k.toNat : Int) / 16 == 1) = T at *
  have HDV := Lib.hid hdv
  clear hT X X2 hlt bE hbw hsz hdv
  have X := (hb1.cell (p := ⟨b, off, none⟩) hbl).trans hcell
  have x0 := bX.cell 0
  have x1 := bX.cell 1
  have x2 := bX.cell 2
  have x3 := bX.cell 3
  have x4 := bX.cell 4
  have x5 := bX.cell 5
  have x6 := bX.cell 6
  have e0 := bE1.cell 0
  have e1 := bE1.cell 1
  have e2 := bE1.cell 2
  have e3 := bE1.cell 3
  have e4 := bE1.cell 4
  have e5 := bE1.cell 5
  have e6 := bE1.cell 6
  have f0 := bE1.frozen 0
  have f1 := bE1.frozen 1
  have f2 := bE1.frozen 2
  have f3 := bE1.frozen 3
  have f4 := bE1.frozen 4
  have f5 := bE1.frozen 5
  have f6 := bE1.frozen 6
  have hlt0 : w.heap.size < W1.heap.size := by omega
  have hlt1 : w.heap.size + 1 < W1.heap.size := by omega
  by_cases h32 : 32 ≤ k.toNat
  · have d32 : decide ((32 : Int) ≤ (k.toNat : Int)) = true := decide_eq_true (by omega)
    go_wp2
    have B7 := (((((((bE1.set_ 0 (.int .i64 (0 : Int))).set_ 1 (.int .i64 (0 : Int))).set_ 2 (.int .i64 (0 : Int))).set_ 3 (.int .i64 (0 : Int))).set_ 4 (.int .i64 ((k.toNat : Int) % 16))).set_ 5 (.bool T)).set_ 6 (.string ⟨#[]⟩))
    have L7 := (((((((hb1.setCell (p := ⟨w.heap.size, 0, none⟩) (Nat.le_refl _) (.int .i64 (0 : Int))).setCell (p := ⟨w.heap.size, 1, none⟩) (Nat.le_refl _) (.int .i64 (0 : Int))).setCell (p := ⟨w.heap.size, 2, none⟩) (Nat.le_refl _) (.int .i64 (0 : Int))).setCell (p := ⟨w.heap.size, 3, none⟩) (Nat.le_refl _) (.int .i64 (0 : Int))).setCell (p := ⟨w.heap.size, 4, none⟩) (Nat.le_refl _) (.int .i64 ((k.toNat : Int) % 16))).setCell (p := ⟨w.heap.size, 5, none⟩) (Nat.le_refl _) (.bool T)).setCell (p := ⟨w.heap.size, 6, none⟩) (Nat.le_refl _) (.string ⟨#[]⟩))
    simp only [List.setIfInBounds_toArray, List.set_cons_succ, List.set_cons_zero] at B7
    have y0 := B7.cell 0
    have y1 := B7.cell 1
    have y2 := B7.cell 2
    have y3 := B7.cell 3
    have y4 := B7.cell 4
    have y5 := B7.cell 5
    have y6 := B7.cell 6
    exact bodyPost_ret (v := .tuple #[entV ⟨(0 : Int), (0 : Int), (0 : Int), (0 : Int), ((k.toNat : Int) % 16), T, ⟨#[]⟩⟩, .bool false]) (by simp [results, Try.results77, go_sem, entV, y0, y1, y2, y3, y4, y5, y6]) rfl ⟨⟨(0 : Int), (0 : Int), (0 : Int), (0 : Int), ((k.toNat : Int) % 16), T, ⟨#[]⟩⟩, false, rfl, fun e => by simp at e, fun _ => entP_big h32, L7⟩
  · have d32 : decide ((32 : Int) ≤ (k.toNat : Int)) = false := decide_eq_false (by omega)
    have bX2 := bX.alloc (.cells #[.int .i64 0, .int .i64 0, .int .i64 0, .int .i64 0] 3)
    have bE2 := bE1.alloc (.cells #[.int .i64 0, .int .i64 0, .int .i64 0, .int .i64 0] 3)
    have bN2 : Blk (W1.alloc (.cells #[.int .i64 0, .int .i64 0, .int .i64 0, .int .i64 0] 3)) (w.heap.size + 2) 3 (padN []) := by rw [← hs1]; exact Blk.new W1 _ _
    have hb2 : Below w.heap.size w (W1.alloc (.cells #[.int .i64 0, .int .i64 0, .int .i64 0, .int .i64 0] 3)) := hb1.alloc (by omega) _
    have hmk : ∀ w, (Instr.makeSlice 23 (.int .i64 4) (.int .i64 4)).run Try.prog w = .ok (.slice (some ⟨w.heap.size, 0, none⟩) 4 4) (w.alloc (.cells #[.int .i64 0, .int .i64 0, .int .i64 0, .int .i64 0] 3)) := fun _ => by kernel_rfl
    clear bX bE1 hb1
    go_wp2
    generalize (W1.alloc (.cells #[.int .i64 0, .int .i64 0, .int .i64 0, .int .i64 0] 3)) = W2 at *
    go_loopw [5, 7] (fun a i wr => NumsAt w r (r.length + 1) k T a i wr) (fun _ i _ => 4 - (intOf i).toNat)
    case atStart => exact ⟨0, 1, [], r, by omega, rfl, rfl, by omega, rfl, ⟨rfl, rfl⟩, bE2, bX2, bN2, hb2⟩
    case round =>
      obtain ⟨j, at_, ns, rr, hj, rfl, rfl, hat, hdr, hns, cE, cX, cN, hbl'⟩ := hrel
      clear bX2 bE2 bN2 hb2 X
      clear x0 e0 f0 x1 e1 f1 x2 e2 f2 x3 e3 f3 x4 e4 f4 x5 e5 f5 x6 e6 f6
      have hnl := numsTo_len hns.out
      have hvw := hvB.out.below hbl'
      have x0 := cX.cell 0
      have x1 := cX.cell 1
      have x2 := cX.cell 2
      have x3 := cX.cell 3
      have x4 := cX.cell 4
      have x5 := cX.cell 5
      have x6 := cX.cell 6
      have e0 := cE.cell 0
      have e1 := cE.cell 1
      have e2 := cE.cell 2
      have e3 := cE.cell 3
      have e4 := cE.cell 4
      have e5 := cE.cell 5
      have e6 := cE.cell 6
      have f0 := cE.frozen 0
      have f1 := cE.frozen 1
      have f2 := cE.frozen 2
      have f3 := cE.frozen 3
      have f4 := cE.frozen 4
      have f5 := cE.frozen 5
      have f6 := cE.frozen 6
      have g0 := cX.frozen 0
      have g1 := cX.frozen 1
      have g2 := cX.frozen 2
      have g3 := cX.frozen 3
      have g4 := cX.frozen 4
      have g5 := cX.frozen 5
      have g6 := cX.frozen 6
      by_cases hlt : j < 4
      · have q1 := cN.cell j
        have q2 := cN.frozen j
        have q3 := padN_get (ns := ns) (by omega)
        rw [hnl] at q3
        rw [q3] at q1
        clear q3
        rcases hn : numP rr with _ | ⟨m, r'⟩
        · have hres : natRes (k :: r) at_ = .tuple #[.int .i64 0, .int .i64 (-1)] := by rw [natRes, hdr.out, hn]
          have HN := Lib.hid hn
          clear hn
          have cE3 := cE.far (p := ⟨w.heap.size + 2, j, none⟩) (by simp) (.int .i64 0)
          have hb3 : Below w.heap.size w (wr.setCell ⟨w.heap.size + 2, j, none⟩ (.int .i64 0)) := hbl'.setCell (by simp) _
          go_wp2_with fail
          refine (numberAt_any _ _ at_ wr hvw (by simpa using hat) (by simp; omega)).mono ?_
          rintro e W3 ⟨rfl, rfl⟩
          rw [hres]
          go_wp2
          have B7 := (((((((cE3.set_ 0 (.int .i64 (0 : Int))).set_ 1 (.int .i64 (0 : Int))).set_ 2 (.int .i64 (0 : Int))).set_ 3 (.int .i64 (0 : Int))).set_ 4 (.int .i64 ((k.toNat : Int) % 16))).set_ 5 (.bool T)).set_ 6 (.string ⟨#[]⟩))
          have L7 := (((((((hb3.setCell (p := ⟨w.heap.size, 0, none⟩) (Nat.le_refl _) (.int .i64 (0 : Int))).setCell (p := ⟨w.heap.size, 1, none⟩) (Nat.le_refl _) (.int .i64 (0 : Int))).setCell (p := ⟨w.heap.size, 2, none⟩) (Nat.le_refl _) (.int .i64 (0 : Int))).setCell (p := ⟨w.heap.size, 3, none⟩) (Nat.le_refl _) (.int .i64 (0 : Int))).setCell (p := ⟨w.heap.size, 4, none⟩) (Nat.le_refl _) (.int .i64 ((k.toNat : Int) % 16))).setCell (p := ⟨w.heap.size, 5, none⟩) (Nat.le_refl _) (.bool T)).setCell (p := ⟨w.heap.size, 6, none⟩) (Nat.le_refl _) (.string ⟨#[]⟩))
          simp only [List.setIfInBounds_toArray, List.set_cons_succ, List.set_cons_zero] at B7
          have y0 := B7.cell 0
          have y1 := B7.cell 1
          have y2 := B7.cell 2
          have y3 := B7.cell 3
          have y4 := B7.cell 4
          have y5 := B7.cell 5
          have y6 := B7.cell 6
          exact bodyPost_ret (v := .tuple #[entV ⟨(0 : Int), (0 : Int), (0 : Int), (0 : Int), ((k.toNat : Int) % 16), T, ⟨#[]⟩⟩, .bool false]) (by simp [results, Try.results77, go_sem, entV, y0, y1, y2, y3, y4, y5, y6]) rfl ⟨⟨(0 : Int), (0 : Int), (0 : Int), (0 : Int), ((k.toNat : Int) % 16), T, ⟨#[]⟩⟩, false, rfl, fun e => by simp at e, fun _ => numsTo_none hns.out hlt HN.out k, L7⟩
        · have HN := Lib.hid hn
          clear hn
          have hres : natRes (k :: r) at_ = .tuple #[.int .i64 m, .int .i64 ((r.length + 1 - r'.length : Nat) : Int)] := by rw [natRes, hdr.out, HN.out]; rfl
          obtain ⟨p, hp, hp0⟩ := numGo_suffix 5 0 0 rr m r' HN.out
          have hlr : rr.length = r.length + 1 - at_ := by rw [← hdr.out, List.length_drop]; rfl
          have hlp : rr.length = p.length + r'.length := by rw [hp, List.length_append]
          have hdr2 : (k :: r).drop (r.length + 1 - r'.length) = r' := by
            have e1 : r.length + 1 - r'.length = at_ + p.length := by omega
            rw [e1, ← List.drop_drop, hdr.out, hp, List.drop_left]
          have HD2 := Lib.hid hdr2
          have HRES := Lib.hid hres
          have ha2 : r.length + 1 - r'.length ≤ r.length + 1 := by omega
          have HP := Lib.hid hp
          clear hdr2 hres hp
          generalize r.length + 1 - r'.length = at2 at *
          have cE3 := cE.far (p := ⟨w.heap.size + 2, j, none⟩) (by simp) (.int .i64 (m : Int))
          have cX3 := cX.far (p := ⟨w.heap.size + 2, j, none⟩) (by simp) (.int .i64 (m : Int))
          have hpad := padN_set (ns := ns) (m := m) (by omega)
          have cN3 := cN.set_ ns.length (.int .i64 (m : Int))
          rw [hpad, hnl] at cN3
          have hb3 : Below w.heap.size w (wr.setCell ⟨w.heap.size + 2, j, none⟩ (.int .i64 (m : Int))) := hbl'.setCell (by simp) _
          clear hpad
          go_wp2_with fail
          refine (numberAt_any _ _ at_ wr hvw (by simpa using hat) (by simp; omega)).mono ?_
          rintro e W3 ⟨rfl, rfl⟩
          rw [HRES.out]
          go_wp2
          go_light
          exact ⟨⟨j + 1, at2, ns ++ [m], r', by omega, by go_num, rfl, ha2, HD2, ⟨ns, rr, m, hns.out, HN.out, rfl⟩, cE3, cX3, cN3, hb3⟩, by simp [intOf]; omega⟩
      · obtain rfl : j = 4 := by omega
        obtain ⟨a0, a1, a2, a3, l1, l2, l3, rfl, p0, p1, p2, p3⟩ := numsTo_four hns.out
        have hval := entP_val (k := k) (r := r) (by omega) p0 p1 p2 p3
        have HV := Lib.hid hval
        clear hval p0 p1 p2 p3
        have m0 := cN.cell 0
        have m1 := cN.cell 1
        have m2 := cN.cell 2
        have m3 := cN.cell 3
        simp [padN] at m0 m1 m2 m3
        have cX6 := (((((cX.set_ 0 (.int .i64 (a0 : Int))).set_ 1 (.int .i64 (a1 : Int))).set_ 2 (.int .i64 (a2 : Int))).set_ 3 (.int .i64 (a3 : Int))).set_ 6 (.string ⟨rr.toArray⟩))
        have cE6 := (((((cE.far (p := ⟨w.heap.size + 1, 0, none⟩) (by simp) (.int .i64 (a0 : Int))).far (p := ⟨w.heap.size + 1, 1, none⟩) (by simp) (.int .i64 (a1 : Int))).far (p := ⟨w.heap.size + 1, 2, none⟩) (by simp) (.int .i64 (a2 : Int))).far (p := ⟨w.heap.size + 1, 3, none⟩) (by simp) (.int .i64 (a3 : Int))).far (p := ⟨w.heap.size + 1, 6, none⟩) (by simp) (.string ⟨rr.toArray⟩))
        have hb6 : Below w.heap.size w (((((wr.setCell ⟨w.heap.size + 1, 0, none⟩ (.int .i64 (a0 : Int))).setCell ⟨w.heap.size + 1, 1, none⟩ (.int .i64 (a1 : Int))).setCell ⟨w.heap.size + 1, 2, none⟩ (.int .i64 (a2 : Int))).setCell ⟨w.heap.size + 1, 3, none⟩ (.int .i64 (a3 : Int))).setCell ⟨w.heap.size + 1, 6, none⟩ (.string ⟨rr.toArray⟩)) := (((((hbl'.setCell (by simp) _).setCell (by simp) _).setCell (by simp) _).setCell (by simp) _).setCell (by simp) _)
        have hwr2 : w.heap.size + 2 < wr.heap.size := cN.lt
        have hs6 : w.heap.size + 2 < (((((wr.setCell ⟨w.heap.size + 1, 0, none⟩ (.int .i64 (a0 : Int))).setCell ⟨w.heap.size + 1, 1, none⟩ (.int .i64 (a1 : Int))).setCell ⟨w.heap.size + 1, 2, none⟩ (.int .i64 (a2 : Int))).setCell ⟨w.heap.size + 1, 3, none⟩ (.int .i64 (a3 : Int))).setCell ⟨w.heap.size + 1, 6, none⟩ (.string ⟨rr.toArray⟩)).heap.size := by simp only [size_setCell]; exact hwr2
        simp only [List.setIfInBounds_toArray, List.set_cons_succ, List.set_cons_zero] at cX6
        obtain rfl : decide (k.toNat / 16 = 1) = T := HDV.out.symm
        generalize hF : entryFault (a0 : Int) (a1 : Int) (a2 : Int) (a3 : Int) ((k.toNat : Int) % 16) (decide (k.toNat / 16 = 1)) (⟨rr.toArray⟩ : ByteArray).size = F at *
        have HF := Lib.hid hF
        clear hF
        generalize hTT : decide (k.toNat / 16 = 1) = T at *
        have HTT := Lib.hid hTT
        clear hTT
        have hq1 : (F == 0) = true → entP (k :: r) = some ⟨(a0 : Int), (a1 : Int), (a2 : Int), (a3 : Int), (k.toNat : Int) % 16, T, ⟨rr.toArray⟩⟩ := fun e => by rw [HV.out]; exact if_pos (by simpa using e)
        have hq2 : (F == 0) = false → entP (k :: r) = none := fun e => by rw [HV.out]; exact if_neg (by simpa using e)
        have HQ1 := Lib.hid hq1
        have HQ2 := Lib.hid hq2
        clear hq1 hq2
        have hsz4 : (⟨rr.toArray⟩ : ByteArray).size = rr.length := by simp [ByteArray.size]
        have HF2 := Lib.hid (hsz4 ▸ HF.out)
        clear hsz4 hvw
        by_cases hac : at_ = c
        · subst hac
          have hr0 : rr = [] := List.eq_nil_of_length_eq_zero (by rw [← hdr.out, List.length_drop]; simp only [List.length_cons]; omega)
          have HR0 := Lib.hid hr0
          clear hr0
          have hyS : By ((((wr.setCell ⟨w.heap.size + 1, 0, none⟩ (.int .i64 (a0 : Int))).setCell ⟨w.heap.size + 1, 1, none⟩ (.int .i64 (a1 : Int))).setCell ⟨w.heap.size + 1, 2, none⟩ (.int .i64 (a2 : Int))).setCell ⟨w.heap.size + 1, 3, none⟩ (.int .i64 (a3 : Int))) (.slice (some ⟨b, off, none⟩) 0 0) [] := ⟨by simp [bvs], _, _, rfl, Nat.le_refl _, fun hn => absurd hn (by simp)⟩
          have hcv := By.convert_ hyS
          rw [← HR0.out] at hcv
          have hat2 : at_ = r.length + 1 := by omega
          have HF3 := HF2
          go_wp2
          clear cX cE cN m0 m1 m2 m3 hcv hyS hdr hns x0 e0 f0 g0 x1 e1 f1 g1 x2 e2 f2 g2 x3 e3 f3 g3 x4 e4 f4 g4 x5 e5 f5 g5 x6 e6 f6 g6
          generalize (((((wr.setCell ⟨w.heap.size + 1, 0, none⟩ (.int .i64 (a0 : Int))).setCell ⟨w.heap.size + 1, 1, none⟩ (.int .i64 (a1 : Int))).setCell ⟨w.heap.size + 1, 2, none⟩ (.int .i64 (a2 : Int))).setCell ⟨w.heap.size + 1, 3, none⟩ (.int .i64 (a3 : Int))).setCell ⟨w.heap.size + 1, 6, none⟩ (.string ⟨rr.toArray⟩)) = W6 at *
          have x0 := cX6.cell 0
          have x1 := cX6.cell 1
          have x2 := cX6.cell 2
          have x3 := cX6.cell 3
          have x4 := cX6.cell 4
          have x5 := cX6.cell 5
          have x6 := cX6.cell 6
          have e0 := cE6.cell 0
          have e1 := cE6.cell 1
          have e2 := cE6.cell 2
          have e3 := cE6.cell 3
          have e4 := cE6.cell 4
          have e5 := cE6.cell 5
          have e6 := cE6.cell 6
          have f0 := cE6.frozen 0
          have f1 := cE6.frozen 1
          have f2 := cE6.frozen 2
          have f3 := cE6.frozen 3
          have f4 := cE6.frozen 4
          have f5 := cE6.frozen 5
          have f6 := cE6.frozen 6
          have hlt6 : w.heap.size + 1 < W6.heap.size := by omega
          have hlt7 : w.heap.size < W6.heap.size := by omega
          go_region_with ((go_at_call 97; refine (EntryFault_any _ _ _ _ _ _ _ _).mono ?_; rintro e W7 ⟨rfl, hb7⟩; have hb67 := below_then ((Below.refl W6.heap.size W6).drew) hb7; have bX7 := cX6.below hb67 hlt6; have bE7 := cE6.below hb67 hlt7; have z0 := bX7.cell 0; have z1 := bX7.cell 1; have z2 := bX7.cell 2; have z3 := bX7.cell 3; have z4 := bX7.cell 4; have z5 := bX7.cell 5; have z6 := bX7.cell 6; have y0 := bE7.cell 0; have y1 := bE7.cell 1; have y2 := bE7.cell 2; have y3 := bE7.cell 3; have y4 := bE7.cell 4; have y5 := bE7.cell 5; have y6 := bE7.cell 6; have k0 := bE7.frozen 0; have k1 := bE7.frozen 1; have k2 := bE7.frozen 2; have k3 := bE7.frozen 3; have k4 := bE7.frozen 4; have k5 := bE7.frozen 5; have k6 := bE7.frozen 6; have hb07 := hb6.trans (hb67.mono hb6.size)))
          all_goals go_wp2
          all_goals (
            have B7 := (((((((bE7.set_ 0 (.int .i64 (a0 : Int))).set_ 1 (.int .i64 (a1 : Int))).set_ 2 (.int .i64 (a2 : Int))).set_ 3 (.int .i64 (a3 : Int))).set_ 4 (.int .i64 ((k.toNat : Int) % 16))).set_ 5 (.bool T)).set_ 6 (.string ⟨rr.toArray⟩))
            have L7 := (((((((hb07.setCell (p := ⟨w.heap.size, 0, none⟩) (Nat.le_refl _) (.int .i64 (a0 : Int))).setCell (p := ⟨w.heap.size, 1, none⟩) (Nat.le_refl _) (.int .i64 (a1 : Int))).setCell (p := ⟨w.heap.size, 2, none⟩) (Nat.le_refl _) (.int .i64 (a2 : Int))).setCell (p := ⟨w.heap.size, 3, none⟩) (Nat.le_refl _) (.int .i64 (a3 : Int))).setCell (p := ⟨w.heap.size, 4, none⟩) (Nat.le_refl _) (.int .i64 ((k.toNat : Int) % 16))).setCell (p := ⟨w.heap.size, 5, none⟩) (Nat.le_refl _) (.bool T)).setCell (p := ⟨w.heap.size, 6, none⟩) (Nat.le_refl _) (.string ⟨rr.toArray⟩))
            simp only [List.setIfInBounds_toArray, List.set_cons_succ, List.set_cons_zero] at B7
            have y0 := B7.cell 0
            have y1 := B7.cell 1
            have y2 := B7.cell 2
            have y3 := B7.cell 3
            have y4 := B7.cell 4
            have y5 := B7.cell 5
            have y6 := B7.cell 6
            exact bodyPost_ret (v := .tuple #[entV ⟨(a0 : Int), (a1 : Int), (a2 : Int), (a3 : Int), ((k.toNat : Int) % 16), T, ⟨rr.toArray⟩⟩, .bool (F == 0)]) (by simp [results, Try.results77, go_sem, entV, y0, y1, y2, y3, y4, y5, y6, HF3.out]) rfl ⟨⟨(a0 : Int), (a1 : Int), (a2 : Int), (a3 : Int), ((k.toNat : Int) % 16), T, ⟨rr.toArray⟩⟩, (F == 0), rfl, HQ1.out, HQ2.out, L7⟩)
        · have hi1 : at_ < c := by omega
          have hlr : rr.length = (k :: r).length - at_ := by rw [← hdr.out, List.length_drop]
          have hyS : By ((((wr.setCell ⟨w.heap.size + 1, 0, none⟩ (.int .i64 (a0 : Int))).setCell ⟨w.heap.size + 1, 1, none⟩ (.int .i64 (a1 : Int))).setCell ⟨w.heap.size + 1, 2, none⟩ (.int .i64 (a2 : Int))).setCell ⟨w.heap.size + 1, 3, none⟩ (.int .i64 (a3 : Int))) (.slice (some ⟨b, off + at_, none⟩) rr.length (c - at_)) rr := by
            have h0 := By.drop_ (hvB.out.below hbl') (i := at_) hat
            rw [hdr.out] at h0
            exact By.keep_ h0 (by simp [Value.ownBlock]; omega)
          have hcv := By.convert_ hyS
          have hlt' : at_ < c := by omega
          have hi2 : (at_ : Int) ≤ (r.length : Int) + 1 := by omega
          have hl2 : rr.length = r.length + 1 - at_ := by rw [hlr]; rfl
          rw [hl2] at hcv
          have hf3 := HF2.out
          rw [hl2] at hf3
          have HF3 := Lib.hid hf3
          clear hf3 hl2 HF2
          go_wp2
          clear cX cE cN m0 m1 m2 m3 hcv hyS hdr hns x0 e0 f0 g0 x1 e1 f1 g1 x2 e2 f2 g2 x3 e3 f3 g3 x4 e4 f4 g4 x5 e5 f5 g5 x6 e6 f6 g6
          generalize (((((wr.setCell ⟨w.heap.size + 1, 0, none⟩ (.int .i64 (a0 : Int))).setCell ⟨w.heap.size + 1, 1, none⟩ (.int .i64 (a1 : Int))).setCell ⟨w.heap.size + 1, 2, none⟩ (.int .i64 (a2 : Int))).setCell ⟨w.heap.size + 1, 3, none⟩ (.int .i64 (a3 : Int))).setCell ⟨w.heap.size + 1, 6, none⟩ (.string ⟨rr.toArray⟩)) = W6 at *
          have x0 := cX6.cell 0
          have x1 := cX6.cell 1
          have x2 := cX6.cell 2
          have x3 := cX6.cell 3
          have x4 := cX6.cell 4
          have x5 := cX6.cell 5
          have x6 := cX6.cell 6
          have e0 := cE6.cell 0
          have e1 := cE6.cell 1
          have e2 := cE6.cell 2
          have e3 := cE6.cell 3
          have e4 := cE6.cell 4
          have e5 := cE6.cell 5
          have e6 := cE6.cell 6
          have f0 := cE6.frozen 0
          have f1 := cE6.frozen 1
          have f2 := cE6.frozen 2
          have f3 := cE6.frozen 3
          have f4 := cE6.frozen 4
          have f5 := cE6.frozen 5
          have f6 := cE6.frozen 6
          have hlt6 : w.heap.size + 1 < W6.heap.size := by omega
          have hlt7 : w.heap.size < W6.heap.size := by omega
          go_region_with ((go_at_call 97; refine (EntryFault_any _ _ _ _ _ _ _ _).mono ?_; rintro e W7 ⟨rfl, hb7⟩; have hb67 := below_then ((Below.refl W6.heap.size W6).drew) hb7; have bX7 := cX6.below hb67 hlt6; have bE7 := cE6.below hb67 hlt7; have z0 := bX7.cell 0; have z1 := bX7.cell 1; have z2 := bX7.cell 2; have z3 := bX7.cell 3; have z4 := bX7.cell 4; have z5 := bX7.cell 5; have z6 := bX7.cell 6; have y0 := bE7.cell 0; have y1 := bE7.cell 1; have y2 := bE7.cell 2; have y3 := bE7.cell 3; have y4 := bE7.cell 4; have y5 := bE7.cell 5; have y6 := bE7.cell 6; have k0 := bE7.frozen 0; have k1 := bE7.frozen 1; have k2 := bE7.frozen 2; have k3 := bE7.frozen 3; have k4 := bE7.frozen 4; have k5 := bE7.frozen 5; have k6 := bE7.frozen 6; have hb07 := hb6.trans (hb67.mono hb6.size)))
          all_goals go_wp2
          all_goals (
            have B7 := (((((((bE7.set_ 0 (.int .i64 (a0 : Int))).set_ 1 (.int .i64 (a1 : Int))).set_ 2 (.int .i64 (a2 : Int))).set_ 3 (.int .i64 (a3 : Int))).set_ 4 (.int .i64 ((k.toNat : Int) % 16))).set_ 5 (.bool T)).set_ 6 (.string ⟨rr.toArray⟩))
            have L7 := (((((((hb07.setCell (p := ⟨w.heap.size, 0, none⟩) (Nat.le_refl _) (.int .i64 (a0 : Int))).setCell (p := ⟨w.heap.size, 1, none⟩) (Nat.le_refl _) (.int .i64 (a1 : Int))).setCell (p := ⟨w.heap.size, 2, none⟩) (Nat.le_refl _) (.int .i64 (a2 : Int))).setCell (p := ⟨w.heap.size, 3, none⟩) (Nat.le_refl _) (.int .i64 (a3 : Int))).setCell (p := ⟨w.heap.size, 4, none⟩) (Nat.le_refl _) (.int .i64 ((k.toNat : Int) % 16))).setCell (p := ⟨w.heap.size, 5, none⟩) (Nat.le_refl _) (.bool T)).setCell (p := ⟨w.heap.size, 6, none⟩) (Nat.le_refl _) (.string ⟨rr.toArray⟩))
            simp only [List.setIfInBounds_toArray, List.set_cons_succ, List.set_cons_zero] at B7
            have y0 := B7.cell 0
            have y1 := B7.cell 1
            have y2 := B7.cell 2
            have y3 := B7.cell 3
            have y4 := B7.cell 4
            have y5 := B7.cell 5
            have y6 := B7.cell 6
            exact bodyPost_ret (v := .tuple #[entV ⟨(a0 : Int), (a1 : Int), (a2 : Int), (a3 : Int), ((k.toNat : Int) % 16), T, ⟨rr.toArray⟩⟩, .bool (F == 0)]) (by simp [results, Try.results77, go_sem, entV, y0, y1, y2, y3, y4, y5, y6, HF3.out]) rfl ⟨⟨(a0 : Int), (a1 : Int), (a2 : Int), (a3 : Int), ((k.toNat : Int) % 16), T, ⟨rr.toArray⟩⟩, (F == 0), rfl, HQ1.out, HQ2.out, L7⟩)
end Go.Proofs.Ytpjjfnpdopdnkaa
