/- tailraceref.DoneOf. -/
import Derived.Test.YtjkoceacjbhblaaCoordJ
import Derived.BigRegion
import Derived.Test.YtjkoceacjbhblaaCDone
namespace Go.Proofs.Ytjkoceacjbhblaa
open Go.RowKit

theorem filter_miss {l : List Int} {x : Int} (h : x ∉ l) : l.filter (· != x) = l := List.filter_eq_self.2 fun y hy => by
  simp only [bne_iff_ne, ne_eq]
  exact fun e => h (e ▸ hy)
theorem filter_hit : ∀ {l : List Int} (_ : ∀ i j (_ : i < j) (hj : j < l.length), l[i] < l[j]) {x : Int} {k : Nat} (hk : k < l.length) (_ : l[k] = x), l.filter (· != x) = delAt l k
  | [], _, _, _, hk, _ => by simp at hk
  | y :: l, h, x, 0, _, e => by
    have e : y = x := e
    subst e
    have hm : y ∉ l := by
      intro hm
      obtain ⟨j, hj, e⟩ := List.mem_iff_getElem.1 hm
      have := h 0 (j + 1) (by omega) (by simpa using hj)
      simp at this
      omega
    rw [List.filter_cons_of_neg (by simp), filter_miss hm]
    rfl
  | y :: l, h, x, k + 1, hk, e => by
    have hk2 : k < l.length := by simpa using hk
    have e2 : l[k] = x := by simpa using e
    have hy : y < x := by
      have := h 0 (k + 1) (by omega) hk
      simp at this
      omega
    rw [List.filter_cons_of_pos (by simp; omega), filter_hit (l := l) (fun i j hij hj => by have := h (i + 1) (j + 1) (by omega) (by simpa using hj); simpa using this) hk2 e2]
    rfl
theorem filter_le (l : List Int) (k : Nat) (f : Int → Bool) : ((l.take k).filter f).length ≤ k := by
  have := List.length_filter_le f (l.take k)
  simp at this
  omega
theorem keep_row {w w' : World} {base B : Nat} {e : TypeId} {size n : Nat} {v : Value} {xs : List Value} (h : w.ownsRow base e size v n xs) (hb : Below B w w') (hB : w.heap.size ≤ B) : w'.ownsRow base e size v n xs := own_keep h hb fun k hk => by have := (h.lt k hk).2; omega
theorem Is.cells {w : World} {A : Option Addr} {c : Nat} {l : List Int} (h : Is w (.slice A l.length c) l) : 0 < l.length → ∃ b off, A = some ⟨b, off, none⟩ ∧ b < w.heap.size ∧ ∀ k (hk : k < l.length), w.cell? ⟨b, off + k, none⟩ = some (.int .i64 l[k]) := by
  obtain ⟨A', c', hv, -, hq⟩ := h.at_
  injection hv with h1 _ _
  subst h1
  exact hq
theorem own_at2 {w w0 : World} {e : TypeId} {size n : Nat} {v x : Value} {xs : List Value} (h : w.ownsRow w0.heap.size e size v n xs) : v.ownBlock = none ∨ v.ownBlock = x.ownBlock ∨ ∃ k, v.ownBlock = some k ∧ w0.heap.size ≤ k := by
  rcases hv : v.ownBlock with _ | k
  · exact Or.inl rfl
  · exact Or.inr (Or.inr ⟨k, rfl, (h.lt k hv).1⟩)
set_option maxRecDepth 100000 in
set_option maxHeartbeats 4000000 in
theorem doneOf_fault (v : Value) (c : CoordD) (s : ByteArray) (part : Int) (n : Int) (hf : NameFault c s n) (w : World) (h : Cv w v c) (hnm : ∀ t ∈ c.txns, t.name.size ≤ 9223372036854775807) (hs : s.size ≤ 9223372036854775807) :
    Calls Try.prog 50 #[v, .string s, .int .i64 part] w (CRes zeroC [.int .i64 (n)] w) := by
  obtain ⟨tv, rfl, hx, hlen⟩ := id h
  obtain ⟨A, m, rfl, -⟩ := hx.at_
  have H := Lib.hid h
  have HX := Lib.hid hx
  clear h hx
  unfold coordV at *
  obtain ⟨ck, nx, wt, ts⟩ := c
  simp only at *
  have hn0 : n ≠ 0 := by rcases hf with ⟨-, rfl⟩ | ⟨-, -, rfl⟩ <;> decide
  have n1 : (n == 0) = false := beq_eq_false_iff_ne.2 hn0
  have n2 : (n != 0) = true := by simpa using hn0
  have HF := Lib.hid hf
  clear hf hn0
  have HNM := Lib.hid hnm
  clear hnm
  go_enter Try.func50, Try.ntmps50
  go_wp2_with fail
  have hb1 : Below w.heap.size w ((w.alloc (.cells #[.int .i64 ck, .int .i64 nx, .int .i64 wt, .slice A ts.length m] 28)).alloc (.cells #[.int .i64 0, .int .i64 0, .int .i64 0, .slice none 0 0] 28)) := ((Below.refl _ _).alloc (by first | omega | (simp; done) | (simp; omega)) _).alloc (by first | omega | (simp; done) | (simp; omega)) _
  have hal1 : Below w.heap.size w ((w.alloc (.cells #[.int .i64 ck, .int .i64 nx, .int .i64 wt, .slice A ts.length m] 28)).alloc (.cells #[.int .i64 0, .int .i64 0, .int .i64 0, .slice none 0 0] 28)) := ((Below.refl _ _).alloc (by first | omega | (simp; done) | (simp; omega)) _).alloc (by first | omega | (simp; done) | (simp; omega)) _
  have b_bx1 : Blk ((w.alloc (.cells #[.int .i64 ck, .int .i64 nx, .int .i64 wt, .slice A ts.length m] 28)).alloc (.cells #[.int .i64 0, .int .i64 0, .int .i64 0, .slice none 0 0] 28)) (w.heap.size) 28 #[.int .i64 ck, .int .i64 nx, .int .i64 wt, .slice A ts.length m] := (Blk.new_ _ 28 #[.int .i64 ck, .int .i64 nx, .int .i64 wt, .slice A ts.length m] (by first | rfl | (simp; done) | (simp; omega))).alloc _
  have b_bz1 : Blk ((w.alloc (.cells #[.int .i64 ck, .int .i64 nx, .int .i64 wt, .slice A ts.length m] 28)).alloc (.cells #[.int .i64 0, .int .i64 0, .int .i64 0, .slice none 0 0] 28)) (w.heap.size + 1) 28 #[.int .i64 0, .int .i64 0, .int .i64 0, .slice none 0 0] := Blk.new_ _ 28 #[.int .i64 0, .int .i64 0, .int .i64 0, .slice none 0 0] (by first | rfl | (simp; done) | (simp; omega))
  have k_c1 := H.out.below hal1
  have hz1 : w.heap.size + 2 ≤ ((w.alloc (.cells #[.int .i64 ck, .int .i64 nx, .int .i64 wt, .slice A ts.length m] 28)).alloc (.cells #[.int .i64 0, .int .i64 0, .int .i64 0, .slice none 0 0] 28)).heap.size := by first | omega | (simp; done) | (simp; omega)
  generalize (w.alloc (.cells #[.int .i64 ck, .int .i64 nx, .int .i64 wt, .slice A ts.length m] 28)).alloc (.cells #[.int .i64 0, .int .i64 0, .int .i64 0, .slice none 0 0] 28) = W1 at *
  have HB1 := Lib.hid hb1
  have B1_bx := Lib.hid b_bx1
  have B1_bz := Lib.hid b_bz1
  have K1_c := Lib.hid k_c1
  clear hb1 b_bx1 b_bz1 k_c1
  clear H
  refine (coordFault_any _ ⟨ck, nx, wt, ts⟩ s n _ K1_c.out HNM.out hs (Or.inl HF.out)).mono ?_
  rintro e W2 ⟨rfl, hb⟩
  have hb2 : Below w.heap.size w W2 := below_then HB1.out hb
  have b_bx2 := B1_bx.out.below hb B1_bx.out.lt
  have b_bz2 := B1_bz.out.below hb B1_bz.out.lt
  have k_c2 := K1_c.out.below hb
  have hz2 := hb.size
  have HB2 := Lib.hid hb2
  have B2_bx := Lib.hid b_bx2
  have B2_bz := Lib.hid b_bz2
  have K2_c := Lib.hid k_c2
  clear hb2 b_bx2 b_bz2 k_c2
  clear B1_bx B1_bz HB1 K1_c
  have c_bx0 := B2_bx.out.cell 0
  have c_bx1 := B2_bx.out.cell 1
  have c_bx2 := B2_bx.out.cell 2
  have c_bx3 := B2_bx.out.cell 3
  have l_bx := B2_bx.out.lt
  have c_bz0 := B2_bz.out.cell 0
  have f_bz0 := B2_bz.out.frozen 0
  have c_bz1 := B2_bz.out.cell 1
  have f_bz1 := B2_bz.out.frozen 1
  have c_bz2 := B2_bz.out.cell 2
  have f_bz2 := B2_bz.out.frozen 2
  have c_bz3 := B2_bz.out.cell 3
  have f_bz3 := B2_bz.out.frozen 3
  have l_bz := B2_bz.out.lt
  go_wp2_with fail
  clear c_bx0 c_bx1 c_bx2 c_bx3 l_bx c_bz0 f_bz0 c_bz1 f_bz1 c_bz2 f_bz2 c_bz3 f_bz3 l_bz
  have hszF := HB2.out.size
  have hbF : Below w.heap.size w ((((W2.setCell ⟨w.heap.size + 1, 0, none⟩ (.int .i64 0)).setCell ⟨w.heap.size + 1, 1, none⟩ (.int .i64 0)).setCell ⟨w.heap.size + 1, 2, none⟩ (.int .i64 0)).setCell ⟨w.heap.size + 1, 3, none⟩ (.slice none 0 0)) := ((((HB2.out).setCell (by show w.heap.size ≤ w.heap.size + 1; omega) _).setCell (by show w.heap.size ≤ w.heap.size + 1; omega) _).setCell (by show w.heap.size ≤ w.heap.size + 1; omega) _).setCell (by show w.heap.size ≤ w.heap.size + 1; omega) _
  have b_bxF : Blk ((((W2.setCell ⟨w.heap.size + 1, 0, none⟩ (.int .i64 0)).setCell ⟨w.heap.size + 1, 1, none⟩ (.int .i64 0)).setCell ⟨w.heap.size + 1, 2, none⟩ (.int .i64 0)).setCell ⟨w.heap.size + 1, 3, none⟩ (.slice none 0 0)) (w.heap.size) 28 #[.int .i64 ck, .int .i64 nx, .int .i64 wt, .slice A ts.length m] := ((((B2_bx.out).far (p := ⟨w.heap.size + 1, 0, none⟩) (by show w.heap.size ≠ w.heap.size + 1; omega) _).far (p := ⟨w.heap.size + 1, 1, none⟩) (by show w.heap.size ≠ w.heap.size + 1; omega) _).far (p := ⟨w.heap.size + 1, 2, none⟩) (by show w.heap.size ≠ w.heap.size + 1; omega) _).far (p := ⟨w.heap.size + 1, 3, none⟩) (by show w.heap.size ≠ w.heap.size + 1; omega) _
  have b_bzF : Blk ((((W2.setCell ⟨w.heap.size + 1, 0, none⟩ (.int .i64 0)).setCell ⟨w.heap.size + 1, 1, none⟩ (.int .i64 0)).setCell ⟨w.heap.size + 1, 2, none⟩ (.int .i64 0)).setCell ⟨w.heap.size + 1, 3, none⟩ (.slice none 0 0)) (w.heap.size + 1) 28 #[.int .i64 0, .int .i64 0, .int .i64 0, .slice none 0 0] := ((((B2_bz.out).set_ 0 _).set_ 1 _).set_ 2 _).set_ 3 _
  have y0 := b_bzF.cell 0
  have y1 := b_bzF.cell 1
  have y2 := b_bzF.cell 2
  have y3 := b_bzF.cell 3
  exact bodyPost_ret (v := .tuple #[.agg #[.int .i64 0, .int .i64 0, .int .i64 0, .slice none 0 0], .int .i64 (n)]) (by simp [results, Try.results50, go_sem, y0, y1, y2, y3]) rfl (CRes.zero hbF)
set_option maxRecDepth 100000 in
set_option maxHeartbeats 4000000 in
theorem doneOf_none (v : Value) (c : CoordD) (s : ByteArray) (part : Int) (hk : CoordOk c) (hn : NameOk s) (hi : idxOf c.txns s = none) (w : World) (h : Cv w v c) (hnm : ∀ t ∈ c.txns, t.name.size ≤ 9223372036854775807) (hs : s.size ≤ 9223372036854775807) :
    Calls Try.prog 50 #[v, .string s, .int .i64 part] w (CRes zeroC [.int .i64 (5)] w) := by
  obtain ⟨tv, rfl, hx, hlen⟩ := id h
  obtain ⟨A, m, rfl, -⟩ := hx.at_
  have H := Lib.hid h
  have HX := Lib.hid hx
  clear h hx
  unfold coordV at *
  obtain ⟨ck, nx, wt, ts⟩ := c
  simp only at *
  have hix : ixOf ts s = -1 := by simp [ixOf, hi]
  have HI := Lib.hid hix
  have HK := Lib.hid hk
  have HN := Lib.hid hn
  have HNM := Lib.hid hnm
  clear hk hn hi hix hnm
  go_enter Try.func50, Try.ntmps50
  go_wp2_with fail
  have hb1 : Below w.heap.size w ((w.alloc (.cells #[.int .i64 ck, .int .i64 nx, .int .i64 wt, .slice A ts.length m] 28)).alloc (.cells #[.int .i64 0, .int .i64 0, .int .i64 0, .slice none 0 0] 28)) := ((Below.refl _ _).alloc (by first | omega | (simp; done) | (simp; omega)) _).alloc (by first | omega | (simp; done) | (simp; omega)) _
  have hal1 : Below w.heap.size w ((w.alloc (.cells #[.int .i64 ck, .int .i64 nx, .int .i64 wt, .slice A ts.length m] 28)).alloc (.cells #[.int .i64 0, .int .i64 0, .int .i64 0, .slice none 0 0] 28)) := ((Below.refl _ _).alloc (by first | omega | (simp; done) | (simp; omega)) _).alloc (by first | omega | (simp; done) | (simp; omega)) _
  have b_bx1 : Blk ((w.alloc (.cells #[.int .i64 ck, .int .i64 nx, .int .i64 wt, .slice A ts.length m] 28)).alloc (.cells #[.int .i64 0, .int .i64 0, .int .i64 0, .slice none 0 0] 28)) (w.heap.size) 28 #[.int .i64 ck, .int .i64 nx, .int .i64 wt, .slice A ts.length m] := (Blk.new_ _ 28 #[.int .i64 ck, .int .i64 nx, .int .i64 wt, .slice A ts.length m] (by first | rfl | (simp; done) | (simp; omega))).alloc _
  have b_bz1 : Blk ((w.alloc (.cells #[.int .i64 ck, .int .i64 nx, .int .i64 wt, .slice A ts.length m] 28)).alloc (.cells #[.int .i64 0, .int .i64 0, .int .i64 0, .slice none 0 0] 28)) (w.heap.size + 1) 28 #[.int .i64 0, .int .i64 0, .int .i64 0, .slice none 0 0] := Blk.new_ _ 28 #[.int .i64 0, .int .i64 0, .int .i64 0, .slice none 0 0] (by first | rfl | (simp; done) | (simp; omega))
  have k_c1 := H.out.below hal1
  have hz1 : w.heap.size + 2 ≤ ((w.alloc (.cells #[.int .i64 ck, .int .i64 nx, .int .i64 wt, .slice A ts.length m] 28)).alloc (.cells #[.int .i64 0, .int .i64 0, .int .i64 0, .slice none 0 0] 28)).heap.size := by first | omega | (simp; done) | (simp; omega)
  generalize (w.alloc (.cells #[.int .i64 ck, .int .i64 nx, .int .i64 wt, .slice A ts.length m] 28)).alloc (.cells #[.int .i64 0, .int .i64 0, .int .i64 0, .slice none 0 0] 28) = W1 at *
  have HB1 := Lib.hid hb1
  have B1_bx := Lib.hid b_bx1
  have B1_bz := Lib.hid b_bz1
  have K1_c := Lib.hid k_c1
  clear hb1 b_bx1 b_bz1 k_c1
  clear H
  refine (coordFault_any _ ⟨ck, nx, wt, ts⟩ s 0 _ K1_c.out HNM.out hs (Or.inr ⟨HK.out, HN.out, rfl⟩)).mono ?_
  rintro e W2 ⟨rfl, hb⟩
  have hb2 : Below w.heap.size w W2 := below_then HB1.out hb
  have b_bx2 := B1_bx.out.below hb B1_bx.out.lt
  have b_bz2 := B1_bz.out.below hb B1_bz.out.lt
  have k_c2 := K1_c.out.below hb
  have hz2 := hb.size
  have HB2 := Lib.hid hb2
  have B2_bx := Lib.hid b_bx2
  have B2_bz := Lib.hid b_bz2
  have K2_c := Lib.hid k_c2
  clear hb2 b_bx2 b_bz2 k_c2
  clear B1_bx B1_bz HB1 K1_c
  have c_bx0 := B2_bx.out.cell 0
  have c_bx1 := B2_bx.out.cell 1
  have c_bx2 := B2_bx.out.cell 2
  have c_bx3 := B2_bx.out.cell 3
  have l_bx := B2_bx.out.lt
  go_wp2_with fail
  clear c_bx0 c_bx1 c_bx2 c_bx3 l_bx
  refine (txnOf_any _ ⟨ck, nx, wt, ts⟩ s _ K2_c.out).mono ?_
  rintro e W3 ⟨rfl, hb⟩
  simp only
  rw [HI.out]
  have hb3 : Below w.heap.size w W3 := below_then HB2.out hb
  have b_bx3 := B2_bx.out.below hb B2_bx.out.lt
  have b_bz3 := B2_bz.out.below hb B2_bz.out.lt
  have k_c3 := K2_c.out.below hb
  have hz3 := hb.size
  have HB3 := Lib.hid hb3
  have B3_bx := Lib.hid b_bx3
  have B3_bz := Lib.hid b_bz3
  have K3_c := Lib.hid k_c3
  clear hb3 b_bx3 b_bz3 k_c3
  clear B2_bx B2_bz HB2 K2_c
  have c_bx0 := B3_bx.out.cell 0
  have c_bx1 := B3_bx.out.cell 1
  have c_bx2 := B3_bx.out.cell 2
  have c_bx3 := B3_bx.out.cell 3
  have l_bx := B3_bx.out.lt
  have c_bz0 := B3_bz.out.cell 0
  have f_bz0 := B3_bz.out.frozen 0
  have c_bz1 := B3_bz.out.cell 1
  have f_bz1 := B3_bz.out.frozen 1
  have c_bz2 := B3_bz.out.cell 2
  have f_bz2 := B3_bz.out.frozen 2
  have c_bz3 := B3_bz.out.cell 3
  have f_bz3 := B3_bz.out.frozen 3
  have l_bz := B3_bz.out.lt
  go_wp2_with fail
  clear c_bx0 c_bx1 c_bx2 c_bx3 l_bx c_bz0 f_bz0 c_bz1 f_bz1 c_bz2 f_bz2 c_bz3 f_bz3 l_bz
  have hszF := HB3.out.size
  have hbF : Below w.heap.size w ((((W3.setCell ⟨w.heap.size + 1, 0, none⟩ (.int .i64 0)).setCell ⟨w.heap.size + 1, 1, none⟩ (.int .i64 0)).setCell ⟨w.heap.size + 1, 2, none⟩ (.int .i64 0)).setCell ⟨w.heap.size + 1, 3, none⟩ (.slice none 0 0)) := ((((HB3.out).setCell (by show w.heap.size ≤ w.heap.size + 1; omega) _).setCell (by show w.heap.size ≤ w.heap.size + 1; omega) _).setCell (by show w.heap.size ≤ w.heap.size + 1; omega) _).setCell (by show w.heap.size ≤ w.heap.size + 1; omega) _
  have b_bxF : Blk ((((W3.setCell ⟨w.heap.size + 1, 0, none⟩ (.int .i64 0)).setCell ⟨w.heap.size + 1, 1, none⟩ (.int .i64 0)).setCell ⟨w.heap.size + 1, 2, none⟩ (.int .i64 0)).setCell ⟨w.heap.size + 1, 3, none⟩ (.slice none 0 0)) (w.heap.size) 28 #[.int .i64 ck, .int .i64 nx, .int .i64 wt, .slice A ts.length m] := ((((B3_bx.out).far (p := ⟨w.heap.size + 1, 0, none⟩) (by show w.heap.size ≠ w.heap.size + 1; omega) _).far (p := ⟨w.heap.size + 1, 1, none⟩) (by show w.heap.size ≠ w.heap.size + 1; omega) _).far (p := ⟨w.heap.size + 1, 2, none⟩) (by show w.heap.size ≠ w.heap.size + 1; omega) _).far (p := ⟨w.heap.size + 1, 3, none⟩) (by show w.heap.size ≠ w.heap.size + 1; omega) _
  have b_bzF : Blk ((((W3.setCell ⟨w.heap.size + 1, 0, none⟩ (.int .i64 0)).setCell ⟨w.heap.size + 1, 1, none⟩ (.int .i64 0)).setCell ⟨w.heap.size + 1, 2, none⟩ (.int .i64 0)).setCell ⟨w.heap.size + 1, 3, none⟩ (.slice none 0 0)) (w.heap.size + 1) 28 #[.int .i64 0, .int .i64 0, .int .i64 0, .slice none 0 0] := ((((B3_bz.out).set_ 0 _).set_ 1 _).set_ 2 _).set_ 3 _
  have y0 := b_bzF.cell 0
  have y1 := b_bzF.cell 1
  have y2 := b_bzF.cell 2
  have y3 := b_bzF.cell 3
  exact bodyPost_ret (v := .tuple #[.agg #[.int .i64 0, .int .i64 0, .int .i64 0, .slice none 0 0], .int .i64 (5)]) (by simp [results, Try.results50, go_sem, y0, y1, y2, y3]) rfl (CRes.zero hbF)
set_option maxRecDepth 100000 in
set_option maxHeartbeats 4000000 in
theorem doneOf_state (v : Value) (c : CoordD) (s : ByteArray) (part : Int) (i : Nat) (hk : CoordOk c) (hn : NameOk s) (hi : idxOf c.txns s = some i) (hl : i < c.txns.length) (st : Int) (hst : c.txns[i].state = st) (h3 : st ≠ 3) (h4 : st ≠ 4) (w : World) (h : Cv w v c) (hnm : ∀ t ∈ c.txns, t.name.size ≤ 9223372036854775807) (hs : s.size ≤ 9223372036854775807) :
    Calls Try.prog 50 #[v, .string s, .int .i64 part] w (CRes zeroC [.int .i64 (12)] w) := by
  obtain ⟨tv, rfl, hx, hlen⟩ := id h
  obtain ⟨A, m, rfl, -⟩ := hx.at_
  obtain ⟨b, off, -, -, rfl, -⟩ := hx.row (Below.refl _ _) i hl
  have H := Lib.hid h
  have HX := Lib.hid hx
  clear h hx
  unfold coordV at *
  obtain ⟨ck, nx, wt, ts⟩ := c
  simp only at *
  have hix : ixOf ts s = i := (ix_some hi).2
  have HI := Lib.hid hix
  have HK := Lib.hid hk
  have HN := Lib.hid hn
  have HST := Lib.hid hst
  have HNM := Lib.hid hnm
  have i0 : (0 : Int) ≤ (i : Int) := by omega
  have i1 : (i : Int) < (ts.length : Int) := Int.ofNat_lt.2 hl
  have i2 : decide ((i : Int) < 0) = false := decide_eq_false (by omega)
  obtain ⟨hbw, A3, m3, x0, x1, x2, x3, x4, x5, x6, xi⟩ := HX.out.rowAt (Below.refl _ _) i hl
  have xc := Is.cells xi
  have HBW := Lib.hid hbw
  have XS := Lib.hid (show w.cell? ⟨b, off + i * 7, none⟩ = some (.string ts[i].name) ∧ w.cell? ⟨b, off + i * 7 + 1, none⟩ = some (.int .i64 ts[i].pid) ∧ w.cell? ⟨b, off + i * 7 + 2, none⟩ = some (.int .i64 ts[i].ver) ∧ w.cell? ⟨b, off + i * 7 + 3, none⟩ = some (.int .i64 ts[i].state) ∧ w.cell? ⟨b, off + i * 7 + 4, none⟩ = some (.slice A3 ts[i].parts.length m3) ∧ w.cell? ⟨b, off + i * 7 + 5, none⟩ = some (.int .i64 ts[i].since) ∧ w.cell? ⟨b, off + i * 7 + 6, none⟩ = some (.int .i64 ts[i].done) from ⟨x0, x1, x2, x3, x4, x5, x6⟩)
  have XC := Lib.hid xc
  clear hbw x0 x1 x2 x3 x4 x5 x6 xi xc
  have HEN := Lib.hid (show (st == 3 || st == 4) = false by simp [h3, h4])
  clear hk hn hi hix hst h3 h4 hnm
  go_enter Try.func50, Try.ntmps50
  go_wp2_with fail
  have hb1 : Below w.heap.size w ((w.alloc (.cells #[.int .i64 ck, .int .i64 nx, .int .i64 wt, .slice (some ⟨b, off, none⟩) ts.length m] 28)).alloc (.cells #[.int .i64 0, .int .i64 0, .int .i64 0, .slice none 0 0] 28)) := ((Below.refl _ _).alloc (by first | omega | (simp; done) | (simp; omega)) _).alloc (by first | omega | (simp; done) | (simp; omega)) _
  have hal1 : Below w.heap.size w ((w.alloc (.cells #[.int .i64 ck, .int .i64 nx, .int .i64 wt, .slice (some ⟨b, off, none⟩) ts.length m] 28)).alloc (.cells #[.int .i64 0, .int .i64 0, .int .i64 0, .slice none 0 0] 28)) := ((Below.refl _ _).alloc (by first | omega | (simp; done) | (simp; omega)) _).alloc (by first | omega | (simp; done) | (simp; omega)) _
  have b_bx1 : Blk ((w.alloc (.cells #[.int .i64 ck, .int .i64 nx, .int .i64 wt, .slice (some ⟨b, off, none⟩) ts.length m] 28)).alloc (.cells #[.int .i64 0, .int .i64 0, .int .i64 0, .slice none 0 0] 28)) (w.heap.size) 28 #[.int .i64 ck, .int .i64 nx, .int .i64 wt, .slice (some ⟨b, off, none⟩) ts.length m] := (Blk.new_ _ 28 #[.int .i64 ck, .int .i64 nx, .int .i64 wt, .slice (some ⟨b, off, none⟩) ts.length m] (by first | rfl | (simp; done) | (simp; omega))).alloc _
  have b_bz1 : Blk ((w.alloc (.cells #[.int .i64 ck, .int .i64 nx, .int .i64 wt, .slice (some ⟨b, off, none⟩) ts.length m] 28)).alloc (.cells #[.int .i64 0, .int .i64 0, .int .i64 0, .slice none 0 0] 28)) (w.heap.size + 1) 28 #[.int .i64 0, .int .i64 0, .int .i64 0, .slice none 0 0] := Blk.new_ _ 28 #[.int .i64 0, .int .i64 0, .int .i64 0, .slice none 0 0] (by first | rfl | (simp; done) | (simp; omega))
  have k_c1 := H.out.below hal1
  have hz1 : w.heap.size + 2 ≤ ((w.alloc (.cells #[.int .i64 ck, .int .i64 nx, .int .i64 wt, .slice (some ⟨b, off, none⟩) ts.length m] 28)).alloc (.cells #[.int .i64 0, .int .i64 0, .int .i64 0, .slice none 0 0] 28)).heap.size := by first | omega | (simp; done) | (simp; omega)
  generalize (w.alloc (.cells #[.int .i64 ck, .int .i64 nx, .int .i64 wt, .slice (some ⟨b, off, none⟩) ts.length m] 28)).alloc (.cells #[.int .i64 0, .int .i64 0, .int .i64 0, .slice none 0 0] 28) = W1 at *
  have HB1 := Lib.hid hb1
  have B1_bx := Lib.hid b_bx1
  have B1_bz := Lib.hid b_bz1
  have K1_c := Lib.hid k_c1
  clear hb1 b_bx1 b_bz1 k_c1
  clear H
  refine (coordFault_any _ ⟨ck, nx, wt, ts⟩ s 0 _ K1_c.out HNM.out hs (Or.inr ⟨HK.out, HN.out, rfl⟩)).mono ?_
  rintro e W2 ⟨rfl, hb⟩
  have hb2 : Below w.heap.size w W2 := below_then HB1.out hb
  have b_bx2 := B1_bx.out.below hb B1_bx.out.lt
  have b_bz2 := B1_bz.out.below hb B1_bz.out.lt
  have k_c2 := K1_c.out.below hb
  have hz2 := hb.size
  have HB2 := Lib.hid hb2
  have B2_bx := Lib.hid b_bx2
  have B2_bz := Lib.hid b_bz2
  have K2_c := Lib.hid k_c2
  clear hb2 b_bx2 b_bz2 k_c2
  clear B1_bx B1_bz HB1 K1_c
  have c_bx0 := B2_bx.out.cell 0
  have c_bx1 := B2_bx.out.cell 1
  have c_bx2 := B2_bx.out.cell 2
  have c_bx3 := B2_bx.out.cell 3
  have l_bx := B2_bx.out.lt
  go_wp2_with fail
  clear c_bx0 c_bx1 c_bx2 c_bx3 l_bx
  refine (txnOf_any _ ⟨ck, nx, wt, ts⟩ s _ K2_c.out).mono ?_
  rintro e W3 ⟨rfl, hb⟩
  simp only
  rw [HI.out]
  have hb3 : Below w.heap.size w W3 := below_then HB2.out hb
  have b_bx3 := B2_bx.out.below hb B2_bx.out.lt
  have b_bz3 := B2_bz.out.below hb B2_bz.out.lt
  have k_c3 := K2_c.out.below hb
  have hz3 := hb.size
  have HB3 := Lib.hid hb3
  have B3_bx := Lib.hid b_bx3
  have B3_bz := Lib.hid b_bz3
  have K3_c := Lib.hid k_c3
  clear hb3 b_bx3 b_bz3 k_c3
  clear B2_bx B2_bz HB2 K2_c
  have c_bx0 := B3_bx.out.cell 0
  have c_bx1 := B3_bx.out.cell 1
  have c_bx2 := B3_bx.out.cell 2
  have c_bx3 := B3_bx.out.cell 3
  have l_bx := B3_bx.out.lt
  obtain ⟨a0, a1, a2, a3, a4, a5, a6⟩ := XS.out
  have x0 := (HB3.out.cell (p := ⟨b, off + i * 7, none⟩) HBW.out).trans a0
  have x1 := (HB3.out.cell (p := ⟨b, off + i * 7 + 1, none⟩) HBW.out).trans a1
  have x2 := (HB3.out.cell (p := ⟨b, off + i * 7 + 2, none⟩) HBW.out).trans a2
  have x3 := (HB3.out.cell (p := ⟨b, off + i * 7 + 3, none⟩) HBW.out).trans a3
  rw [HST.out] at x3
  have x4 := (HB3.out.cell (p := ⟨b, off + i * 7 + 4, none⟩) HBW.out).trans a4
  have x5 := (HB3.out.cell (p := ⟨b, off + i * 7 + 5, none⟩) HBW.out).trans a5
  have x6 := (HB3.out.cell (p := ⟨b, off + i * 7 + 6, none⟩) HBW.out).trans a6
  clear a0 a1 a2 a3 a4 a5 a6
  have hblz := HB3.out.size
  have hbl := HBW.out
  go_wp2_with fail
  clear c_bx0 c_bx1 c_bx2 c_bx3 l_bx x0 x1 x2 x3 x4 x5 x6 hblz hbl
  refine (endin_b false HEN.out rfl).mono ?_
  rintro e W4 ⟨rfl, hb⟩
  have hb4 : Below w.heap.size w W4 := below_then HB3.out hb
  have b_bx4 := B3_bx.out.below hb B3_bx.out.lt
  have b_bz4 := B3_bz.out.below hb B3_bz.out.lt
  have k_c4 := K3_c.out.below hb
  have hz4 := hb.size
  have HB4 := Lib.hid hb4
  have B4_bx := Lib.hid b_bx4
  have B4_bz := Lib.hid b_bz4
  have K4_c := Lib.hid k_c4
  clear hb4 b_bx4 b_bz4 k_c4
  clear B3_bx B3_bz HB3 K3_c
  have c_bx0 := B4_bx.out.cell 0
  have c_bx1 := B4_bx.out.cell 1
  have c_bx2 := B4_bx.out.cell 2
  have c_bx3 := B4_bx.out.cell 3
  have l_bx := B4_bx.out.lt
  have c_bz0 := B4_bz.out.cell 0
  have f_bz0 := B4_bz.out.frozen 0
  have c_bz1 := B4_bz.out.cell 1
  have f_bz1 := B4_bz.out.frozen 1
  have c_bz2 := B4_bz.out.cell 2
  have f_bz2 := B4_bz.out.frozen 2
  have c_bz3 := B4_bz.out.cell 3
  have f_bz3 := B4_bz.out.frozen 3
  have l_bz := B4_bz.out.lt
  go_wp2_with fail
  clear c_bx0 c_bx1 c_bx2 c_bx3 l_bx c_bz0 f_bz0 c_bz1 f_bz1 c_bz2 f_bz2 c_bz3 f_bz3 l_bz
  have hszF := HB4.out.size
  have hbF : Below w.heap.size w ((((W4.setCell ⟨w.heap.size + 1, 0, none⟩ (.int .i64 0)).setCell ⟨w.heap.size + 1, 1, none⟩ (.int .i64 0)).setCell ⟨w.heap.size + 1, 2, none⟩ (.int .i64 0)).setCell ⟨w.heap.size + 1, 3, none⟩ (.slice none 0 0)) := ((((HB4.out).setCell (by show w.heap.size ≤ w.heap.size + 1; omega) _).setCell (by show w.heap.size ≤ w.heap.size + 1; omega) _).setCell (by show w.heap.size ≤ w.heap.size + 1; omega) _).setCell (by show w.heap.size ≤ w.heap.size + 1; omega) _
  have b_bxF : Blk ((((W4.setCell ⟨w.heap.size + 1, 0, none⟩ (.int .i64 0)).setCell ⟨w.heap.size + 1, 1, none⟩ (.int .i64 0)).setCell ⟨w.heap.size + 1, 2, none⟩ (.int .i64 0)).setCell ⟨w.heap.size + 1, 3, none⟩ (.slice none 0 0)) (w.heap.size) 28 #[.int .i64 ck, .int .i64 nx, .int .i64 wt, .slice (some ⟨b, off, none⟩) ts.length m] := ((((B4_bx.out).far (p := ⟨w.heap.size + 1, 0, none⟩) (by show w.heap.size ≠ w.heap.size + 1; omega) _).far (p := ⟨w.heap.size + 1, 1, none⟩) (by show w.heap.size ≠ w.heap.size + 1; omega) _).far (p := ⟨w.heap.size + 1, 2, none⟩) (by show w.heap.size ≠ w.heap.size + 1; omega) _).far (p := ⟨w.heap.size + 1, 3, none⟩) (by show w.heap.size ≠ w.heap.size + 1; omega) _
  have b_bzF : Blk ((((W4.setCell ⟨w.heap.size + 1, 0, none⟩ (.int .i64 0)).setCell ⟨w.heap.size + 1, 1, none⟩ (.int .i64 0)).setCell ⟨w.heap.size + 1, 2, none⟩ (.int .i64 0)).setCell ⟨w.heap.size + 1, 3, none⟩ (.slice none 0 0)) (w.heap.size + 1) 28 #[.int .i64 0, .int .i64 0, .int .i64 0, .slice none 0 0] := ((((B4_bz.out).set_ 0 _).set_ 1 _).set_ 2 _).set_ 3 _
  have y0 := b_bzF.cell 0
  have y1 := b_bzF.cell 1
  have y2 := b_bzF.cell 2
  have y3 := b_bzF.cell 3
  exact bodyPost_ret (v := .tuple #[.agg #[.int .i64 0, .int .i64 0, .int .i64 0, .slice none 0 0], .int .i64 (12)]) (by simp [results, Try.results50, go_sem, y0, y1, y2, y3]) rfl (CRes.zero hbF)
set_option maxRecDepth 100000 in
set_option maxHeartbeats 4000000 in
theorem doneOf_miss (v : Value) (c : CoordD) (s : ByteArray) (part : Int) (i : Nat) (hk : CoordOk c) (hn : NameOk s) (hi : idxOf c.txns s = some i) (hl : i < c.txns.length) (st : Int) (hst : c.txns[i].state = st) (h34 : st = 3 ∨ st = 4) (hp : part ∉ c.txns[i].parts) (w : World) (h : Cv w v c) (hnm : ∀ t ∈ c.txns, t.name.size ≤ 9223372036854775807) (hs : s.size ≤ 9223372036854775807) :
    Calls Try.prog 50 #[v, .string s, .int .i64 part] w (CRes zeroC [.int .i64 (5)] w) := by
  obtain ⟨tv, rfl, hx, hlen⟩ := id h
  obtain ⟨A, m, rfl, -⟩ := hx.at_
  obtain ⟨b, off, -, -, rfl, -⟩ := hx.row (Below.refl _ _) i hl
  have H := Lib.hid h
  have HX := Lib.hid hx
  clear h hx
  unfold coordV at *
  obtain ⟨ck, nx, wt, ts⟩ := c
  simp only at *
  have hix : ixOf ts s = i := (ix_some hi).2
  have HI := Lib.hid hix
  have HK := Lib.hid hk
  have HN := Lib.hid hn
  have HST := Lib.hid hst
  have HNM := Lib.hid hnm
  have i0 : (0 : Int) ≤ (i : Int) := by omega
  have i1 : (i : Int) < (ts.length : Int) := Int.ofNat_lt.2 hl
  have i2 : decide ((i : Int) < 0) = false := decide_eq_false (by omega)
  obtain ⟨hbw, A3, m3, x0, x1, x2, x3, x4, x5, x6, xi⟩ := HX.out.rowAt (Below.refl _ _) i hl
  have xc := Is.cells xi
  have HBW := Lib.hid hbw
  have XS := Lib.hid (show w.cell? ⟨b, off + i * 7, none⟩ = some (.string ts[i].name) ∧ w.cell? ⟨b, off + i * 7 + 1, none⟩ = some (.int .i64 ts[i].pid) ∧ w.cell? ⟨b, off + i * 7 + 2, none⟩ = some (.int .i64 ts[i].ver) ∧ w.cell? ⟨b, off + i * 7 + 3, none⟩ = some (.int .i64 ts[i].state) ∧ w.cell? ⟨b, off + i * 7 + 4, none⟩ = some (.slice A3 ts[i].parts.length m3) ∧ w.cell? ⟨b, off + i * 7 + 5, none⟩ = some (.int .i64 ts[i].since) ∧ w.cell? ⟨b, off + i * 7 + 6, none⟩ = some (.int .i64 ts[i].done) from ⟨x0, x1, x2, x3, x4, x5, x6⟩)
  have XC := Lib.hid xc
  clear hbw x0 x1 x2 x3 x4 x5 x6 xi xc
  have HEN := Lib.hid (show (st == 3 || st == 4) = true by rcases h34 with rfl | rfl <;> rfl)
  have hri := (hk.all i hl hl).1.rises
  have HSM := Lib.hid (show ts[i].parts.length ≤ 4 from hri.small)
  have HFI := Lib.hid (show ts[i].parts.filter (· != part) = ts[i].parts from filter_miss hp)
  clear hk hn hi hix hst hri hp hnm h34
  generalize hP : ts[i].parts = P at *
  have HPP := Lib.hid hP
  clear hP
  go_enter Try.func50, Try.ntmps50
  go_wp2_with fail
  have hb1 : Below w.heap.size w ((w.alloc (.cells #[.int .i64 ck, .int .i64 nx, .int .i64 wt, .slice (some ⟨b, off, none⟩) ts.length m] 28)).alloc (.cells #[.int .i64 0, .int .i64 0, .int .i64 0, .slice none 0 0] 28)) := ((Below.refl _ _).alloc (by first | omega | (simp; done) | (simp; omega)) _).alloc (by first | omega | (simp; done) | (simp; omega)) _
  have hal1 : Below w.heap.size w ((w.alloc (.cells #[.int .i64 ck, .int .i64 nx, .int .i64 wt, .slice (some ⟨b, off, none⟩) ts.length m] 28)).alloc (.cells #[.int .i64 0, .int .i64 0, .int .i64 0, .slice none 0 0] 28)) := ((Below.refl _ _).alloc (by first | omega | (simp; done) | (simp; omega)) _).alloc (by first | omega | (simp; done) | (simp; omega)) _
  have b_bx1 : Blk ((w.alloc (.cells #[.int .i64 ck, .int .i64 nx, .int .i64 wt, .slice (some ⟨b, off, none⟩) ts.length m] 28)).alloc (.cells #[.int .i64 0, .int .i64 0, .int .i64 0, .slice none 0 0] 28)) (w.heap.size) 28 #[.int .i64 ck, .int .i64 nx, .int .i64 wt, .slice (some ⟨b, off, none⟩) ts.length m] := (Blk.new_ _ 28 #[.int .i64 ck, .int .i64 nx, .int .i64 wt, .slice (some ⟨b, off, none⟩) ts.length m] (by first | rfl | (simp; done) | (simp; omega))).alloc _
  have b_bz1 : Blk ((w.alloc (.cells #[.int .i64 ck, .int .i64 nx, .int .i64 wt, .slice (some ⟨b, off, none⟩) ts.length m] 28)).alloc (.cells #[.int .i64 0, .int .i64 0, .int .i64 0, .slice none 0 0] 28)) (w.heap.size + 1) 28 #[.int .i64 0, .int .i64 0, .int .i64 0, .slice none 0 0] := Blk.new_ _ 28 #[.int .i64 0, .int .i64 0, .int .i64 0, .slice none 0 0] (by first | rfl | (simp; done) | (simp; omega))
  have k_c1 := H.out.below hal1
  have hz1 : w.heap.size + 2 ≤ ((w.alloc (.cells #[.int .i64 ck, .int .i64 nx, .int .i64 wt, .slice (some ⟨b, off, none⟩) ts.length m] 28)).alloc (.cells #[.int .i64 0, .int .i64 0, .int .i64 0, .slice none 0 0] 28)).heap.size := by first | omega | (simp; done) | (simp; omega)
  generalize (w.alloc (.cells #[.int .i64 ck, .int .i64 nx, .int .i64 wt, .slice (some ⟨b, off, none⟩) ts.length m] 28)).alloc (.cells #[.int .i64 0, .int .i64 0, .int .i64 0, .slice none 0 0] 28) = W1 at *
  have HB1 := Lib.hid hb1
  have B1_bx := Lib.hid b_bx1
  have B1_bz := Lib.hid b_bz1
  have K1_c := Lib.hid k_c1
  clear hb1 b_bx1 b_bz1 k_c1
  clear H
  refine (coordFault_any _ ⟨ck, nx, wt, ts⟩ s 0 _ K1_c.out HNM.out hs (Or.inr ⟨HK.out, HN.out, rfl⟩)).mono ?_
  rintro e W2 ⟨rfl, hb⟩
  have hb2 : Below w.heap.size w W2 := below_then HB1.out hb
  have b_bx2 := B1_bx.out.below hb B1_bx.out.lt
  have b_bz2 := B1_bz.out.below hb B1_bz.out.lt
  have k_c2 := K1_c.out.below hb
  have hz2 := hb.size
  have HB2 := Lib.hid hb2
  have B2_bx := Lib.hid b_bx2
  have B2_bz := Lib.hid b_bz2
  have K2_c := Lib.hid k_c2
  clear hb2 b_bx2 b_bz2 k_c2
  clear B1_bx B1_bz HB1 K1_c
  have c_bx0 := B2_bx.out.cell 0
  have c_bx1 := B2_bx.out.cell 1
  have c_bx2 := B2_bx.out.cell 2
  have c_bx3 := B2_bx.out.cell 3
  have l_bx := B2_bx.out.lt
  go_wp2_with fail
  clear c_bx0 c_bx1 c_bx2 c_bx3 l_bx
  refine (txnOf_any _ ⟨ck, nx, wt, ts⟩ s _ K2_c.out).mono ?_
  rintro e W3 ⟨rfl, hb⟩
  simp only
  rw [HI.out]
  have hb3 : Below w.heap.size w W3 := below_then HB2.out hb
  have b_bx3 := B2_bx.out.below hb B2_bx.out.lt
  have b_bz3 := B2_bz.out.below hb B2_bz.out.lt
  have k_c3 := K2_c.out.below hb
  have hz3 := hb.size
  have HB3 := Lib.hid hb3
  have B3_bx := Lib.hid b_bx3
  have B3_bz := Lib.hid b_bz3
  have K3_c := Lib.hid k_c3
  clear hb3 b_bx3 b_bz3 k_c3
  clear B2_bx B2_bz HB2 K2_c
  have c_bx0 := B3_bx.out.cell 0
  have c_bx1 := B3_bx.out.cell 1
  have c_bx2 := B3_bx.out.cell 2
  have c_bx3 := B3_bx.out.cell 3
  have l_bx := B3_bx.out.lt
  obtain ⟨a0, a1, a2, a3, a4, a5, a6⟩ := XS.out
  have x0 := (HB3.out.cell (p := ⟨b, off + i * 7, none⟩) HBW.out).trans a0
  have x1 := (HB3.out.cell (p := ⟨b, off + i * 7 + 1, none⟩) HBW.out).trans a1
  have x2 := (HB3.out.cell (p := ⟨b, off + i * 7 + 2, none⟩) HBW.out).trans a2
  have x3 := (HB3.out.cell (p := ⟨b, off + i * 7 + 3, none⟩) HBW.out).trans a3
  rw [HST.out] at x3
  have x4 := (HB3.out.cell (p := ⟨b, off + i * 7 + 4, none⟩) HBW.out).trans a4
  have x5 := (HB3.out.cell (p := ⟨b, off + i * 7 + 5, none⟩) HBW.out).trans a5
  have x6 := (HB3.out.cell (p := ⟨b, off + i * 7 + 6, none⟩) HBW.out).trans a6
  clear a0 a1 a2 a3 a4 a5 a6
  have hblz := HB3.out.size
  have hbl := HBW.out
  go_wp2_with fail
  clear c_bx0 c_bx1 c_bx2 c_bx3 l_bx x0 x1 x2 x3 x4 x5 x6 hblz hbl
  refine (endin_b true HEN.out rfl).mono ?_
  rintro e W4 ⟨rfl, hb⟩
  have hb4 : Below w.heap.size w W4 := below_then HB3.out hb
  have b_bx4 := B3_bx.out.below hb B3_bx.out.lt
  have b_bz4 := B3_bz.out.below hb B3_bz.out.lt
  have k_c4 := K3_c.out.below hb
  have hz4 := hb.size
  have HB4 := Lib.hid hb4
  have B4_bx := Lib.hid b_bx4
  have B4_bz := Lib.hid b_bz4
  have K4_c := Lib.hid k_c4
  clear hb4 b_bx4 b_bz4 k_c4
  clear B3_bx B3_bz HB3 K3_c
  have c_bx0 := B4_bx.out.cell 0
  have c_bx1 := B4_bx.out.cell 1
  have c_bx2 := B4_bx.out.cell 2
  have c_bx3 := B4_bx.out.cell 3
  have l_bx := B4_bx.out.lt
  go_wp2_with fail
  clear c_bx0 c_bx1 c_bx2 c_bx3 l_bx
  have hfit := HK.out.fits
  refine (refCoordCopy_any _ ⟨ck, nx, wt, ts⟩ _ K4_c.out hfit.1 hfit.2.1).mono ?_
  rintro e W5 ⟨tv5, rows, rfl, hown, hb⟩
  obtain ⟨A5, c5, rfl, hc5⟩ := (Sl.of_own hown.own).form
  simp only at *
  unfold coordV
  simp only
  clear hfit
  have hb5 : Below w.heap.size w W5 := below_then HB4.out hb
  have b_bx5 := B4_bx.out.below hb B4_bx.out.lt
  have b_bz5 := B4_bz.out.below hb B4_bz.out.lt
  have k_c5 := K4_c.out.below hb
  have hz5 := hb.size
  have HB5 := Lib.hid hb5
  have B5_bx := Lib.hid b_bx5
  have B5_bz := Lib.hid b_bz5
  have K5_c := Lib.hid k_c5
  clear hb5 b_bx5 b_bz5 k_c5
  clear B4_bx B4_bz HB4 K4_c
  have ho := hown.rebase (w0 := w) rfl (Nat.le_refl _) HB5.out
  obtain ⟨gg, c6, hv6, hg1, hg2, hc6, -⟩ := ho.at_ (Nat.lt_of_le_of_lt (Nat.zero_le i) hl)
  injection hv6 with hv7 hv8 hv9
  subst hv7
  clear hv8 hv9 hc6 hc5 hg1 hg2
  have hgg1 := (ho.own.lt gg rfl).1
  have hgg2 := (ho.own.lt gg rfl).2
  have HO := Lib.hid ho
  clear ho hown
  have c_bx0 := B5_bx.out.cell 0
  have c_bx1 := B5_bx.out.cell 1
  have c_bx2 := B5_bx.out.cell 2
  have c_bx3 := B5_bx.out.cell 3
  have l_bx := B5_bx.out.lt
  go_wp2_with fail
  clear c_bx0 c_bx1 c_bx2 c_bx3 l_bx
  have hsz6 := HB5.out.size
  have hb6 : Below w.heap.size w (W5.alloc (.cells #[.int .i64 ck, .int .i64 nx, .int .i64 wt, .slice (some ⟨gg, 0, none⟩) ts.length c5] 28)) := (HB5.out).alloc (by first | omega | (simp; done) | (simp; omega)) _
  have hal6 : Below W5.heap.size W5 (W5.alloc (.cells #[.int .i64 ck, .int .i64 nx, .int .i64 wt, .slice (some ⟨gg, 0, none⟩) ts.length c5] 28)) := (Below.refl _ _).alloc (by first | omega | (simp; done) | (simp; omega)) _
  have b_bx6 : Blk (W5.alloc (.cells #[.int .i64 ck, .int .i64 nx, .int .i64 wt, .slice (some ⟨gg, 0, none⟩) ts.length c5] 28)) (w.heap.size) 28 #[.int .i64 ck, .int .i64 nx, .int .i64 wt, .slice (some ⟨b, off, none⟩) ts.length m] := (B5_bx.out).alloc _
  have b_bz6 : Blk (W5.alloc (.cells #[.int .i64 ck, .int .i64 nx, .int .i64 wt, .slice (some ⟨gg, 0, none⟩) ts.length c5] 28)) (w.heap.size + 1) 28 #[.int .i64 0, .int .i64 0, .int .i64 0, .slice none 0 0] := (B5_bz.out).alloc _
  have b_bo6 : Blk (W5.alloc (.cells #[.int .i64 ck, .int .i64 nx, .int .i64 wt, .slice (some ⟨gg, 0, none⟩) ts.length c5] 28)) (W5.heap.size) 28 #[.int .i64 ck, .int .i64 nx, .int .i64 wt, .slice (some ⟨gg, 0, none⟩) ts.length c5] := Blk.new_ _ 28 #[.int .i64 ck, .int .i64 nx, .int .i64 wt, .slice (some ⟨gg, 0, none⟩) ts.length c5] (by first | rfl | (simp; done) | (simp; omega))
  have k_c6 := K5_c.out.below hal6
  have k_own6 := (HO.out).alloc (.cells #[.int .i64 ck, .int .i64 nx, .int .i64 wt, .slice (some ⟨gg, 0, none⟩) ts.length c5] 28)
  have hz6 : W5.heap.size + 1 ≤ (W5.alloc (.cells #[.int .i64 ck, .int .i64 nx, .int .i64 wt, .slice (some ⟨gg, 0, none⟩) ts.length c5] 28)).heap.size := by first | omega | (simp; done) | (simp; omega)
  generalize W5.alloc (.cells #[.int .i64 ck, .int .i64 nx, .int .i64 wt, .slice (some ⟨gg, 0, none⟩) ts.length c5] 28) = W6 at *
  have HB6 := Lib.hid hb6
  have B6_bx := Lib.hid b_bx6
  have B6_bz := Lib.hid b_bz6
  have B6_bo := Lib.hid b_bo6
  have K6_c := Lib.hid k_c6
  have K6_own := Lib.hid k_own6
  clear hb6 b_bx6 b_bz6 b_bo6 k_c6 k_own6
  clear B5_bx B5_bz HB5 K5_c HO
  obtain ⟨i0x, hi0, hz0, hz1, hz2'⟩ := info_parts CloneInt_info
  have hWn := HB6.out.size
  have lbx := B6_bx.out.lt
  have lbo := B6_bo.out.lt
  go_loopw [11, 12] (fun l q wr => ∃ k : Nat, k ≤ P.length ∧ q = .int .i64 k ∧ Hid (wr.ownsRow W6.heap.size 3 1 l ((P.take k).filter (· != part)).length (((P.take k).filter (· != part)).map (Value.int .i64))) ∧ Hid (Below W6.heap.size W6 wr)) (fun _ q _ => P.length - (intOf q).toNat)
  case atStart => exact ⟨0, Nat.zero_le _, rfl, World.ownsRow_nil _ _ _ _, Below.refl _ _⟩
  case round =>
    obtain ⟨k, hk, rfl, HL, HW⟩ := hrel
    have hbw := HB6.out.trans (HW.out.mono HB6.out.size)
    have HBL := Lib.hid hbw
    clear hbw
    obtain ⟨A7, c7, rfl, hc7⟩ := (Sl.of_own HL.out).form
    have hwz := HW.out.size
    have k0 : (0 : Int) ≤ (k : Int) := by omega
    have k4 : (k : Int) ≤ 4 := by have := HSM.out; omega
    have q0 := (B6_bx.out.below HW.out lbx).cell 0
    have q1 := (B6_bx.out.below HW.out lbx).cell 1
    have q2 := (B6_bx.out.below HW.out lbx).cell 2
    have q3 := (B6_bx.out.below HW.out lbx).cell 3
    have ql := (B6_bx.out.below HW.out lbx).lt
    obtain ⟨a0, a1, a2, a3, a4, a5, a6⟩ := XS.out
    have x4 := (HBL.out.cell (p := ⟨b, off + i * 7 + 4, none⟩) HBW.out).trans a4
    clear a0 a1 a2 a3 a4 a5 a6
    have hblz := HBL.out.size
    have hbl := HBW.out
    by_cases hlt : k < P.length
    · have k1 : (k : Int) < (P.length : Int) := by omega
      obtain ⟨b3, o3, rfl, hb3, hc3⟩ := XC.out (by omega)
      have x9 := (HBL.out.cell (p := ⟨b3, o3 + k, none⟩) hb3).trans (hc3 k hlt)
      have htk : (P.take (k + 1)).filter (· != part) = ((P.take k).filter (· != part)) ++ (if P[k] != part then [P[k]] else []) := by
        rw [List.take_succ_eq_append_getElem hlt, List.filter_append, List.filter_cons]
        rfl
      have HTK := Lib.hid htk
      have hfl := filter_le P k (· != part)
      have HFL := Lib.hid hfl
      clear hc3 htk hfl
      by_cases he : P[k] = part
      · have he2 : (P[k] != part) = false := by simp [he]
        go_wp2
        go_light
        refine ⟨⟨k + 1, by omega, by go_num, ?_, HW⟩, by simp [intOf]; omega⟩
        rw [HTK.out, he2]
        simpa using HL
      · have he2 : (P[k] != part) = true := by simp [he]
        go_wp2_with (at_builtin; go_must (refine wpList_append_sl _ rfl (.tmp 62) (.tmp 72) 24 rfl W6.heap.size 3 i0x (.int .i64 0) 1 8 Try.underlying24 hi0 hz0 hz1 hz2' rfl (by decide) _ _ _ (by rfl) (HL.out.alloc _) _ 1 _ (by rfl) (Sl.lit _ _ _ 1 1 rfl) (by intro x hx; simp at hx; subst hx; rfl) (by have := HFL.out; have := HSM.out; simp only [maxLen]; omega) (by have := HFL.out; have := HSM.out; omega) (by simp; omega) ?_; intro v4 w4 ho4 hg4 ha4))
        go_light
        refine ⟨⟨k + 1, by omega, by go_num, ?_, own_below HW.out (Nat.le_refl _) HL.out _ hg4⟩, by simp [intOf]; omega⟩
        rw [HTK.out, he2]
        exact own_eq ho4 (by simp) (by simp)
    · obtain rfl : k = P.length := by omega
      have KN := Lib.hid K6_own.out
      have lbz := B6_bz.out.lt
      have BE_bx := Lib.hid (B6_bx.out.below HW.out lbx)
      have BE_bo := Lib.hid (B6_bo.out.below HW.out lbo)
      have BE_bz := Lib.hid (B6_bz.out.below HW.out lbz)
      clear K6_own B6_bx B6_bo B6_bz HB6 lbx lbo lbz
      clear q0 q1 q2 q3 ql x4 hbl hblz
      generalize hE0 : (P.take P.length).filter (· != part) = R at *
      have hR : R = P := by rw [← hE0, List.take_length]; exact HFI.out
      subst hR
      clear hE0 HL
      have c_bx0 := BE_bx.out.cell 0
      have c_bx1 := BE_bx.out.cell 1
      have c_bx2 := BE_bx.out.cell 2
      have c_bx3 := BE_bx.out.cell 3
      have l_bx := BE_bx.out.lt
      have c_bz0 := BE_bz.out.cell 0
      have f_bz0 := BE_bz.out.frozen 0
      have c_bz1 := BE_bz.out.cell 1
      have f_bz1 := BE_bz.out.frozen 1
      have c_bz2 := BE_bz.out.cell 2
      have f_bz2 := BE_bz.out.frozen 2
      have c_bz3 := BE_bz.out.cell 3
      have f_bz3 := BE_bz.out.frozen 3
      have l_bz := BE_bz.out.lt
      obtain ⟨a0, a1, a2, a3, a4, a5, a6⟩ := XS.out
      have x4 := (HBL.out.cell (p := ⟨b, off + i * 7 + 4, none⟩) HBW.out).trans a4
      clear a0 a1 a2 a3 a4 a5 a6
      have hblz := HBL.out.size
      have hbl := HBW.out
      go_wp2_with fail
      clear c_bx0 c_bx1 c_bx2 c_bx3 l_bx c_bz0 f_bz0 c_bz1 f_bz1 c_bz2 f_bz2 c_bz3 f_bz3 l_bz x4 hblz hbl
      have hszF := HBL.out.size
      have hbF : Below w.heap.size w ((((wr.setCell ⟨w.heap.size + 1, 0, none⟩ (.int .i64 0)).setCell ⟨w.heap.size + 1, 1, none⟩ (.int .i64 0)).setCell ⟨w.heap.size + 1, 2, none⟩ (.int .i64 0)).setCell ⟨w.heap.size + 1, 3, none⟩ (.slice none 0 0)) := ((((HBL.out).setCell (by show w.heap.size ≤ w.heap.size + 1; omega) _).setCell (by show w.heap.size ≤ w.heap.size + 1; omega) _).setCell (by show w.heap.size ≤ w.heap.size + 1; omega) _).setCell (by show w.heap.size ≤ w.heap.size + 1; omega) _
      have b_bxF : Blk ((((wr.setCell ⟨w.heap.size + 1, 0, none⟩ (.int .i64 0)).setCell ⟨w.heap.size + 1, 1, none⟩ (.int .i64 0)).setCell ⟨w.heap.size + 1, 2, none⟩ (.int .i64 0)).setCell ⟨w.heap.size + 1, 3, none⟩ (.slice none 0 0)) (w.heap.size) 28 #[.int .i64 ck, .int .i64 nx, .int .i64 wt, .slice (some ⟨b, off, none⟩) ts.length m] := ((((BE_bx.out).far (p := ⟨w.heap.size + 1, 0, none⟩) (by show w.heap.size ≠ w.heap.size + 1; omega) _).far (p := ⟨w.heap.size + 1, 1, none⟩) (by show w.heap.size ≠ w.heap.size + 1; omega) _).far (p := ⟨w.heap.size + 1, 2, none⟩) (by show w.heap.size ≠ w.heap.size + 1; omega) _).far (p := ⟨w.heap.size + 1, 3, none⟩) (by show w.heap.size ≠ w.heap.size + 1; omega) _
      have b_bzF : Blk ((((wr.setCell ⟨w.heap.size + 1, 0, none⟩ (.int .i64 0)).setCell ⟨w.heap.size + 1, 1, none⟩ (.int .i64 0)).setCell ⟨w.heap.size + 1, 2, none⟩ (.int .i64 0)).setCell ⟨w.heap.size + 1, 3, none⟩ (.slice none 0 0)) (w.heap.size + 1) 28 #[.int .i64 0, .int .i64 0, .int .i64 0, .slice none 0 0] := ((((BE_bz.out).set_ 0 _).set_ 1 _).set_ 2 _).set_ 3 _
      have b_boF : Blk ((((wr.setCell ⟨w.heap.size + 1, 0, none⟩ (.int .i64 0)).setCell ⟨w.heap.size + 1, 1, none⟩ (.int .i64 0)).setCell ⟨w.heap.size + 1, 2, none⟩ (.int .i64 0)).setCell ⟨w.heap.size + 1, 3, none⟩ (.slice none 0 0)) (W5.heap.size) 28 #[.int .i64 ck, .int .i64 nx, .int .i64 wt, .slice (some ⟨gg, 0, none⟩) ts.length c5] := ((((BE_bo.out).far (p := ⟨w.heap.size + 1, 0, none⟩) (by show W5.heap.size ≠ w.heap.size + 1; omega) _).far (p := ⟨w.heap.size + 1, 1, none⟩) (by show W5.heap.size ≠ w.heap.size + 1; omega) _).far (p := ⟨w.heap.size + 1, 2, none⟩) (by show W5.heap.size ≠ w.heap.size + 1; omega) _).far (p := ⟨w.heap.size + 1, 3, none⟩) (by show W5.heap.size ≠ w.heap.size + 1; omega) _
      have y0 := b_bzF.cell 0
      have y1 := b_bzF.cell 1
      have y2 := b_bzF.cell 2
      have y3 := b_bzF.cell 3
      exact bodyPost_ret (v := .tuple #[.agg #[.int .i64 0, .int .i64 0, .int .i64 0, .slice none 0 0], .int .i64 (5)]) (by simp [results, Try.results50, go_sem, y0, y1, y2, y3]) rfl (CRes.zero hbF)
set_option maxRecDepth 100000 in
set_option maxHeartbeats 4000000 in
theorem doneOf_more (v : Value) (c : CoordD) (s : ByteArray) (part : Int) (i : Nat) (hk : CoordOk c) (hn : NameOk s) (hi : idxOf c.txns s = some i) (hl : i < c.txns.length) (st : Int) (hst : c.txns[i].state = st) (h34 : st = 3 ∨ st = 4) (k2 : Nat) (hk2 : k2 < c.txns[i].parts.length) (hp : c.txns[i].parts[k2] = part) (h1 : 1 < c.txns[i].parts.length) (w : World) (h : Cv w v c) (hnm : ∀ t ∈ c.txns, t.name.size ≤ 9223372036854775807) (hs : s.size ≤ 9223372036854775807) :
    Calls Try.prog 50 #[v, .string s, .int .i64 part] w (CRes (c.upd i (cutT k2)) [.int .i64 (0)] w) := by
  obtain ⟨tv, rfl, hx, hlen⟩ := id h
  obtain ⟨A, m, rfl, -⟩ := hx.at_
  obtain ⟨b, off, -, -, rfl, -⟩ := hx.row (Below.refl _ _) i hl
  have H := Lib.hid h
  have HX := Lib.hid hx
  clear h hx
  unfold coordV at *
  obtain ⟨ck, nx, wt, ts⟩ := c
  simp only at *
  have hix : ixOf ts s = i := (ix_some hi).2
  have HI := Lib.hid hix
  have HK := Lib.hid hk
  have HN := Lib.hid hn
  have HST := Lib.hid hst
  have HNM := Lib.hid hnm
  have i0 : (0 : Int) ≤ (i : Int) := by omega
  have i1 : (i : Int) < (ts.length : Int) := Int.ofNat_lt.2 hl
  have i2 : decide ((i : Int) < 0) = false := decide_eq_false (by omega)
  obtain ⟨hbw, A3, m3, x0, x1, x2, x3, x4, x5, x6, xi⟩ := HX.out.rowAt (Below.refl _ _) i hl
  have xc := Is.cells xi
  have HBW := Lib.hid hbw
  have XS := Lib.hid (show w.cell? ⟨b, off + i * 7, none⟩ = some (.string ts[i].name) ∧ w.cell? ⟨b, off + i * 7 + 1, none⟩ = some (.int .i64 ts[i].pid) ∧ w.cell? ⟨b, off + i * 7 + 2, none⟩ = some (.int .i64 ts[i].ver) ∧ w.cell? ⟨b, off + i * 7 + 3, none⟩ = some (.int .i64 ts[i].state) ∧ w.cell? ⟨b, off + i * 7 + 4, none⟩ = some (.slice A3 ts[i].parts.length m3) ∧ w.cell? ⟨b, off + i * 7 + 5, none⟩ = some (.int .i64 ts[i].since) ∧ w.cell? ⟨b, off + i * 7 + 6, none⟩ = some (.int .i64 ts[i].done) from ⟨x0, x1, x2, x3, x4, x5, x6⟩)
  have XC := Lib.hid xc
  clear hbw x0 x1 x2 x3 x4 x5 x6 xi xc
  have HEN := Lib.hid (show (st == 3 || st == 4) = true by rcases h34 with rfl | rfl <;> rfl)
  have hri := (hk.all i hl hl).1.rises
  have HSM := Lib.hid (show ts[i].parts.length ≤ 4 from hri.small)
  have HFI := Lib.hid (show ts[i].parts.filter (· != part) = delAt ts[i].parts k2 from filter_hit (fun a b hab hb => hri.lt a b hab hb) hk2 hp)
  have HPL := Lib.hid (show k2 < ts[i].parts.length from hk2)
  have HP1 := Lib.hid h1
  clear hk hn hi hix hst hri hp hk2 h1 hnm h34
  generalize hP : ts[i].parts = P at *
  have HPP := Lib.hid hP
  clear hP
  go_enter Try.func50, Try.ntmps50
  go_wp2_with fail
  have hb1 : Below w.heap.size w ((w.alloc (.cells #[.int .i64 ck, .int .i64 nx, .int .i64 wt, .slice (some ⟨b, off, none⟩) ts.length m] 28)).alloc (.cells #[.int .i64 0, .int .i64 0, .int .i64 0, .slice none 0 0] 28)) := ((Below.refl _ _).alloc (by first | omega | (simp; done) | (simp; omega)) _).alloc (by first | omega | (simp; done) | (simp; omega)) _
  have hal1 : Below w.heap.size w ((w.alloc (.cells #[.int .i64 ck, .int .i64 nx, .int .i64 wt, .slice (some ⟨b, off, none⟩) ts.length m] 28)).alloc (.cells #[.int .i64 0, .int .i64 0, .int .i64 0, .slice none 0 0] 28)) := ((Below.refl _ _).alloc (by first | omega | (simp; done) | (simp; omega)) _).alloc (by first | omega | (simp; done) | (simp; omega)) _
  have b_bx1 : Blk ((w.alloc (.cells #[.int .i64 ck, .int .i64 nx, .int .i64 wt, .slice (some ⟨b, off, none⟩) ts.length m] 28)).alloc (.cells #[.int .i64 0, .int .i64 0, .int .i64 0, .slice none 0 0] 28)) (w.heap.size) 28 #[.int .i64 ck, .int .i64 nx, .int .i64 wt, .slice (some ⟨b, off, none⟩) ts.length m] := (Blk.new_ _ 28 #[.int .i64 ck, .int .i64 nx, .int .i64 wt, .slice (some ⟨b, off, none⟩) ts.length m] (by first | rfl | (simp; done) | (simp; omega))).alloc _
  have b_bz1 : Blk ((w.alloc (.cells #[.int .i64 ck, .int .i64 nx, .int .i64 wt, .slice (some ⟨b, off, none⟩) ts.length m] 28)).alloc (.cells #[.int .i64 0, .int .i64 0, .int .i64 0, .slice none 0 0] 28)) (w.heap.size + 1) 28 #[.int .i64 0, .int .i64 0, .int .i64 0, .slice none 0 0] := Blk.new_ _ 28 #[.int .i64 0, .int .i64 0, .int .i64 0, .slice none 0 0] (by first | rfl | (simp; done) | (simp; omega))
  have k_c1 := H.out.below hal1
  have hz1 : w.heap.size + 2 ≤ ((w.alloc (.cells #[.int .i64 ck, .int .i64 nx, .int .i64 wt, .slice (some ⟨b, off, none⟩) ts.length m] 28)).alloc (.cells #[.int .i64 0, .int .i64 0, .int .i64 0, .slice none 0 0] 28)).heap.size := by first | omega | (simp; done) | (simp; omega)
  generalize (w.alloc (.cells #[.int .i64 ck, .int .i64 nx, .int .i64 wt, .slice (some ⟨b, off, none⟩) ts.length m] 28)).alloc (.cells #[.int .i64 0, .int .i64 0, .int .i64 0, .slice none 0 0] 28) = W1 at *
  have HB1 := Lib.hid hb1
  have B1_bx := Lib.hid b_bx1
  have B1_bz := Lib.hid b_bz1
  have K1_c := Lib.hid k_c1
  clear hb1 b_bx1 b_bz1 k_c1
  clear H
  refine (coordFault_any _ ⟨ck, nx, wt, ts⟩ s 0 _ K1_c.out HNM.out hs (Or.inr ⟨HK.out, HN.out, rfl⟩)).mono ?_
  rintro e W2 ⟨rfl, hb⟩
  have hb2 : Below w.heap.size w W2 := below_then HB1.out hb
  have b_bx2 := B1_bx.out.below hb B1_bx.out.lt
  have b_bz2 := B1_bz.out.below hb B1_bz.out.lt
  have k_c2 := K1_c.out.below hb
  have hz2 := hb.size
  have HB2 := Lib.hid hb2
  have B2_bx := Lib.hid b_bx2
  have B2_bz := Lib.hid b_bz2
  have K2_c := Lib.hid k_c2
  clear hb2 b_bx2 b_bz2 k_c2
  clear B1_bx B1_bz HB1 K1_c
  have c_bx0 := B2_bx.out.cell 0
  have c_bx1 := B2_bx.out.cell 1
  have c_bx2 := B2_bx.out.cell 2
  have c_bx3 := B2_bx.out.cell 3
  have l_bx := B2_bx.out.lt
  go_wp2_with fail
  clear c_bx0 c_bx1 c_bx2 c_bx3 l_bx
  refine (txnOf_any _ ⟨ck, nx, wt, ts⟩ s _ K2_c.out).mono ?_
  rintro e W3 ⟨rfl, hb⟩
  simp only
  rw [HI.out]
  have hb3 : Below w.heap.size w W3 := below_then HB2.out hb
  have b_bx3 := B2_bx.out.below hb B2_bx.out.lt
  have b_bz3 := B2_bz.out.below hb B2_bz.out.lt
  have k_c3 := K2_c.out.below hb
  have hz3 := hb.size
  have HB3 := Lib.hid hb3
  have B3_bx := Lib.hid b_bx3
  have B3_bz := Lib.hid b_bz3
  have K3_c := Lib.hid k_c3
  clear hb3 b_bx3 b_bz3 k_c3
  clear B2_bx B2_bz HB2 K2_c
  have c_bx0 := B3_bx.out.cell 0
  have c_bx1 := B3_bx.out.cell 1
  have c_bx2 := B3_bx.out.cell 2
  have c_bx3 := B3_bx.out.cell 3
  have l_bx := B3_bx.out.lt
  obtain ⟨a0, a1, a2, a3, a4, a5, a6⟩ := XS.out
  have x0 := (HB3.out.cell (p := ⟨b, off + i * 7, none⟩) HBW.out).trans a0
  have x1 := (HB3.out.cell (p := ⟨b, off + i * 7 + 1, none⟩) HBW.out).trans a1
  have x2 := (HB3.out.cell (p := ⟨b, off + i * 7 + 2, none⟩) HBW.out).trans a2
  have x3 := (HB3.out.cell (p := ⟨b, off + i * 7 + 3, none⟩) HBW.out).trans a3
  rw [HST.out] at x3
  have x4 := (HB3.out.cell (p := ⟨b, off + i * 7 + 4, none⟩) HBW.out).trans a4
  have x5 := (HB3.out.cell (p := ⟨b, off + i * 7 + 5, none⟩) HBW.out).trans a5
  have x6 := (HB3.out.cell (p := ⟨b, off + i * 7 + 6, none⟩) HBW.out).trans a6
  clear a0 a1 a2 a3 a4 a5 a6
  have hblz := HB3.out.size
  have hbl := HBW.out
  go_wp2_with fail
  clear c_bx0 c_bx1 c_bx2 c_bx3 l_bx x0 x1 x2 x3 x4 x5 x6 hblz hbl
  refine (endin_b true HEN.out rfl).mono ?_
  rintro e W4 ⟨rfl, hb⟩
  have hb4 : Below w.heap.size w W4 := below_then HB3.out hb
  have b_bx4 := B3_bx.out.below hb B3_bx.out.lt
  have b_bz4 := B3_bz.out.below hb B3_bz.out.lt
  have k_c4 := K3_c.out.below hb
  have hz4 := hb.size
  have HB4 := Lib.hid hb4
  have B4_bx := Lib.hid b_bx4
  have B4_bz := Lib.hid b_bz4
  have K4_c := Lib.hid k_c4
  clear hb4 b_bx4 b_bz4 k_c4
  clear B3_bx B3_bz HB3 K3_c
  have c_bx0 := B4_bx.out.cell 0
  have c_bx1 := B4_bx.out.cell 1
  have c_bx2 := B4_bx.out.cell 2
  have c_bx3 := B4_bx.out.cell 3
  have l_bx := B4_bx.out.lt
  go_wp2_with fail
  clear c_bx0 c_bx1 c_bx2 c_bx3 l_bx
  have hfit := HK.out.fits
  refine (refCoordCopy_any _ ⟨ck, nx, wt, ts⟩ _ K4_c.out hfit.1 hfit.2.1).mono ?_
  rintro e W5 ⟨tv5, rows, rfl, hown, hb⟩
  obtain ⟨A5, c5, rfl, hc5⟩ := (Sl.of_own hown.own).form
  simp only at *
  unfold coordV
  simp only
  clear hfit
  have hb5 : Below w.heap.size w W5 := below_then HB4.out hb
  have b_bx5 := B4_bx.out.below hb B4_bx.out.lt
  have b_bz5 := B4_bz.out.below hb B4_bz.out.lt
  have k_c5 := K4_c.out.below hb
  have hz5 := hb.size
  have HB5 := Lib.hid hb5
  have B5_bx := Lib.hid b_bx5
  have B5_bz := Lib.hid b_bz5
  have K5_c := Lib.hid k_c5
  clear hb5 b_bx5 b_bz5 k_c5
  clear B4_bx B4_bz HB4 K4_c
  have ho := hown.rebase (w0 := w) rfl (Nat.le_refl _) HB5.out
  obtain ⟨gg, c6, hv6, hg1, hg2, hc6, -⟩ := ho.at_ (Nat.lt_of_le_of_lt (Nat.zero_le i) hl)
  injection hv6 with hv7 hv8 hv9
  subst hv7
  clear hv8 hv9 hc6 hc5 hg1 hg2
  have hgg1 := (ho.own.lt gg rfl).1
  have hgg2 := (ho.own.lt gg rfl).2
  have HO := Lib.hid ho
  clear ho hown
  have c_bx0 := B5_bx.out.cell 0
  have c_bx1 := B5_bx.out.cell 1
  have c_bx2 := B5_bx.out.cell 2
  have c_bx3 := B5_bx.out.cell 3
  have l_bx := B5_bx.out.lt
  go_wp2_with fail
  clear c_bx0 c_bx1 c_bx2 c_bx3 l_bx
  have hsz6 := HB5.out.size
  have hb6 : Below w.heap.size w (W5.alloc (.cells #[.int .i64 ck, .int .i64 nx, .int .i64 wt, .slice (some ⟨gg, 0, none⟩) ts.length c5] 28)) := (HB5.out).alloc (by first | omega | (simp; done) | (simp; omega)) _
  have hal6 : Below W5.heap.size W5 (W5.alloc (.cells #[.int .i64 ck, .int .i64 nx, .int .i64 wt, .slice (some ⟨gg, 0, none⟩) ts.length c5] 28)) := (Below.refl _ _).alloc (by first | omega | (simp; done) | (simp; omega)) _
  have b_bx6 : Blk (W5.alloc (.cells #[.int .i64 ck, .int .i64 nx, .int .i64 wt, .slice (some ⟨gg, 0, none⟩) ts.length c5] 28)) (w.heap.size) 28 #[.int .i64 ck, .int .i64 nx, .int .i64 wt, .slice (some ⟨b, off, none⟩) ts.length m] := (B5_bx.out).alloc _
  have b_bz6 : Blk (W5.alloc (.cells #[.int .i64 ck, .int .i64 nx, .int .i64 wt, .slice (some ⟨gg, 0, none⟩) ts.length c5] 28)) (w.heap.size + 1) 28 #[.int .i64 0, .int .i64 0, .int .i64 0, .slice none 0 0] := (B5_bz.out).alloc _
  have b_bo6 : Blk (W5.alloc (.cells #[.int .i64 ck, .int .i64 nx, .int .i64 wt, .slice (some ⟨gg, 0, none⟩) ts.length c5] 28)) (W5.heap.size) 28 #[.int .i64 ck, .int .i64 nx, .int .i64 wt, .slice (some ⟨gg, 0, none⟩) ts.length c5] := Blk.new_ _ 28 #[.int .i64 ck, .int .i64 nx, .int .i64 wt, .slice (some ⟨gg, 0, none⟩) ts.length c5] (by first | rfl | (simp; done) | (simp; omega))
  have k_c6 := K5_c.out.below hal6
  have k_own6 := (HO.out).alloc (.cells #[.int .i64 ck, .int .i64 nx, .int .i64 wt, .slice (some ⟨gg, 0, none⟩) ts.length c5] 28)
  have hz6 : W5.heap.size + 1 ≤ (W5.alloc (.cells #[.int .i64 ck, .int .i64 nx, .int .i64 wt, .slice (some ⟨gg, 0, none⟩) ts.length c5] 28)).heap.size := by first | omega | (simp; done) | (simp; omega)
  generalize W5.alloc (.cells #[.int .i64 ck, .int .i64 nx, .int .i64 wt, .slice (some ⟨gg, 0, none⟩) ts.length c5] 28) = W6 at *
  have HB6 := Lib.hid hb6
  have B6_bx := Lib.hid b_bx6
  have B6_bz := Lib.hid b_bz6
  have B6_bo := Lib.hid b_bo6
  have K6_c := Lib.hid k_c6
  have K6_own := Lib.hid k_own6
  clear hb6 b_bx6 b_bz6 b_bo6 k_c6 k_own6
  clear B5_bx B5_bz HB5 K5_c HO
  obtain ⟨i0x, hi0, hz0, hz1, hz2'⟩ := info_parts CloneInt_info
  have hWn := HB6.out.size
  have lbx := B6_bx.out.lt
  have lbo := B6_bo.out.lt
  go_loopw [11, 12] (fun l q wr => ∃ k : Nat, k ≤ P.length ∧ q = .int .i64 k ∧ Hid (wr.ownsRow W6.heap.size 3 1 l ((P.take k).filter (· != part)).length (((P.take k).filter (· != part)).map (Value.int .i64))) ∧ Hid (Below W6.heap.size W6 wr)) (fun _ q _ => P.length - (intOf q).toNat)
  case atStart => exact ⟨0, Nat.zero_le _, rfl, World.ownsRow_nil _ _ _ _, Below.refl _ _⟩
  case round =>
    obtain ⟨k, hk, rfl, HL, HW⟩ := hrel
    have hbw := HB6.out.trans (HW.out.mono HB6.out.size)
    have HBL := Lib.hid hbw
    clear hbw
    obtain ⟨A7, c7, rfl, hc7⟩ := (Sl.of_own HL.out).form
    have hwz := HW.out.size
    have k0 : (0 : Int) ≤ (k : Int) := by omega
    have k4 : (k : Int) ≤ 4 := by have := HSM.out; omega
    have q0 := (B6_bx.out.below HW.out lbx).cell 0
    have q1 := (B6_bx.out.below HW.out lbx).cell 1
    have q2 := (B6_bx.out.below HW.out lbx).cell 2
    have q3 := (B6_bx.out.below HW.out lbx).cell 3
    have ql := (B6_bx.out.below HW.out lbx).lt
    obtain ⟨a0, a1, a2, a3, a4, a5, a6⟩ := XS.out
    have x4 := (HBL.out.cell (p := ⟨b, off + i * 7 + 4, none⟩) HBW.out).trans a4
    clear a0 a1 a2 a3 a4 a5 a6
    have hblz := HBL.out.size
    have hbl := HBW.out
    by_cases hlt : k < P.length
    · have k1 : (k : Int) < (P.length : Int) := by omega
      obtain ⟨b3, o3, rfl, hb3, hc3⟩ := XC.out (by omega)
      have x9 := (HBL.out.cell (p := ⟨b3, o3 + k, none⟩) hb3).trans (hc3 k hlt)
      have htk : (P.take (k + 1)).filter (· != part) = ((P.take k).filter (· != part)) ++ (if P[k] != part then [P[k]] else []) := by
        rw [List.take_succ_eq_append_getElem hlt, List.filter_append, List.filter_cons]
        rfl
      have HTK := Lib.hid htk
      have hfl := filter_le P k (· != part)
      have HFL := Lib.hid hfl
      clear hc3 htk hfl
      by_cases he : P[k] = part
      · have he2 : (P[k] != part) = false := by simp [he]
        go_wp2
        go_light
        refine ⟨⟨k + 1, by omega, by go_num, ?_, HW⟩, by simp [intOf]; omega⟩
        rw [HTK.out, he2]
        simpa using HL
      · have he2 : (P[k] != part) = true := by simp [he]
        go_wp2_with (at_builtin; go_must (refine wpList_append_sl _ rfl (.tmp 62) (.tmp 72) 24 rfl W6.heap.size 3 i0x (.int .i64 0) 1 8 Try.underlying24 hi0 hz0 hz1 hz2' rfl (by decide) _ _ _ (by rfl) (HL.out.alloc _) _ 1 _ (by rfl) (Sl.lit _ _ _ 1 1 rfl) (by intro x hx; simp at hx; subst hx; rfl) (by have := HFL.out; have := HSM.out; simp only [maxLen]; omega) (by have := HFL.out; have := HSM.out; omega) (by simp; omega) ?_; intro v4 w4 ho4 hg4 ha4))
        go_light
        refine ⟨⟨k + 1, by omega, by go_num, ?_, own_below HW.out (Nat.le_refl _) HL.out _ hg4⟩, by simp [intOf]; omega⟩
        rw [HTK.out, he2]
        exact own_eq ho4 (by simp) (by simp)
    · obtain rfl : k = P.length := by omega
      have KN := Lib.hid K6_own.out
      have lbz := B6_bz.out.lt
      have BE_bx := Lib.hid (B6_bx.out.below HW.out lbx)
      have BE_bo := Lib.hid (B6_bo.out.below HW.out lbo)
      have BE_bz := Lib.hid (B6_bz.out.below HW.out lbz)
      clear K6_own B6_bx B6_bo B6_bz HB6 lbx lbo lbz
      clear q0 q1 q2 q3 ql x4 hbl hblz
      generalize hE0 : (P.take P.length).filter (· != part) = R at *
      have hR : R = delAt P k2 := by rw [← hE0, List.take_length]; exact HFI.out
      have hRl : R.length + 1 = P.length := by have := delAt_len HPL.out; have := HPL.out; rw [hR]; omega
      have y1 : ((R.length : Int) == (P.length : Int)) = false := beq_eq_false_iff_ne.2 (by omega)
      have HR := Lib.hid hR
      clear hE0 hR
      have y0 : 0 < R.length := by have := HP1.out; (try simp only at this); have h5 := HPP.out; (try rw [h5] at this); omega
      have y2 : ((R.length : Int) == 0) = false := beq_eq_false_iff_ne.2 (by omega)
      clear y0
      obtain ⟨A4, m4, hr4, hp4, hq4, p4, po4⟩ := KN.out.rowP rfl i hl
      have hgr := below_grown HW.out (rows[i]).2.ownBlock
      have km := KN.out.midRow rfl i hr4 hgr
      have ks := KN.out.swap rfl i hr4 hgr (own_at2 HL.out) (own_base HL.out (by omega)) (by omega) (cutT k2) (fun _ => rfl) (by rw [hq4]; show delAt ts[i].parts k2 = R; rw [HPP.out, HR.out])
      rw [hp4] at km
      obtain ⟨km4, kmf⟩ := km
      have KS := Lib.hid ks
      clear hr4 hp4 hq4 p4 po4 hgr ks HL KN
      have c_bx0 := BE_bx.out.cell 0
      have c_bx1 := BE_bx.out.cell 1
      have c_bx2 := BE_bx.out.cell 2
      have c_bx3 := BE_bx.out.cell 3
      have l_bx := BE_bx.out.lt
      have c_bo0 := BE_bo.out.cell 0
      have c_bo1 := BE_bo.out.cell 1
      have c_bo2 := BE_bo.out.cell 2
      have c_bo3 := BE_bo.out.cell 3
      have l_bo := BE_bo.out.lt
      obtain ⟨a0, a1, a2, a3, a4, a5, a6⟩ := XS.out
      have x4 := (HBL.out.cell (p := ⟨b, off + i * 7 + 4, none⟩) HBW.out).trans a4
      clear a0 a1 a2 a3 a4 a5 a6
      have hblz := HBL.out.size
      have hbl := HBW.out
      go_upto_region 21 with fail
      clear km4 kmf
      clear c_bx0 c_bx1 c_bx2 c_bx3 l_bx c_bo0 c_bo1 c_bo2 c_bo3 l_bo x4 hblz hbl
      have hsz7 := HBL.out.size
      have hb7 : Below w.heap.size w (wr.setCell ⟨gg, i * 7 + 4, none⟩ (.slice A7 R.length c7)) := (HBL.out).setCell (by show w.heap.size ≤ gg; omega) _
      have b_bx7 : Blk (wr.setCell ⟨gg, i * 7 + 4, none⟩ (.slice A7 R.length c7)) (w.heap.size) 28 #[.int .i64 ck, .int .i64 nx, .int .i64 wt, .slice (some ⟨b, off, none⟩) ts.length m] := (BE_bx.out).far (p := ⟨gg, i * 7 + 4, none⟩) (by show w.heap.size ≠ gg; omega) _
      have b_bz7 : Blk (wr.setCell ⟨gg, i * 7 + 4, none⟩ (.slice A7 R.length c7)) (w.heap.size + 1) 28 #[.int .i64 0, .int .i64 0, .int .i64 0, .slice none 0 0] := (BE_bz.out).far (p := ⟨gg, i * 7 + 4, none⟩) (by show w.heap.size + 1 ≠ gg; omega) _
      have b_bo7 : Blk (wr.setCell ⟨gg, i * 7 + 4, none⟩ (.slice A7 R.length c7)) (W5.heap.size) 28 #[.int .i64 ck, .int .i64 nx, .int .i64 wt, .slice (some ⟨gg, 0, none⟩) ts.length c5] := (BE_bo.out).far (p := ⟨gg, i * 7 + 4, none⟩) (by show W5.heap.size ≠ gg; omega) _
      have k_own7 := KS.out
      have hz7 : wr.heap.size + 0 ≤ (wr.setCell ⟨gg, i * 7 + 4, none⟩ (.slice A7 R.length c7)).heap.size := by first | omega | (simp; done) | (simp; omega)
      generalize wr.setCell ⟨gg, i * 7 + 4, none⟩ (.slice A7 R.length c7) = W7 at *
      have HB7 := Lib.hid hb7
      have B7_bx := Lib.hid b_bx7
      have B7_bz := Lib.hid b_bz7
      have B7_bo := Lib.hid b_bo7
      have K7_own := Lib.hid k_own7
      clear hb7 b_bx7 b_bz7 b_bo7 k_own7
      clear BE_bx BE_bz BE_bo HBL KS
      go_upto_region 24 with fail
      have c_bo0 := B7_bo.out.cell 0
      have c_bo1 := B7_bo.out.cell 1
      have c_bo2 := B7_bo.out.cell 2
      have c_bo3 := B7_bo.out.cell 3
      have l_bo := B7_bo.out.lt
      have c_bz0 := B7_bz.out.cell 0
      have f_bz0 := B7_bz.out.frozen 0
      have c_bz1 := B7_bz.out.cell 1
      have f_bz1 := B7_bz.out.frozen 1
      have c_bz2 := B7_bz.out.cell 2
      have f_bz2 := B7_bz.out.frozen 2
      have c_bz3 := B7_bz.out.cell 3
      have f_bz3 := B7_bz.out.frozen 3
      have l_bz := B7_bz.out.lt
      go_wp2_with fail
      clear c_bo0 c_bo1 c_bo2 c_bo3 l_bo c_bz0 f_bz0 c_bz1 f_bz1 c_bz2 f_bz2 c_bz3 f_bz3 l_bz
      have hszF := HB7.out.size
      have hbF : Below w.heap.size w ((((W7.setCell ⟨w.heap.size + 1, 0, none⟩ (.int .i64 ck)).setCell ⟨w.heap.size + 1, 1, none⟩ (.int .i64 nx)).setCell ⟨w.heap.size + 1, 2, none⟩ (.int .i64 wt)).setCell ⟨w.heap.size + 1, 3, none⟩ (.slice (some ⟨gg, 0, none⟩) ts.length c5)) := ((((HB7.out).setCell (by show w.heap.size ≤ w.heap.size + 1; omega) _).setCell (by show w.heap.size ≤ w.heap.size + 1; omega) _).setCell (by show w.heap.size ≤ w.heap.size + 1; omega) _).setCell (by show w.heap.size ≤ w.heap.size + 1; omega) _
      have b_bxF : Blk ((((W7.setCell ⟨w.heap.size + 1, 0, none⟩ (.int .i64 ck)).setCell ⟨w.heap.size + 1, 1, none⟩ (.int .i64 nx)).setCell ⟨w.heap.size + 1, 2, none⟩ (.int .i64 wt)).setCell ⟨w.heap.size + 1, 3, none⟩ (.slice (some ⟨gg, 0, none⟩) ts.length c5)) (w.heap.size) 28 #[.int .i64 ck, .int .i64 nx, .int .i64 wt, .slice (some ⟨b, off, none⟩) ts.length m] := ((((B7_bx.out).far (p := ⟨w.heap.size + 1, 0, none⟩) (by show w.heap.size ≠ w.heap.size + 1; omega) _).far (p := ⟨w.heap.size + 1, 1, none⟩) (by show w.heap.size ≠ w.heap.size + 1; omega) _).far (p := ⟨w.heap.size + 1, 2, none⟩) (by show w.heap.size ≠ w.heap.size + 1; omega) _).far (p := ⟨w.heap.size + 1, 3, none⟩) (by show w.heap.size ≠ w.heap.size + 1; omega) _
      have b_bzF : Blk ((((W7.setCell ⟨w.heap.size + 1, 0, none⟩ (.int .i64 ck)).setCell ⟨w.heap.size + 1, 1, none⟩ (.int .i64 nx)).setCell ⟨w.heap.size + 1, 2, none⟩ (.int .i64 wt)).setCell ⟨w.heap.size + 1, 3, none⟩ (.slice (some ⟨gg, 0, none⟩) ts.length c5)) (w.heap.size + 1) 28 #[.int .i64 ck, .int .i64 nx, .int .i64 wt, .slice (some ⟨gg, 0, none⟩) ts.length c5] := ((((B7_bz.out).set_ 0 _).set_ 1 _).set_ 2 _).set_ 3 _
      have b_boF : Blk ((((W7.setCell ⟨w.heap.size + 1, 0, none⟩ (.int .i64 ck)).setCell ⟨w.heap.size + 1, 1, none⟩ (.int .i64 nx)).setCell ⟨w.heap.size + 1, 2, none⟩ (.int .i64 wt)).setCell ⟨w.heap.size + 1, 3, none⟩ (.slice (some ⟨gg, 0, none⟩) ts.length c5)) (W5.heap.size) 28 #[.int .i64 ck, .int .i64 nx, .int .i64 wt, .slice (some ⟨gg, 0, none⟩) ts.length c5] := ((((B7_bo.out).far (p := ⟨w.heap.size + 1, 0, none⟩) (by show W5.heap.size ≠ w.heap.size + 1; omega) _).far (p := ⟨w.heap.size + 1, 1, none⟩) (by show W5.heap.size ≠ w.heap.size + 1; omega) _).far (p := ⟨w.heap.size + 1, 2, none⟩) (by show W5.heap.size ≠ w.heap.size + 1; omega) _).far (p := ⟨w.heap.size + 1, 3, none⟩) (by show W5.heap.size ≠ w.heap.size + 1; omega) _
      have hoF := K7_own.out.put4 (g := w.heap.size + 1) (by constructor <;> omega) (.int .i64 ck) (.int .i64 nx) (.int .i64 wt) (.slice (some ⟨gg, 0, none⟩) ts.length c5)
      have y0 := b_bzF.cell 0
      have y1 := b_bzF.cell 1
      have y2 := b_bzF.cell 2
      have y3 := b_bzF.cell 3
      exact bodyPost_ret (v := .tuple #[.agg #[.int .i64 ck, .int .i64 nx, .int .i64 wt, .slice (some ⟨gg, 0, none⟩) ts.length c5], .int .i64 0]) (by simp [results, Try.results50, go_sem, y0, y1, y2, y3]) rfl (⟨.slice (some ⟨gg, 0, none⟩) ts.length c5, _, rfl, own_len (hoF.rebase (by simp) (by omega) hbF) (by simp [CoordD.upd]), hbF⟩)
set_option maxRecDepth 100000 in
set_option maxHeartbeats 4000000 in
theorem doneOf_last (v : Value) (c : CoordD) (s : ByteArray) (part : Int) (i : Nat) (hk : CoordOk c) (hn : NameOk s) (hi : idxOf c.txns s = some i) (hl : i < c.txns.length) (st : Int) (hst : c.txns[i].state = st) (h34 : st = 3 ∨ st = 4) (k2 : Nat) (hk2 : k2 < c.txns[i].parts.length) (hp : c.txns[i].parts[k2] = part) (h1 : c.txns[i].parts.length = 1) (w : World) (h : Cv w v c) (hnm : ∀ t ∈ c.txns, t.name.size ≤ 9223372036854775807) (hs : s.size ≤ 9223372036854775807) :
    Calls Try.prog 50 #[v, .string s, .int .i64 part] w (CRes (c.upd i lastT) [.int .i64 (0)] w) := by
  obtain ⟨tv, rfl, hx, hlen⟩ := id h
  obtain ⟨A, m, rfl, -⟩ := hx.at_
  obtain ⟨b, off, -, -, rfl, -⟩ := hx.row (Below.refl _ _) i hl
  have H := Lib.hid h
  have HX := Lib.hid hx
  clear h hx
  unfold coordV at *
  obtain ⟨ck, nx, wt, ts⟩ := c
  simp only at *
  have hix : ixOf ts s = i := (ix_some hi).2
  have HI := Lib.hid hix
  have HK := Lib.hid hk
  have HN := Lib.hid hn
  have HST := Lib.hid hst
  have HNM := Lib.hid hnm
  have i0 : (0 : Int) ≤ (i : Int) := by omega
  have i1 : (i : Int) < (ts.length : Int) := Int.ofNat_lt.2 hl
  have i2 : decide ((i : Int) < 0) = false := decide_eq_false (by omega)
  obtain ⟨hbw, A3, m3, x0, x1, x2, x3, x4, x5, x6, xi⟩ := HX.out.rowAt (Below.refl _ _) i hl
  have xc := Is.cells xi
  have HBW := Lib.hid hbw
  have XS := Lib.hid (show w.cell? ⟨b, off + i * 7, none⟩ = some (.string ts[i].name) ∧ w.cell? ⟨b, off + i * 7 + 1, none⟩ = some (.int .i64 ts[i].pid) ∧ w.cell? ⟨b, off + i * 7 + 2, none⟩ = some (.int .i64 ts[i].ver) ∧ w.cell? ⟨b, off + i * 7 + 3, none⟩ = some (.int .i64 ts[i].state) ∧ w.cell? ⟨b, off + i * 7 + 4, none⟩ = some (.slice A3 ts[i].parts.length m3) ∧ w.cell? ⟨b, off + i * 7 + 5, none⟩ = some (.int .i64 ts[i].since) ∧ w.cell? ⟨b, off + i * 7 + 6, none⟩ = some (.int .i64 ts[i].done) from ⟨x0, x1, x2, x3, x4, x5, x6⟩)
  have XC := Lib.hid xc
  clear hbw x0 x1 x2 x3 x4 x5 x6 xi xc
  have HEN := Lib.hid (show (st == 3 || st == 4) = true by rcases h34 with rfl | rfl <;> rfl)
  have hri := (hk.all i hl hl).1.rises
  have HSM := Lib.hid (show ts[i].parts.length ≤ 4 from hri.small)
  have HFI := Lib.hid (show ts[i].parts.filter (· != part) = delAt ts[i].parts k2 from filter_hit (fun a b hab hb => hri.lt a b hab hb) hk2 hp)
  have HPL := Lib.hid (show k2 < ts[i].parts.length from hk2)
  have HP1 := Lib.hid h1
  clear hk hn hi hix hst hri hp hk2 h1 hnm h34
  generalize hP : ts[i].parts = P at *
  have HPP := Lib.hid hP
  clear hP
  go_enter Try.func50, Try.ntmps50
  go_wp2_with fail
  have hb1 : Below w.heap.size w ((w.alloc (.cells #[.int .i64 ck, .int .i64 nx, .int .i64 wt, .slice (some ⟨b, off, none⟩) ts.length m] 28)).alloc (.cells #[.int .i64 0, .int .i64 0, .int .i64 0, .slice none 0 0] 28)) := ((Below.refl _ _).alloc (by first | omega | (simp; done) | (simp; omega)) _).alloc (by first | omega | (simp; done) | (simp; omega)) _
  have hal1 : Below w.heap.size w ((w.alloc (.cells #[.int .i64 ck, .int .i64 nx, .int .i64 wt, .slice (some ⟨b, off, none⟩) ts.length m] 28)).alloc (.cells #[.int .i64 0, .int .i64 0, .int .i64 0, .slice none 0 0] 28)) := ((Below.refl _ _).alloc (by first | omega | (simp; done) | (simp; omega)) _).alloc (by first | omega | (simp; done) | (simp; omega)) _
  have b_bx1 : Blk ((w.alloc (.cells #[.int .i64 ck, .int .i64 nx, .int .i64 wt, .slice (some ⟨b, off, none⟩) ts.length m] 28)).alloc (.cells #[.int .i64 0, .int .i64 0, .int .i64 0, .slice none 0 0] 28)) (w.heap.size) 28 #[.int .i64 ck, .int .i64 nx, .int .i64 wt, .slice (some ⟨b, off, none⟩) ts.length m] := (Blk.new_ _ 28 #[.int .i64 ck, .int .i64 nx, .int .i64 wt, .slice (some ⟨b, off, none⟩) ts.length m] (by first | rfl | (simp; done) | (simp; omega))).alloc _
  have b_bz1 : Blk ((w.alloc (.cells #[.int .i64 ck, .int .i64 nx, .int .i64 wt, .slice (some ⟨b, off, none⟩) ts.length m] 28)).alloc (.cells #[.int .i64 0, .int .i64 0, .int .i64 0, .slice none 0 0] 28)) (w.heap.size + 1) 28 #[.int .i64 0, .int .i64 0, .int .i64 0, .slice none 0 0] := Blk.new_ _ 28 #[.int .i64 0, .int .i64 0, .int .i64 0, .slice none 0 0] (by first | rfl | (simp; done) | (simp; omega))
  have k_c1 := H.out.below hal1
  have hz1 : w.heap.size + 2 ≤ ((w.alloc (.cells #[.int .i64 ck, .int .i64 nx, .int .i64 wt, .slice (some ⟨b, off, none⟩) ts.length m] 28)).alloc (.cells #[.int .i64 0, .int .i64 0, .int .i64 0, .slice none 0 0] 28)).heap.size := by first | omega | (simp; done) | (simp; omega)
  generalize (w.alloc (.cells #[.int .i64 ck, .int .i64 nx, .int .i64 wt, .slice (some ⟨b, off, none⟩) ts.length m] 28)).alloc (.cells #[.int .i64 0, .int .i64 0, .int .i64 0, .slice none 0 0] 28) = W1 at *
  have HB1 := Lib.hid hb1
  have B1_bx := Lib.hid b_bx1
  have B1_bz := Lib.hid b_bz1
  have K1_c := Lib.hid k_c1
  clear hb1 b_bx1 b_bz1 k_c1
  clear H
  refine (coordFault_any _ ⟨ck, nx, wt, ts⟩ s 0 _ K1_c.out HNM.out hs (Or.inr ⟨HK.out, HN.out, rfl⟩)).mono ?_
  rintro e W2 ⟨rfl, hb⟩
  have hb2 : Below w.heap.size w W2 := below_then HB1.out hb
  have b_bx2 := B1_bx.out.below hb B1_bx.out.lt
  have b_bz2 := B1_bz.out.below hb B1_bz.out.lt
  have k_c2 := K1_c.out.below hb
  have hz2 := hb.size
  have HB2 := Lib.hid hb2
  have B2_bx := Lib.hid b_bx2
  have B2_bz := Lib.hid b_bz2
  have K2_c := Lib.hid k_c2
  clear hb2 b_bx2 b_bz2 k_c2
  clear B1_bx B1_bz HB1 K1_c
  have c_bx0 := B2_bx.out.cell 0
  have c_bx1 := B2_bx.out.cell 1
  have c_bx2 := B2_bx.out.cell 2
  have c_bx3 := B2_bx.out.cell 3
  have l_bx := B2_bx.out.lt
  go_wp2_with fail
  clear c_bx0 c_bx1 c_bx2 c_bx3 l_bx
  refine (txnOf_any _ ⟨ck, nx, wt, ts⟩ s _ K2_c.out).mono ?_
  rintro e W3 ⟨rfl, hb⟩
  simp only
  rw [HI.out]
  have hb3 : Below w.heap.size w W3 := below_then HB2.out hb
  have b_bx3 := B2_bx.out.below hb B2_bx.out.lt
  have b_bz3 := B2_bz.out.below hb B2_bz.out.lt
  have k_c3 := K2_c.out.below hb
  have hz3 := hb.size
  have HB3 := Lib.hid hb3
  have B3_bx := Lib.hid b_bx3
  have B3_bz := Lib.hid b_bz3
  have K3_c := Lib.hid k_c3
  clear hb3 b_bx3 b_bz3 k_c3
  clear B2_bx B2_bz HB2 K2_c
  have c_bx0 := B3_bx.out.cell 0
  have c_bx1 := B3_bx.out.cell 1
  have c_bx2 := B3_bx.out.cell 2
  have c_bx3 := B3_bx.out.cell 3
  have l_bx := B3_bx.out.lt
  obtain ⟨a0, a1, a2, a3, a4, a5, a6⟩ := XS.out
  have x0 := (HB3.out.cell (p := ⟨b, off + i * 7, none⟩) HBW.out).trans a0
  have x1 := (HB3.out.cell (p := ⟨b, off + i * 7 + 1, none⟩) HBW.out).trans a1
  have x2 := (HB3.out.cell (p := ⟨b, off + i * 7 + 2, none⟩) HBW.out).trans a2
  have x3 := (HB3.out.cell (p := ⟨b, off + i * 7 + 3, none⟩) HBW.out).trans a3
  rw [HST.out] at x3
  have x4 := (HB3.out.cell (p := ⟨b, off + i * 7 + 4, none⟩) HBW.out).trans a4
  have x5 := (HB3.out.cell (p := ⟨b, off + i * 7 + 5, none⟩) HBW.out).trans a5
  have x6 := (HB3.out.cell (p := ⟨b, off + i * 7 + 6, none⟩) HBW.out).trans a6
  clear a0 a1 a2 a3 a4 a5 a6
  have hblz := HB3.out.size
  have hbl := HBW.out
  go_wp2_with fail
  clear c_bx0 c_bx1 c_bx2 c_bx3 l_bx x0 x1 x2 x3 x4 x5 x6 hblz hbl
  refine (endin_b true HEN.out rfl).mono ?_
  rintro e W4 ⟨rfl, hb⟩
  have hb4 : Below w.heap.size w W4 := below_then HB3.out hb
  have b_bx4 := B3_bx.out.below hb B3_bx.out.lt
  have b_bz4 := B3_bz.out.below hb B3_bz.out.lt
  have k_c4 := K3_c.out.below hb
  have hz4 := hb.size
  have HB4 := Lib.hid hb4
  have B4_bx := Lib.hid b_bx4
  have B4_bz := Lib.hid b_bz4
  have K4_c := Lib.hid k_c4
  clear hb4 b_bx4 b_bz4 k_c4
  clear B3_bx B3_bz HB3 K3_c
  have c_bx0 := B4_bx.out.cell 0
  have c_bx1 := B4_bx.out.cell 1
  have c_bx2 := B4_bx.out.cell 2
  have c_bx3 := B4_bx.out.cell 3
  have l_bx := B4_bx.out.lt
  go_wp2_with fail
  clear c_bx0 c_bx1 c_bx2 c_bx3 l_bx
  have hfit := HK.out.fits
  refine (refCoordCopy_any _ ⟨ck, nx, wt, ts⟩ _ K4_c.out hfit.1 hfit.2.1).mono ?_
  rintro e W5 ⟨tv5, rows, rfl, hown, hb⟩
  obtain ⟨A5, c5, rfl, hc5⟩ := (Sl.of_own hown.own).form
  simp only at *
  unfold coordV
  simp only
  clear hfit
  have hb5 : Below w.heap.size w W5 := below_then HB4.out hb
  have b_bx5 := B4_bx.out.below hb B4_bx.out.lt
  have b_bz5 := B4_bz.out.below hb B4_bz.out.lt
  have k_c5 := K4_c.out.below hb
  have hz5 := hb.size
  have HB5 := Lib.hid hb5
  have B5_bx := Lib.hid b_bx5
  have B5_bz := Lib.hid b_bz5
  have K5_c := Lib.hid k_c5
  clear hb5 b_bx5 b_bz5 k_c5
  clear B4_bx B4_bz HB4 K4_c
  have ho := hown.rebase (w0 := w) rfl (Nat.le_refl _) HB5.out
  obtain ⟨gg, c6, hv6, hg1, hg2, hc6, -⟩ := ho.at_ (Nat.lt_of_le_of_lt (Nat.zero_le i) hl)
  injection hv6 with hv7 hv8 hv9
  subst hv7
  clear hv8 hv9 hc6 hc5 hg1 hg2
  have hgg1 := (ho.own.lt gg rfl).1
  have hgg2 := (ho.own.lt gg rfl).2
  have HO := Lib.hid ho
  clear ho hown
  have c_bx0 := B5_bx.out.cell 0
  have c_bx1 := B5_bx.out.cell 1
  have c_bx2 := B5_bx.out.cell 2
  have c_bx3 := B5_bx.out.cell 3
  have l_bx := B5_bx.out.lt
  go_wp2_with fail
  clear c_bx0 c_bx1 c_bx2 c_bx3 l_bx
  have hsz6 := HB5.out.size
  have hb6 : Below w.heap.size w (W5.alloc (.cells #[.int .i64 ck, .int .i64 nx, .int .i64 wt, .slice (some ⟨gg, 0, none⟩) ts.length c5] 28)) := (HB5.out).alloc (by first | omega | (simp; done) | (simp; omega)) _
  have hal6 : Below W5.heap.size W5 (W5.alloc (.cells #[.int .i64 ck, .int .i64 nx, .int .i64 wt, .slice (some ⟨gg, 0, none⟩) ts.length c5] 28)) := (Below.refl _ _).alloc (by first | omega | (simp; done) | (simp; omega)) _
  have b_bx6 : Blk (W5.alloc (.cells #[.int .i64 ck, .int .i64 nx, .int .i64 wt, .slice (some ⟨gg, 0, none⟩) ts.length c5] 28)) (w.heap.size) 28 #[.int .i64 ck, .int .i64 nx, .int .i64 wt, .slice (some ⟨b, off, none⟩) ts.length m] := (B5_bx.out).alloc _
  have b_bz6 : Blk (W5.alloc (.cells #[.int .i64 ck, .int .i64 nx, .int .i64 wt, .slice (some ⟨gg, 0, none⟩) ts.length c5] 28)) (w.heap.size + 1) 28 #[.int .i64 0, .int .i64 0, .int .i64 0, .slice none 0 0] := (B5_bz.out).alloc _
  have b_bo6 : Blk (W5.alloc (.cells #[.int .i64 ck, .int .i64 nx, .int .i64 wt, .slice (some ⟨gg, 0, none⟩) ts.length c5] 28)) (W5.heap.size) 28 #[.int .i64 ck, .int .i64 nx, .int .i64 wt, .slice (some ⟨gg, 0, none⟩) ts.length c5] := Blk.new_ _ 28 #[.int .i64 ck, .int .i64 nx, .int .i64 wt, .slice (some ⟨gg, 0, none⟩) ts.length c5] (by first | rfl | (simp; done) | (simp; omega))
  have k_c6 := K5_c.out.below hal6
  have k_own6 := (HO.out).alloc (.cells #[.int .i64 ck, .int .i64 nx, .int .i64 wt, .slice (some ⟨gg, 0, none⟩) ts.length c5] 28)
  have hz6 : W5.heap.size + 1 ≤ (W5.alloc (.cells #[.int .i64 ck, .int .i64 nx, .int .i64 wt, .slice (some ⟨gg, 0, none⟩) ts.length c5] 28)).heap.size := by first | omega | (simp; done) | (simp; omega)
  generalize W5.alloc (.cells #[.int .i64 ck, .int .i64 nx, .int .i64 wt, .slice (some ⟨gg, 0, none⟩) ts.length c5] 28) = W6 at *
  have HB6 := Lib.hid hb6
  have B6_bx := Lib.hid b_bx6
  have B6_bz := Lib.hid b_bz6
  have B6_bo := Lib.hid b_bo6
  have K6_c := Lib.hid k_c6
  have K6_own := Lib.hid k_own6
  clear hb6 b_bx6 b_bz6 b_bo6 k_c6 k_own6
  clear B5_bx B5_bz HB5 K5_c HO
  obtain ⟨i0x, hi0, hz0, hz1, hz2'⟩ := info_parts CloneInt_info
  have hWn := HB6.out.size
  have lbx := B6_bx.out.lt
  have lbo := B6_bo.out.lt
  go_loopw [11, 12] (fun l q wr => ∃ k : Nat, k ≤ P.length ∧ q = .int .i64 k ∧ Hid (wr.ownsRow W6.heap.size 3 1 l ((P.take k).filter (· != part)).length (((P.take k).filter (· != part)).map (Value.int .i64))) ∧ Hid (Below W6.heap.size W6 wr)) (fun _ q _ => P.length - (intOf q).toNat)
  case atStart => exact ⟨0, Nat.zero_le _, rfl, World.ownsRow_nil _ _ _ _, Below.refl _ _⟩
  case round =>
    obtain ⟨k, hk, rfl, HL, HW⟩ := hrel
    have hbw := HB6.out.trans (HW.out.mono HB6.out.size)
    have HBL := Lib.hid hbw
    clear hbw
    obtain ⟨A7, c7, rfl, hc7⟩ := (Sl.of_own HL.out).form
    have hwz := HW.out.size
    have k0 : (0 : Int) ≤ (k : Int) := by omega
    have k4 : (k : Int) ≤ 4 := by have := HSM.out; omega
    have q0 := (B6_bx.out.below HW.out lbx).cell 0
    have q1 := (B6_bx.out.below HW.out lbx).cell 1
    have q2 := (B6_bx.out.below HW.out lbx).cell 2
    have q3 := (B6_bx.out.below HW.out lbx).cell 3
    have ql := (B6_bx.out.below HW.out lbx).lt
    obtain ⟨a0, a1, a2, a3, a4, a5, a6⟩ := XS.out
    have x4 := (HBL.out.cell (p := ⟨b, off + i * 7 + 4, none⟩) HBW.out).trans a4
    clear a0 a1 a2 a3 a4 a5 a6
    have hblz := HBL.out.size
    have hbl := HBW.out
    by_cases hlt : k < P.length
    · have k1 : (k : Int) < (P.length : Int) := by omega
      obtain ⟨b3, o3, rfl, hb3, hc3⟩ := XC.out (by omega)
      have x9 := (HBL.out.cell (p := ⟨b3, o3 + k, none⟩) hb3).trans (hc3 k hlt)
      have htk : (P.take (k + 1)).filter (· != part) = ((P.take k).filter (· != part)) ++ (if P[k] != part then [P[k]] else []) := by
        rw [List.take_succ_eq_append_getElem hlt, List.filter_append, List.filter_cons]
        rfl
      have HTK := Lib.hid htk
      have hfl := filter_le P k (· != part)
      have HFL := Lib.hid hfl
      clear hc3 htk hfl
      by_cases he : P[k] = part
      · have he2 : (P[k] != part) = false := by simp [he]
        go_wp2
        go_light
        refine ⟨⟨k + 1, by omega, by go_num, ?_, HW⟩, by simp [intOf]; omega⟩
        rw [HTK.out, he2]
        simpa using HL
      · have he2 : (P[k] != part) = true := by simp [he]
        go_wp2_with (at_builtin; go_must (refine wpList_append_sl _ rfl (.tmp 62) (.tmp 72) 24 rfl W6.heap.size 3 i0x (.int .i64 0) 1 8 Try.underlying24 hi0 hz0 hz1 hz2' rfl (by decide) _ _ _ (by rfl) (HL.out.alloc _) _ 1 _ (by rfl) (Sl.lit _ _ _ 1 1 rfl) (by intro x hx; simp at hx; subst hx; rfl) (by have := HFL.out; have := HSM.out; simp only [maxLen]; omega) (by have := HFL.out; have := HSM.out; omega) (by simp; omega) ?_; intro v4 w4 ho4 hg4 ha4))
        go_light
        refine ⟨⟨k + 1, by omega, by go_num, ?_, own_below HW.out (Nat.le_refl _) HL.out _ hg4⟩, by simp [intOf]; omega⟩
        rw [HTK.out, he2]
        exact own_eq ho4 (by simp) (by simp)
    · obtain rfl : k = P.length := by omega
      have KN := Lib.hid K6_own.out
      have lbz := B6_bz.out.lt
      have BE_bx := Lib.hid (B6_bx.out.below HW.out lbx)
      have BE_bo := Lib.hid (B6_bo.out.below HW.out lbo)
      have BE_bz := Lib.hid (B6_bz.out.below HW.out lbz)
      clear K6_own B6_bx B6_bo B6_bz HB6 lbx lbo lbz
      clear q0 q1 q2 q3 ql x4 hbl hblz
      generalize hE0 : (P.take P.length).filter (· != part) = R at *
      have hR : R = delAt P k2 := by rw [← hE0, List.take_length]; exact HFI.out
      have hRl : R.length + 1 = P.length := by have := delAt_len HPL.out; have := HPL.out; rw [hR]; omega
      have y1 : ((R.length : Int) == (P.length : Int)) = false := beq_eq_false_iff_ne.2 (by omega)
      have HR := Lib.hid hR
      clear hE0 hR
      have y0 : R.length = 0 := by have := HP1.out; (try simp only at this); have h5 := HPP.out; (try rw [h5] at this); omega
      have y2 : ((R.length : Int) == 0) = true := by rw [y0]; rfl
      clear y0
      obtain ⟨A4, m4, hr4, hp4, hq4, p4, po4⟩ := KN.out.rowP rfl i hl
      have hgr := below_grown HW.out (rows[i]).2.ownBlock
      have km := KN.out.midRow rfl i hr4 hgr
      have ks := KN.out.swap rfl i hr4 hgr (own_at2 HL.out) (own_base HL.out (by omega)) (by omega) (cutT k2) (fun _ => rfl) (by rw [hq4]; show delAt ts[i].parts k2 = R; rw [HPP.out, HR.out])
      rw [hp4] at km
      obtain ⟨km4, kmf⟩ := km
      have KS := Lib.hid ks
      clear hr4 hp4 hq4 p4 po4 hgr ks HL KN
      have c_bx0 := BE_bx.out.cell 0
      have c_bx1 := BE_bx.out.cell 1
      have c_bx2 := BE_bx.out.cell 2
      have c_bx3 := BE_bx.out.cell 3
      have l_bx := BE_bx.out.lt
      have c_bo0 := BE_bo.out.cell 0
      have c_bo1 := BE_bo.out.cell 1
      have c_bo2 := BE_bo.out.cell 2
      have c_bo3 := BE_bo.out.cell 3
      have l_bo := BE_bo.out.lt
      obtain ⟨a0, a1, a2, a3, a4, a5, a6⟩ := XS.out
      have x4 := (HBL.out.cell (p := ⟨b, off + i * 7 + 4, none⟩) HBW.out).trans a4
      clear a0 a1 a2 a3 a4 a5 a6
      have hblz := HBL.out.size
      have hbl := HBW.out
      go_upto_region 21 with fail
      clear km4 kmf
      clear c_bx0 c_bx1 c_bx2 c_bx3 l_bx c_bo0 c_bo1 c_bo2 c_bo3 l_bo x4 hblz hbl
      have hsz7 := HBL.out.size
      have hb7 : Below w.heap.size w (wr.setCell ⟨gg, i * 7 + 4, none⟩ (.slice A7 R.length c7)) := (HBL.out).setCell (by show w.heap.size ≤ gg; omega) _
      have b_bx7 : Blk (wr.setCell ⟨gg, i * 7 + 4, none⟩ (.slice A7 R.length c7)) (w.heap.size) 28 #[.int .i64 ck, .int .i64 nx, .int .i64 wt, .slice (some ⟨b, off, none⟩) ts.length m] := (BE_bx.out).far (p := ⟨gg, i * 7 + 4, none⟩) (by show w.heap.size ≠ gg; omega) _
      have b_bz7 : Blk (wr.setCell ⟨gg, i * 7 + 4, none⟩ (.slice A7 R.length c7)) (w.heap.size + 1) 28 #[.int .i64 0, .int .i64 0, .int .i64 0, .slice none 0 0] := (BE_bz.out).far (p := ⟨gg, i * 7 + 4, none⟩) (by show w.heap.size + 1 ≠ gg; omega) _
      have b_bo7 : Blk (wr.setCell ⟨gg, i * 7 + 4, none⟩ (.slice A7 R.length c7)) (W5.heap.size) 28 #[.int .i64 ck, .int .i64 nx, .int .i64 wt, .slice (some ⟨gg, 0, none⟩) ts.length c5] := (BE_bo.out).far (p := ⟨gg, i * 7 + 4, none⟩) (by show W5.heap.size ≠ gg; omega) _
      have k_own7 := KS.out
      have hz7 : wr.heap.size + 0 ≤ (wr.setCell ⟨gg, i * 7 + 4, none⟩ (.slice A7 R.length c7)).heap.size := by first | omega | (simp; done) | (simp; omega)
      generalize wr.setCell ⟨gg, i * 7 + 4, none⟩ (.slice A7 R.length c7) = W7 at *
      have HB7 := Lib.hid hb7
      have B7_bx := Lib.hid b_bx7
      have B7_bz := Lib.hid b_bz7
      have B7_bo := Lib.hid b_bo7
      have K7_own := Lib.hid k_own7
      clear hb7 b_bx7 b_bz7 b_bo7 k_own7
      clear BE_bx BE_bz BE_bo HBL KS
      go_upto_region 22 with fail
      obtain ⟨hg3, hg4, A6, m6, ⟨-, -, -, u3, -, -, u6⟩, hrf, -⟩ := K7_own.out.row (by simp) i (by simpa using hl)
      have uf3 := hrf 3 (by decide)
      have uf6 := hrf 6 (by decide)
      clear hrf
      have c_bx0 := B7_bx.out.cell 0
      have c_bx1 := B7_bx.out.cell 1
      have c_bx2 := B7_bx.out.cell 2
      have c_bx3 := B7_bx.out.cell 3
      have l_bx := B7_bx.out.lt
      have c_bo0 := B7_bo.out.cell 0
      have c_bo1 := B7_bo.out.cell 1
      have c_bo2 := B7_bo.out.cell 2
      have c_bo3 := B7_bo.out.cell 3
      have l_bo := B7_bo.out.lt
      obtain ⟨a0, a1, a2, a3, a4, a5, a6⟩ := XS.out
      have x3 := (HB7.out.cell (p := ⟨b, off + i * 7 + 3, none⟩) HBW.out).trans a3
      rw [HST.out] at x3
      clear a0 a1 a2 a3 a4 a5 a6
      have hblz := HB7.out.size
      have hbl := HBW.out
      go_region
      go_upto_region 24 with fail
      clear u3 u6 uf3 uf6 c_bx0 c_bx1 c_bx2 c_bx3 l_bx c_bo0 c_bo1 c_bo2 c_bo3 l_bo x3 hblz hbl
      obtain ⟨rows6, h6⟩ := K7_own.out.putd (by simp) (by omega) i 6 (.int .i64 st) (setDone st) (by simpa using hl) (by decide) (fun _ => by simp [tcells, setDone, cutT]) rfl
      obtain ⟨rows7, h7⟩ := h6.putd (by simp) (by omega) i 3 (.int .i64 1) (setState 1) (by simpa using hl) (by decide) (fun _ => by simp [tcells, setDone, setState, cutT]) rfl
      have hm : ((ts.modify i (cutT k2)).modify i (setDone st)).modify i (setState 1) = ts.modify i lastT := by
        rw [modify_two ts i _ _ (fun t => setDone st (cutT k2 t)) (fun _ => rfl), modify_two ts i _ _ lastT (fun _ => lastT_eq (by rw [HPP.out]; exact HP1.out) (by rw [HPP.out]; exact HPL.out) HST.out)]
      have h8 := (own_ds h7 hm.symm).keep ((Below.refl _ _).drew)
      clear hm h6 h7
      have hsz8 := HB7.out.size
      have hb8 : Below w.heap.size w (((W7.setCell ⟨gg, i * 7 + 6, none⟩ (.int .i64 st)).setCell ⟨gg, i * 7 + 3, none⟩ (.int .i64 1)).drew) := (((HB7.out).setCell (by show w.heap.size ≤ gg; omega) _).setCell (by show w.heap.size ≤ gg; omega) _).drew
      have b_bx8 : Blk (((W7.setCell ⟨gg, i * 7 + 6, none⟩ (.int .i64 st)).setCell ⟨gg, i * 7 + 3, none⟩ (.int .i64 1)).drew) (w.heap.size) 28 #[.int .i64 ck, .int .i64 nx, .int .i64 wt, .slice (some ⟨b, off, none⟩) ts.length m] := ((B7_bx.out).far (p := ⟨gg, i * 7 + 6, none⟩) (by show w.heap.size ≠ gg; omega) _).far (p := ⟨gg, i * 7 + 3, none⟩) (by show w.heap.size ≠ gg; omega) _
      have b_bz8 : Blk (((W7.setCell ⟨gg, i * 7 + 6, none⟩ (.int .i64 st)).setCell ⟨gg, i * 7 + 3, none⟩ (.int .i64 1)).drew) (w.heap.size + 1) 28 #[.int .i64 0, .int .i64 0, .int .i64 0, .slice none 0 0] := ((B7_bz.out).far (p := ⟨gg, i * 7 + 6, none⟩) (by show w.heap.size + 1 ≠ gg; omega) _).far (p := ⟨gg, i * 7 + 3, none⟩) (by show w.heap.size + 1 ≠ gg; omega) _
      have b_bo8 : Blk (((W7.setCell ⟨gg, i * 7 + 6, none⟩ (.int .i64 st)).setCell ⟨gg, i * 7 + 3, none⟩ (.int .i64 1)).drew) (W5.heap.size) 28 #[.int .i64 ck, .int .i64 nx, .int .i64 wt, .slice (some ⟨gg, 0, none⟩) ts.length c5] := ((B7_bo.out).far (p := ⟨gg, i * 7 + 6, none⟩) (by show W5.heap.size ≠ gg; omega) _).far (p := ⟨gg, i * 7 + 3, none⟩) (by show W5.heap.size ≠ gg; omega) _
      have k_own8 := h8
      have hz8 : W7.heap.size + 0 ≤ (((W7.setCell ⟨gg, i * 7 + 6, none⟩ (.int .i64 st)).setCell ⟨gg, i * 7 + 3, none⟩ (.int .i64 1)).drew).heap.size := by first | omega | (simp; done) | (simp; omega)
      generalize ((W7.setCell ⟨gg, i * 7 + 6, none⟩ (.int .i64 st)).setCell ⟨gg, i * 7 + 3, none⟩ (.int .i64 1)).drew = W8 at *
      have HB8 := Lib.hid hb8
      have B8_bx := Lib.hid b_bx8
      have B8_bz := Lib.hid b_bz8
      have B8_bo := Lib.hid b_bo8
      have K8_own := Lib.hid k_own8
      clear hb8 b_bx8 b_bz8 b_bo8 k_own8
      clear B7_bx B7_bz B7_bo HB7 K7_own
      clear h8
      have c_bo0 := B8_bo.out.cell 0
      have c_bo1 := B8_bo.out.cell 1
      have c_bo2 := B8_bo.out.cell 2
      have c_bo3 := B8_bo.out.cell 3
      have l_bo := B8_bo.out.lt
      have c_bz0 := B8_bz.out.cell 0
      have f_bz0 := B8_bz.out.frozen 0
      have c_bz1 := B8_bz.out.cell 1
      have f_bz1 := B8_bz.out.frozen 1
      have c_bz2 := B8_bz.out.cell 2
      have f_bz2 := B8_bz.out.frozen 2
      have c_bz3 := B8_bz.out.cell 3
      have f_bz3 := B8_bz.out.frozen 3
      have l_bz := B8_bz.out.lt
      go_wp2_with fail
      clear c_bo0 c_bo1 c_bo2 c_bo3 l_bo c_bz0 f_bz0 c_bz1 f_bz1 c_bz2 f_bz2 c_bz3 f_bz3 l_bz
      have hszF := HB8.out.size
      have hbF : Below w.heap.size w ((((W8.setCell ⟨w.heap.size + 1, 0, none⟩ (.int .i64 ck)).setCell ⟨w.heap.size + 1, 1, none⟩ (.int .i64 nx)).setCell ⟨w.heap.size + 1, 2, none⟩ (.int .i64 wt)).setCell ⟨w.heap.size + 1, 3, none⟩ (.slice (some ⟨gg, 0, none⟩) ts.length c5)) := ((((HB8.out).setCell (by show w.heap.size ≤ w.heap.size + 1; omega) _).setCell (by show w.heap.size ≤ w.heap.size + 1; omega) _).setCell (by show w.heap.size ≤ w.heap.size + 1; omega) _).setCell (by show w.heap.size ≤ w.heap.size + 1; omega) _
      have b_bxF : Blk ((((W8.setCell ⟨w.heap.size + 1, 0, none⟩ (.int .i64 ck)).setCell ⟨w.heap.size + 1, 1, none⟩ (.int .i64 nx)).setCell ⟨w.heap.size + 1, 2, none⟩ (.int .i64 wt)).setCell ⟨w.heap.size + 1, 3, none⟩ (.slice (some ⟨gg, 0, none⟩) ts.length c5)) (w.heap.size) 28 #[.int .i64 ck, .int .i64 nx, .int .i64 wt, .slice (some ⟨b, off, none⟩) ts.length m] := ((((B8_bx.out).far (p := ⟨w.heap.size + 1, 0, none⟩) (by show w.heap.size ≠ w.heap.size + 1; omega) _).far (p := ⟨w.heap.size + 1, 1, none⟩) (by show w.heap.size ≠ w.heap.size + 1; omega) _).far (p := ⟨w.heap.size + 1, 2, none⟩) (by show w.heap.size ≠ w.heap.size + 1; omega) _).far (p := ⟨w.heap.size + 1, 3, none⟩) (by show w.heap.size ≠ w.heap.size + 1; omega) _
      have b_bzF : Blk ((((W8.setCell ⟨w.heap.size + 1, 0, none⟩ (.int .i64 ck)).setCell ⟨w.heap.size + 1, 1, none⟩ (.int .i64 nx)).setCell ⟨w.heap.size + 1, 2, none⟩ (.int .i64 wt)).setCell ⟨w.heap.size + 1, 3, none⟩ (.slice (some ⟨gg, 0, none⟩) ts.length c5)) (w.heap.size + 1) 28 #[.int .i64 ck, .int .i64 nx, .int .i64 wt, .slice (some ⟨gg, 0, none⟩) ts.length c5] := ((((B8_bz.out).set_ 0 _).set_ 1 _).set_ 2 _).set_ 3 _
      have b_boF : Blk ((((W8.setCell ⟨w.heap.size + 1, 0, none⟩ (.int .i64 ck)).setCell ⟨w.heap.size + 1, 1, none⟩ (.int .i64 nx)).setCell ⟨w.heap.size + 1, 2, none⟩ (.int .i64 wt)).setCell ⟨w.heap.size + 1, 3, none⟩ (.slice (some ⟨gg, 0, none⟩) ts.length c5)) (W5.heap.size) 28 #[.int .i64 ck, .int .i64 nx, .int .i64 wt, .slice (some ⟨gg, 0, none⟩) ts.length c5] := ((((B8_bo.out).far (p := ⟨w.heap.size + 1, 0, none⟩) (by show W5.heap.size ≠ w.heap.size + 1; omega) _).far (p := ⟨w.heap.size + 1, 1, none⟩) (by show W5.heap.size ≠ w.heap.size + 1; omega) _).far (p := ⟨w.heap.size + 1, 2, none⟩) (by show W5.heap.size ≠ w.heap.size + 1; omega) _).far (p := ⟨w.heap.size + 1, 3, none⟩) (by show W5.heap.size ≠ w.heap.size + 1; omega) _
      have hoF := K8_own.out.put4 (g := w.heap.size + 1) (by constructor <;> omega) (.int .i64 ck) (.int .i64 nx) (.int .i64 wt) (.slice (some ⟨gg, 0, none⟩) ts.length c5)
      have y0 := b_bzF.cell 0
      have y1 := b_bzF.cell 1
      have y2 := b_bzF.cell 2
      have y3 := b_bzF.cell 3
      exact bodyPost_ret (v := .tuple #[.agg #[.int .i64 ck, .int .i64 nx, .int .i64 wt, .slice (some ⟨gg, 0, none⟩) ts.length c5], .int .i64 0]) (by simp [results, Try.results50, go_sem, y0, y1, y2, y3]) rfl (⟨.slice (some ⟨gg, 0, none⟩) ts.length c5, _, rfl, own_len (hoF.rebase (by simp) (by omega) hbF) (by simp [CoordD.upd]), hbF⟩)
end Go.Proofs.Ytjkoceacjbhblaa
