/- tailraceref.bodyOf, wire.Encode, tailraceref.EntryBytes. -/
import Derived.Test.YtpjjfnpdopdnkaaWire1
import Derived.Test.YtpjjfnpdopdnkaaWire2
import Derived.Lib.AppendStr
namespace Go.Proofs.Ytpjjfnpdopdnkaa
open Go.RowKit

/-- the first byte of a body -/
def kindByte (kind : Nat) (txn : Bool) : UInt8 := (kind + if txn then 16 else 0).toUInt8
theorem kindByte_nat {kind : Nat} {txn : Bool} (h : kind ≤ 3) : (kindByte kind txn).toNat = kind + if txn then 16 else 0 := by
  unfold kindByte
  cases txn <;> simp <;> omega
def svs (a b c d : Nat) (k : Nat) : List UInt8 := ([sv a, sv b, sv c, sv d].take k).flatten
def bodyB (ep pid ver seq kind : Nat) (txn : Bool) (text : ByteArray) : List UInt8 := [kindByte kind txn] ++ svs ep pid ver seq 4 ++ text.data.toList
def encB (ep pid ver seq kind : Nat) (txn : Bool) (text : ByteArray) : List UInt8 :=
  let b := bodyB ep pid ver seq kind txn text
  [b.length.toUInt8] ++ b ++ [(wsum b b.length % 65521 / 256).toUInt8, (wsum b b.length % 65521 % 256).toUInt8]
theorem svs_len (a b c d k : Nat) (ha : a ≤ 1073741824) (hb : b ≤ 1073741824) (hc : c ≤ 1073741824) (hd : d ≤ 1073741824) : (svs a b c d k).length ≤ 20 := by
  have h1 := sv_len 4 a (by omega)
  have h2 := sv_len 4 b (by omega)
  have h3 := sv_len 4 c (by omega)
  have h4 := sv_len 4 d (by omega)
  have : (svs a b c d k).length ≤ (svs a b c d 4).length := by
    match k with
    | 0 | 1 | 2 | 3 | 4 => simp [svs]; try omega
    | k + 5 => simp [svs]
  have h : (svs a b c d 4).length = (sv a).length + (sv b).length + (sv c).length + (sv d).length := by simp [svs]; omega
  omega

/-- the call began in w; in W the row v of its own holds the bytes l, and block bx is the box cs -/
structure St (w : World) (bx : Nat) (t : TypeId) (cs : Array Value) (W : World) (v : Value) (l : List UInt8) : Prop where
  own : W.ownsRow w.heap.size 5 1 v l.length (bvs l)
  box : Blk W bx t cs
  ne : v.ownBlock ≠ some bx
  below : Below w.heap.size w W
  tne : t ≠ 5
theorem St.call {w W W1 : World} {bx : Nat} {t : TypeId} {cs : Array Value} {v : Value} {l : List UInt8} (h : St w bx t cs W v l) (hb : Below W.heap.size W W1) : St w bx t cs W1 v l :=
  ⟨own_keep h.own hb fun k hk => (h.own.lt k hk).2, h.box.below hb h.box.lt, h.ne, h.below.trans (hb.mono h.below.size), h.tne⟩
theorem St.alloc {w W : World} {bx : Nat} {t : TypeId} {cs : Array Value} {v : Value} {l : List UInt8} (h : St w bx t cs W v l) (o : Obj) : St w bx t cs (W.alloc o) v l :=
  h.call ((Below.refl _ _).alloc (Nat.le_refl _) o)
theorem St.app {w W W1 : World} {bx : Nat} {t : TypeId} {cs : Array Value} {v v1 : Value} {l r : List UInt8} {n : Nat} {xs : List Value} (h : St w bx t cs W v l) (hg : W.grownBy W1 v.ownBlock) (ho : W1.ownsRow w.heap.size 5 1 v1 n xs)
    (hn : n = (l ++ r).length) (hx : xs = bvs (l ++ r)) : St w bx t cs W1 v1 (l ++ r) := by
  subst hn; subst hx
  refine ⟨ho, h.box.grown hg (fun e => h.ne e.symm), fun e => ?_, own_below' h.below (Nat.le_refl _) h.own hg, h.tne⟩
  have hb := h.box.grown hg (fun e => h.ne e.symm)
  rcases ho.2 with ⟨rfl, _⟩ | ⟨g, cap, cur, rfl, _, hh, _⟩
  · simp [Value.ownBlock] at e
  · simp only [Value.ownBlock, Option.some.injEq] at e
    subst e
    unfold Blk at hb
    rw [hh] at hb
    injection hb with hb
    injection hb with _ ht
    exact h.tne ht.symm

theorem st_start (w : World) (t : TypeId) (cs : Array Value) (ht : t ≠ 5) (k : Int) (b : UInt8) (hk : k = (b.toNat : Int)) :
    St w w.heap.size t cs ((w.alloc (.cells cs t)).alloc (.cells #[.int .u8 k] 5)) (.slice (some ⟨w.heap.size + 1, 0, none⟩) 1 1) [b] := by
  subst hk
  have h := own_lit (base := w.heap.size) (w.alloc (.cells cs t)) 5 #[.int .u8 b.toNat] 1 1 (by simp) (by simp [maxLen]) rfl
  simp only [World.size_alloc] at h
  exact ⟨h, (Blk.new w t cs).alloc _, by simp [Value.ownBlock], ((Below.refl _ _).alloc (Nat.le_refl _) _).alloc (by simp) _, ht⟩

set_option maxRecDepth 100000 in
set_option maxHeartbeats 1000000 in
theorem bodyOf_any (ep pid ver seq kind : Nat) (txn : Bool) (text : ByteArray) (w : World) (h1 : ep ≤ 1073741824) (h2 : pid ≤ 1073741824) (h3 : ver ≤ 1073741824) (h4 : seq ≤ 1073741824) (hk : kind ≤ 3) (ht : text.size ≤ 40) :
    Calls Try.prog 104 #[.agg #[.int .i64 ep, .int .i64 pid, .int .i64 ver, .int .i64 seq, .int .i64 kind, .bool txn, .string text]] w fun e w' => ∃ v', e = .returned v' ∧ w'.ownsRow w.heap.size 5 1 v' (bodyB ep pid ver seq kind txn text).length (bvs (bodyB ep pid ver seq kind txn text)) ∧ Below w.heap.size w w' := by
  obtain ⟨i0, hi0, hz0, hz1, hz2⟩ := info_parts u8info
  cases txn
  · go_enter Try.func104, Try.ntmps104
    go_wp2_with fail
    have s0 := st_start w 55 #[.int .i64 ep, .int .i64 pid, .int .i64 ver, .int .i64 seq, .int .i64 kind, .bool false, .string text] (by decide) (kind : Int) (kindByte kind false) (by rw [kindByte_nat hk]; simp)
    refine (sevens_any 4 ep _ (by omega) (by omega)).mono ?_
    rintro e w1 ⟨x1, rfl, hx1, hb1⟩
    have c1 := s0.call hb1
    have l1 := sv_len 4 ep (by omega)
    go_wp2_with (at_builtin; go_must (refine wpList_append_sl _ rfl (.tmp 14) (.tmp 17) 34 rfl w.heap.size 5 i0 (.int .u8 0) 1 1 Try.underlying34 hi0 hz0 hz1 hz2 rfl (by decide) _ _ _ (by rfl) c1.own _ _ _ (by rfl) (Sl.of_own hx1) (bvs_one _) (by simp only [maxLen, List.length_cons, List.length_nil]; omega) (by simp only [List.length_cons, List.length_nil]; omega) c1.below.size ?_; intro v1 u1 ho1 hg1 ha1; have s1 := c1.app (r := sv ep) hg1 ho1 (by simp only [List.length_append]) (by simp only [bvs_append]); have q1 := s1.box.cell 1; clear ho1 hg1 ha1))
    refine (sevens_any 4 pid _ (by omega) (by omega)).mono ?_
    rintro e w2 ⟨x2, rfl, hx2, hb2⟩
    have c2 := s1.call hb2
    have l2 := sv_len 4 pid (by omega)
    go_wp2_with (at_builtin; go_must (refine wpList_append_sl _ rfl (.tmp 19) (.tmp 22) 34 rfl w.heap.size 5 i0 (.int .u8 0) 1 1 Try.underlying34 hi0 hz0 hz1 hz2 rfl (by decide) _ _ _ (by rfl) c2.own _ _ _ (by rfl) (Sl.of_own hx2) (bvs_one _) (by simp only [maxLen, List.length_append, List.length_cons, List.length_nil]; omega) (by simp only [List.length_append, List.length_cons, List.length_nil]; omega) c2.below.size ?_; intro v2 u2 ho2 hg2 ha2; have s2 := c2.app (r := sv pid) hg2 ho2 (by simp only [List.length_append]) (by simp only [bvs_append]); have q2 := s2.box.cell 2; clear ho2 hg2 ha2))
    refine (sevens_any 4 ver _ (by omega) (by omega)).mono ?_
    rintro e w3 ⟨x3, rfl, hx3, hb3⟩
    have c3 := s2.call hb3
    have l3 := sv_len 4 ver (by omega)
    go_wp2_with (at_builtin; go_must (refine wpList_append_sl _ rfl (.tmp 24) (.tmp 27) 34 rfl w.heap.size 5 i0 (.int .u8 0) 1 1 Try.underlying34 hi0 hz0 hz1 hz2 rfl (by decide) _ _ _ (by rfl) c3.own _ _ _ (by rfl) (Sl.of_own hx3) (bvs_one _) (by simp only [maxLen, List.length_append, List.length_cons, List.length_nil]; omega) (by simp only [List.length_append, List.length_cons, List.length_nil]; omega) c3.below.size ?_; intro v3 u3 ho3 hg3 ha3; have s3 := c3.app (r := sv ver) hg3 ho3 (by simp only [List.length_append]) (by simp only [bvs_append]); have q3 := s3.box.cell 3; clear ho3 hg3 ha3))
    refine (sevens_any 4 seq _ (by omega) (by omega)).mono ?_
    rintro e w4 ⟨x4, rfl, hx4, hb4⟩
    have c4 := s3.call hb4
    have l4 := sv_len 4 seq (by omega)
    go_wp2_with (first | (at_builtin; refine wpList_append_sl _ rfl (.tmp 29) (.tmp 32) 34 rfl w.heap.size 5 i0 (.int .u8 0) 1 1 Try.underlying34 hi0 hz0 hz1 hz2 rfl (by decide) _ _ _ (by rfl) c4.own _ _ _ (by rfl) (Sl.of_own hx4) (bvs_one _) (by simp only [maxLen, List.length_append, List.length_cons, List.length_nil]; omega) (by simp only [List.length_append, List.length_cons, List.length_nil]; omega) c4.below.size ?_; intro v4 u4 ho4 hg4 ha4; have s4 := c4.app (r := sv seq) hg4 ho4 (by simp only [List.length_append]) (by simp only [bvs_append]); have q4 := s4.box.cell 6; clear ho4 hg4 ha4) | (at_builtin; go_must (refine Lib.wpList_append_own_string _ rfl (.tmp 34) (.tmp 36) 34 9 rfl w.heap.size 5 i0 Try.underlying34 Try.underlying9 hi0 hz0 hz1 hz2 _ _ _ (by rfl) s4.own text (by rfl) (by simp only [maxLen, List.length_append, List.length_cons, List.length_nil]; omega) (by simp only [List.length_append, List.length_cons, List.length_nil]; omega) s4.below.size ?_; intro v5 u5 ho5 hg5 ha5)))
    go_ret
    exact ⟨v5, rfl, own_eq ho5 (by simp [bodyB, svs]; omega) (by simp [bodyB, svs, bvs, Lib.strCells]), own_below' s4.below (Nat.le_refl _) s4.own hg5⟩
  · go_enter Try.func104, Try.ntmps104
    go_wp2_with fail
    have s0 := st_start w 55 #[.int .i64 ep, .int .i64 pid, .int .i64 ver, .int .i64 seq, .int .i64 kind, .bool true, .string text] (by decide) ((kind : Int) + 16) (kindByte kind true) (by rw [kindByte_nat hk]; simp)
    refine (sevens_any 4 ep _ (by omega) (by omega)).mono ?_
    rintro e w1 ⟨x1, rfl, hx1, hb1⟩
    have c1 := s0.call hb1
    have l1 := sv_len 4 ep (by omega)
    go_wp2_with (at_builtin; go_must (refine wpList_append_sl _ rfl (.tmp 14) (.tmp 17) 34 rfl w.heap.size 5 i0 (.int .u8 0) 1 1 Try.underlying34 hi0 hz0 hz1 hz2 rfl (by decide) _ _ _ (by rfl) c1.own _ _ _ (by rfl) (Sl.of_own hx1) (bvs_one _) (by simp only [maxLen, List.length_cons, List.length_nil]; omega) (by simp only [List.length_cons, List.length_nil]; omega) c1.below.size ?_; intro v1 u1 ho1 hg1 ha1; have s1 := c1.app (r := sv ep) hg1 ho1 (by simp only [List.length_append]) (by simp only [bvs_append]); have q1 := s1.box.cell 1; clear ho1 hg1 ha1))
    refine (sevens_any 4 pid _ (by omega) (by omega)).mono ?_
    rintro e w2 ⟨x2, rfl, hx2, hb2⟩
    have c2 := s1.call hb2
    have l2 := sv_len 4 pid (by omega)
    go_wp2_with (at_builtin; go_must (refine wpList_append_sl _ rfl (.tmp 19) (.tmp 22) 34 rfl w.heap.size 5 i0 (.int .u8 0) 1 1 Try.underlying34 hi0 hz0 hz1 hz2 rfl (by decide) _ _ _ (by rfl) c2.own _ _ _ (by rfl) (Sl.of_own hx2) (bvs_one _) (by simp only [maxLen, List.length_append, List.length_cons, List.length_nil]; omega) (by simp only [List.length_append, List.length_cons, List.length_nil]; omega) c2.below.size ?_; intro v2 u2 ho2 hg2 ha2; have s2 := c2.app (r := sv pid) hg2 ho2 (by simp only [List.length_append]) (by simp only [bvs_append]); have q2 := s2.box.cell 2; clear ho2 hg2 ha2))
    refine (sevens_any 4 ver _ (by omega) (by omega)).mono ?_
    rintro e w3 ⟨x3, rfl, hx3, hb3⟩
    have c3 := s2.call hb3
    have l3 := sv_len 4 ver (by omega)
    go_wp2_with (at_builtin; go_must (refine wpList_append_sl _ rfl (.tmp 24) (.tmp 27) 34 rfl w.heap.size 5 i0 (.int .u8 0) 1 1 Try.underlying34 hi0 hz0 hz1 hz2 rfl (by decide) _ _ _ (by rfl) c3.own _ _ _ (by rfl) (Sl.of_own hx3) (bvs_one _) (by simp only [maxLen, List.length_append, List.length_cons, List.length_nil]; omega) (by simp only [List.length_append, List.length_cons, List.length_nil]; omega) c3.below.size ?_; intro v3 u3 ho3 hg3 ha3; have s3 := c3.app (r := sv ver) hg3 ho3 (by simp only [List.length_append]) (by simp only [bvs_append]); have q3 := s3.box.cell 3; clear ho3 hg3 ha3))
    refine (sevens_any 4 seq _ (by omega) (by omega)).mono ?_
    rintro e w4 ⟨x4, rfl, hx4, hb4⟩
    have c4 := s3.call hb4
    have l4 := sv_len 4 seq (by omega)
    go_wp2_with (first | (at_builtin; refine wpList_append_sl _ rfl (.tmp 29) (.tmp 32) 34 rfl w.heap.size 5 i0 (.int .u8 0) 1 1 Try.underlying34 hi0 hz0 hz1 hz2 rfl (by decide) _ _ _ (by rfl) c4.own _ _ _ (by rfl) (Sl.of_own hx4) (bvs_one _) (by simp only [maxLen, List.length_append, List.length_cons, List.length_nil]; omega) (by simp only [List.length_append, List.length_cons, List.length_nil]; omega) c4.below.size ?_; intro v4 u4 ho4 hg4 ha4; have s4 := c4.app (r := sv seq) hg4 ho4 (by simp only [List.length_append]) (by simp only [bvs_append]); have q4 := s4.box.cell 6; clear ho4 hg4 ha4) | (at_builtin; go_must (refine Lib.wpList_append_own_string _ rfl (.tmp 34) (.tmp 36) 34 9 rfl w.heap.size 5 i0 Try.underlying34 Try.underlying9 hi0 hz0 hz1 hz2 _ _ _ (by rfl) s4.own text (by rfl) (by simp only [maxLen, List.length_append, List.length_cons, List.length_nil]; omega) (by simp only [List.length_append, List.length_cons, List.length_nil]; omega) s4.below.size ?_; intro v5 u5 ho5 hg5 ha5)))
    go_ret
    exact ⟨v5, rfl, own_eq ho5 (by simp [bodyB, svs]; omega) (by simp [bodyB, svs, bvs, Lib.strCells]), own_below' s4.below (Nat.le_refl _) s4.own hg5⟩
end Go.Proofs.Ytpjjfnpdopdnkaa
