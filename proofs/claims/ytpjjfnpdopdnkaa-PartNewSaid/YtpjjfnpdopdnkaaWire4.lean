/- wire.Encode and tailraceref.EntryBytes. -/
import Derived.Test.YtpjjfnpdopdnkaaWire3
namespace Go.Proofs.Ytpjjfnpdopdnkaa
open Go.RowKit

theorem body_len (ep pid ver seq kind : Nat) (txn : Bool) (text : ByteArray) (h1 : ep ≤ 1073741824) (h2 : pid ≤ 1073741824) (h3 : ver ≤ 1073741824) (h4 : seq ≤ 1073741824) (ht : text.size ≤ 40) : 1 ≤ (bodyB ep pid ver seq kind txn text).length ∧ (bodyB ep pid ver seq kind txn text).length ≤ 61 := by
  have := svs_len ep pid ver seq 4 h1 h2 h3 h4
  have e : text.data.toList.length = text.size := by rw [Array.length_toList]; rfl
  simp only [bodyB, List.length_append, List.length_cons, List.length_nil, e]
  omega
theorem fault_kind {ep pid ver seq kind : Int} {txn : Bool} {ts : Nat} (h : entryFault ep pid ver seq kind txn ts = 0) : 1 ≤ kind ∧ kind ≤ 3 ∧ 0 ≤ ep ∧ ep ≤ 1073741824 ∧ 0 ≤ pid ∧ pid ≤ 1073741824 ∧ 0 ≤ ver ∧ ver ≤ 1073741824 ∧ 0 ≤ seq ∧ seq ≤ 1073741824 ∧ ts ≤ 40 := by
  unfold entryFault at h
  split at h
  · omega
  · split at h
    · omega
    · split at h
      · omega
      · rename_i h1 h2 h3
        simp [inB] at h1 h2
        omega

set_option maxRecDepth 100000 in
set_option maxHeartbeats 2000000 in
theorem EntryBytes_ok (ep pid ver seq kind : Nat) (txn : Bool) (text : ByteArray) (w : World) (hf : entryFault ep pid ver seq kind txn text.size = 0) :
    Calls Try.prog 85 #[.agg #[.int .i64 ep, .int .i64 pid, .int .i64 ver, .int .i64 seq, .int .i64 kind, .bool txn, .string text]] w fun e w' => ∃ v', e = .returned (.tuple #[v', .int .i64 0]) ∧ w'.ownsRow w.heap.size 5 1 v' (encB ep pid ver seq kind txn text).length (bvs (encB ep pid ver seq kind txn text)) ∧ Below w.heap.size w w' := by
  obtain ⟨i0, hi0, hz0, hz1, hz2⟩ := info_parts u8info
  obtain ⟨f1, f2, f3, f4, f5, f6, f7, f8, f9, f10, f11⟩ := fault_kind hf
  obtain ⟨bl1, bl2⟩ := body_len ep pid ver seq kind txn text (by omega) (by omega) (by omega) (by omega) f11
  generalize hB : bodyB ep pid ver seq kind txn text = B at bl1 bl2
  have HB := Lib.hid hB
  have HF := Lib.hid hf
  clear hB hf
  go_enter Try.func85, Try.ntmps85
  go_wp2_with fail
  refine (EntryFault_any _ _ _ _ _ _ _ _).mono ?_
  rintro e w1 ⟨rfl, hb⟩
  simp only [World.size_alloc] at hb
  rw [HF.out]
  have b1 := (Blk.new w 55 #[.int .i64 ep, .int .i64 pid, .int .i64 ver, .int .i64 seq, .int .i64 kind, .bool txn, .string text]).below hb (by simp)
  have c0 := b1.cell 0
  have c1 := b1.cell 1
  have c2 := b1.cell 2
  have c3 := b1.cell 3
  have c4 := b1.cell 4
  have c5 := b1.cell 5
  have c6 := b1.cell 6
  go_wp2_with fail
  refine (bodyOf_any ep pid ver seq kind txn text _ (by omega) (by omega) (by omega) (by omega) (by omega) f11).mono ?_
  rintro e w2 ⟨x2, rfl, hx2, hb2⟩
  rw [HB.out] at hx2
  clear c0 c1 c2 c3 c4 c5 c6
  have hby2 : By w2 x2 B := Sl.of_own hx2
  obtain ⟨A2, k2, e2, hk2, -⟩ := hby2.at_
  have h256 : (B.length : Int) % 256 = B.length := by omega
  subst e2
  have hz2' : w.heap.size ≤ w2.heap.size := by have := hb.size; have := hb2.size; simp at *; omega
  have hbw2 : Below w.heap.size w w2 := (((Below.refl _ _).alloc (Nat.le_refl _) _).trans (hb.mono (by omega))).trans (hb2.mono (by have := hb.size; simp at this; omega))
  go_wp2_with (at_builtin; go_must (refine wpList_append_sl _ rfl (.tmp 18) (.tmp 19) 34 rfl w.heap.size 5 i0 (.int .u8 0) 1 1 Try.underlying34 hi0 hz0 hz1 hz2 rfl (by decide) _ _ _ (by rfl) (own_lit (base := w.heap.size) w2 5 _ 1 1 hz2' (by simp [maxLen]) rfl) _ _ _ (by rfl) (hby2.alloc _) (bvs_one _) (by simp only [maxLen]; omega) (by omega) (by simp; omega) ?_; intro v3 w3 ho3 hg3 ha3; have hb23 : Below w2.heap.size w2 w3 := ((Below.refl _ _).alloc (Nat.le_refl _) _).grown hg3 (by simp) (by intro k hk; simp [Value.ownBlock] at hk; omega)))
  have hby3 := hby2.below hb23
  have hw := wsum_le B B.length
  have hw2 : wsum B B.length % 65521 < 65521 := Nat.mod_lt _ (by omega)
  refine (sumOf_any _ B _ hby3 (by omega)).mono ?_
  rintro e w' ⟨rfl, rfl⟩
  go_wp2_with fail
  refine (sumOf_any _ B _ hby3 (by omega)).mono ?_
  rintro e w' ⟨rfl, rfl⟩
  have hq : (wsum B B.length : Int) % 65521 / 256 % 256 = (wsum B B.length : Int) % 65521 / 256 := by omega
  have hz3 : w.heap.size ≤ w3.heap.size := by have := hb23.size; omega
  go_wp2_with (at_builtin; go_must (refine wpList_append_sl _ rfl (.tmp 21) (.tmp 30) 34 rfl w.heap.size 5 i0 (.int .u8 0) 1 1 Try.underlying34 hi0 hz0 hz1 hz2 rfl (by decide) _ _ _ (by rfl) (ho3.alloc _) _ 2 _ (by rfl) (Sl.lit _ _ _ 1 2 rfl) (by intro x hx; simp at hx; rcases hx with rfl | rfl <;> rfl) (by simp only [maxLen]; omega) (by omega) (by simp; omega) ?_; intro v4 w4 ho4 hg4 ha4))
  refine bodyPost_ret (v := .tuple #[v4, .int .i64 0]) (by simp [results, Try.results85, go_sem]) rfl ⟨v4, rfl, own_eq ho4 ?_ ?_, own_below (hbw2.trans (hb23.mono hz2')) (Nat.le_refl _) ho3 _ hg4⟩
  · simp only [encB, HB.out]; simp; omega
  · simp only [encB, HB.out]; simp [bvs]
    omega

set_option maxHeartbeats 1000000 in
theorem EntryBytes_bad (ep pid ver seq kind : Int) (txn : Bool) (text : ByteArray) (w : World) (hf : entryFault ep pid ver seq kind txn text.size ≠ 0) :
    Calls Try.prog 85 #[.agg #[.int .i64 ep, .int .i64 pid, .int .i64 ver, .int .i64 seq, .int .i64 kind, .bool txn, .string text]] w fun e w' => e = .returned (.tuple #[.slice none 0 0, .int .i64 (entryFault ep pid ver seq kind txn text.size)]) ∧ Below w.heap.size w w' := by
  generalize hF : entryFault ep pid ver seq kind txn text.size = F at hf
  have HF := Lib.hid hF
  clear hF
  have hf' : (F != 0) = true := by rw [bne_iff_ne]; exact hf
  go_enter Try.func85, Try.ntmps85
  go_wp2_with fail
  refine (EntryFault_any _ _ _ _ _ _ _ _).mono ?_
  rintro e w1 ⟨rfl, hb⟩
  simp only [World.size_alloc] at hb
  rw [HF.out]
  go_wp2
  refine bodyPost_ret (v := .tuple #[.slice none 0 0, .int .i64 F]) (by simp [results, Try.results85, go_sem]) rfl ⟨rfl, ((Below.refl _ _).alloc (Nat.le_refl _) _).trans (hb.mono (by omega))⟩

set_option maxHeartbeats 1000000 in
theorem Encode_bad (ep pid ver seq kind : Int) (txn : Bool) (text : ByteArray) (w : World) (hf : entryFault ep pid ver seq kind txn text.size ≠ 0) :
    Calls Try.prog 83 #[.agg #[.int .i64 ep, .int .i64 pid, .int .i64 ver, .int .i64 seq, .int .i64 kind, .bool txn, .string text]] w fun e w' => e = .returned (.tuple #[.slice none 0 0, .int .i64 (entryFault ep pid ver seq kind txn text.size)]) ∧ Below w.heap.size w w' := by
  generalize hF : entryFault ep pid ver seq kind txn text.size = F at hf
  have HF := Lib.hid hF
  clear hF
  have hf' : (F != 0) = true := by rw [bne_iff_ne]; exact hf
  go_enter Try.func83, Try.ntmps83
  go_wp2_with fail
  refine (wireCheck_any _ _ _ _ _ _ _ _).mono ?_
  rintro e w1 ⟨rfl, hb⟩
  simp only [World.size_alloc] at hb
  rw [HF.out]
  go_wp2
  refine bodyPost_ret (v := .tuple #[.slice none 0 0, .int .i64 F]) (by simp [results, Try.results83, go_sem]) rfl ⟨rfl, ((Below.refl _ _).alloc (Nat.le_refl _) _).trans (hb.mono (by omega))⟩

def natk (a b c d : Nat) (k : Nat) : Nat := match k with | 0 => a | 1 => b | 2 => c | _ => d
theorem svs_step (a b c d k : Nat) (hk : k < 4) : svs a b c d (k + 1) = svs a b c d k ++ sv (natk a b c d k) := by
  match k, hk with
  | 0, _ | 1, _ | 2, _ | 3, _ => simp [svs, natk]

set_option maxRecDepth 100000 in
set_option maxHeartbeats 4000000 in
theorem Encode_ok (ep pid ver seq kind : Nat) (txn : Bool) (text : ByteArray) (w : World) (hf : entryFault ep pid ver seq kind txn text.size = 0) :
    Calls Try.prog 83 #[.agg #[.int .i64 ep, .int .i64 pid, .int .i64 ver, .int .i64 seq, .int .i64 kind, .bool txn, .string text]] w fun e w' => ∃ v', e = .returned (.tuple #[v', .int .i64 0]) ∧ w'.ownsRow w.heap.size 5 1 v' (encB ep pid ver seq kind txn text).length (bvs (encB ep pid ver seq kind txn text)) ∧ Below w.heap.size w w' := by
  obtain ⟨i0, hi0, hz0, hz1, hz2⟩ := info_parts u8info
  obtain ⟨f1, f2, f3, f4, f5, f6, f7, f8, f9, f10, f11⟩ := fault_kind hf
  obtain ⟨bl1, bl2⟩ := body_len ep pid ver seq kind txn text (by omega) (by omega) (by omega) (by omega) f11
  have HF := Lib.hid hf
  clear hf
  have hk16 : bits .or .i64 (kind : Int) 16 = (kind : Int) + 16 := by
    rcases (by omega : kind = 1 ∨ kind = 2 ∨ kind = 3) with rfl | rfl | rfl <;> decide
  have hk256 : (kind : Int) % 256 = kind := by omega
  have hk256' : ((kind : Int) + 16) % 256 = kind + 16 := by omega
  go_enter Try.func83, Try.ntmps83
  go_wp2_with fail
  refine (wireCheck_any _ _ _ _ _ _ _ _).mono ?_
  rintro e w1 ⟨rfl, hb⟩
  simp only [World.size_alloc] at hb
  rw [HF.out]
  have hs1 := hb.size
  simp only [World.size_alloc] at hs1
  have hs1' : w.heap.size < w1.heap.size := hs1
  have b1 := (Blk.new w 55 #[.int .i64 ep, .int .i64 pid, .int .i64 ver, .int .i64 seq, .int .i64 kind, .bool txn, .string text]).below hb (by simp)
  have c0 := b1.cell 0
  have c1 := b1.cell 1
  have c2 := b1.cell 2
  have c3 := b1.cell 3
  have c4 := b1.cell 4
  have c5 := b1.cell 5
  cases txn
  · go_wp2
    have hkb : (kind : Int) = ((kindByte kind false).toNat : Int) := by rw [kindByte_nat (by omega)]; simp
    have W0 : ∃ W0, W0 = (w1.alloc (.cells #[.int .u8 (kind : Int)] 5)).alloc (.cells #[.int .i64 ep, .int .i64 pid, .int .i64 ver, .int .i64 seq] 3) := ⟨_, rfl⟩
    obtain ⟨W0, hW0⟩ := W0
    have hbox : Blk W0 w.heap.size 55 #[.int .i64 ep, .int .i64 pid, .int .i64 ver, .int .i64 seq, .int .i64 kind, .bool false, .string text] := by rw [hW0]; exact (b1.alloc _).alloc _
    have harr : Blk W0 (w1.heap.size + 1) 3 #[.int .i64 ep, .int .i64 pid, .int .i64 ver, .int .i64 seq] := by
      have := Blk.new (w1.alloc (.cells #[.int .u8 (kind : Int)] 5)) 3 #[.int .i64 ep, .int .i64 pid, .int .i64 ver, .int .i64 seq]
      rw [hW0]; simpa using this
    have hown0 : W0.ownsRow w.heap.size 5 1 (.slice (some ⟨w1.heap.size, 0, none⟩) 1 1) ([kindByte kind false] ++ svs ep pid ver seq 0).length (bvs ([kindByte kind false] ++ svs ep pid ver seq 0)) := by
      rw [hW0]
      refine own_eq ((own_lit (base := w.heap.size) w1 5 #[.int .u8 (kind : Int)] 1 1 (by omega) (by simp [maxLen]) rfl).alloc _) (by simp [svs]) (by rw [hkb]; simp [svs, bvs])
    have hbel0 : Below w.heap.size w W0 := by
      rw [hW0]
      exact ((((Below.refl _ _).alloc (Nat.le_refl _) _).trans (hb.mono (by omega))).alloc (by omega) _).alloc (by simp; omega) _
    have hz0' : w1.heap.size + 2 ≤ W0.heap.size := by rw [hW0]; simp
    rw [← hW0]
    have HB := Lib.hid hbox
    have HA := Lib.hid harr
    have HL := Lib.hid hbel0
    clear hkb hW0 hbox harr hbel0 c0 c1 c2 c3 c4 c5
    go_loopw [6, 34] (fun b i wr => ∃ k : Nat, k ≤ 4 ∧ i = .int .i64 k ∧ wr.ownsRow w.heap.size 5 1 b ([kindByte kind false] ++ svs ep pid ver seq k).length (bvs ([kindByte kind false] ++ svs ep pid ver seq k)) ∧ Hid (OwnStep W0 wr (.slice (some ⟨w1.heap.size, 0, none⟩) 1 1) b)) (fun _ i _ => 4 - (intOf i).toNat)
    case atStart => exact ⟨0, by omega, rfl, hown0, OwnStep.refl _ _⟩
    case round =>
      obtain ⟨k, hk, rfl, ho, hst⟩ := hrel
      have hbx := hst.out.blk HB.out (by simp [Value.ownBlock]; omega)
      have hax := hst.out.blk HA.out (by simp [Value.ownBlock])
      have hsz := hst.out.size
      have hsv := svs_len ep pid ver seq k (by omega) (by omega) (by omega) (by omega)
      by_cases h4 : k < 4
      · have hnum := fun (n : Nat) (hn : n ≤ 1073741824) => number_any n hn w.heap.size _ _ wr (by simp; omega) (by omega) ho
        have hstep := svs_step ep pid ver seq k h4
        have HN := Lib.hid hnum
        have HS := Lib.hid hstep
        clear hnum hstep
        have a0 := hax.1.cell 0
        have a1 := hax.1.cell 1
        have a2 := hax.1.cell 2
        have a3 := hax.1.cell 3
        rcases (by omega : k = 0 ∨ k = 1 ∨ k = 2 ∨ k = 3) with rfl | rfl | rfl | rfl
        all_goals go_wp2_with fail
        all_goals refine (HN.out _ (by omega)).mono ?_
        all_goals rintro e w2 ⟨x2, rfl, hx2, hs2⟩
        all_goals go_wp2
        all_goals go_light
        all_goals refine ⟨⟨_, ?_, rfl, own_eq hx2 ?_ ?_, OwnStep.trans hst.out hs2⟩, by simp [intOf]⟩
        all_goals first | decide | omega | (rw [HS.out]; simp [natk]; done) | (rw [HS.out]; simp [natk, bvs]; done)
      · obtain rfl : k = 4 := by omega
        have a6 := hbx.1.cell 6
        have hsw : w.heap.size ≤ wr.heap.size := by omega
        have htx : text.data.toList.length = text.size := by rw [Array.length_toList]; rfl
        go_wp2_with (at_builtin; go_must (refine Lib.wpList_append_own_string _ rfl (.tmp 42) (.tmp 44) 34 9 rfl w.heap.size 5 i0 Try.underlying34 Try.underlying9 hi0 hz0 hz1 hz2 _ _ _ (by rfl) ho text (by rfl) (by simp only [maxLen, List.length_append, List.length_cons, List.length_nil]; omega) (by simp only [List.length_append, List.length_cons, List.length_nil]; omega) hsw ?_; intro v5 u5 ho5 hg5 ha5))
        have hb5 : Below w.heap.size w u5 := own_below' (HL.out.trans (hst.out.below (by omega) (by intro k hk; simp [Value.ownBlock] at hk; omega))) (Nat.le_refl _) ho hg5
        generalize hB : bodyB ep pid ver seq kind false text = B at bl1 bl2
        have ho5' : u5.ownsRow w.heap.size 5 1 v5 B.length (bvs B) := own_eq ho5 (by rw [← hB]; simp [bodyB, htx]; omega) (by rw [← hB]; simp [bodyB, bvs, Lib.strCells])
        have HBB := Lib.hid hB
        clear hB a6 ha5 hg5 ho5
        have hby5 : By u5 v5 B := Sl.of_own ho5'
        obtain ⟨A5, k5, e5, hk5, -⟩ := hby5.at_
        subst e5
        refine (sum_any _ B _ hby5 (by omega)).mono ?_
        rintro e w' ⟨rfl, rfl⟩
        have hu5 : w.heap.size ≤ u5.heap.size := hb5.size
        have h256 : (B.length : Int) % 256 = B.length := by omega
        have hww : wsum B B.length % 65521 < 65521 := Nat.mod_lt _ (by omega)
        have hq : (wsum B B.length : Int) % 65521 / 256 % 256 = (wsum B B.length : Int) % 65521 / 256 := by omega
        go_wp2_with (first | (at_builtin; refine wpList_append_sl _ rfl (.tmp 51) (.tmp 52) 34 rfl w.heap.size 5 i0 (.int .u8 0) 1 1 Try.underlying34 hi0 hz0 hz1 hz2 rfl (by decide) _ _ _ (by rfl) (own_lit (base := w.heap.size) u5 5 _ 1 1 hu5 (by simp [maxLen]) rfl) _ _ _ (by rfl) (hby5.alloc _) (bvs_one _) (by simp only [maxLen]; omega) (by omega) (by simp; omega) ?_; intro v6 u6 ho6 hg6 ha6; have hb6 : Below w.heap.size w u6 := (hb5.alloc hu5 _).grown hg6 (by simp; omega) (by intro k hk; simp [Value.ownBlock] at hk; omega); have hu6 : w.heap.size ≤ u6.heap.size := hb6.size) | (at_builtin; go_must (refine wpList_append_sl _ rfl (.tmp 53) (.tmp 59) 34 rfl w.heap.size 5 i0 (.int .u8 0) 1 1 Try.underlying34 hi0 hz0 hz1 hz2 rfl (by decide) _ _ _ (by rfl) (ho6.alloc _) _ 2 _ (by rfl) (Sl.lit _ _ _ 1 2 rfl) (by intro x hx; simp at hx; rcases hx with rfl | rfl <;> rfl) (by simp only [maxLen]; omega) (by omega) (by simp; omega) ?_; intro v7 u7 ho7 hg7 ha7)))
        refine bodyPost_ret (v := .tuple #[v7, .int .i64 0]) (by simp [results, Try.results83, go_sem]) rfl ⟨v7, rfl, own_eq ho7 ?_ ?_, own_below hb6 (Nat.le_refl _) ho6 _ hg7⟩
        · simp only [encB, HBB.out]; simp; omega
        · simp only [encB, HBB.out]; simp [bvs]
          omega
  · go_wp2
    have hkb : ((kind : Int) + 16) = ((kindByte kind true).toNat : Int) := by rw [kindByte_nat (by omega)]; simp
    have W0 : ∃ W0, W0 = (w1.alloc (.cells #[.int .u8 ((kind : Int) + 16)] 5)).alloc (.cells #[.int .i64 ep, .int .i64 pid, .int .i64 ver, .int .i64 seq] 3) := ⟨_, rfl⟩
    obtain ⟨W0, hW0⟩ := W0
    have hbox : Blk W0 w.heap.size 55 #[.int .i64 ep, .int .i64 pid, .int .i64 ver, .int .i64 seq, .int .i64 kind, .bool true, .string text] := by rw [hW0]; exact (b1.alloc _).alloc _
    have harr : Blk W0 (w1.heap.size + 1) 3 #[.int .i64 ep, .int .i64 pid, .int .i64 ver, .int .i64 seq] := by
      have := Blk.new (w1.alloc (.cells #[.int .u8 ((kind : Int) + 16)] 5)) 3 #[.int .i64 ep, .int .i64 pid, .int .i64 ver, .int .i64 seq]
      rw [hW0]; simpa using this
    have hown0 : W0.ownsRow w.heap.size 5 1 (.slice (some ⟨w1.heap.size, 0, none⟩) 1 1) ([kindByte kind true] ++ svs ep pid ver seq 0).length (bvs ([kindByte kind true] ++ svs ep pid ver seq 0)) := by
      rw [hW0]
      refine own_eq ((own_lit (base := w.heap.size) w1 5 #[.int .u8 ((kind : Int) + 16)] 1 1 (by omega) (by simp [maxLen]) rfl).alloc _) (by simp [svs]) (by rw [hkb]; simp [svs, bvs])
    have hbel0 : Below w.heap.size w W0 := by
      rw [hW0]
      exact ((((Below.refl _ _).alloc (Nat.le_refl _) _).trans (hb.mono (by omega))).alloc (by omega) _).alloc (by simp; omega) _
    have hz0' : w1.heap.size + 2 ≤ W0.heap.size := by rw [hW0]; simp
    rw [← hW0]
    have HB := Lib.hid hbox
    have HA := Lib.hid harr
    have HL := Lib.hid hbel0
    clear hkb hW0 hbox harr hbel0 c0 c1 c2 c3 c4 c5
    go_loopw [6, 34] (fun b i wr => ∃ k : Nat, k ≤ 4 ∧ i = .int .i64 k ∧ wr.ownsRow w.heap.size 5 1 b ([kindByte kind true] ++ svs ep pid ver seq k).length (bvs ([kindByte kind true] ++ svs ep pid ver seq k)) ∧ Hid (OwnStep W0 wr (.slice (some ⟨w1.heap.size, 0, none⟩) 1 1) b)) (fun _ i _ => 4 - (intOf i).toNat)
    case atStart => exact ⟨0, by omega, rfl, hown0, OwnStep.refl _ _⟩
    case round =>
      obtain ⟨k, hk, rfl, ho, hst⟩ := hrel
      have hbx := hst.out.blk HB.out (by simp [Value.ownBlock]; omega)
      have hax := hst.out.blk HA.out (by simp [Value.ownBlock])
      have hsz := hst.out.size
      have hsv := svs_len ep pid ver seq k (by omega) (by omega) (by omega) (by omega)
      by_cases h4 : k < 4
      · have hnum := fun (n : Nat) (hn : n ≤ 1073741824) => number_any n hn w.heap.size _ _ wr (by simp; omega) (by omega) ho
        have hstep := svs_step ep pid ver seq k h4
        have HN := Lib.hid hnum
        have HS := Lib.hid hstep
        clear hnum hstep
        have a0 := hax.1.cell 0
        have a1 := hax.1.cell 1
        have a2 := hax.1.cell 2
        have a3 := hax.1.cell 3
        rcases (by omega : k = 0 ∨ k = 1 ∨ k = 2 ∨ k = 3) with rfl | rfl | rfl | rfl
        all_goals go_wp2_with fail
        all_goals refine (HN.out _ (by omega)).mono ?_
        all_goals rintro e w2 ⟨x2, rfl, hx2, hs2⟩
        all_goals go_wp2
        all_goals go_light
        all_goals refine ⟨⟨_, ?_, rfl, own_eq hx2 ?_ ?_, OwnStep.trans hst.out hs2⟩, by simp [intOf]⟩
        all_goals first | decide | omega | (rw [HS.out]; simp [natk]; done) | (rw [HS.out]; simp [natk, bvs]; done)
      · obtain rfl : k = 4 := by omega
        have a6 := hbx.1.cell 6
        have hsw : w.heap.size ≤ wr.heap.size := by omega
        have htx : text.data.toList.length = text.size := by rw [Array.length_toList]; rfl
        go_wp2_with (at_builtin; go_must (refine Lib.wpList_append_own_string _ rfl (.tmp 42) (.tmp 44) 34 9 rfl w.heap.size 5 i0 Try.underlying34 Try.underlying9 hi0 hz0 hz1 hz2 _ _ _ (by rfl) ho text (by rfl) (by simp only [maxLen, List.length_append, List.length_cons, List.length_nil]; omega) (by simp only [List.length_append, List.length_cons, List.length_nil]; omega) hsw ?_; intro v5 u5 ho5 hg5 ha5))
        have hb5 : Below w.heap.size w u5 := own_below' (HL.out.trans (hst.out.below (by omega) (by intro k hk; simp [Value.ownBlock] at hk; omega))) (Nat.le_refl _) ho hg5
        generalize hB : bodyB ep pid ver seq kind true text = B at bl1 bl2
        have ho5' : u5.ownsRow w.heap.size 5 1 v5 B.length (bvs B) := own_eq ho5 (by rw [← hB]; simp [bodyB, htx]; omega) (by rw [← hB]; simp [bodyB, bvs, Lib.strCells])
        have HBB := Lib.hid hB
        clear hB a6 ha5 hg5 ho5
        have hby5 : By u5 v5 B := Sl.of_own ho5'
        obtain ⟨A5, k5, e5, hk5, -⟩ := hby5.at_
        subst e5
        refine (sum_any _ B _ hby5 (by omega)).mono ?_
        rintro e w' ⟨rfl, rfl⟩
        have hu5 : w.heap.size ≤ u5.heap.size := hb5.size
        have h256 : (B.length : Int) % 256 = B.length := by omega
        have hww : wsum B B.length % 65521 < 65521 := Nat.mod_lt _ (by omega)
        have hq : (wsum B B.length : Int) % 65521 / 256 % 256 = (wsum B B.length : Int) % 65521 / 256 := by omega
        go_wp2_with (first | (at_builtin; refine wpList_append_sl _ rfl (.tmp 51) (.tmp 52) 34 rfl w.heap.size 5 i0 (.int .u8 0) 1 1 Try.underlying34 hi0 hz0 hz1 hz2 rfl (by decide) _ _ _ (by rfl) (own_lit (base := w.heap.size) u5 5 _ 1 1 hu5 (by simp [maxLen]) rfl) _ _ _ (by rfl) (hby5.alloc _) (bvs_one _) (by simp only [maxLen]; omega) (by omega) (by simp; omega) ?_; intro v6 u6 ho6 hg6 ha6; have hb6 : Below w.heap.size w u6 := (hb5.alloc hu5 _).grown hg6 (by simp; omega) (by intro k hk; simp [Value.ownBlock] at hk; omega); have hu6 : w.heap.size ≤ u6.heap.size := hb6.size) | (at_builtin; go_must (refine wpList_append_sl _ rfl (.tmp 53) (.tmp 59) 34 rfl w.heap.size 5 i0 (.int .u8 0) 1 1 Try.underlying34 hi0 hz0 hz1 hz2 rfl (by decide) _ _ _ (by rfl) (ho6.alloc _) _ 2 _ (by rfl) (Sl.lit _ _ _ 1 2 rfl) (by intro x hx; simp at hx; rcases hx with rfl | rfl <;> rfl) (by simp only [maxLen]; omega) (by omega) (by simp; omega) ?_; intro v7 u7 ho7 hg7 ha7)))
        refine bodyPost_ret (v := .tuple #[v7, .int .i64 0]) (by simp [results, Try.results83, go_sem]) rfl ⟨v7, rfl, own_eq ho7 ?_ ?_, own_below hb6 (Nat.le_refl _) ho6 _ hg7⟩
        · simp only [encB, HBB.out]; simp; omega
        · simp only [encB, HBB.out]; simp [bvs]
          omega
end Go.Proofs.Ytpjjfnpdopdnkaa
