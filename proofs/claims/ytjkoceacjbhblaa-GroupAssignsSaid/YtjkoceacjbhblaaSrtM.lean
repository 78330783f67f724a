/- tailracelaw.sameLists of two rows of rows that read the same. -/
import Derived.Test.YtjkoceacjbhblaaSrtL
namespace Go.Proofs.Ytjkoceacjbhblaa
open Go.RowKit

/-- v reads as n lists -/
def Lsv (w : World) (v : Value) (n : Nat) (ls : Nat → List Int) : Prop := ∃ bo vs, v = .slice (some ⟨bo, 0, none⟩) n n ∧ Blk w bo 24 (rowV vs n) ∧ ∀ i, i < n → Is w (vs i) (ls i)
theorem Lsv.below {w w' : World} {v : Value} {n : Nat} {ls : Nat → List Int} (h : Lsv w v n ls) (hb : Below w.heap.size w w') : Lsv w' v n ls := by
  obtain ⟨bo, vs, h1, h2, h3⟩ := h
  exact ⟨bo, vs, h1, h2.below hb h2.lt, fun i hi => (h3 i hi).below hb⟩
theorem AsgPost.open_ {N : List ByteArray} {n P : Nat} {w w' : World} {e : Ending} (h : AsgPost N n P w e w') : ∃ v, e = .returned v ∧ Lsv w' v n (fun i => pts (Lt (cmpF N)) n P i) ∧ Below w.heap.size w w' := by
  obtain ⟨bo, vs, rfl, h⟩ := h
  exact ⟨_, rfl, ⟨bo, vs, rfl, h.blk, fun i hi => h.is hi⟩, h.bel⟩
theorem pts_len (L : Nat → Nat → Prop) (n P i : Nat) : (pts L n P i).length ≤ P := by
  unfold pts casts
  rw [List.length_map]
  exact Nat.le_trans (List.length_filter_le _ _) (by simp)

set_option maxRecDepth 100000 in
set_option maxHeartbeats 4000000 in
theorem sameLists_any (u v : Value) (n : Nat) (ls : Nat → List Int) (w : World) (hu : Lsv w u n ls) (hv : Lsv w v n ls) (hn : n < 8796093022208) (hl : ∀ i, i < n → (ls i).length ≤ 1000) :
    Calls Try.prog 53 #[u, v] w fun e w' => e = .returned (.bool true) ∧ Below w.heap.size w w' := by
  obtain ⟨b1, vs1, rfl, k1, r1⟩ := hu
  obtain ⟨b2, vs2, rfl, k2, r2⟩ := hv
  have K1 := Lib.hid k1
  have K2 := Lib.hid k2
  have R1 := Lib.hid r1
  have R2 := Lib.hid r2
  have HL := Lib.hid hl
  clear k1 k2 r1 r2 hl
  go_enter Try.func53, Try.ntmps53
  go_wp2
  go_loopw [5] (fun x wr => ∃ i : Nat, i ≤ n ∧ x = .int .i64 i ∧ Hid (Below w.heap.size w wr)) (fun x _ => n - (intOf x).toNat)
  case atStart => exact ⟨0, by omega, rfl, Below.refl _ _⟩
  case round =>
    obtain ⟨i, hi, rfl, HW⟩ := hrel
    by_cases hlt : i < n
    · have hz : (i : Int) < (n : Int) := by omega
      have c1 := ((K1.out.below HW.out K1.out.lt).cell i).trans (rowV_get hlt)
      have c2 := ((K2.out.below HW.out K2.out.lt).cell i).trans (rowV_get hlt)
      have s1 := (R1.out i hlt).below HW.out
      have s2 := (R2.out i hlt).below HW.out
      obtain ⟨A1, d1, e1, -⟩ := s1.at_
      obtain ⟨A2, d2, e2, -⟩ := s2.at_
      rw [e1] at c1 s1
      rw [e2] at c2 s2
      have hlen := HL.out i hlt
      have hs := fun m => sameInts_any _ _ (ls i) (ls i) (wr.drewN m) s1 s2 (by omega) (by omega)
      simp only [decide_true] at hs
      have HS := Lib.hid hs
      clear s1 s2 e1 e2 hs
      go_wp2_with fail
      go_quiet (first | (go_at_call 65; refine Calls.quiet_of (HS.out _)))
      go_wp2
      go_light
      exact ⟨⟨i + 1, by omega, by go_num, HW.out.trans ((below_drewN_ _ _).mono HW.out.size)⟩, by simp [intOf]; omega⟩
    · obtain rfl : i = n := by omega
      go_wp2
      go_ret
      exact ⟨rfl, HW.out⟩
end Go.Proofs.Ytjkoceacjbhblaa
