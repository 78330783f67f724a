/- coord.name, group.name and tailraceref.nameMay tell whether a string may be a name. -/
import Derived.Test.YtjkoceacjbhblaaIdxByte
import Derived.Test.YtjkoceacjbhblaaInB
import Derived.Test.YtjkoceacjbhblaaTells
import Derived.Laws.IdiomStrings
namespace Go.Proofs.Ytjkoceacjbhblaa
open Go.RowKit

def Letter (b : UInt8) : Prop := 97 ≤ b.toNat ∧ b.toNat ≤ 122
def NameOk (s : ByteArray) : Prop := 1 ≤ s.size ∧ s.size ≤ 8 ∧ ∀ i (h : i < s.size), Letter s[i]
/-- []byte(s) in memory -/
theorem sl_bytes (w : World) (s : ByteArray) (e : TypeId) (cap : Nat) (hc : s.size ≤ cap) (fr : Nat × Nat) : Sl (w.alloc (.cells (bytesRow s cap) e fr)) 1 (.slice (some ⟨w.heap.size, 0, none⟩) s.size cap) s.size (bvs s.data.toList) := by
  refine ⟨by rw [bvs_length, Nat.mul_one]; exact Array.length_toList, some ⟨w.heap.size, 0, none⟩, cap, rfl, hc, fun _ => ⟨w.heap.size, 0, rfl, by simp, fun j u hu => ?_⟩⟩
  have : (w.alloc (.cells (bytesRow s cap) e fr)).heap[w.heap.size]? = some (.cells (bytesRow s cap) e fr) := heap_alloc_new w _
  simp only [World.cell?, this]
  have hj : j < s.data.size := by
    have := (List.getElem?_eq_some_iff.1 hu).1
    rw [bvs_length, Array.length_toList] at this
    exact this
  rw [bvs_get (by rw [Array.length_toList]; exact hj)] at hu
  simp only [Option.isSome_none, Bool.false_eq_true, if_false, Nat.zero_add]
  rw [← hu]
  unfold bytesRow
  rw [Array.getElem?_append_left (by rw [Array.size_map]; exact hj), Array.getElem?_map, Array.getElem?_eq_getElem hj]
  rfl
theorem below_frozen {B : Nat} {w : World} (o : Obj) (hB : B ≤ w.heap.size) : Below B w (w.drew.alloc o) := ((Below.refl B w).drew).alloc hB o

set_option maxRecDepth 100000 in
set_option maxHeartbeats 1000000 in
theorem coord_letter (b : UInt8) (w : World) :
    Calls Try.prog 125 #[.int .u8 b.toNat] w (Tells (¬ Letter b) w) := by
  have h1 : (b.toNat : Int) < 256 := by have := b.toNat_lt; omega
  go_enter Try.func125, Try.ntmps125
  go_wp2
  all_goals go_ret
  all_goals refine ⟨_, rfl, ?_, Below.refl _ _⟩
  all_goals unfold Letter
  all_goals simp
  all_goals omega

set_option maxRecDepth 100000 in
set_option maxHeartbeats 1000000 in
theorem coord_name_any (s : ByteArray) (w : World) :
    Calls Try.prog 112 #[.string s] w (Tells (NameOk s) w) := by
  by_cases h0 : s.size = 0
  · have e0 : s.toList = [] := (bytes_nil s).2 h0
    have e1 : s = ByteArray.mk #[] := by
      obtain ⟨⟨l⟩⟩ := s
      simp [ByteArray.size] at h0
      subst h0
      rfl
    subst e1
    go_enter Try.func112, Try.ntmps112
    go_wp2
    go_ret
    exact Tells.mk_no (fun h => by have := h.1; omega) (Below.refl _ _)
  · have e0 : s.toList.isEmpty = false := by
      have : s.toList ≠ [] := fun e => h0 ((bytes_nil s).1 e)
      simpa using this
    by_cases h8 : s.size ≤ 8
    · have hcv := fun W => run_bytes_of_string (P := Try.prog) W 9 121 5 s Try.underlying9 Try.underlying121 Try.underlying5
      have hcap : s.size ≤ grownCap w s.size 0 5 := grownCap_ge _ _ _ _
      have hsl := sl_bytes w.drew s 5 (grownCap w s.size 0 5) hcap ((bytesRow s (grownCap w s.size 0 5)).size, (bytesRow s (grownCap w s.size 0 5)).size + 1)
      have hbl := below_frozen (B := w.heap.size) (w := w) (.cells (bytesRow s (grownCap w s.size 0 5)) 5 ((bytesRow s (grownCap w s.size 0 5)).size, (bytesRow s (grownCap w s.size 0 5)).size + 1)) (Nat.le_refl _)
      have H0 := Lib.hid h0
      have HS := Lib.hid hsl
      have HB := Lib.hid hbl
      clear hsl hbl h0 hcap
      go_enter Try.func112, Try.ntmps112
      go_wp2_with fail
      refine (HasByte_any _ s.size (bvs s.data.toList) (fun i => ∃ h : i < s.size, ¬ Letter s[i]) 125 #[] _ HS.out (by omega) (enters_of Try.func125 (by kernel_rfl) rfl) ?_).mono ?_
      · intro j u hj hu W _
        have hj' : j < s.data.toList.length := by rw [Array.length_toList]; exact hj
        rw [bvs_get hj'] at hu
        injection hu with hu
        subst hu
        refine (coord_letter s[j] W).mono fun e w' h => h.cong ⟨fun q => ⟨hj, q⟩, fun ⟨_, q⟩ => q⟩
      · rintro e w1 ⟨q, rfl, hq, hb1⟩
        go_wp2
        go_ret
        refine ⟨_, rfl, ?_, below_then HB.out hb1⟩
        have h0 := H0.out
        constructor
        · intro h
          refine ⟨by omega, h8, fun i hi => ?_⟩
          rcases q with _ | _
          · exact Classical.not_not.1 fun hn => by simpa using hq.2 ⟨i, hi, hi, hn⟩
          · simp at h
        · intro h
          rcases q with _ | _
          · rfl
          · obtain ⟨j, _, hj, hn⟩ := hq.1 rfl
            exact absurd (h.2.2 j hj) hn
    · go_enter Try.func112, Try.ntmps112
      go_wp2
      go_ret
      exact Tells.mk_no (fun h => h8 h.2.1) (Below.refl _ _)

set_option maxRecDepth 100000 in
set_option maxHeartbeats 1000000 in
theorem group_letter (b : UInt8) (w : World) :
    Calls Try.prog 110 #[.int .u8 b.toNat] w (Tells (¬ Letter b) w) := by
  have h1 : (b.toNat : Int) < 256 := by have := b.toNat_lt; omega
  go_enter Try.func110, Try.ntmps110
  go_wp2
  all_goals go_ret
  all_goals refine ⟨_, rfl, ?_, Below.refl _ _⟩
  all_goals unfold Letter
  all_goals simp
  all_goals omega

set_option maxRecDepth 100000 in
set_option maxHeartbeats 1000000 in
theorem group_name_any (s : ByteArray) (w : World) :
    Calls Try.prog 70 #[.string s] w (Tells (NameOk s) w) := by
  by_cases h0 : s.size = 0
  · have e0 : s.toList = [] := (bytes_nil s).2 h0
    have e1 : s = ByteArray.mk #[] := by
      obtain ⟨⟨l⟩⟩ := s
      simp [ByteArray.size] at h0
      subst h0
      rfl
    subst e1
    go_enter Try.func70, Try.ntmps70
    go_wp2
    go_ret
    exact Tells.mk_no (fun h => by have := h.1; omega) (Below.refl _ _)
  · have e0 : s.toList.isEmpty = false := by
      have : s.toList ≠ [] := fun e => h0 ((bytes_nil s).1 e)
      simpa using this
    by_cases h8 : s.size ≤ 8
    · have hcv := fun W => run_bytes_of_string (P := Try.prog) W 9 121 5 s Try.underlying9 Try.underlying121 Try.underlying5
      have hcap : s.size ≤ grownCap w s.size 0 5 := grownCap_ge _ _ _ _
      have hsl := sl_bytes w.drew s 5 (grownCap w s.size 0 5) hcap ((bytesRow s (grownCap w s.size 0 5)).size, (bytesRow s (grownCap w s.size 0 5)).size + 1)
      have hbl := below_frozen (B := w.heap.size) (w := w) (.cells (bytesRow s (grownCap w s.size 0 5)) 5 ((bytesRow s (grownCap w s.size 0 5)).size, (bytesRow s (grownCap w s.size 0 5)).size + 1)) (Nat.le_refl _)
      have H0 := Lib.hid h0
      have HS := Lib.hid hsl
      have HB := Lib.hid hbl
      clear hsl hbl h0 hcap
      go_enter Try.func70, Try.ntmps70
      go_wp2_with fail
      refine (HasByte_any _ s.size (bvs s.data.toList) (fun i => ∃ h : i < s.size, ¬ Letter s[i]) 110 #[] _ HS.out (by omega) (enters_of Try.func110 (by kernel_rfl) rfl) ?_).mono ?_
      · intro j u hj hu W _
        have hj' : j < s.data.toList.length := by rw [Array.length_toList]; exact hj
        rw [bvs_get hj'] at hu
        injection hu with hu
        subst hu
        refine (group_letter s[j] W).mono fun e w' h => h.cong ⟨fun q => ⟨hj, q⟩, fun ⟨_, q⟩ => q⟩
      · rintro e w1 ⟨q, rfl, hq, hb1⟩
        go_wp2
        go_ret
        refine ⟨_, rfl, ?_, below_then HB.out hb1⟩
        have h0 := H0.out
        constructor
        · intro h
          refine ⟨by omega, h8, fun i hi => ?_⟩
          rcases q with _ | _
          · exact Classical.not_not.1 fun hn => by simpa using hq.2 ⟨i, hi, hi, hn⟩
          · simp at h
        · intro h
          rcases q with _ | _
          · rfl
          · obtain ⟨j, _, hj, hn⟩ := hq.1 rfl
            exact absurd (h.2.2 j hj) hn
    · go_enter Try.func70, Try.ntmps70
      go_wp2
      go_ret
      exact Tells.mk_no (fun h => h8 h.2.1) (Below.refl _ _)

set_option maxRecDepth 100000 in
set_option maxHeartbeats 1000000 in
theorem nameMay_any (s : ByteArray) (w : World) (hs : s.size ≤ 9223372036854775807) :
    Calls Try.prog 73 #[.string s] w (Tells (NameOk s) w) := by
  go_enter Try.func73, Try.ntmps73
  go_wp2
  go_loop [3] (fun i => ∃ k : Nat, k ≤ s.size ∧ i = .int .i64 k ∧ Hid (∀ j (h : j < s.size), j < k → Letter s[j])) (fun i => s.size - (intOf i).toNat)
  case atStart => exact ⟨0, by omega, rfl, fun j _ hj => by omega⟩
  case round =>
    obtain ⟨k, hk, rfl, HK⟩ := hrel
    by_cases hlt : k < s.size
    · go_wp2
      all_goals first
        | (go_ret
           refine Tells.mk_no (fun h => ?_) (Below.refl _ _)
           have hl := h.2.2 k hlt
           unfold Letter at hl
           omega)
        | skip
      go_round
      case rel => exact ⟨k + 1, by omega, by go_num, fun j h hj => by
        rcases Nat.lt_succ_iff_lt_or_eq.1 hj with h' | rfl
        · exact HK.out j h h'
        · unfold Letter; omega⟩
      case measure => simp [intOf]; omega
    · obtain rfl : k = s.size := by omega
      go_wp2_with (go_at_call 64; refine (In_any _ _ _ _).mono ?_; rintro e w' ⟨rfl, rfl⟩)
      go_ret
      refine ⟨_, rfl, ?_, Below.refl _ _⟩
      constructor
      · intro h
        simp [inB] at h
        exact ⟨by omega, by omega, fun i hi => HK.out i hi hi⟩
      · intro h
        have h1 := h.1
        have h2 := h.2.1
        simp [inB]
        omega
end Go.Proofs.Ytjkoceacjbhblaa
