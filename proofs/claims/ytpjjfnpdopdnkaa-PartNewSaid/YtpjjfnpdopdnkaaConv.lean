/- string(b) of a slice of bytes that reads as l. -/
import Derived.Test.YtpjjfnpdopdnkaaMem
import Derived.Laws.BytesString
namespace Go.Proofs.Ytpjjfnpdopdnkaa
open Go.RowKit

theorem foldl_push (l : List UInt8) : ∀ s : ByteArray, (l.map fun b => (b.toNat : Int)).foldl (fun r n => r.push (UInt8.ofNat n.toNat)) s = ⟨(s.data.toList ++ l).toArray⟩ := by
  induction l with
  | nil => intro s; simp
  | cons b l ih =>
    intro s
    simp only [List.map_cons, List.foldl_cons, Int.toNat_natCast, UInt8.ofNat_toNat]
    rw [ih]
    simp [ByteArray.push]

theorem By.convert_ {w : World} {v : Value} {l : List UInt8} (h : By w v l) : (convert 34 9 v).run Try.prog w = .ok (.string ⟨l.toArray⟩) w := by
  obtain ⟨hl, A, c, rfl, hc, hcl⟩ := h
  rw [run_convert_bytes_string (P := Try.prog) w 34 9 5 A l.length c Try.underlying34 Try.underlying5 Try.underlying9]
  rcases A with _ | a
  · have : l = [] := by
      rcases l with _ | ⟨b, l⟩
      · rfl
      · obtain ⟨_, _, h, _⟩ := hcl (by simp)
        cases h
    subst this
    simp [Conv.bytesToString]
    rfl
  · have hload : (loadCells a l.length).run Try.prog w = .ok ((l.map fun b => (b.toNat : Int)).map (Value.int .u8)).toArray w := by
      have hm : ((l.map fun b => (b.toNat : Int)).map (Value.int .u8)) = bvs l := by simp [bvs]
      rw [hm]
      have := run_loadCells_list (P := Try.prog) (w := w) a (bvs l) (by
        intro j u hu
        have hj : 0 < l.length := by
          rcases Nat.eq_zero_or_pos l.length with h0 | h0
          · have : l = [] := List.eq_nil_of_length_eq_zero h0
            subst this
            simp [bvs] at hu
          · exact h0
        obtain ⟨b, off, ha, _, hq⟩ := hcl hj
        injection ha with ha
        subst ha
        by_cases h0 : j = 0
        · subst h0; simpa [Addr.add] using hq 0 u hu
        · simpa [Addr.add, h0] using hq j u hu)
      rw [bvs_length] at this
      exact this
    rw [run_bytesToString w a l.length c _ hload, foldl_push]
    simp

end Go.Proofs.Ytpjjfnpdopdnkaa
