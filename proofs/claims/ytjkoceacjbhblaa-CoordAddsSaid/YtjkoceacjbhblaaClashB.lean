/- The endings of a check; coord.Check's own function: a transaction of the same name or number. -/
import Derived.Test.YtjkoceacjbhblaaAns
import Derived.Test.YtjkoceacjbhblaaCoordP
namespace Go.Proofs.Ytjkoceacjbhblaa
open Go.RowKit

theorem toList_inj {a b : ByteArray} (h : a.toList = b.toList) : a = b := by
  rw [ByteArray.toList_eq, ByteArray.toList_eq] at h
  exact ByteArray.ext (Array.toList_inj.1 h)

set_option maxRecDepth 100000 in
set_option maxHeartbeats 1000000 in
theorem coord_clash (x0 : ByteArray) (x1 x2 x3 x5 x6 : Int) (x4 : Value) (nm : ByteArray) (pid : Int) (b o : Nat) (w : World) (hlt : b < w.heap.size) (h0 : w.cell? ⟨b, o, none⟩ = some (.string nm)) (h1 : w.cell? ⟨b, o + 1, none⟩ = some (.int .i64 pid)) (_ho : x4.oneCell' = true) :
    Calls Try.prog 78 #[.agg #[.string x0, .int .i64 x1, .int .i64 x2, .int .i64 x3, x4, .int .i64 x5, .int .i64 x6], .pointer (some ⟨b, o, none⟩)] w (Tells (x0 = nm ∨ x1 = pid) w) := by
  by_cases e1 : x0 = nm
  · subst e1
    go_enter Try.func78, Try.ntmps78
    go_wp2
    go_ret
    exact Tells.mk_yes (by simp) ((Below.refl _ _).alloc (Nat.le_refl _) _)
  · have n1 : (x0.toList == nm.toList) = false := beq_eq_false_iff_ne.2 fun h => e1 (toList_inj h)
    have hx : (x1 == pid) = true ↔ x1 = pid := beq_iff_eq
    have HX := Lib.hid hx
    have E1 := Lib.hid e1
    clear e1 hx
    go_enter Try.func78, Try.ntmps78
    go_wp2
    go_ret
    refine ⟨_, rfl, ?_, (Below.refl _ _).alloc (Nat.le_refl _) _⟩
    exact HX.out.trans ⟨Or.inr, fun h => h.resolve_left E1.out⟩

end Go.Proofs.Ytjkoceacjbhblaa
