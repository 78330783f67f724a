/- wire.Encode and tailraceref.EntryBytes of an entry as plain data. -/
import Derived.Test.YtpjjfnpdopdnkaaFr
import Derived.Test.YtpjjfnpdopdnkaaWire4
namespace Go.Proofs.Ytpjjfnpdopdnkaa
open Go.RowKit

theorem Ent.nats {e : Ent} (h : e.ok) : ((e.ep.toNat : Nat) : Int) = e.ep ∧ ((e.pid.toNat : Nat) : Int) = e.pid ∧ ((e.ver.toNat : Nat) : Int) = e.ver ∧ ((e.seq.toNat : Nat) : Int) = e.seq ∧ ((e.kind.toNat : Nat) : Int) = e.kind := by
  obtain ⟨f1, f2, f3, f4, f5, f6, f7, f8, f9, f10, f11⟩ := fault_kind h
  omega
def Ent.val (e : Ent) : Value := .agg #[.int .i64 e.ep, .int .i64 e.pid, .int .i64 e.ver, .int .i64 e.seq, .int .i64 e.kind, .bool e.txn, .string e.text]
theorem encode_ent (e : Ent) (w : World) (h : e.ok) : Calls Try.prog 83 #[.agg #[.int .i64 e.ep, .int .i64 e.pid, .int .i64 e.ver, .int .i64 e.seq, .int .i64 e.kind, .bool e.txn, .string e.text]] w fun r w' => ∃ v', r = .returned (.tuple #[v', .int .i64 0]) ∧ w'.ownsRow w.heap.size 5 1 v' e.enc.length (bvs e.enc) ∧ Below w.heap.size w w' := by
  obtain ⟨h1, h2, h3, h4, h5⟩ := Ent.nats h
  have hok : entryFault e.ep.toNat e.pid.toNat e.ver.toNat e.seq.toNat e.kind.toNat e.txn e.text.size = 0 := by rw [h1, h2, h3, h4, h5]; exact h
  have k := Encode_ok e.ep.toNat e.pid.toNat e.ver.toNat e.seq.toNat e.kind.toNat e.txn e.text w hok
  rw [h1, h2, h3, h4, h5] at k
  exact k
theorem entryBytes_ent (e : Ent) (w : World) (h : e.ok) : Calls Try.prog 85 #[.agg #[.int .i64 e.ep, .int .i64 e.pid, .int .i64 e.ver, .int .i64 e.seq, .int .i64 e.kind, .bool e.txn, .string e.text]] w fun r w' => ∃ v', r = .returned (.tuple #[v', .int .i64 0]) ∧ w'.ownsRow w.heap.size 5 1 v' e.enc.length (bvs e.enc) ∧ Below w.heap.size w w' := by
  obtain ⟨h1, h2, h3, h4, h5⟩ := Ent.nats h
  have hok : entryFault e.ep.toNat e.pid.toNat e.ver.toNat e.seq.toNat e.kind.toNat e.txn e.text.size = 0 := by rw [h1, h2, h3, h4, h5]; exact h
  have k := EntryBytes_ok e.ep.toNat e.pid.toNat e.ver.toNat e.seq.toNat e.kind.toNat e.txn e.text w hok
  rw [h1, h2, h3, h4, h5] at k
  exact k
end Go.Proofs.Ytpjjfnpdopdnkaa
