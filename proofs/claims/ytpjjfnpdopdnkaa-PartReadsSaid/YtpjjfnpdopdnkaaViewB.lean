/- The map of producers in memory. -/
import Derived.Test.YtpjjfnpdopdnkaaViewA
import Derived.Maps.RangeWalk
import Derived.Maps.OwnOps
import Derived.Maps.Ext
namespace Go.Proofs.Ytpjjfnpdopdnkaa
open Go.RowKit

/-- how a pointer to a producer reads -/
def ptrR : Value → Option (DataW Unit × List MemPlace)
  | .pointer none => some (.nil, [])
  | .pointer (some ⟨b, 0, none⟩) => some (.lit (.int .i64 b), [])
  | _ => none
def ptrV : Option Nat → Value
  | none => .pointer none
  | some b => .pointer (some ⟨b, 0, none⟩)
def ptrD (r : Option Nat) (zd : DataW Unit) : DataW Unit := match r with
  | none => zd
  | some b => .lit (.int .i64 b)
theorem ptrR_inv {v : Value} {y : DataW Unit × List MemPlace} (h : ptrR v = some y) : ∃ r, v = ptrV r ∧ y.1 = ptrD r .nil := by
  unfold ptrR at h
  split at h
  · cases h; exact ⟨none, rfl, rfl⟩
  · rename_i b
    cases h; exact ⟨some b, rfl, rfl⟩
  · cases h
theorem ptrD_inj {r s : Option Nat} (h : ptrD r .nil = ptrD s .nil) : r = s := by
  cases r <;> cases s <;> simp [ptrD] at h
  · rfl
  · exact congrArg some (by omega)
def pkey (pid : Int) : Lit := .int .i64 pid
def prCells (q : PrD) : Array Value := #[.int .i64 q.ver, .int .i64 q.seq, .int .i64 q.opn, .int .i64 q.mark]
/-- block M is a map of producers: f says where each lies, g what it is -/
structure PrMap (base : Nat) (w : World) (M n : Nat) (f : Int → Option Nat) (g : Int → Option PrD) : Prop where
  map : ∃ D, w.ownsMap Try.prog 3 ptrR M n D ∧ ∀ pid zd, D.atKey (pkey pid) zd = ptrD (f pid) zd
  blk : ∀ pid b, f pid = some b → base ≤ b ∧ ∃ q, g pid = some q ∧ Blk w b 110 (prCells q)
  none_ : ∀ pid, f pid = none → g pid = none
  inj : ∀ p p' b, f p = some b → f p' = some b → p = p'
theorem pkey_is (pid : Int) : WideAt.IsKeyLit (pkey pid) := by simp [pkey, WideAt.IsKeyLit]
theorem pkey_of {pid : Int} (h : (Lit.int .i64 pid).wf = true) : keyOf Try.prog 3 (.int .i64 pid) = some (pkey pid) := by
  have := Try.underlying3
  simp [keyOf, this, mapKey, pkey, h]
section
variable {base n M : Nat} {w w' : World} {f : Int → Option Nat} {g : Int → Option PrD}
theorem PrMap.lt (h : PrMap base w M n f g) : M < w.heap.size := by
  obtain ⟨D, h1, _⟩ := h.map
  exact h1.lt
theorem PrMap.ne (h : PrMap base w M n f g) {b : Nat} {t : TypeId} {cs : Array Value} (hb : Blk w b t cs) : M ≠ b := by
  obtain ⟨D, ⟨es, clock, h1, _⟩, _⟩ := h.map
  rintro rfl
  have h2 : w.heap[M]? = _ := hb
  rw [h1] at h2
  cases h2
theorem PrMap.made (w : World) (base : Nat) : PrMap base (w.alloc (.map #[] 0)) w.heap.size 0 (fun _ => none) (fun _ => none) :=
  ⟨⟨_, World.ownsMap_made w _ _ _, fun pid zd => rfl⟩, fun _ _ h => by simp at h, fun _ _ => rfl, fun _ _ _ h => by simp at h⟩
theorem PrMap.mono (h : PrMap base w M n f g) {n' : Nat} (hn : n ≤ n') : PrMap base w M n' f g := by
  obtain ⟨⟨D, h1, h2⟩, h3, h4, h5⟩ := h
  exact ⟨⟨D, h1.mono hn, h2⟩, h3, h4, h5⟩
theorem PrMap.keep (h : PrMap base w M n f g) (hb : Below w.heap.size w w') : PrMap base w' M n f g := by
  obtain ⟨⟨D, h1, h2⟩, h3, h4, h5⟩ := h
  refine ⟨⟨D, h1.kept (⟨hb.os, hb.tape, hb.output, hb.size, fun i hi _ => hb.block i hi⟩ : w.grownBy w' none) (by simp), h2⟩, fun pid b hf => ?_, h4, h5⟩
  obtain ⟨h6, q, h7, h8⟩ := h3 pid b hf
  exact ⟨h6, q, h7, h8.below hb h8.lt⟩
/-- one producer was written -/
theorem PrMap.turn (h : PrMap base w M n f g) {pid : Int} {b : Nat} (hf : f pid = some b) (hg : w.grownBy w' (some b)) {q : PrD} (hb : Blk w' b 110 (prCells q)) : PrMap base w' M n f (fun p => if p = pid then some q else g p) := by
  obtain ⟨h6, q0, h7, h8⟩ := h.blk pid b hf
  have hne := h.ne h8
  obtain ⟨⟨D, h1, h2⟩, h3, h4, h5⟩ := h
  refine ⟨⟨D, h1.kept hg (fun e => by injection e with e; exact hne e), h2⟩, fun p b' hf' => ?_, fun p hp => ?_, h5⟩
  · obtain ⟨a1, q', a2, a3⟩ := h3 p b' hf'
    by_cases hp : p = pid
    · subst hp
      rw [hf] at hf'
      cases hf'
      exact ⟨a1, q, by simp, hb⟩
    · refine ⟨a1, q', by simp [hp, a2], a3.grown hg (fun e => ?_)⟩
      injection e with e
      subst e
      exact hp (h5 _ _ _ hf' hf)
  · by_cases hp' : p = pid
    · subst hp'; rw [hf] at hp; simp at hp
    · simp [hp', h4 p hp]
/-- a producer is laid into the map -/
theorem PrMap.put {D : DataW Unit} (h : PrMap base w M n f g) (hD : w.ownsMap Try.prog 3 ptrR M n D) (ha : ∀ pid zd, D.atKey (pkey pid) zd = ptrD (f pid) zd) {pid : Int} {b : Nat} {q : PrD} (hfree : f pid = none) (hb : Blk w b 110 (prCells q)) (hbb : base ≤ b) (hnew : ∀ p b', f p = some b' → b' ≠ b)
    (hg : w.grownBy w' (some M)) (hput : w'.ownsMap Try.prog 3 ptrR M (n + 1) (D.put (pkey pid) (.lit (.int .i64 b)))) : PrMap base w' M (n + 1) (fun p => if p = pid then some b else f p) (fun p => if p = pid then some q else g p) := by
  have hMb := h.ne hb
  obtain ⟨_, h3, h4, h5⟩ := h
  have hcan := hD.canon (Maps.int_keyed Try.underlying3)
  obtain ⟨es, he, -⟩ := hcan
  have hm : Maps.IsMap D := ⟨es, he⟩
  refine ⟨⟨_, hput, fun p zd => ?_⟩, fun p b' hf' => ?_, fun p hp => ?_, fun p p' b' e1 e2 => ?_⟩
  · by_cases hp : p = pid
    · subst hp
      rw [Maps.atKey_put_same hm (pkey_is p)]
      simp [ptrD]
    · rw [Maps.atKey_put_other (fun e => hp (by simpa [pkey] using e)), ha]
      simp [hp]
  · by_cases hp : p = pid
    · subst hp
      simp only [if_pos] at hf'
      cases hf'
      exact ⟨hbb, q, by simp, hb.grown hg (fun e => by injection e with e; exact hMb e.symm)⟩
    · rw [if_neg hp] at hf'
      obtain ⟨a1, q', a2, a3⟩ := h3 p b' hf'
      refine ⟨a1, q', by simp [hp, a2], a3.grown hg (fun e => ?_)⟩
      injection e with e
      obtain ⟨D0, ⟨es0, clock, c1, _⟩⟩ : ∃ D0, w.ownsMap Try.prog 3 ptrR M n D0 := ⟨D, hD⟩
      have c2 : w.heap[b']? = _ := a3
      rw [e, c1] at c2
      cases c2
  · by_cases hp' : p = pid
    · subst hp'; simp at hp
    · rw [if_neg hp'] at hp
      simp [hp', h4 p hp]
  · by_cases hp : p = pid <;> by_cases hp' : p' = pid
    · rw [hp, hp']
    · rw [if_pos hp] at e1; rw [if_neg hp'] at e2; cases e1
      exact absurd rfl (hnew p' _ e2)
    · rw [if_neg hp] at e1; rw [if_pos hp'] at e2; cases e2
      exact absurd rfl (hnew p _ e1)
    · rw [if_neg hp] at e1; rw [if_neg hp'] at e2
      exact h5 p p' b' e1 e2
theorem prMap_has {D : DataW Unit} (ha : ∀ pid zd, D.atKey (pkey pid) zd = ptrD (f pid) zd) (pid : Int) : Maps.has D (pkey pid) = (f pid).isSome := by
  cases hf : f pid with
  | none => exact Maps.has_false_of_atKey (fun zd => by rw [ha, hf]; rfl)
  | some b => exact Maps.has_true_of_atKey (y := .lit (.int .i64 b)) (fun zd => by rw [ha, hf]; rfl)
end
/-- 'm[k]': the pointer, or nil -/
theorem wpList_lookup_pr (w : World) {ops : Array Oper} {rest : List Oper} {o : Oper} {a : Act} {Q : Exit → Act → World → Prop}
    (hg : o.guard = none) (m x : Operand) (t : TypeId) (hop : o.op = Op.lookup t m x false) (ht : Try.prog.underlying t = some (.map 3 106))
    {base M n : Nat} {f : Int → Option Nat} {g : Int → Option PrD} (h : PrMap base w M n f g) (hm : a.eval m = .map (some M)) (pid : Int) (hx : a.eval x = .int .i64 pid) (hwf : (Lit.int .i64 pid).wf = true) (r : Option Nat) (hr : f pid = r)
    (hK : wpList Try.prog ops Q rest (a.put o.dst (ptrV r)) w) : wpList Try.prog ops Q (o :: rest) a w := by
  obtain ⟨D, hown, ha⟩ := h.map
  refine wpList_plain hg fun K' hK' => ?_
  obtain ⟨v, ps, hrun, hat⟩ := hown.lookup (Maps.int_keyed Try.underlying3) ht (z := .pointer none) (show (zeroValue 106).run Try.prog w = .ok (.pointer none) w by kernel_rfl) (zd := .nil) (zp := []) rfl (pkey_of hwf)
  rw [ha, hr] at hat
  obtain ⟨s, rfl, hs⟩ := ptrR_inv hat
  have := ptrD_inj hs
  subst this
  unfold Oper.wp
  simp [execOp, hop, hm, hx, hrun, Result.andThen]
  exact hK' _ _ hK
end Go.Proofs.Ytpjjfnpdopdnkaa
