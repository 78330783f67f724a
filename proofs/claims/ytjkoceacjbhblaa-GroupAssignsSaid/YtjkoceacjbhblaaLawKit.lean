/- What every law's last step is made of: a law that answers true and leaves memory below its start as it was meets its row. -/
import Derived.Test.YtjkoceacjbhblaaRows
import Derived.Test.YtjkoceacjbhblaaBase
import Derived.ProofKit
import Derived.Lib.SmallJoins
import Derived.Deep.Slices
import Derived.Deep.Fields
import Derived.ChangeSame
namespace Go.Proofs.Ytjkoceacjbhblaa
open Go.ChangeShapes Go.WideShapes Go.ChangeAt Go.RowKit Go.Joins Go.Deep

theorem own_ : ownKnob Try.prog.godebug = none := by kernel_rfl
theorem laid_ : laidOutB Try.prog = true := by kernel_rfl

theorem toList_of {s : String} {l : List Char} (h : s = String.ofList l) : s.toList = l := by
  subst h
  exact String.toList_ofList
theorem words_split (r : List Char) : ∀ (a : List Char), (∀ c ∈ a, c ≠ Char.ofNat 32) → wordsSigns (a ++ Char.ofNat 32 :: r) = a :: wordsSigns r
  | [], _ => rfl
  | c :: a, h => by
    have hc : c ≠ Char.ofNat 32 := h c (by simp)
    have ih := words_split r a (fun x hx => h x (by simp [hx]))
    rw [List.cons_append, wordsSigns.eq_3 _ _ (fun e => hc e), ih]
def signs1 : List Char := List.map Char.ofNat [104, 97, 114, 110, 101, 115, 115]
def signs2 : List Char := List.map Char.ofNat [97, 101, 57, 99, 55, 99, 100, 49, 51, 53, 53, 55, 99, 49, 54, 97, 99, 50, 49, 55, 49, 99, 56, 55, 102, 54, 54, 101, 50, 54, 50, 48, 55, 57, 53, 50, 99, 48, 98, 52, 53, 99, 55, 57, 53, 55, 50, 49, 52, 98, 56, 97, 48, 50, 48, 48, 57, 50, 49, 48, 100, 100, 99, 52]
def signs3 : List Char := List.map Char.ofNat [99, 117, 116]
def signsRest : List Char := List.map Char.ofNat [97, 116, 32, 116, 97, 105, 108, 114, 97, 99, 101, 47, 116, 97, 105, 108, 114, 97, 99, 101, 108, 97, 119, 46, 78, 97, 109, 101, 115, 32, 116, 97, 105, 108, 114, 97, 99, 101, 47, 116, 97, 105, 108, 114, 97, 99, 101, 108, 97, 119, 46, 67, 111, 111, 114, 100, 78, 101, 119, 32, 116, 97, 105, 108, 114, 97, 99, 101, 47, 116, 97, 105, 108, 114, 97, 99, 101, 108, 97, 119, 46, 71, 114, 111, 117, 112, 78, 101, 119, 32, 116, 97, 105, 108, 114, 97, 99, 101, 47, 116, 97, 105, 108, 114, 97, 99, 101, 108, 97, 119, 46, 67, 111, 111, 114, 100, 67, 111, 112, 105, 101, 115, 32, 116, 97, 105, 108, 114, 97, 99, 101, 47, 116, 97, 105, 108, 114, 97, 99, 101, 108, 97, 119, 46, 71, 114, 111, 117, 112, 67, 111, 112, 105, 101, 115, 32, 116, 97, 105, 108, 114, 97, 99, 101, 47, 116, 97, 105, 108, 114, 97, 99, 101, 108, 97, 119, 46, 71, 114, 111, 117, 112, 67, 104, 101, 99, 107, 115, 32, 116, 97, 105, 108, 114, 97, 99, 101, 47, 116, 97, 105, 108, 114, 97, 99, 101, 108, 97, 119, 46, 67, 111, 111, 114, 100, 67, 104, 101, 99, 107, 115, 32, 116, 97, 105, 108, 114, 97, 99, 101, 47, 116, 97, 105, 108, 114, 97, 99, 101, 108, 97, 119, 46, 67, 111, 111, 114, 100, 78, 101, 120, 116, 32, 116, 97, 105, 108, 114, 97, 99, 101, 47, 116, 97, 105, 108, 114, 97, 99, 101, 108, 97, 119, 46, 67, 111, 111, 114, 100, 84, 105, 99, 107, 115, 32, 116, 97, 105, 108, 114, 97, 99, 101, 47, 116, 97, 105, 108, 114, 97, 99, 101, 108, 97, 119, 46, 71, 114, 111, 117, 112, 66, 101, 97, 116, 115, 32, 116, 97, 105, 108, 114, 97, 99, 101, 47, 116, 97, 105, 108, 114, 97, 99, 101, 108, 97, 119, 46, 67, 111, 111, 114, 100, 73, 110, 105, 116, 115, 32, 116, 97, 105, 108, 114, 97, 99, 101, 47, 116, 97, 105, 108, 114, 97, 99, 101, 108, 97, 119, 46, 71, 114, 111, 117, 112, 87, 104, 101, 114, 101, 32, 116, 97, 105, 108, 114, 97, 99, 101, 47, 116, 97, 105, 108, 114, 97, 99, 101, 108, 97, 119, 46, 67, 111, 111, 114, 100, 69, 110, 100, 115, 32, 116, 97, 105, 108, 114, 97, 99, 101, 47, 116, 97, 105, 108, 114, 97, 99, 101, 108, 97, 119, 46, 67, 111, 111, 114, 100, 68, 111, 110, 101, 32, 116, 97, 105, 108, 114, 97, 99, 101, 47, 116, 97, 105, 108, 114, 97, 99, 101, 108, 97, 119, 46, 71, 114, 111, 117, 112, 65, 115, 115, 105, 103, 110, 115, 32, 116, 97, 105, 108, 114, 97, 99, 101, 47, 116, 97, 105, 108, 114, 97, 99, 101, 108, 97, 119, 46, 71, 114, 111, 117, 112, 83, 116, 111, 114, 101, 115, 32, 116, 97, 105, 108, 114, 97, 99, 101, 47, 116, 97, 105, 108, 114, 97, 99, 101, 108, 97, 119, 46, 67, 111, 111, 114, 100, 65, 100, 100, 115, 32, 116, 97, 105, 108, 114, 97, 99, 101, 47, 116, 97, 105, 108, 114, 97, 99, 101, 108, 97, 119, 46, 71, 114, 111, 117, 112, 74, 111, 105, 110, 115, 32, 116, 97, 105, 108, 114, 97, 99, 101, 47, 116, 97, 105, 108, 114, 97, 99, 101, 108, 97, 119, 46, 71, 114, 111, 117, 112, 84, 105, 99, 107, 115, 32, 116, 97, 105, 108, 114, 97, 99, 101, 47, 116, 97, 105, 108, 114, 97, 99, 101, 108, 97, 119, 46, 71, 114, 111, 117, 112, 76, 101, 97, 118, 101, 115]
theorem no_space {l : List Char} (h : (l.all fun c => !(c == Char.ofNat 32)) = true) : ∀ c ∈ l, c ≠ Char.ofNat 32 := by
  intro c hc e
  have := List.all_eq_true.1 h c hc
  simp [e] at this
theorem initList : Try.prog.initOrder.toList = signs1 ++ Char.ofNat 32 :: (signs2 ++ Char.ofNat 32 :: (signs3 ++ Char.ofNat 32 :: signsRest)) := toList_of (by kernel_rfl)
theorem initWords : ∃ ws, wordsSigns Try.prog.initOrder.toList = signs1 :: signs2 :: signs3 :: ws := by
  refine ⟨wordsSigns signsRest, ?_⟩
  rw [initList, words_split _ _ (no_space (by decide +kernel)), words_split _ _ (no_space (by decide +kernel)), words_split _ _ (no_space (by decide +kernel))]
theorem words1 (ws : List (List Char)) : behindMainWord (signs1 :: signs2 :: signs3 :: ws) = signs3 :: ws := by kernel_rfl
theorem words2 : (signs3 == "gc".toList) = false := by kernel_rfl
theorem words3 : (signs3 == "spec".toList) = false := by kernel_rfl
theorem words4 : (signs3 == "carried".toList) = false := by kernel_rfl
theorem words4' : signs3 ≠ "carried".toList := fun e => by have := words4; rw [e] at this; simp at this
theorem words5 : signs3 = "cut".toList := by kernel_rfl
theorem words6 (ws : List (List Char)) : stripLifts liftWords (signs3 :: ws) = ([], signs3 :: ws) := by kernel_rfl
theorem laysLater_ : Try.prog.laysLater = false := by kernel_rfl
theorem bearsReflect_ : Try.prog.bearsReflect = false := by kernel_rfl
theorem doorFits_ : Try.prog.doorFits [] = true := by kernel_rfl
theorem enter_of {P : Program} {ws : List (List Char)} (h : wordsSigns P.initOrder.toList = signs1 :: signs2 :: signs3 :: ws) (h1 : P.laysLater = false) (h2 : P.bearsReflect = false) (h3 : P.doorFits [] = true) : P.mayEnter = true := by
  unfold Program.mayEnter
  rw [h, words1]
  simp only [words2, words3, words4, words6, h1, h2, h3]
  simp [words5]
theorem lifts_of {P : Program} {ws : List (List Char)} (h : wordsSigns P.initOrder.toList = signs1 :: signs2 :: signs3 :: ws) : P.liftsFinal = false := by
  unfold Program.liftsFinal Program.headLifts
  rw [h, words1]
  have e : ((signs3 :: ws).head? == some "carried".toList) = false := by
    rw [List.head?_cons, beq_eq_false_iff_ne]
    exact fun e => words4' (Option.some.inj e)
  simp only [words6, e]
  simp
theorem make_of {P : Program} {ws : List (List Char)} (h : wordsSigns P.initOrder.toList = signs1 :: signs2 :: signs3 :: ws) : P.make = some .cut := by
  unfold Program.make
  rw [h, words1]
  simp only [words2, words3]
  simp [words5]
theorem mayEnter_ : Try.prog.mayEnter = true := by
  obtain ⟨ws, h⟩ := initWords
  exact enter_of h laysLater_ bearsReflect_ doorFits_
theorem lifts_ : Try.prog.liftsFinal = false := by
  obtain ⟨ws, h⟩ := initWords
  exact lifts_of h
theorem make_ : Try.prog.make = some .cut := by
  obtain ⟨ws, h⟩ := initWords
  exact make_of h

section
variable {H : Type} {enc : TypeId × Value → H} {P : Program}

theorem trodAll_stays {W W' : World} (hl : laidOutB P = true) (hb : Below W.heap.size W W') :
    ∀ (ts : List TypeId) (vs : List Value) (ds : List (DataW H)) (ps : List MemPlace), (∀ t ∈ ts, P.readableRec t = true ∧ t < P.types.size) →
      DataW.TrodAll enc P W 0 (fun _ => true) true ts vs ds ps → (∀ x ∈ ps, x.block < W.heap.size) →
      DataW.TrodAll enc P W' 0 (fun b => decide (b < W.heap.size)) true ts vs ds ps
  | [], [], [], _, _, h, _ => h
  | t :: ts, v :: vs, d :: ds, ps, hr, h, hlt => by
    obtain ⟨p, q, h1, h2, rfl⟩ := h
    exact ⟨p, q, Below.trod hl (hr t (by simp)).1 (hr t (by simp)).2 h1 hb (fun x hx => hlt x (by simp [hx])),
      trodAll_stays hl hb ts vs ds q (fun t' ht' => hr t' (by simp [ht'])) h2 (fun x hx => hlt x (by simp [hx])), rfl⟩
  | [], _ :: _, _, _, _, h, _ => h.elim
  | [], [], _ :: _, _, _, h, _ => h.elim
  | _ :: _, [], _, _, _, h, _ => h.elim
  | _ :: _, _ :: _, [], _, _, h, _ => h.elim

theorem law_post {f : Func} {s : ChangeSpec} {tb : TypeId} {W W' : World} {args : Array Value} {ds : List (DataW H)} {before : List MemPlace}
    (hl : laidOutB P = true) (hv : s.vars = []) (hfn : s.fn H (ds ++ []) = { results := [.lit (.bool true)], args := ds }) (hrt : f.resultTypes = #[tb]) (htb : P.underlying tb = some .bool)
    (hr : ∀ t ∈ f.params.toList, P.readableRec t = true ∧ t < P.types.size)
    (hW : DataW.Whole enc P f.params.toList s.vars false W args.toList ds [] before) (hb : Below W.heap.size W W') :
    s.post enc P f false true false false W args (.bool true) W' := by
  have hW0 := hW
  obtain ⟨p, q, hA, hV, rfl, hz, hn⟩ := hW
  rw [hv] at hV
  obtain ⟨_, rfl⟩ := trodVars_none hV
  have hlt : ∀ x ∈ p, x.block < W.heap.size := fun x hx => hW0.lt x (by simp [hx])
  refine ⟨ds, [], p ++ [], [], p, [], hW0, ?_, ?_, ?_, hb.frame _, fun h => by cases h⟩
  · rw [hfn, hrt]
    exact trodAll_mk1 (shut_bool htb true)
  · rw [hfn]
    exact trodAll_stays hl hb _ _ _ _ hr hA hlt
  · rw [hfn, hv]
    rfl
end

section
variable {H : Type} {enc : TypeId × Value → H} {P : Program} {w : World} {base : Nat} {spare : Nat → Bool} {held : Bool}
theorem open_agg7 {r : Reach} {b0 : Nat} {t : TypeId} {f0 f1 f2 f3 f4 f5 f6 : Field} {v : Value} {d : DataW H} {p : List MemPlace} (hs : P.underlying t = some (.struct #[f0, f1, f2, f3, f4, f5, f6])) (hone : oneCellFields P #[f0, f1, f2, f3, f4, f5, f6] = true) (hC : P.cellsOf t = 7)
    (hv : Value.okWide P w r b0 t v) (h : DataW.Trod enc P w base spare held t v d p) :
    ∃ (v0 v1 v2 v3 v4 v5 v6 : Value) (y0 y1 y2 y3 y4 y5 y6 : DataW H × List MemPlace) (n : Nat), v = .agg #[v0, v1, v2, v3, v4, v5, v6] ∧ d = .agg [y0.1, y1.1, y2.1, y3.1, y4.1, y5.1, y6.1] ∧ p = y0.2 ++ (y1.2 ++ (y2.2 ++ (y3.2 ++ (y4.2 ++ (y5.2 ++ y6.2))))) ∧
      DataW.trod enc P w base spare held n f0.type [v0] = some y0 ∧ DataW.trod enc P w base spare held n f1.type [v1] = some y1 ∧ DataW.trod enc P w base spare held n f2.type [v2] = some y2 ∧ DataW.trod enc P w base spare held n f3.type [v3] = some y3 ∧ DataW.trod enc P w base spare held n f4.type [v4] = some y4 ∧ DataW.trod enc P w base spare held n f5.type [v5] = some y5 ∧ DataW.trod enc P w base spare held n f6.type [v6] = some y6 := by
  obtain ⟨cs, rfl, hsz⟩ := okWide_struct hs hv
  obtain ⟨l⟩ := cs
  match l, hsz.trans hC with
  | [c0, c1, c2, c3, c4, c5, c6], _ =>
    obtain ⟨fuel, hf⟩ := h
    obtain ⟨xs, n, _, hx, _, hlen, hg⟩ := DataW.trod_struct hs hf
    obtain ⟨o0, k0⟩ := hone_of hone 0 f0 rfl
    obtain ⟨o1, k1⟩ := hone_of hone 1 f1 rfl
    obtain ⟨o2, k2⟩ := hone_of hone 2 f2 rfl
    obtain ⟨o3, k3⟩ := hone_of hone 3 f3 rfl
    obtain ⟨o4, k4⟩ := hone_of hone 4 f4 rfl
    obtain ⟨o5, k5⟩ := hone_of hone 5 f5 rfl
    obtain ⟨o6, k6⟩ := hone_of hone 6 f6 rfl
    match xs, hlen with
    | [y0, y1, y2, y3, y4, y5, y6], _ =>
      simp only [Prod.mk.injEq] at hx
      exact ⟨c0, c1, c2, c3, c4, c5, c6, y0, y1, y2, y3, y4, y5, y6, n, rfl, by simpa using hx.1, by simpa using hx.2, by simpa [Value.cells, o0, k0] using hg 0 f0 rfl, by simpa [Value.cells, o1, k1] using hg 1 f1 rfl, by simpa [Value.cells, o2, k2] using hg 2 f2 rfl, by simpa [Value.cells, o3, k3] using hg 3 f3 rfl, by simpa [Value.cells, o4, k4] using hg 4 f4 rfl, by simpa [Value.cells, o5, k5] using hg 5 f5 rfl, by simpa [Value.cells, o6, k6] using hg 6 f6 rfl⟩
end

theorem rec_ok {P : Program} {ts : Array TypeId} (h : (ts.toList.all fun t => P.readableRec t && decide (t < P.types.size)) = true) : ∀ t ∈ ts.toList, P.readableRec t = true ∧ t < P.types.size := by
  intro t ht
  have := List.all_eq_true.1 h t ht
  simpa using this

end Go.Proofs.Ytjkoceacjbhblaa
