/- Parts of a proof, merged: Base, LawKit, BlkB, Mem, OpenSl, Same1, CoordD, OpenCoord, GroupD. No condition. -/
import Derived.Test.YtjkoceacjbhblaaProg
import Derived.WalkKit
import Derived.WalkSpells
import Derived.WalkLawsBesides
import Derived.BigQuiet
import Derived.Deep.QuietTactic
import Derived.Deep.Light
import Derived.Deep.LoopGhost
import Derived.Deep.DeepMust
import Derived.Deep.DeepFit
import Derived.Deep.DeepCutAuto
import Derived.Lib.Hide
import Derived.Test.YtjkoceacjbhblaaRows
import Derived.ProofKit
import Derived.Lib.SmallJoins
import Derived.Deep.Slices
import Derived.Deep.Fields
import Derived.ChangeSame
import Derived.Laws.OwnMore
import Derived.Deep.AppendLies
import Derived.Deep.Draws
import Derived.Maps.AppendAt
import Derived.RegionTactic
import Derived.OwnWalk
import Derived.SizedLaws
namespace Go.Proofs.Ytjkoceacjbhblaa
open Go.RowKit

theorem ret_bool {a b : Bool} (h : a = b) : Ending.returned (.bool a) = .returned (.bool b) := by rw [h]
theorem bytes_nil (s : ByteArray) : s.toList = [] ↔ s.size = 0 := by
  rw [ByteArray.toList_eq]
  have h2 : s.size = s.data.size := rfl
  rw [h2, ← Array.length_toList, List.length_eq_zero_iff]

end Go.Proofs.Ytjkoceacjbhblaa
namespace Go.Proofs.Ytjkoceacjbhblaa
open Go.ChangeShapes Go.WideShapes Go.ChangeAt Go.RowKit Go.Joins Go.Deep

theorem own_ : ownKnob Try.prog.godebug = none := by kernel_rfl
theorem laid_ : laidOutB Try.prog = true := by kernel_rfl

theorem toList_of {s : String} {l : List Char} (h : s = String.ofList l) : s.toList = l := by
  subst h
  exact String.toList_ofList
theorem words_split (r : List Char) : ∀ (a : List Char), (∀ c ∈ a, c ≠ Char.ofNat 32) → wordsSigns (a ++ Char.ofNat 32 :: r) = a :: wordsSigns r
  | [], _ => rfl
  | c :: a, h => by
    have hc : c ≠ Char.ofNat 32 := h c (by simp)
    have ih := words_split r a (fun x hx => h x (by simp [hx]))
    rw [List.cons_append, wordsSigns.eq_3 _ _ (fun e => hc e), ih]
def signs1 : List Char := List.map Char.ofNat [104, 97, 114, 110, 101, 115, 115]
def signs2 : List Char := List.map Char.ofNat [97, 101, 57, 99, 55, 99, 100, 49, 51, 53, 53, 55, 99, 49, 54, 97, 99, 50, 49, 55, 49, 99, 56, 55, 102, 54, 54, 101, 50, 54, 50, 48, 55, 57, 53, 50, 99, 48, 98, 52, 53, 99, 55, 57, 53, 55, 50, 49, 52, 98, 56, 97, 48, 50, 48, 48, 57, 50, 49, 48, 100, 100, 99, 52]
def signs3 : List Char := List.map Char.ofNat [99, 117, 116]
def signsRest : List Char := List.map Char.ofNat [97, 116, 32, 116, 97, 105, 108, 114, 97, 99, 101, 47, 116, 97, 105, 108, 114, 97, 99, 101, 108, 97, 119, 46, 78, 97, 109, 101, 115, 32, 116, 97, 105, 108, 114, 97, 99, 101, 47, 116, 97, 105, 108, 114, 97, 99, 101, 108, 97, 119, 46, 67, 111, 111, 114, 100, 78, 101, 119, 32, 116, 97, 105, 108, 114, 97, 99, 101, 47, 116, 97, 105, 108, 114, 97, 99, 101, 108, 97, 119, 46, 71, 114, 111, 117, 112, 78, 101, 119, 32, 116, 97, 105, 108, 114, 97, 99, 101, 47, 116, 97, 105, 108, 114, 97, 99, 101, 108, 97, 119, 46, 67, 111, 111, 114, 100, 67, 111, 112, 105, 101, 115, 32, 116, 97, 105, 108, 114, 97, 99, 101, 47, 116, 97, 105, 108, 114, 97, 99, 101, 108, 97, 119, 46, 71, 114, 111, 117, 112, 67, 111, 112, 105, 101, 115, 32, 116, 97, 105, 108, 114, 97, 99, 101, 47, 116, 97, 105, 108, 114, 97, 99, 101, 108, 97, 119, 46, 71, 114, 111, 117, 112, 67, 104, 101, 99, 107, 115, 32, 116, 97, 105, 108, 114, 97, 99, 101, 47, 116, 97, 105, 108, 114, 97, 99, 101, 108, 97, 119, 46, 67, 111, 111, 114, 100, 67, 104, 101, 99, 107, 115, 32, 116, 97, 105, 108, 114, 97, 99, 101, 47, 116, 97, 105, 108, 114, 97, 99, 101, 108, 97, 119, 46, 67, 111, 111, 114, 100, 78, 101, 120, 116, 32, 116, 97, 105, 108, 114, 97, 99, 101, 47, 116, 97, 105, 108, 114, 97, 99, 101, 108, 97, 119, 46, 67, 111, 111, 114, 100, 84, 105, 99, 107, 115, 32, 116, 97, 105, 108, 114, 97, 99, 101, 47, 116, 97, 105, 108, 114, 97, 99, 101, 108, 97, 119, 46, 71, 114, 111, 117, 112, 66, 101, 97, 116, 115, 32, 116, 97, 105, 108, 114, 97, 99, 101, 47, 116, 97, 105, 108, 114, 97, 99, 101, 108, 97, 119, 46, 67, 111, 111, 114, 100, 73, 110, 105, 116, 115, 32, 116, 97, 105, 108, 114, 97, 99, 101, 47, 116, 97, 105, 108, 114, 97, 99, 101, 108, 97, 119, 46, 71, 114, 111, 117, 112, 87, 104, 101, 114, 101, 32, 116, 97, 105, 108, 114, 97, 99, 101, 47, 116, 97, 105, 108, 114, 97, 99, 101, 108, 97, 119, 46, 67, 111, 111, 114, 100, 69, 110, 100, 115, 32, 116, 97, 105, 108, 114, 97, 99, 101, 47, 116, 97, 105, 108, 114, 97, 99, 101, 108, 97, 119, 46, 67, 111, 111, 114, 100, 68, 111, 110, 101, 32, 116, 97, 105, 108, 114, 97, 99, 101, 47, 116, 97, 105, 108, 114, 97, 99, 101, 108, 97, 119, 46, 71, 114, 111, 117, 112, 65, 115, 115, 105, 103, 110, 115, 32, 116, 97, 105, 108, 114, 97, 99, 101, 47, 116, 97, 105, 108, 114, 97, 99, 101, 108, 97, 119, 46, 71, 114, 111, 117, 112, 83, 116, 111, 114, 101, 115, 32, 116, 97, 105, 108, 114, 97, 99, 101, 47, 116, 97, 105, 108, 114, 97, 99, 101, 108, 97, 119, 46, 67, 111, 111, 114, 100, 65, 100, 100, 115, 32, 116, 97, 105, 108, 114, 97, 99, 101, 47, 116, 97, 105, 108, 114, 97, 99, 101, 108, 97, 119, 46, 71, 114, 111, 117, 112, 74, 111, 105, 110, 115, 32, 116, 97, 105, 108, 114, 97, 99, 101, 47, 116, 97, 105, 108, 114, 97, 99, 101, 108, 97, 119, 46, 71, 114, 111, 117, 112, 84, 105, 99, 107, 115, 32, 116, 97, 105, 108, 114, 97, 99, 101, 47, 116, 97, 105, 108, 114, 97, 99, 101, 108, 97, 119, 46, 71, 114, 111, 117, 112, 76, 101, 97, 118, 101, 115]
theorem no_space {l : List Char} (h : (l.all fun c => !(c == Char.ofNat 32)) = true) : ∀ c ∈ l, c ≠ Char.ofNat 32 := by
  intro c hc e
  have := List.all_eq_true.1 h c hc
  simp [e] at this
theorem initList : Try.prog.initOrder.toList = signs1 ++ Char.ofNat 32 :: (signs2 ++ Char.ofNat 32 :: (signs3 ++ Char.ofNat 32 :: signsRest)) := toList_of (by kernel_rfl)
theorem initWords : ∃ ws, wordsSigns Try.prog.initOrder.toList = signs1 :: signs2 :: signs3 :: ws := by
  refine ⟨wordsSigns signsRest, ?_⟩
  rw [initList, words_split _ _ (no_space (by decide +kernel)), words_split _ _ (no_space (by decide +kernel)), words_split _ _ (no_space (by decide +kernel))]
theorem words1 (ws : List (List Char)) : behindMainWord (signs1 :: signs2 :: signs3 :: ws) = signs3 :: ws := by kernel_rfl
theorem words2 : (signs3 == "gc".toList) = false := by kernel_rfl
theorem words3 : (signs3 == "spec".toList) = false := by kernel_rfl
theorem words4 : (signs3 == "carried".toList) = false := by kernel_rfl
theorem words4' : signs3 ≠ "carried".toList := fun e => by have := words4; rw [e] at this; simp at this
theorem words5 : signs3 = "cut".toList := by kernel_rfl
theorem words6 (ws : List (List Char)) : stripLifts liftWords (signs3 :: ws) = ([], signs3 :: ws) := by kernel_rfl
theorem laysLater_ : Try.prog.laysLater = false := by kernel_rfl
theorem bearsReflect_ : Try.prog.bearsReflect = false := by kernel_rfl
theorem doorFits_ : Try.prog.doorFits [] = true := by kernel_rfl
theorem enter_of {P : Program} {ws : List (List Char)} (h : wordsSigns P.initOrder.toList = signs1 :: signs2 :: signs3 :: ws) (h1 : P.laysLater = false) (h2 : P.bearsReflect = false) (h3 : P.doorFits [] = true) : P.mayEnter = true := by
  unfold Program.mayEnter
  rw [h, words1]
  simp only [words2, words3, words4, words6, h1, h2, h3]
  simp [words5]
theorem lifts_of {P : Program} {ws : List (List Char)} (h : wordsSigns P.initOrder.toList = signs1 :: signs2 :: signs3 :: ws) : P.liftsFinal = false := by
  unfold Program.liftsFinal Program.headLifts
  rw [h, words1]
  have e : ((signs3 :: ws).head? == some "carried".toList) = false := by
    rw [List.head?_cons, beq_eq_false_iff_ne]
    exact fun e => words4' (Option.some.inj e)
  simp only [words6, e]
  simp
theorem make_of {P : Program} {ws : List (List Char)} (h : wordsSigns P.initOrder.toList = signs1 :: signs2 :: signs3 :: ws) : P.make = some .cut := by
  unfold Program.make
  rw [h, words1]
  simp only [words2, words3]
  simp [words5]
theorem mayEnter_ : Try.prog.mayEnter = true := by
  obtain ⟨ws, h⟩ := initWords
  exact enter_of h laysLater_ bearsReflect_ doorFits_
theorem lifts_ : Try.prog.liftsFinal = false := by
  obtain ⟨ws, h⟩ := initWords
  exact lifts_of h
theorem make_ : Try.prog.make = some .cut := by
  obtain ⟨ws, h⟩ := initWords
  exact make_of h

section
variable {H : Type} {enc : TypeId × Value → H} {P : Program}

theorem trodAll_stays {W W' : World} (hl : laidOutB P = true) (hb : Below W.heap.size W W') :
    ∀ (ts : List TypeId) (vs : List Value) (ds : List (DataW H)) (ps : List MemPlace), (∀ t ∈ ts, P.readableRec t = true ∧ t < P.types.size) →
      DataW.TrodAll enc P W 0 (fun _ => true) true ts vs ds ps → (∀ x ∈ ps, x.block < W.heap.size) →
      DataW.TrodAll enc P W' 0 (fun b => decide (b < W.heap.size)) true ts vs ds ps
  | [], [], [], _, _, h, _ => h
  | t :: ts, v :: vs, d :: ds, ps, hr, h, hlt => by
    obtain ⟨p, q, h1, h2, rfl⟩ := h
    exact ⟨p, q, Below.trod hl (hr t (by simp)).1 (hr t (by simp)).2 h1 hb (fun x hx => hlt x (by simp [hx])),
      trodAll_stays hl hb ts vs ds q (fun t' ht' => hr t' (by simp [ht'])) h2 (fun x hx => hlt x (by simp [hx])), rfl⟩
  | [], _ :: _, _, _, _, h, _ => h.elim
  | [], [], _ :: _, _, _, h, _ => h.elim
  | _ :: _, [], _, _, _, h, _ => h.elim
  | _ :: _, _ :: _, [], _, _, h, _ => h.elim

theorem law_post {f : Func} {s : ChangeSpec} {tb : TypeId} {W W' : World} {args : Array Value} {ds : List (DataW H)} {before : List MemPlace}
    (hl : laidOutB P = true) (hv : s.vars = []) (hfn : s.fn H (ds ++ []) = { results := [.lit (.bool true)], args := ds }) (hrt : f.resultTypes = #[tb]) (htb : P.underlying tb = some .bool)
    (hr : ∀ t ∈ f.params.toList, P.readableRec t = true ∧ t < P.types.size)
    (hW : DataW.Whole enc P f.params.toList s.vars false W args.toList ds [] before) (hb : Below W.heap.size W W') :
    s.post enc P f false true false false W args (.bool true) W' := by
  have hW0 := hW
  obtain ⟨p, q, hA, hV, rfl, hz, hn⟩ := hW
  rw [hv] at hV
  obtain ⟨_, rfl⟩ := trodVars_none hV
  have hlt : ∀ x ∈ p, x.block < W.heap.size := fun x hx => hW0.lt x (by simp [hx])
  refine ⟨ds, [], p ++ [], [], p, [], hW0, ?_, ?_, ?_, hb.frame _, fun h => by cases h⟩
  · rw [hfn, hrt]
    exact trodAll_mk1 (shut_bool htb true)
  · rw [hfn]
    exact trodAll_stays hl hb _ _ _ _ hr hA hlt
  · rw [hfn, hv]
    rfl
end

section
variable {H : Type} {enc : TypeId × Value → H} {P : Program} {w : World} {base : Nat} {spare : Nat → Bool} {held : Bool}
end

theorem rec_ok {P : Program} {ts : Array TypeId} (h : (ts.toList.all fun t => P.readableRec t && decide (t < P.types.size)) = true) : ∀ t ∈ ts.toList, P.readableRec t = true ∧ t < P.types.size := by
  intro t ht
  have := List.all_eq_true.1 h t ht
  simpa using this

end Go.Proofs.Ytjkoceacjbhblaa
namespace Go.Proofs.Ytjkoceacjbhblaa
open Go.RowKit

/-- block g is just these cells -/
def Blk (w : World) (g : Nat) (t : TypeId) (cs : Array Value) : Prop := w.heap[g]? = some (.cells cs t (0, 0))
section
variable {w w' : World} {g : Nat} {t : TypeId} {cs : Array Value}
theorem Blk.lt (h : Blk w g t cs) : g < w.heap.size := by
  rcases Nat.lt_or_ge g w.heap.size with hlt | hge
  · exact hlt
  · unfold Blk at h; rw [Array.getElem?_eq_none hge] at h; cases h
theorem Blk.cell (h : Blk w g t cs) (i : Nat) : w.cell? ⟨g, i, none⟩ = cs[i]? := by
  unfold Blk at h
  simp [World.cell?, h]
theorem Blk.frozen (h : Blk w g t cs) (i : Nat) : w.frozen? ⟨g, i, none⟩ = false := by
  unfold Blk at h
  simp [World.frozen?, h]
theorem Blk.new (w : World) (t : TypeId) (cs : Array Value) : Blk (w.alloc (.cells cs t)) w.heap.size t cs := heap_alloc_new w _
theorem Blk.alloc (h : Blk w g t cs) (o : Obj) : Blk (w.alloc o) g t cs := (Below.heap_alloc w o g h.lt).trans h
theorem Blk.set_ (h : Blk w g t cs) (i : Nat) (u : Value) : Blk (w.setCell ⟨g, i, none⟩ u) g t (cs.setIfInBounds i u) := by
  unfold Blk at h ⊢
  simp [World.setCell, Array.getElem?_modify, h]
theorem Blk.far (h : Blk w g t cs) {p : Addr} (hp : g ≠ p.block) (u : Value) : Blk (w.setCell p u) g t cs := (Below.heap_setCell w p u g hp).trans h
theorem Blk.below {B : Nat} (h : Blk w g t cs) (hb : Below B w w') (hg : g < B) : Blk w' g t cs := (hb.block g hg).trans h
theorem Blk.grown {row : Option Nat} (h : Blk w g t cs) (hb : w.grownBy w' row) (hg : some g ≠ row) : Blk w' g t cs := (hb.block g h.lt hg).trans h
end
theorem Blk.new_ (w : World) (t : TypeId) (cs : Array Value) {g : Nat} (h : g = w.heap.size) : Blk (w.alloc (.cells cs t)) g t cs := by subst h; exact Blk.new w t cs
end Go.Proofs.Ytjkoceacjbhblaa
namespace Go.Proofs.Ytjkoceacjbhblaa
open Go.RowKit

/-- the slice value v has n elements of size cells each, and they are xs -/
def Sl (w : World) (size : Nat) (v : Value) (n : Nat) (xs : List Value) : Prop :=
  xs.length = n * size ∧ ∃ A c, v = .slice A n c ∧ n ≤ c ∧ (0 < n → ∃ b off, A = some ⟨b, off, none⟩ ∧ b < w.heap.size ∧ ∀ j u, xs[j]? = some u → w.cell? ⟨b, off + j, none⟩ = some u)

theorem cell_lt {w : World} {a : Addr} {u : Value} (h : w.cell? a = some u) : a.block < w.heap.size := by
  rcases Nat.lt_or_ge a.block w.heap.size with h1 | h1
  · exact h1
  · unfold World.cell? at h
    rw [Array.getElem?_eq_none h1] at h
    simp at h

section
variable {w w' : World} {size n : Nat} {v : Value} {xs : List Value}
theorem Sl.keep (h : Sl w size v n xs) (hs : w.heap.size ≤ w'.heap.size) (hk : ∀ p : Addr, p.block < w.heap.size → w'.cell? p = w.cell? p) : Sl w' size v n xs := by
  obtain ⟨h1, A, c, hv, hc, h2⟩ := h
  refine ⟨h1, A, c, hv, hc, fun hn => ?_⟩
  obtain ⟨b, off, hA, hb, hcell⟩ := h2 hn
  exact ⟨b, off, hA, by omega, fun j u hu => (hk _ hb).trans (hcell j u hu)⟩
theorem Sl.below (h : Sl w size v n xs) (hb : Below w.heap.size w w') : Sl w' size v n xs := h.keep hb.size fun _ hp => hb.cell hp
theorem Sl.drew (h : Sl w size v n xs) : Sl w.drew size v n xs := h
theorem Sl.alloc (h : Sl w size v n xs) (o : Obj) : Sl (w.alloc o) size v n xs := h.keep (by simp) fun _ hp => World.cell?_alloc_lt w o _ hp
theorem Sl.form (h : Sl w size v n xs) : ∃ A c, v = .slice A n c ∧ n ≤ c := by
  obtain ⟨_, A, c, hv, hc, _⟩ := h
  exact ⟨A, c, hv, hc⟩
theorem Sl.nil_ (w : World) (size : Nat) : Sl w size (.slice none 0 0) 0 [] := ⟨by simp, none, 0, rfl, Nat.le_refl _, fun h => absurd h (by omega)⟩
theorem Sl.of_own {base : Nat} {e : TypeId} (h : w.ownsRow base e size v n xs) : Sl w size v n xs := by
  refine ⟨h.1, ?_⟩
  have hcl := @World.ownsRow.cells
  rcases h.2 with ⟨hv, hn⟩ | ⟨g, cap, cur, hv, hb, hh, hnc, hr⟩
  · subst hv; subst hn
    exact ⟨none, 0, rfl, Nat.le_refl _, fun h => absurd h (by omega)⟩
  · have hg : v.ownBlock = some g := by rw [hv]; rfl
    refine ⟨some ⟨g, 0, none⟩, cap, hv, hnc, fun _ => ⟨g, 0, rfl, (h.lt g hg).2, fun j u hu => ?_⟩⟩
    have := hcl h hg j u hu
    by_cases hj : j = 0
    · subst hj; simpa [Addr.add] using this
    · simpa [Addr.add, hj] using this
end

section
variable {P : Program} (w : World)
theorem run_append_of_nil (base : Nat) (t ty e : TypeId) (i : TypeInfo) (size : Nat) (ht : P.underlying t = some (.slice e)) (hi : P.info? e = some i)
    (v : Value) (n : Nat) (xs : List Value) (hown : w.ownsRow base e size v n xs) (c : Nat) : (Builtin.append_ #[t, t] ty #[v, .slice none 0 c]).run P w = .ok v w := by
  rcases hown.2 with ⟨rfl, rfl⟩ | ⟨g, cap, cur, rfl, _, _, hnc, _⟩
  · simp [Builtin.append_, run_underlying ht, sizeOf, typeInfo, hi, Builtin.lenOf, Builtin.firstCells]
  · simp [Builtin.append_, run_underlying ht, sizeOf, typeInfo, hi, Builtin.lenOf, Builtin.firstCells, hnc, storeCells]

theorem run_append_sl (base : Nat) (t ty e : TypeId) (i : TypeInfo) (z : Value) (size bytes : Nat) (ht : P.underlying t = some (.slice e)) (hi : P.info? e = some i) (hz : i.zero = some z)
    (hsize : i.size = size) (hby : i.bytes = bytes) (hzs : z.cells.size = size) (hsz : 0 < size)
    (v : Value) (n : Nat) (xs : List Value) (hown : w.ownsRow base e size v n xs)
    (u : Value) (m : Nat) (news : List Value) (hr : Sl w size u m news) (h1 : ∀ x ∈ news, x.oneCell' = true)
    (h63 : n + m ≤ maxLen) (hbytes : (n + m) * bytes ≤ 140737488355328) (hbase : base ≤ w.heap.size) :
    ∃ v' w', (Builtin.append_ #[t, t] ty #[v, u]).run P w = .ok v' w' ∧ w'.ownsRow base e size v' (n + m) (xs ++ news) ∧ w.grownBy w' v.ownBlock ∧
      (v'.ownBlock = v.ownBlock ∨ v'.ownBlock = some w.heap.size) := by
  obtain ⟨hl, A, c, rfl, hc, hcl⟩ := hr
  rcases A with _ | ad
  · have hm : m = 0 := by
      rcases Nat.eq_zero_or_pos m with h0 | h0
      · exact h0
      · obtain ⟨_, _, h, _⟩ := hcl h0
        cases h
    subst hm
    have hn : news = [] := List.eq_nil_of_length_eq_zero (by simpa using hl)
    subst hn
    exact ⟨v, w, run_append_of_nil w base t ty e i size ht hi v n xs hown c, by simpa using hown, World.grownBy.refl w _, .inl rfl⟩
  · have hcells : ∀ j x, news[j]? = some x → w.cell? (ad.add j) = some x := by
      intro j x hx
      rcases Nat.eq_zero_or_pos m with h0 | h0
      · subst h0
        have hn : news = [] := List.eq_nil_of_length_eq_zero (by simpa using hl)
        subst hn
        simp at hx
      · obtain ⟨b, off, h, _, hq⟩ := hcl h0
        injection h with h
        subst h
        by_cases hj : j = 0
        · subst hj; simpa [Addr.add] using hq 0 x hx
        · simpa [Addr.add, hj] using hq j x hx
    obtain ⟨v', w', hrun, h2, h3, _, h5⟩ := run_append_own_at (P := P) w base t ty e i z size bytes ht hi hz hsize hby hzs hsz v n xs hown ad m c news hl hcells h1 h63 hbytes hbase
    exact ⟨v', w', hrun, h2, h3, h5⟩

theorem wp_append_sl {o : Oper} {a : Act} {K : Act → World → Prop} {Q : Exit → Act → World → Prop} (s x : Operand) (t : TypeId)
    (ho : o.op = .call { callee := .builtin .append, args := #[s, x], argTypes := #[t, t] })
    (base : Nat) (e : TypeId) (i : TypeInfo) (z : Value) (size bytes : Nat) (ht : P.underlying t = some (.slice e)) (hi : P.info? e = some i) (hz : i.zero = some z)
    (hsize : i.size = size) (hby : i.bytes = bytes) (hzs : z.cells.size = size) (hsz : 0 < size)
    (v : Value) (n : Nat) (xs : List Value) (hs : a.eval s = v) (hown : w.ownsRow base e size v n xs)
    (u : Value) (m : Nat) (news : List Value) (hx : a.eval x = u) (hr : Sl w size u m news) (h1 : ∀ x ∈ news, x.oneCell' = true)
    (h63 : n + m ≤ maxLen) (hbytes : (n + m) * bytes ≤ 140737488355328) (hbase : base ≤ w.heap.size)
    (h : ∀ v' w', w'.ownsRow base e size v' (n + m) (xs ++ news) → w.grownBy w' v.ownBlock → (v'.ownBlock = v.ownBlock ∨ v'.ownBlock = some w.heap.size) → K (a.put o.dst v') w') : o.wp P a w K Q := by
  obtain ⟨v', w', hrun, h2, h3, h4⟩ := run_append_sl (P := P) w base t o.type e i z size bytes ht hi hz hsize hby hzs hsz v n xs hown u m news hr h1 h63 hbytes hbase
  unfold Oper.wp execOp
  simp only [ho, resolve, invoke, builtin, Sem.run_bind, Sem.run_pure, Result.andThen_ok, List.map_toArray, List.map_cons, List.map_nil, hs, hx, hrun]
  exact h v' w' h2 h3 h4

theorem wpList_append_sl {ops : Array Oper} {rest : List Oper} {o : Oper} {a : Act} {Q : Exit → Act → World → Prop} (hgd : o.guard = none) (s x : Operand) (t : TypeId)
    (ho : o.op = .call { callee := .builtin .append, args := #[s, x], argTypes := #[t, t] })
    (base : Nat) (e : TypeId) (i : TypeInfo) (z : Value) (size bytes : Nat) (ht : P.underlying t = some (.slice e)) (hi : P.info? e = some i) (hz : i.zero = some z)
    (hsize : i.size = size) (hby : i.bytes = bytes) (hzs : z.cells.size = size) (hsz : 0 < size)
    (v : Value) (n : Nat) (xs : List Value) (hs : a.eval s = v) (hown : w.ownsRow base e size v n xs)
    (u : Value) (m : Nat) (news : List Value) (hx : a.eval x = u) (hr : Sl w size u m news) (h1 : ∀ x ∈ news, x.oneCell' = true)
    (h63 : n + m ≤ maxLen) (hbytes : (n + m) * bytes ≤ 140737488355328) (hbase : base ≤ w.heap.size)
    (h : ∀ v' w', w'.ownsRow base e size v' (n + m) (xs ++ news) → w.grownBy w' v.ownBlock → (v'.ownBlock = v.ownBlock ∨ v'.ownBlock = some w.heap.size) → wpList P ops Q rest (a.put o.dst v') w') : wpList P ops Q (o :: rest) a w :=
  wpList_plain hgd fun _ hK => wp_append_sl w s x t ho base e i z size bytes ht hi hz hsize hby hzs hsz v n xs hs hown u m news hx hr h1 h63 hbytes hbase fun v' w' h2 h3 h4 => hK _ _ (h v' w' h2 h3 h4)
end

/-- behind an append onto a row of the call's own, its source in a new block -/
theorem own_below {B : Nat} {w wr w1 : World} {e : TypeId} {size n : Nat} {v : Value} {xs : List Value} (hb : Below B w wr) (hB : B ≤ w.heap.size) (ho : wr.ownsRow B e size v n xs) (o : Obj) (hg : (wr.alloc o).grownBy w1 v.ownBlock) : Below B w w1 :=
  (hb.alloc (Nat.le_trans hB hb.size) o).grown hg (by have := hb.size; simp; omega) fun k hk => (ho.lt k hk).1
theorem own_eq {w : World} {B : Nat} {e : TypeId} {size n n' : Nat} {v : Value} {xs ys : List Value} (h : w.ownsRow B e size v n xs) (h1 : n = n') (h2 : xs = ys) : w.ownsRow B e size v n' ys := by subst h1; subst h2; exact h

/-- from w with the row v to w' with the row v': what was there has not turned but for v's own row; v' is that row or a new one -/
def OwnStep (w w' : World) (v v' : Value) : Prop := w.grownBy w' v.ownBlock ∧ (v'.ownBlock = v.ownBlock ∨ ∃ k, v'.ownBlock = some k ∧ w.heap.size ≤ k)
theorem OwnStep.refl (w : World) (v : Value) : OwnStep w w v v := ⟨World.grownBy.refl w _, .inl rfl⟩
theorem OwnStep.trans {w w1 w2 : World} {v v1 v2 : Value} (h : OwnStep w w1 v v1) (k : OwnStep w1 w2 v1 v2) : OwnStep w w2 v v2 := by
  obtain ⟨h1, h2⟩ := h
  obtain ⟨k1, k2⟩ := k
  refine ⟨⟨k1.os.trans h1.os, k1.tape.trans h1.tape, k1.output.trans h1.output, Nat.le_trans h1.size k1.size, fun i hi hne => ?_⟩, ?_⟩
  · refine (k1.block i (Nat.lt_of_lt_of_le hi h1.size) ?_).trans (h1.block i hi hne)
    rcases h2 with h2 | ⟨g, h2, hg⟩
    · rw [h2]; exact hne
    · rw [h2]; intro e; injection e with e; omega
  · have hs := h1.size
    rcases k2 with k2 | ⟨g, k2, hg⟩
    · rcases h2 with h2 | ⟨g', h2, hg'⟩
      · exact .inl (k2.trans h2)
      · exact .inr ⟨g', k2.trans h2, hg'⟩
    · exact .inr ⟨g, k2, by omega⟩
theorem OwnStep.cell {w w' : World} {v v' : Value} (h : OwnStep w w' v v') {a : Addr} {u : Value} (hc : w.cell? a = some u) (hne : some a.block ≠ v.ownBlock) : w'.cell? a = some u := h.1.cell hc hne
theorem OwnStep.size {w w' : World} {v v' : Value} (h : OwnStep w w' v v') : w.heap.size ≤ w'.heap.size := h.1.size
theorem OwnStep.below {B : Nat} {w w' : World} {v v' : Value} (h : OwnStep w w' v v') (hB : B ≤ w.heap.size) (hv : ∀ k, v.ownBlock = some k → B ≤ k) : Below B w w' :=
  (Below.refl B w).grown h.1 hB hv
/-- a row of the call's own stays while the world grows above it -/
theorem own_keep {base B : Nat} {w w' : World} {e : TypeId} {size n : Nat} {v : Value} {xs : List Value} (h : w.ownsRow base e size v n xs) (hb : Below B w w') (hv : ∀ k, v.ownBlock = some k → k < B) : w'.ownsRow base e size v n xs := by
  obtain ⟨h1, h2⟩ := h
  refine ⟨h1, ?_⟩
  rcases h2 with h2 | ⟨g, cap, cur, hv', hg, hh, r⟩
  · exact .inl h2
  · refine .inr ⟨g, cap, cur, hv', hg, ?_, r⟩
    rw [hb.block g (hv g (by rw [hv']; rfl))]
    exact hh
theorem own_lit {base : Nat} (w : World) (e : TypeId) (cs : Array Value) (size n : Nat) (hb : base ≤ w.heap.size) (hm : n ≤ maxLen) (hs : cs.size = n * size) : (w.alloc (.cells cs e)).ownsRow base e size (.slice (some ⟨w.heap.size, 0, none⟩) n n) n cs.toList :=
  World.ownsRow_lit w cs n hb hm hs
theorem own_base {base base' : Nat} {w : World} {e : TypeId} {size n : Nat} {v : Value} {xs : List Value} (h : w.ownsRow base e size v n xs) (hb : base' ≤ base) : w.ownsRow base' e size v n xs := by
  obtain ⟨h1, h2⟩ := h
  refine ⟨h1, ?_⟩
  rcases h2 with h2 | ⟨g, cap, cur, hv', hg, r⟩
  · exact .inl h2
  · exact .inr ⟨g, cap, cur, hv', by omega, r⟩

theorem OwnStep.blk {w w' : World} {v v' : Value} {g : Nat} {t : TypeId} {cs : Array Value} (h : OwnStep w w' v v') (hb : Blk w g t cs) (hne : v.ownBlock ≠ some g) : Blk w' g t cs ∧ v'.ownBlock ≠ some g := by
  refine ⟨hb.grown h.1 (fun e => hne e.symm), fun e => ?_⟩
  have := hb.lt
  rcases h.2 with h2 | ⟨k, h2, hk⟩
  · exact hne (h2.symm.trans e)
  · rw [h2] at e; injection e with e; omega

/-- a literal slice in a new block -/
theorem Sl.lit (w : World) (e : TypeId) (cs : Array Value) (size n : Nat) (h : cs.size = n * size) : Sl (w.alloc (.cells cs e)) size (.slice (some ⟨w.heap.size, 0, none⟩) n n) n cs.toList := by
  refine ⟨by simpa using h, some ⟨w.heap.size, 0, none⟩, n, rfl, Nat.le_refl _, fun _ => ⟨w.heap.size, 0, rfl, by simp, fun j u hu => ?_⟩⟩
  have : (w.alloc (.cells cs e)).heap[w.heap.size]? = some (.cells cs e (0, 0)) := heap_alloc_new w _
  simp only [World.cell?, this]
  simpa using hu

def bvs (l : List UInt8) : List Value := l.map fun b => Value.int .u8 b.toNat
theorem bvs_length (l : List UInt8) : (bvs l).length = l.length := by simp [bvs]
theorem bvs_get {l : List UInt8} {i : Nat} (h : i < l.length) : (bvs l)[i]? = some (.int .u8 (l[i]).toNat) := by simp [bvs, List.getElem?_eq_getElem h]
/-- v is the bytes l -/
def By (w : World) (v : Value) (l : List UInt8) : Prop := Sl w 1 v l.length (bvs l)
theorem By.below {w w' : World} {v : Value} {l : List UInt8} (h : By w v l) (hb : Below w.heap.size w w') : By w' v l := Sl.below h hb
theorem By.at_ {w : World} {v : Value} {l : List UInt8} (h : By w v l) : ∃ A c, v = .slice A l.length c ∧ l.length ≤ c ∧ (0 < l.length → ∃ b off, A = some ⟨b, off, none⟩ ∧ b < w.heap.size ∧ ∀ i (hi : i < l.length), w.cell? ⟨b, off + i, none⟩ = some (.int .u8 (l[i]).toNat)) := by
  obtain ⟨_, A, c, hv, hc, h2⟩ := h
  refine ⟨A, c, hv, hc, fun hn => ?_⟩
  obtain ⟨b, off, hA, hb, hcell⟩ := h2 hn
  exact ⟨b, off, hA, hb, fun i hi => hcell i _ (bvs_get hi)⟩

end Go.Proofs.Ytjkoceacjbhblaa
namespace Go.Proofs.Ytjkoceacjbhblaa
open Go.ChangeShapes Go.WideShapes Go.ChangeAt Go.RowKit Go.Joins Go.Deep

theorem getElem?_flatten_even : ∀ (cs : List (List Value)) (k : Nat), (∀ c ∈ cs, c.length = k) → ∀ (j : Nat), 0 < k → cs.flatten[j]? = (cs[j / k]?).bind fun c => c[j % k]?
  | [], k, _, j, hk => by simp
  | c :: cs, k, h, j, hk => by
    have hc : c.length = k := h c (by simp)
    rw [List.flatten_cons]
    by_cases hj : j < k
    · rw [List.getElem?_append_left (by omega), Nat.div_eq_of_lt hj, Nat.mod_eq_of_lt hj]
      simp
    · rw [List.getElem?_append_right (by omega), hc, getElem?_flatten_even cs k (fun c hc => h c (by simp [hc])) (j - k) hk]
      have e : j = (j - k) + k := by omega
      have e1 : j / k = (j - k) / k + 1 := by
        conv => lhs; rw [e]
        rw [Nat.add_div_right _ hk]
      have e2 : j % k = (j - k) % k := by
        conv => lhs; rw [e]
        rw [Nat.add_mod_right]
      rw [e1, e2]
      simp
theorem length_flatten_even : ∀ (cs : List (List Value)) (k : Nat), (∀ c ∈ cs, c.length = k) → cs.flatten.length = cs.length * k
  | [], k, _ => by simp
  | c :: cs, k, h => by
    rw [List.flatten_cons, List.length_append, length_flatten_even cs k (fun c hc => h c (by simp [hc])), h c (by simp), List.length_cons, Nat.add_mul]
    omega

section
variable {H : Type} {enc : TypeId × Value → H} {P : Program} {w : World} {base : Nat} {spare : Nat → Bool} {held : Bool}

theorem open_sl {t e : TypeId} {k fuel : Nat} {v : Value} {x : DataW H × List MemPlace} (ht : P.underlying t = some (.slice e)) (hc : P.cellsOf e = k) (hk : 0 < k) (h : DataW.trod enc P w base spare held fuel t [v] = some x) :
    ∃ (cs : List (List Value)) (ds sp : List (DataW H)), Sl w k v cs.length cs.flatten ∧ cs.length ≤ maxLen ∧ ds.length = cs.length ∧ (x.1 = .slice ds sp ∨ (x.1 = .nil ∧ cs = [])) ∧
      ∀ i (hi : i < cs.length) (hd : i < ds.length), ∃ n y, DataW.trod enc P w base spare held n e cs[i] = some y ∧ ds[i] = y.1 := by
  rcases open_slice ht h with ⟨hcs, rfl⟩ | ⟨a, len, cap, m, n, D, Pl, hcs, hb, hl, hmx, hm, rfl, hx⟩
  · injection hcs with hv
    subst hv
    exact ⟨[], [], [], ⟨by simp, none, 0, rfl, by simp, fun h => by simp at h⟩, by simp, rfl, Or.inr ⟨rfl, rfl⟩, fun i hi => by simp at hi⟩
  · injection hcs with hv
    subst hv
    have hlm : len ≤ m := by subst hm; split <;> omega
    obtain ⟨C, hC⟩ := choose_lt (α := List Value) (p := fun i c => w.cells? base (a.add (i * P.cellsOf e)) (P.cellsOf e) = some c ∧ DataW.trod enc P w base spare held n e c = some (D i, Pl i)) (n := m) (fun i hi => hx i hi)
    have hlen : ∀ c ∈ (List.range len).map C, c.length = k := by
      intro c hc'
      obtain ⟨i, hi, rfl⟩ := List.mem_map.1 hc'
      have := (World.cells?_some (hC i (by have := List.mem_range.1 hi; omega)).1).2.1
      omega
    refine ⟨(List.range len).map C, (List.range len).map D, _, ?_, by simp; omega, by simp, Or.inl rfl, ?_⟩
    · refine ⟨length_flatten_even _ _ hlen, some a, cap, by simp, by simpa using hl, fun hn => ?_⟩
      have hn' : 0 < len := by simpa using hn
      have h0 := World.cells?_some (hC 0 (by omega)).1
      have hcell : ∀ i, i < len → ∀ j, j < k → w.cell? (a.add (i * k + j)) = (C i)[j]? := by
        intro i hi j hj
        have := (World.cells?_some (hC i (by omega)).1).2.2 j (by omega)
        rw [add_add, hc] at this
        exact this
      obtain ⟨b, off, spot⟩ := a
      have hs : spot = none := by
        have h1 := hcell 0 hn' 0 hk
        rw [List.getElem?_eq_getElem (by have := h0.2.1; omega)] at h1
        simpa [Addr.add] using World.cell?_spot h1
      subst hs
      have hadd : ∀ j, (Addr.add ⟨b, off, none⟩ j) = ⟨b, off + j, none⟩ := by
        intro j
        unfold Addr.add
        by_cases hj : j = 0 <;> simp [hj]
      have key : ∀ j u, ((List.range len).map C).flatten[j]? = some u → w.cell? ⟨b, off + j, none⟩ = some u := by
        intro j u hu
        rw [getElem?_flatten_even _ k hlen j hk] at hu
        obtain ⟨c, hc1, hc2⟩ := Option.bind_eq_some_iff.1 hu
        obtain ⟨hlt, hce⟩ := List.getElem?_eq_some_iff.1 hc1
        simp only [List.length_map, List.length_range] at hlt
        simp only [List.getElem_map, List.getElem_range] at hce
        subst hce
        have h2 := hcell (j / k) hlt (j % k) (Nat.mod_lt _ hk)
        rw [Nat.mul_comm, Nat.div_add_mod, hadd] at h2
        rw [h2]; exact hc2
      refine ⟨b, off, rfl, ?_, key⟩
      have h1 := hcell 0 hn' 0 hk
      rw [List.getElem?_eq_getElem (by have := h0.2.1; omega)] at h1
      simpa [Addr.add] using cell_lt h1
    · intro i hi hd
      simp only [List.length_map, List.length_range] at hi
      refine ⟨n, (D i, Pl i), ?_, ?_⟩
      · simpa using (hC i (by omega)).2
      · simp

/-- all that the datum weighs is within the machine's reach -/
def fits (P : Program) (t : TypeId) (d : DataW H) : Prop := ∀ n ∈ d.weights P t, n ≤ reachBytes
theorem weightsAll_mem_ {P : Program} {e : TypeId} : ∀ {l : List (DataW H)} {d : DataW H}, d ∈ l → ∀ n ∈ d.weights P e, n ∈ DataW.weightsAll P e l
  | d' :: r, d, hd, n, hn => by
    simp only [DataW.weightsAll, List.mem_append]
    rcases List.mem_cons.1 hd with rfl | h
    · exact Or.inl hn
    · exact Or.inr (weightsAll_mem_ h n hn)
theorem fits_row {t e : TypeId} {l sp : List (DataW H)} (hu : P.underlying t = some (.slice e)) (h : fits P t (.slice l sp)) : l.length * P.bytesOf e ≤ reachBytes ∧ ∀ d ∈ l, fits P e d := by
  constructor
  · have := h ((l.length + sp.length) * P.bytesOf e) (by simp [DataW.weights, hu])
    exact Nat.le_trans (Nat.mul_le_mul_right _ (by omega)) this
  · intro d hd n hn
    exact h n (by simp only [DataW.weights, hu, List.mem_cons, List.mem_append]; exact Or.inr (Or.inl (weightsAll_mem_ hd n hn)))
theorem fits_field {t : TypeId} {fs : Array Field} {l : List (DataW H)} (hu : P.underlying t = some (.struct fs)) (h : fits P t (.agg l)) {i : Nat} {f : Field} {d : DataW H} (hf : fs[i]? = some f) (hd : l[i]? = some d) : fits P f.type d := by
  intro n hn
  refine h n ?_
  simp only [DataW.weights, hu]
  exact DataW.weights_mem_each (j := i) (t := f.type) (by simp [hf]) hd n hn
theorem fits_arg {ts : List TypeId} {ds : List (DataW H)} (h : (DataW.weightsEach P ts ds).all (· ≤ reachBytes) = true) {j : Nat} {t : TypeId} {d : DataW H} (ht : ts[j]? = some t) (hd : ds[j]? = some d) : fits P t d :=
  fun n hn => by simpa using List.all_eq_true.1 h n (DataW.weights_mem_each ht hd n hn)
end
end Go.Proofs.Ytjkoceacjbhblaa
namespace Go.Proofs.Ytjkoceacjbhblaa
open Go.RowKit

/-- v reads as the list l, one cell each -/
def L1 {α : Type} (f : α → Value) (w : World) (v : Value) (l : List α) : Prop := Sl w 1 v l.length (l.map f)
theorem L1.at_ {α : Type} {f : α → Value} {w : World} {v : Value} {l : List α} (h : L1 f w v l) : ∃ A c, v = .slice A l.length c ∧ l.length ≤ c ∧ (0 < l.length → ∃ b off, A = some ⟨b, off, none⟩ ∧ b < w.heap.size ∧ ∀ i (hi : i < l.length), w.cell? ⟨b, off + i, none⟩ = some (f l[i])) := by
  obtain ⟨_, A, c, hv, hc, h2⟩ := h
  refine ⟨A, c, hv, hc, fun hn => ?_⟩
  obtain ⟨b, off, hA, hb, hcell⟩ := h2 hn
  exact ⟨b, off, hA, hb, fun i hi => hcell i _ (by simp [List.getElem?_eq_getElem hi])⟩
theorem L1.below {α : Type} {f : α → Value} {w w' : World} {v : Value} {l : List α} (h : L1 f w v l) (hb : Below w.heap.size w w') : L1 f w' v l := Sl.below h hb
abbrev Is := L1 (Value.int .i64)
abbrev Bs := L1 Value.bool
abbrev Ss := L1 Value.string

/-- the first k are the same -/
def agree {α : Type} (xs ys : List α) (k : Nat) : Prop := xs.take k = ys.take k
theorem agree_step {α : Type} {xs ys : List α} {k : Nat} (h : agree xs ys k) (hx : k < xs.length) (hy : k < ys.length) (he : xs[k] = ys[k]) : agree xs ys (k + 1) := by
  unfold agree at *
  rw [List.take_succ_eq_append_getElem hx, List.take_succ_eq_append_getElem hy, h, he]
theorem agree_all {α : Type} {xs ys : List α} (h : agree xs ys xs.length) (hl : xs.length = ys.length) : xs = ys := by
  unfold agree at h
  rwa [List.take_length, hl, List.take_length] at h

theorem below_drewN_ (w : World) (n : Nat) : Below w.heap.size w (w.drewN n) := ⟨rfl, rfl, rfl, Nat.le_refl _, fun _ _ => rfl⟩

set_option maxRecDepth 100000 in
set_option maxHeartbeats 1000000 in
theorem sameInts_any (u v : Value) (xs ys : List Int) (w : World) (hu : Is w u xs) (hv : Is w v ys) (hx : xs.length ≤ 9223372036854775807) (hy : ys.length ≤ 9223372036854775807) :
    Calls Try.prog 65 #[u, v] w fun e w' => e = .returned (.bool (decide (xs = ys))) ∧ ∃ n, w' = w.drewN n := by
  obtain ⟨A, c, rfl, hc, hcx⟩ := hu.at_
  obtain ⟨B, d, rfl, hd, hcy⟩ := hv.at_
  by_cases hl : xs.length = ys.length
  · have hl1 : ((xs.length : Int) != (ys.length : Int)) = false := by rw [hl]; simp
    have HL := Lib.hid hl
    clear hl
    go_enter Try.func65, Try.ntmps65
    go_wp2
    clear hl1
    go_loopw [5] (fun i wr => ∃ k : Nat, k ≤ xs.length ∧ i = .int .i64 k ∧ Hid (agree xs ys k) ∧ ∃ n, wr = w.drewN n) (fun i _ => xs.length - (intOf i).toNat)
    case atStart => exact ⟨0, by omega, rfl, rfl, 0, rfl⟩
    case round =>
      obtain ⟨k, hk, rfl, hag, n, rfl⟩ := hrel
      by_cases hlt : k < xs.length
      · have hlt' : k < ys.length := by have := HL.out; omega
        obtain ⟨b1, o1, rfl, hb1, hc1⟩ := hcx (by omega)
        obtain ⟨b2, o2, rfl, hb2, hc2⟩ := hcy (by omega)
        have h1 := hc1 k hlt
        have h2 := hc2 k hlt'
        have i0 : (0 : Int) ≤ (k : Int) := by omega
        have i1 : (k : Int) < (xs.length : Int) := by omega
        have i2 : (k : Int) < (ys.length : Int) := by omega
        clear hcx hcy hc1 hc2
        by_cases he : xs[k] = ys[k]
        · have he1 : (xs[k] != ys[k]) = false := by rw [he]; simp
          have HE := Lib.hid he
          clear he
          go_wp2
          go_quiet (fail)
          go_wp2
          go_light
          refine ⟨⟨k + 1, by omega, by go_num, agree_step hag.out hlt hlt' HE.out, _, by first | rfl | exact World.drewN_drewN _ _ _⟩, by simp [intOf]; omega⟩
        · have he1 : (xs[k] != ys[k]) = true := by rw [bne_iff_ne]; exact he
          have hne : xs ≠ ys := fun e => he (by subst e; rfl)
          have HE := Lib.hid hne
          clear he hne
          go_wp2
          go_quiet (fail)
          go_wp2
          go_ret
          refine ⟨ret_bool ?_, _, by first | rfl | exact World.drewN_drewN _ _ _⟩
          simp [HE.out]
      · obtain rfl : k = xs.length := by omega
        have he := agree_all hag.out HL.out
        have HE := Lib.hid he
        clear he hlt
        go_wp2
        go_ret
        refine ⟨ret_bool ?_, _, by first | rfl | exact World.drewN_drewN _ _ _⟩
        simp [HE.out]
  · have hl1 : ((xs.length : Int) != (ys.length : Int)) = true := by rw [bne_iff_ne]; omega
    have hne : xs ≠ ys := fun e => hl (by rw [e])
    have HE := Lib.hid hne
    clear hl hne
    go_enter Try.func65, Try.ntmps65
    go_wp2
    go_ret
    refine ⟨ret_bool ?_, 0, rfl⟩
    simp [HE.out]

end Go.Proofs.Ytjkoceacjbhblaa
namespace Go.Proofs.Ytjkoceacjbhblaa
open Go.RowKit

structure TxnD where
  name : ByteArray
  pid : Int
  ver : Int
  state : Int
  parts : List Int
  since : Int
  done : Int
structure CoordD where
  clock : Int
  next : Int
  wait : Int
  txns : List TxnD
/-- a row of the slice: its data and the slice of its parts -/
def tcells (t : TxnD × Value) : List Value := [.string t.1.name, .int .i64 t.1.pid, .int .i64 t.1.ver, .int .i64 t.1.state, t.2, .int .i64 t.1.since, .int .i64 t.1.done]
theorem tcells_get : ∀ (l : List (TxnD × Value)) (i : Nat) (h : i < l.length) (j : Nat), j < 7 → (l.flatMap tcells)[i * 7 + j]? = (tcells l[i])[j]?
  | e :: l, 0, _, j, hj => by
    rw [List.flatMap_cons, List.getElem?_append_left (by simp [tcells]; omega)]
    simp
  | e :: l, i + 1, h, j, hj => by
    have hl : (tcells e).length = 7 := rfl
    rw [List.flatMap_cons, List.getElem?_append_right (by rw [hl]; omega), hl, show (i + 1) * 7 + j - 7 = i * 7 + j from by omega]
    exact tcells_get l i (by simpa using h) j hj
/-- v reads as the transactions ds -/
def Txs (w : World) (v : Value) (ds : List TxnD) : Prop :=
  ∃ rows : List (TxnD × Value), rows.map Prod.fst = ds ∧ Sl w 7 v ds.length (rows.flatMap tcells) ∧ ∀ t ∈ rows, Is w t.2 t.1.parts ∧ t.1.parts.length ≤ 9223372036854775807
def coordV (c : CoordD) (tv : Value) : Value := .agg #[.int .i64 c.clock, .int .i64 c.next, .int .i64 c.wait, tv]
def Cv (w : World) (v : Value) (c : CoordD) : Prop := ∃ tv, v = coordV c tv ∧ Txs w tv c.txns ∧ c.txns.length ≤ 9223372036854775807
theorem Txs.below {w w' : World} {v : Value} {ds : List TxnD} (h : Txs w v ds) (hb : Below w.heap.size w w') : Txs w' v ds := by
  obtain ⟨rows, h1, h2, h3⟩ := h
  exact ⟨rows, h1, h2.below hb, fun t ht => ⟨(h3 t ht).1.below hb, (h3 t ht).2⟩⟩
theorem Cv.below {w w' : World} {v : Value} {c : CoordD} (h : Cv w v c) (hb : Below w.heap.size w w') : Cv w' v c := by
  obtain ⟨tv, h1, h2, h3⟩ := h
  exact ⟨tv, h1, h2.below hb, h3⟩
theorem Txs.at_ {w : World} {v : Value} {ds : List TxnD} (h : Txs w v ds) : ∃ A c, v = .slice A ds.length c ∧ ds.length ≤ c ∧ (0 < ds.length → ∃ b off, A = some ⟨b, off, none⟩ ∧ b < w.heap.size ∧
    ∀ i (hi : i < ds.length), ∃ pv, w.cell? ⟨b, off + i * 7, none⟩ = some (.string ds[i].name) ∧ w.cell? ⟨b, off + i * 7 + 1, none⟩ = some (.int .i64 ds[i].pid) ∧ w.cell? ⟨b, off + i * 7 + 2, none⟩ = some (.int .i64 ds[i].ver) ∧ w.cell? ⟨b, off + i * 7 + 3, none⟩ = some (.int .i64 ds[i].state) ∧
      w.cell? ⟨b, off + i * 7 + 4, none⟩ = some pv ∧ w.cell? ⟨b, off + i * 7 + 5, none⟩ = some (.int .i64 ds[i].since) ∧ w.cell? ⟨b, off + i * 7 + 6, none⟩ = some (.int .i64 ds[i].done) ∧ Is w pv ds[i].parts ∧ ds[i].parts.length ≤ 9223372036854775807) := by
  obtain ⟨rows, hr, ⟨hl, A, c, hv, hc, h2⟩, h3⟩ := h
  refine ⟨A, c, hv, hc, fun hn => ?_⟩
  obtain ⟨b, off, hA, hb, hcell⟩ := h2 hn
  refine ⟨b, off, hA, hb, fun i hi => ?_⟩
  subst hr
  have hi' : i < rows.length := by simpa using hi
  have he : (rows.map Prod.fst)[i] = rows[i].1 := by simp
  rw [he]
  have key : ∀ j u, j < 7 → (tcells rows[i])[j]? = some u → w.cell? ⟨b, off + i * 7 + j, none⟩ = some u := fun j u hj hu => by
    rw [Nat.add_assoc]
    exact hcell (i * 7 + j) u ((tcells_get rows i hi' j hj).trans hu)
  have hm := h3 rows[i] (List.getElem_mem _)
  exact ⟨rows[i].2, key 0 _ (by omega) rfl, key 1 _ (by omega) rfl, key 2 _ (by omega) rfl, key 3 _ (by omega) rfl, key 4 _ (by omega) rfl, key 5 _ (by omega) rfl, key 6 _ (by omega) rfl, hm.1, hm.2⟩

end Go.Proofs.Ytjkoceacjbhblaa
namespace Go.Proofs.Ytjkoceacjbhblaa
open Go.ChangeShapes Go.WideShapes Go.ChangeAt Go.RowKit Go.Joins Go.Deep

section
variable {H : Type} {enc : TypeId × Value → H} {P : Program} {w : World} {base : Nat} {spare : Nat → Bool} {held : Bool}
/-- an int that lies in an int -/
def I64 (x : Int) : Prop := (Lit.int .i64 x).wf = true

theorem open_ints {fuel : Nat} {v : Value} {x : DataW H × List MemPlace} (h : DataW.trod enc Try.prog w base spare held fuel 24 [v] = some x) :
    ∃ l : List Int, Is w v l ∧ l.length ≤ maxLen ∧ (∀ b ∈ l, I64 b) ∧ (fits Try.prog 24 x.1 → l.length * 8 ≤ reachBytes) := by
  obtain ⟨cs, ds, sp, hsl, hm, hl, hd, he⟩ := open_sl (k := 1) Try.underlying24 (by kernel_rfl) (by decide) h
  have key : ∀ cs : List (List Value), (∀ c ∈ cs, ∃ b : Int, c = [Value.int .i64 b] ∧ I64 b) → ∃ l : List Int, cs.flatten = l.map (Value.int .i64) ∧ l.length = cs.length ∧ ∀ b ∈ l, I64 b := by
    intro cs
    induction cs with
    | nil => exact fun _ => ⟨[], rfl, rfl, by simp⟩
    | cons c cs ih =>
      intro hcs
      obtain ⟨l, h1, h2, h3⟩ := ih (fun c hc => hcs c (by simp [hc]))
      obtain ⟨b, rfl, hb⟩ := hcs c (by simp)
      exact ⟨b :: l, by simp [h1], by simp [h2], by simpa using ⟨hb, h3⟩⟩
  obtain ⟨l, h1, h2, h3⟩ := key cs (fun c hc => by
    obtain ⟨i, hi, rfl⟩ := List.mem_iff_getElem.1 hc
    obtain ⟨n, y, h4, -⟩ := he i hi (by omega)
    obtain ⟨b, e1, -, e2⟩ := DataW.trod_int Try.underlying3 h4
    exact ⟨b, e1, e2⟩)
  refine ⟨l, ?_, by omega, h3, fun hf => ?_⟩
  · rw [h1, ← h2] at hsl; exact hsl
  · rcases hd with hd | ⟨hd, rfl⟩
    · rw [hd] at hf
      have := (fits_row Try.underlying24 hf).1
      have e : Try.prog.bytesOf 3 = 8 := by kernel_rfl
      rw [e] at this
      omega
    · simp at h2; subst h2; simp

def TxnD.Wf (t : TxnD) : Prop := t.name.size ≤ maxLen ∧ I64 t.pid ∧ I64 t.ver ∧ I64 t.state ∧ I64 t.since ∧ I64 t.done ∧ t.parts.length ≤ maxLen ∧ ∀ b ∈ t.parts, I64 b
def CoordD.Wf (c : CoordD) : Prop := I64 c.clock ∧ I64 c.next ∧ I64 c.wait ∧ c.txns.length ≤ maxLen ∧ ∀ t ∈ c.txns, t.Wf
def CoordD.Small (c : CoordD) : Prop := c.txns.length * 80 ≤ reachBytes ∧ ∀ t ∈ c.txns, t.parts.length * 8 ≤ reachBytes

end
end Go.Proofs.Ytjkoceacjbhblaa
namespace Go.Proofs.Ytjkoceacjbhblaa
open Go.RowKit

structure MemD where
  name : ByteArray
  heard : Int
  parts : List Int
structure OffD where
  part : Int
  at_ : Int
structure GroupD where
  clock : Int
  wait : Int
  gen : Int
  mems : List MemD
  offs : List OffD
/-- a row of the slice: its data and the slice of its parts -/
def mcells (t : MemD × Value) : List Value := [.string t.1.name, .int .i64 t.1.heard, t.2]
def ocells (o : OffD) : List Value := [.int .i64 o.part, .int .i64 o.at_]
theorem cells_get {α : Type} (f : α → List Value) (s : Nat) (hf : ∀ a, (f a).length = s) : ∀ (l : List α) (i : Nat) (h : i < l.length) (j : Nat), j < s → (l.flatMap f)[i * s + j]? = (f l[i])[j]?
  | e :: l, 0, _, j, hj => by
    rw [List.flatMap_cons, List.getElem?_append_left (by rw [hf]; omega)]
    simp
  | e :: l, i + 1, h, j, hj => by
    have hl : (f e).length = s := hf e
    have e1 : (i + 1) * s + j = s + (i * s + j) := by rw [Nat.add_mul]; omega
    rw [List.flatMap_cons, List.getElem?_append_right (by rw [hl]; omega), hl, show (i + 1) * s + j - s = i * s + j from by omega]
    exact cells_get f s hf l i (by simpa using h) j hj
/-- v reads as the members ds -/
def Mems (w : World) (v : Value) (ds : List MemD) : Prop :=
  ∃ rows : List (MemD × Value), rows.map Prod.fst = ds ∧ Sl w 3 v ds.length (rows.flatMap mcells) ∧ ∀ t ∈ rows, Is w t.2 t.1.parts ∧ t.1.parts.length ≤ 9223372036854775807
def Offs (w : World) (v : Value) (ds : List OffD) : Prop := Sl w 2 v ds.length (ds.flatMap ocells)
def groupV (g : GroupD) (mv ov : Value) : Value := .agg #[.int .i64 g.clock, .int .i64 g.wait, .int .i64 g.gen, mv, ov]
def Gv (w : World) (v : Value) (g : GroupD) : Prop := ∃ mv ov, v = groupV g mv ov ∧ Mems w mv g.mems ∧ Offs w ov g.offs ∧ g.mems.length ≤ 9223372036854775807 ∧ g.offs.length ≤ 9223372036854775807
theorem Mems.below {w w' : World} {v : Value} {ds : List MemD} (h : Mems w v ds) (hb : Below w.heap.size w w') : Mems w' v ds := by
  obtain ⟨rows, h1, h2, h3⟩ := h
  exact ⟨rows, h1, h2.below hb, fun t ht => ⟨(h3 t ht).1.below hb, (h3 t ht).2⟩⟩
theorem Gv.below {w w' : World} {v : Value} {g : GroupD} (h : Gv w v g) (hb : Below w.heap.size w w') : Gv w' v g := by
  obtain ⟨mv, ov, h1, h2, h3, h4⟩ := h
  exact ⟨mv, ov, h1, h2.below hb, Sl.below h3 hb, h4⟩
theorem Mems.at_ {w : World} {v : Value} {ds : List MemD} (h : Mems w v ds) : ∃ A c, v = .slice A ds.length c ∧ ds.length ≤ c ∧ (0 < ds.length → ∃ b off, A = some ⟨b, off, none⟩ ∧ b < w.heap.size ∧
    ∀ i (hi : i < ds.length), ∃ pv, w.cell? ⟨b, off + i * 3, none⟩ = some (.string ds[i].name) ∧ w.cell? ⟨b, off + i * 3 + 1, none⟩ = some (.int .i64 ds[i].heard) ∧ w.cell? ⟨b, off + i * 3 + 2, none⟩ = some pv ∧ Is w pv ds[i].parts ∧ ds[i].parts.length ≤ 9223372036854775807) := by
  obtain ⟨rows, hr, ⟨hl, A, c, hv, hc, h2⟩, h3⟩ := h
  refine ⟨A, c, hv, hc, fun hn => ?_⟩
  obtain ⟨b, off, hA, hb, hcell⟩ := h2 hn
  refine ⟨b, off, hA, hb, fun i hi => ?_⟩
  subst hr
  have hi' : i < rows.length := by simpa using hi
  have he : (rows.map Prod.fst)[i] = rows[i].1 := by simp
  rw [he]
  have key : ∀ j u, j < 3 → (mcells rows[i])[j]? = some u → w.cell? ⟨b, off + i * 3 + j, none⟩ = some u := fun j u hj hu => by
    rw [Nat.add_assoc]
    exact hcell (i * 3 + j) u ((cells_get mcells 3 (fun _ => rfl) rows i hi' j hj).trans hu)
  have hm := h3 rows[i] (List.getElem_mem _)
  exact ⟨rows[i].2, key 0 _ (by omega) rfl, key 1 _ (by omega) rfl, key 2 _ (by omega) rfl, hm.1, hm.2⟩
theorem Offs.at_ {w : World} {v : Value} {ds : List OffD} (h : Offs w v ds) : ∃ A c, v = .slice A ds.length c ∧ ds.length ≤ c ∧ (0 < ds.length → ∃ b off, A = some ⟨b, off, none⟩ ∧ b < w.heap.size ∧
    ∀ i (hi : i < ds.length), w.cell? ⟨b, off + i * 2, none⟩ = some (.int .i64 ds[i].part) ∧ w.cell? ⟨b, off + i * 2 + 1, none⟩ = some (.int .i64 ds[i].at_)) := by
  obtain ⟨hl, A, c, hv, hc, h2⟩ := h
  refine ⟨A, c, hv, hc, fun hn => ?_⟩
  obtain ⟨b, off, hA, hb, hcell⟩ := h2 hn
  refine ⟨b, off, hA, hb, fun i hi => ?_⟩
  have key : ∀ j u, j < 2 → (ocells ds[i])[j]? = some u → w.cell? ⟨b, off + i * 2 + j, none⟩ = some u := fun j u hj hu => by
    rw [Nat.add_assoc]
    exact hcell (i * 2 + j) u ((cells_get ocells 2 (fun _ => rfl) ds i hi j hj).trans hu)
  exact ⟨key 0 _ (by omega) rfl, key 1 _ (by omega) rfl⟩

set_option maxRecDepth 100000 in
set_option maxHeartbeats 4000000 in
theorem sameGroup_same (x y : Value) (g : GroupD) (w : World) (hx : Gv w x g) (hy : Gv w y g) :
    Calls Try.prog 28 #[x, y] w fun e w' => e = .returned (.bool true) ∧ Below w.heap.size w w' := by
  obtain ⟨xm, xo, rfl, mx, ox, hlm, hlo⟩ := hx
  obtain ⟨ym, yo, rfl, my, oy, -⟩ := hy
  obtain ⟨A1, c1, rfl, hc1, hx1⟩ := mx.at_
  obtain ⟨A2, c2, rfl, hc2, hy1⟩ := my.at_
  obtain ⟨A3, c3, rfl, hc3, hx2⟩ := ox.at_
  obtain ⟨A4, c4, rfl, hc4, hy2⟩ := oy.at_
  unfold groupV
  obtain ⟨ck, wt, gn, ms, os⟩ := g
  simp only at *
  have HX := Lib.hid hx1
  have HY := Lib.hid hy1
  have HX2 := Lib.hid hx2
  have HY2 := Lib.hid hy2
  clear hx1 hy1 hx2 hy2 mx my ox oy
  go_enter Try.func28, Try.ntmps28
  go_wp2
  have hb1 := (Blk.new w 36 #[.int .i64 ck, .int .i64 wt, .int .i64 gn, .slice A1 ms.length c1, .slice A3 os.length c3]).alloc (.cells #[.int .i64 ck, .int .i64 wt, .int .i64 gn, .slice A2 ms.length c2, .slice A4 os.length c4] 36)
  have hb2 := Blk.new (w.alloc (.cells #[.int .i64 ck, .int .i64 wt, .int .i64 gn, .slice A1 ms.length c1, .slice A3 os.length c3] 36)) 36 #[.int .i64 ck, .int .i64 wt, .int .i64 gn, .slice A2 ms.length c2, .slice A4 os.length c4]
  have hbl : Below w.heap.size w ((w.alloc (.cells #[.int .i64 ck, .int .i64 wt, .int .i64 gn, .slice A1 ms.length c1, .slice A3 os.length c3] 36)).alloc (.cells #[.int .i64 ck, .int .i64 wt, .int .i64 gn, .slice A2 ms.length c2, .slice A4 os.length c4] 36)) :=
    ((Below.refl _ _).alloc (Nat.le_refl _) _).alloc (by simp) _
  simp only [World.size_alloc] at hb2
  generalize hW0 : (w.alloc (.cells #[.int .i64 ck, .int .i64 wt, .int .i64 gn, .slice A1 ms.length c1, .slice A3 os.length c3] 36)).alloc (.cells #[.int .i64 ck, .int .i64 wt, .int .i64 gn, .slice A2 ms.length c2, .slice A4 os.length c4] 36) = W0 at *
  have hz : w.heap.size + 2 = W0.heap.size := by rw [← hW0]; simp
  have HZ := Lib.hid hz
  have HBL := Lib.hid hbl
  have HB1 := Lib.hid hb1
  have HB2 := Lib.hid hb2
  clear hW0 hz hbl hb1 hb2
  go_loopw [5] (fun i wr => ∃ k : Nat, k ≤ ms.length ∧ i = .int .i64 k ∧ Hid (Below W0.heap.size W0 wr)) (fun i _ => ms.length - (intOf i).toNat)
  case atStart => exact ⟨0, by omega, rfl, Below.refl _ _⟩
  case round =>
    obtain ⟨k, hk, rfl, hbw⟩ := hrel
    have g1 := (HB1.out.below hbw.out HB1.out.lt).cell 3
    have g2 := (HB2.out.below hbw.out HB2.out.lt).cell 3
    have hbelow : Below w.heap.size w wr := HBL.out.trans (hbw.out.mono HBL.out.size)
    have HBW := Lib.hid hbelow
    clear hbelow
    by_cases hlt : k < ms.length
    · obtain ⟨b1, o1, rfl, hbb1, q1⟩ := HX.out (by omega)
      obtain ⟨b2, o2, rfl, hbb2, q2⟩ := HY.out (by omega)
      obtain ⟨p1, x0, x1, x2, xi, xl⟩ := q1 k hlt
      obtain ⟨p2, y0, y1, y2, yi, yl⟩ := q2 k hlt
      have X0 := (HBW.out.cell (p := ⟨b1, o1 + k * 3, none⟩) hbb1).trans x0
      have X1 := (HBW.out.cell (p := ⟨b1, o1 + k * 3 + 1, none⟩) hbb1).trans x1
      have X2 := (HBW.out.cell (p := ⟨b1, o1 + k * 3 + 2, none⟩) hbb1).trans x2
      have Y0 := (HBW.out.cell (p := ⟨b2, o2 + k * 3, none⟩) hbb2).trans y0
      have Y1 := (HBW.out.cell (p := ⟨b2, o2 + k * 3 + 1, none⟩) hbb2).trans y1
      have Y2 := (HBW.out.cell (p := ⟨b2, o2 + k * 3 + 2, none⟩) hbb2).trans y2
      have hlb1 : b1 < wr.heap.size := by have := HBW.out.size; omega
      have hlb2 : b2 < wr.heap.size := by have := HBW.out.size; omega
      have hw1 : w.heap.size + 1 < wr.heap.size := by have := hbw.out.size; have := HZ.out; omega
      have hw0 : w.heap.size < wr.heap.size := by omega
      clear x0 x1 x2 y0 y1 y2 q1 q2
      have xi' := xi.below HBW.out
      have yi' := yi.below HBW.out
      obtain ⟨A5, c5, rfl, hc5, -⟩ := xi.at_
      obtain ⟨A6, c6, rfl, hc6, -⟩ := yi.at_
      have XI := Lib.hid xi'
      have YI := Lib.hid yi'
      clear xi yi xi' yi'
      go_wp2_with fail
      refine (sameInts_any _ _ ms[k].parts ms[k].parts _ (Sl.alloc (Sl.alloc XI.out _) _) (Sl.alloc (Sl.alloc YI.out _) _) xl xl).mono ?_
      rintro e w' ⟨rfl, n, rfl⟩
      go_wp2
      go_light
      refine ⟨⟨k + 1, by omega, by go_num, ?_⟩, by simp [intOf]; omega⟩
      exact (((hbw.out.alloc hbw.out.size _).alloc (by have := hbw.out.size; simp; omega) _).trans ((below_drewN_ _ _).mono (by have := hbw.out.size; simp; omega)))
    · obtain rfl : k = ms.length := by omega
      go_wp2
      clear g1 g2
      go_loopw [8] (fun i wq => ∃ j : Nat, j ≤ os.length ∧ i = .int .i64 j ∧ Hid (Below W0.heap.size W0 wq)) (fun i _ => os.length - (intOf i).toNat)
      case atStart => exact ⟨0, by omega, rfl, hbw⟩
      case round =>
        clear hbw HBW
        obtain ⟨j, hj, rfl, hbw⟩ := hrel
        have g1 := (HB1.out.below hbw.out HB1.out.lt).cell 4
        have g2 := (HB2.out.below hbw.out HB2.out.lt).cell 4
        have hbelow := HBL.out.trans (hbw.out.mono HBL.out.size)
        have HBW := Lib.hid hbelow
        clear hbelow
        by_cases hlt : j < os.length
        · obtain ⟨b1, o1, rfl, hbb1, q1⟩ := HX2.out (by omega)
          obtain ⟨b2, o2, rfl, hbb2, q2⟩ := HY2.out (by omega)
          obtain ⟨x0, x1⟩ := q1 j hlt
          obtain ⟨y0, y1⟩ := q2 j hlt
          have X0 := (HBW.out.cell (p := ⟨b1, o1 + j * 2, none⟩) hbb1).trans x0
          have X1 := (HBW.out.cell (p := ⟨b1, o1 + j * 2 + 1, none⟩) hbb1).trans x1
          have Y0 := (HBW.out.cell (p := ⟨b2, o2 + j * 2, none⟩) hbb2).trans y0
          have Y1 := (HBW.out.cell (p := ⟨b2, o2 + j * 2 + 1, none⟩) hbb2).trans y1
          have hj0 : (0 : Int) ≤ (j : Int) := by omega
          have hj1 : (j : Int) < (os.length : Int) := by omega
          clear x0 x1 y0 y1 q1 q2
          go_wp2
          go_quiet (fail)
          go_wp2
          go_light
          refine ⟨⟨j + 1, by omega, by go_num, ?_⟩, by simp [intOf]; omega⟩
          exact hbw.out.trans ((below_drewN_ _ _).mono (by have := hbw.out.size; omega))
        · obtain rfl : j = os.length := by omega
          go_wp2
          go_ret
          exact ⟨rfl, HBW.out⟩
end Go.Proofs.Ytjkoceacjbhblaa
