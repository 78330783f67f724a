/- Parts of a proof, merged: Base, LawKit, BlkB, Mem, OpenSl, Same1, CoordD, OpenCoord, GroupD, OpenGroup, SrtA, SrtB. No condition. -/
import Derived.Test.YtjkoceacjbhblaaProg
import Derived.WalkKit
import Derived.WalkSpells
import Derived.WalkLawsBesides
import Derived.BigQuiet
import Derived.Deep.QuietTactic
import Derived.Deep.Light
import Derived.Deep.LoopGhost
import Derived.Deep.DeepMust
import Derived.Deep.DeepFit
import Derived.Deep.DeepCutAuto
import Derived.Lib.Hide
import Derived.Test.YtjkoceacjbhblaaRows
import Derived.ProofKit
import Derived.Lib.SmallJoins
import Derived.Deep.Slices
import Derived.Deep.Fields
import Derived.ChangeSame
import Derived.Laws.OwnMore
import Derived.Deep.AppendLies
import Derived.Deep.Draws
import Derived.Maps.AppendAt
import Derived.RegionTactic
import Derived.OwnWalk
import Derived.SizedLaws
namespace Go.Proofs.Ytjkoceacjbhblaa
open Go.RowKit

theorem ret_bool {a b : Bool} (h : a = b) : Ending.returned (.bool a) = .returned (.bool b) := by rw [h]
theorem bytes_nil (s : ByteArray) : s.toList = [] ↔ s.size = 0 := by
  rw [ByteArray.toList_eq]
  have h2 : s.size = s.data.size := rfl
  rw [h2, ← Array.length_toList, List.length_eq_zero_iff]

end Go.Proofs.Ytjkoceacjbhblaa
namespace Go.Proofs.Ytjkoceacjbhblaa
open Go.ChangeShapes Go.WideShapes Go.ChangeAt Go.RowKit Go.Joins Go.Deep

theorem own_ : ownKnob Try.prog.godebug = none := by kernel_rfl
theorem laid_ : laidOutB Try.prog = true := by kernel_rfl

theorem toList_of {s : String} {l : List Char} (h : s = String.ofList l) : s.toList = l := by
  subst h
  exact String.toList_ofList
theorem words_split (r : List Char) : ∀ (a : List Char), (∀ c ∈ a, c ≠ Char.ofNat 32) → wordsSigns (a ++ Char.ofNat 32 :: r) = a :: wordsSigns r
  | [], _ => rfl
  | c :: a, h => by
    have hc : c ≠ Char.ofNat 32 := h c (by simp)
    have ih := words_split r a (fun x hx => h x (by simp [hx]))
    rw [List.cons_append, wordsSigns.eq_3 _ _ (fun e => hc e), ih]
def signs1 : List Char := List.map Char.ofNat [104, 97, 114, 110, 101, 115, 115]
def signs2 : List Char := List.map Char.ofNat [97, 101, 57, 99, 55, 99, 100, 49, 51, 53, 53, 55, 99, 49, 54, 97, 99, 50, 49, 55, 49, 99, 56, 55, 102, 54, 54, 101, 50, 54, 50, 48, 55, 57, 53, 50, 99, 48, 98, 52, 53, 99, 55, 57, 53, 55, 50, 49, 52, 98, 56, 97, 48, 50, 48, 48, 57, 50, 49, 48, 100, 100, 99, 52]
def signs3 : List Char := List.map Char.ofNat [99, 117, 116]
def signsRest : List Char := List.map Char.ofNat [97, 116, 32, 116, 97, 105, 108, 114, 97, 99, 101, 47, 116, 97, 105, 108, 114, 97, 99, 101, 108, 97, 119, 46, 78, 97, 109, 101, 115, 32, 116, 97, 105, 108, 114, 97, 99, 101, 47, 116, 97, 105, 108, 114, 97, 99, 101, 108, 97, 119, 46, 67, 111, 111, 114, 100, 78, 101, 119, 32, 116, 97, 105, 108, 114, 97, 99, 101, 47, 116, 97, 105, 108, 114, 97, 99, 101, 108, 97, 119, 46, 71, 114, 111, 117, 112, 78, 101, 119, 32, 116, 97, 105, 108, 114, 97, 99, 101, 47, 116, 97, 105, 108, 114, 97, 99, 101, 108, 97, 119, 46, 67, 111, 111, 114, 100, 67, 111, 112, 105, 101, 115, 32, 116, 97, 105, 108, 114, 97, 99, 101, 47, 116, 97, 105, 108, 114, 97, 99, 101, 108, 97, 119, 46, 71, 114, 111, 117, 112, 67, 111, 112, 105, 101, 115, 32, 116, 97, 105, 108, 114, 97, 99, 101, 47, 116, 97, 105, 108, 114, 97, 99, 101, 108, 97, 119, 46, 71, 114, 111, 117, 112, 67, 104, 101, 99, 107, 115, 32, 116, 97, 105, 108, 114, 97, 99, 101, 47, 116, 97, 105, 108, 114, 97, 99, 101, 108, 97, 119, 46, 67, 111, 111, 114, 100, 67, 104, 101, 99, 107, 115, 32, 116, 97, 105, 108, 114, 97, 99, 101, 47, 116, 97, 105, 108, 114, 97, 99, 101, 108, 97, 119, 46, 67, 111, 111, 114, 100, 78, 101, 120, 116, 32, 116, 97, 105, 108, 114, 97, 99, 101, 47, 116, 97, 105, 108, 114, 97, 99, 101, 108, 97, 119, 46, 67, 111, 111, 114, 100, 84, 105, 99, 107, 115, 32, 116, 97, 105, 108, 114, 97, 99, 101, 47, 116, 97, 105, 108, 114, 97, 99, 101, 108, 97, 119, 46, 71, 114, 111, 117, 112, 66, 101, 97, 116, 115, 32, 116, 97, 105, 108, 114, 97, 99, 101, 47, 116, 97, 105, 108, 114, 97, 99, 101, 108, 97, 119, 46, 67, 111, 111, 114, 100, 73, 110, 105, 116, 115, 32, 116, 97, 105, 108, 114, 97, 99, 101, 47, 116, 97, 105, 108, 114, 97, 99, 101, 108, 97, 119, 46, 71, 114, 111, 117, 112, 87, 104, 101, 114, 101, 32, 116, 97, 105, 108, 114, 97, 99, 101, 47, 116, 97, 105, 108, 114, 97, 99, 101, 108, 97, 119, 46, 67, 111, 111, 114, 100, 69, 110, 100, 115, 32, 116, 97, 105, 108, 114, 97, 99, 101, 47, 116, 97, 105, 108, 114, 97, 99, 101, 108, 97, 119, 46, 67, 111, 111, 114, 100, 68, 111, 110, 101, 32, 116, 97, 105, 108, 114, 97, 99, 101, 47, 116, 97, 105, 108, 114, 97, 99, 101, 108, 97, 119, 46, 71, 114, 111, 117, 112, 65, 115, 115, 105, 103, 110, 115, 32, 116, 97, 105, 108, 114, 97, 99, 101, 47, 116, 97, 105, 108, 114, 97, 99, 101, 108, 97, 119, 46, 71, 114, 111, 117, 112, 83, 116, 111, 114, 101, 115, 32, 116, 97, 105, 108, 114, 97, 99, 101, 47, 116, 97, 105, 108, 114, 97, 99, 101, 108, 97, 119, 46, 67, 111, 111, 114, 100, 65, 100, 100, 115, 32, 116, 97, 105, 108, 114, 97, 99, 101, 47, 116, 97, 105, 108, 114, 97, 99, 101, 108, 97, 119, 46, 71, 114, 111, 117, 112, 74, 111, 105, 110, 115, 32, 116, 97, 105, 108, 114, 97, 99, 101, 47, 116, 97, 105, 108, 114, 97, 99, 101, 108, 97, 119, 46, 71, 114, 111, 117, 112, 84, 105, 99, 107, 115, 32, 116, 97, 105, 108, 114, 97, 99, 101, 47, 116, 97, 105, 108, 114, 97, 99, 101, 108, 97, 119, 46, 71, 114, 111, 117, 112, 76, 101, 97, 118, 101, 115]
theorem no_space {l : List Char} (h : (l.all fun c => !(c == Char.ofNat 32)) = true) : ∀ c ∈ l, c ≠ Char.ofNat 32 := by
  intro c hc e
  have := List.all_eq_true.1 h c hc
  simp [e] at this
theorem initList : Try.prog.initOrder.toList = signs1 ++ Char.ofNat 32 :: (signs2 ++ Char.ofNat 32 :: (signs3 ++ Char.ofNat 32 :: signsRest)) := toList_of (by kernel_rfl)
theorem initWords : ∃ ws, wordsSigns Try.prog.initOrder.toList = signs1 :: signs2 :: signs3 :: ws := by
  refine ⟨wordsSigns signsRest, ?_⟩
  rw [initList, words_split _ _ (no_space (by decide +kernel)), words_split _ _ (no_space (by decide +kernel)), words_split _ _ (no_space (by decide +kernel))]
theorem words1 (ws : List (List Char)) : behindMainWord (signs1 :: signs2 :: signs3 :: ws) = signs3 :: ws := by kernel_rfl
theorem words2 : (signs3 == "gc".toList) = false := by kernel_rfl
theorem words3 : (signs3 == "spec".toList) = false := by kernel_rfl
theorem words4 : (signs3 == "carried".toList) = false := by kernel_rfl
theorem words4' : signs3 ≠ "carried".toList := fun e => by have := words4; rw [e] at this; simp at this
theorem words5 : signs3 = "cut".toList := by kernel_rfl
theorem words6 (ws : List (List Char)) : stripLifts liftWords (signs3 :: ws) = ([], signs3 :: ws) := by kernel_rfl
theorem laysLater_ : Try.prog.laysLater = false := by kernel_rfl
theorem bearsReflect_ : Try.prog.bearsReflect = false := by kernel_rfl
theorem doorFits_ : Try.prog.doorFits [] = true := by kernel_rfl
theorem enter_of {P : Program} {ws : List (List Char)} (h : wordsSigns P.initOrder.toList = signs1 :: signs2 :: signs3 :: ws) (h1 : P.laysLater = false) (h2 : P.bearsReflect = false) (h3 : P.doorFits [] = true) : P.mayEnter = true := by
  unfold Program.mayEnter
  rw [h, words1]
  simp only [words2, words3, words4, words6, h1, h2, h3]
  simp [words5]
theorem lifts_of {P : Program} {ws : List (List Char)} (h : wordsSigns P.initOrder.toList = signs1 :: signs2 :: signs3 :: ws) : P.liftsFinal = false := by
  unfold Program.liftsFinal Program.headLifts
  rw [h, words1]
  have e : ((signs3 :: ws).head? == some "carried".toList) = false := by
    rw [List.head?_cons, beq_eq_false_iff_ne]
    exact fun e => words4' (Option.some.inj e)
  simp only [words6, e]
  simp
theorem make_of {P : Program} {ws : List (List Char)} (h : wordsSigns P.initOrder.toList = signs1 :: signs2 :: signs3 :: ws) : P.make = some .cut := by
  unfold Program.make
  rw [h, words1]
  simp only [words2, words3]
  simp [words5]
theorem mayEnter_ : Try.prog.mayEnter = true := by
  obtain ⟨ws, h⟩ := initWords
  exact enter_of h laysLater_ bearsReflect_ doorFits_
theorem lifts_ : Try.prog.liftsFinal = false := by
  obtain ⟨ws, h⟩ := initWords
  exact lifts_of h
theorem make_ : Try.prog.make = some .cut := by
  obtain ⟨ws, h⟩ := initWords
  exact make_of h

section
variable {H : Type} {enc : TypeId × Value → H} {P : Program}

theorem trodAll_stays {W W' : World} (hl : laidOutB P = true) (hb : Below W.heap.size W W') :
    ∀ (ts : List TypeId) (vs : List Value) (ds : List (DataW H)) (ps : List MemPlace), (∀ t ∈ ts, P.readableRec t = true ∧ t < P.types.size) →
      DataW.TrodAll enc P W 0 (fun _ => true) true ts vs ds ps → (∀ x ∈ ps, x.block < W.heap.size) →
      DataW.TrodAll enc P W' 0 (fun b => decide (b < W.heap.size)) true ts vs ds ps
  | [], [], [], _, _, h, _ => h
  | t :: ts, v :: vs, d :: ds, ps, hr, h, hlt => by
    obtain ⟨p, q, h1, h2, rfl⟩ := h
    exact ⟨p, q, Below.trod hl (hr t (by simp)).1 (hr t (by simp)).2 h1 hb (fun x hx => hlt x (by simp [hx])),
      trodAll_stays hl hb ts vs ds q (fun t' ht' => hr t' (by simp [ht'])) h2 (fun x hx => hlt x (by simp [hx])), rfl⟩
  | [], _ :: _, _, _, _, h, _ => h.elim
  | [], [], _ :: _, _, _, h, _ => h.elim
  | _ :: _, [], _, _, _, h, _ => h.elim
  | _ :: _, _ :: _, [], _, _, h, _ => h.elim

theorem law_post {f : Func} {s : ChangeSpec} {tb : TypeId} {W W' : World} {args : Array Value} {ds : List (DataW H)} {before : List MemPlace}
    (hl : laidOutB P = true) (hv : s.vars = []) (hfn : s.fn H (ds ++ []) = { results := [.lit (.bool true)], args := ds }) (hrt : f.resultTypes = #[tb]) (htb : P.underlying tb = some .bool)
    (hr : ∀ t ∈ f.params.toList, P.readableRec t = true ∧ t < P.types.size)
    (hW : DataW.Whole enc P f.params.toList s.vars false W args.toList ds [] before) (hb : Below W.heap.size W W') :
    s.post enc P f false true false false W args (.bool true) W' := by
  have hW0 := hW
  obtain ⟨p, q, hA, hV, rfl, hz, hn⟩ := hW
  rw [hv] at hV
  obtain ⟨_, rfl⟩ := trodVars_none hV
  have hlt : ∀ x ∈ p, x.block < W.heap.size := fun x hx => hW0.lt x (by simp [hx])
  refine ⟨ds, [], p ++ [], [], p, [], hW0, ?_, ?_, ?_, hb.frame _, fun h => by cases h⟩
  · rw [hfn, hrt]
    exact trodAll_mk1 (shut_bool htb true)
  · rw [hfn]
    exact trodAll_stays hl hb _ _ _ _ hr hA hlt
  · rw [hfn, hv]
    rfl
end

section
variable {H : Type} {enc : TypeId × Value → H} {P : Program} {w : World} {base : Nat} {spare : Nat → Bool} {held : Bool}
end

theorem rec_ok {P : Program} {ts : Array TypeId} (h : (ts.toList.all fun t => P.readableRec t && decide (t < P.types.size)) = true) : ∀ t ∈ ts.toList, P.readableRec t = true ∧ t < P.types.size := by
  intro t ht
  have := List.all_eq_true.1 h t ht
  simpa using this

end Go.Proofs.Ytjkoceacjbhblaa
namespace Go.Proofs.Ytjkoceacjbhblaa
open Go.RowKit

/-- block g is just these cells -/
def Blk (w : World) (g : Nat) (t : TypeId) (cs : Array Value) : Prop := w.heap[g]? = some (.cells cs t (0, 0))
section
variable {w w' : World} {g : Nat} {t : TypeId} {cs : Array Value}
theorem Blk.lt (h : Blk w g t cs) : g < w.heap.size := by
  rcases Nat.lt_or_ge g w.heap.size with hlt | hge
  · exact hlt
  · unfold Blk at h; rw [Array.getElem?_eq_none hge] at h; cases h
theorem Blk.cell (h : Blk w g t cs) (i : Nat) : w.cell? ⟨g, i, none⟩ = cs[i]? := by
  unfold Blk at h
  simp [World.cell?, h]
theorem Blk.frozen (h : Blk w g t cs) (i : Nat) : w.frozen? ⟨g, i, none⟩ = false := by
  unfold Blk at h
  simp [World.frozen?, h]
theorem Blk.new (w : World) (t : TypeId) (cs : Array Value) : Blk (w.alloc (.cells cs t)) w.heap.size t cs := heap_alloc_new w _
theorem Blk.alloc (h : Blk w g t cs) (o : Obj) : Blk (w.alloc o) g t cs := (Below.heap_alloc w o g h.lt).trans h
theorem Blk.set_ (h : Blk w g t cs) (i : Nat) (u : Value) : Blk (w.setCell ⟨g, i, none⟩ u) g t (cs.setIfInBounds i u) := by
  unfold Blk at h ⊢
  simp [World.setCell, Array.getElem?_modify, h]
theorem Blk.far (h : Blk w g t cs) {p : Addr} (hp : g ≠ p.block) (u : Value) : Blk (w.setCell p u) g t cs := (Below.heap_setCell w p u g hp).trans h
theorem Blk.below {B : Nat} (h : Blk w g t cs) (hb : Below B w w') (hg : g < B) : Blk w' g t cs := (hb.block g hg).trans h
theorem Blk.grown {row : Option Nat} (h : Blk w g t cs) (hb : w.grownBy w' row) (hg : some g ≠ row) : Blk w' g t cs := (hb.block g h.lt hg).trans h
end
theorem Blk.new_ (w : World) (t : TypeId) (cs : Array Value) {g : Nat} (h : g = w.heap.size) : Blk (w.alloc (.cells cs t)) g t cs := by subst h; exact Blk.new w t cs
end Go.Proofs.Ytjkoceacjbhblaa
namespace Go.Proofs.Ytjkoceacjbhblaa
open Go.RowKit

/-- the slice value v has n elements of size cells each, and they are xs -/
def Sl (w : World) (size : Nat) (v : Value) (n : Nat) (xs : List Value) : Prop :=
  xs.length = n * size ∧ ∃ A c, v = .slice A n c ∧ n ≤ c ∧ (0 < n → ∃ b off, A = some ⟨b, off, none⟩ ∧ b < w.heap.size ∧ ∀ j u, xs[j]? = some u → w.cell? ⟨b, off + j, none⟩ = some u)

theorem cell_lt {w : World} {a : Addr} {u : Value} (h : w.cell? a = some u) : a.block < w.heap.size := by
  rcases Nat.lt_or_ge a.block w.heap.size with h1 | h1
  · exact h1
  · unfold World.cell? at h
    rw [Array.getElem?_eq_none h1] at h
    simp at h

section
variable {w w' : World} {size n : Nat} {v : Value} {xs : List Value}
theorem Sl.keep (h : Sl w size v n xs) (hs : w.heap.size ≤ w'.heap.size) (hk : ∀ p : Addr, p.block < w.heap.size → w'.cell? p = w.cell? p) : Sl w' size v n xs := by
  obtain ⟨h1, A, c, hv, hc, h2⟩ := h
  refine ⟨h1, A, c, hv, hc, fun hn => ?_⟩
  obtain ⟨b, off, hA, hb, hcell⟩ := h2 hn
  exact ⟨b, off, hA, by omega, fun j u hu => (hk _ hb).trans (hcell j u hu)⟩
theorem Sl.below (h : Sl w size v n xs) (hb : Below w.heap.size w w') : Sl w' size v n xs := h.keep hb.size fun _ hp => hb.cell hp
theorem Sl.drew (h : Sl w size v n xs) : Sl w.drew size v n xs := h
theorem Sl.alloc (h : Sl w size v n xs) (o : Obj) : Sl (w.alloc o) size v n xs := h.keep (by simp) fun _ hp => World.cell?_alloc_lt w o _ hp
theorem Sl.form (h : Sl w size v n xs) : ∃ A c, v = .slice A n c ∧ n ≤ c := by
  obtain ⟨_, A, c, hv, hc, _⟩ := h
  exact ⟨A, c, hv, hc⟩
theorem Sl.of_own {base : Nat} {e : TypeId} (h : w.ownsRow base e size v n xs) : Sl w size v n xs := by
  refine ⟨h.1, ?_⟩
  have hcl := @World.ownsRow.cells
  rcases h.2 with ⟨hv, hn⟩ | ⟨g, cap, cur, hv, hb, hh, hnc, hr⟩
  · subst hv; subst hn
    exact ⟨none, 0, rfl, Nat.le_refl _, fun h => absurd h (by omega)⟩
  · have hg : v.ownBlock = some g := by rw [hv]; rfl
    refine ⟨some ⟨g, 0, none⟩, cap, hv, hnc, fun _ => ⟨g, 0, rfl, (h.lt g hg).2, fun j u hu => ?_⟩⟩
    have := hcl h hg j u hu
    by_cases hj : j = 0
    · subst hj; simpa [Addr.add] using this
    · simpa [Addr.add, hj] using this
end

section
variable {P : Program} (w : World)
theorem run_append_of_nil (base : Nat) (t ty e : TypeId) (i : TypeInfo) (size : Nat) (ht : P.underlying t = some (.slice e)) (hi : P.info? e = some i)
    (v : Value) (n : Nat) (xs : List Value) (hown : w.ownsRow base e size v n xs) (c : Nat) : (Builtin.append_ #[t, t] ty #[v, .slice none 0 c]).run P w = .ok v w := by
  rcases hown.2 with ⟨rfl, rfl⟩ | ⟨g, cap, cur, rfl, _, _, hnc, _⟩
  · simp [Builtin.append_, run_underlying ht, sizeOf, typeInfo, hi, Builtin.lenOf, Builtin.firstCells]
  · simp [Builtin.append_, run_underlying ht, sizeOf, typeInfo, hi, Builtin.lenOf, Builtin.firstCells, hnc, storeCells]

theorem run_append_sl (base : Nat) (t ty e : TypeId) (i : TypeInfo) (z : Value) (size bytes : Nat) (ht : P.underlying t = some (.slice e)) (hi : P.info? e = some i) (hz : i.zero = some z)
    (hsize : i.size = size) (hby : i.bytes = bytes) (hzs : z.cells.size = size) (hsz : 0 < size)
    (v : Value) (n : Nat) (xs : List Value) (hown : w.ownsRow base e size v n xs)
    (u : Value) (m : Nat) (news : List Value) (hr : Sl w size u m news) (h1 : ∀ x ∈ news, x.oneCell' = true)
    (h63 : n + m ≤ maxLen) (hbytes : (n + m) * bytes ≤ 140737488355328) (hbase : base ≤ w.heap.size) :
    ∃ v' w', (Builtin.append_ #[t, t] ty #[v, u]).run P w = .ok v' w' ∧ w'.ownsRow base e size v' (n + m) (xs ++ news) ∧ w.grownBy w' v.ownBlock ∧
      (v'.ownBlock = v.ownBlock ∨ v'.ownBlock = some w.heap.size) := by
  obtain ⟨hl, A, c, rfl, hc, hcl⟩ := hr
  rcases A with _ | ad
  · have hm : m = 0 := by
      rcases Nat.eq_zero_or_pos m with h0 | h0
      · exact h0
      · obtain ⟨_, _, h, _⟩ := hcl h0
        cases h
    subst hm
    have hn : news = [] := List.eq_nil_of_length_eq_zero (by simpa using hl)
    subst hn
    exact ⟨v, w, run_append_of_nil w base t ty e i size ht hi v n xs hown c, by simpa using hown, World.grownBy.refl w _, .inl rfl⟩
  · have hcells : ∀ j x, news[j]? = some x → w.cell? (ad.add j) = some x := by
      intro j x hx
      rcases Nat.eq_zero_or_pos m with h0 | h0
      · subst h0
        have hn : news = [] := List.eq_nil_of_length_eq_zero (by simpa using hl)
        subst hn
        simp at hx
      · obtain ⟨b, off, h, _, hq⟩ := hcl h0
        injection h with h
        subst h
        by_cases hj : j = 0
        · subst hj; simpa [Addr.add] using hq 0 x hx
        · simpa [Addr.add, hj] using hq j x hx
    obtain ⟨v', w', hrun, h2, h3, _, h5⟩ := run_append_own_at (P := P) w base t ty e i z size bytes ht hi hz hsize hby hzs hsz v n xs hown ad m c news hl hcells h1 h63 hbytes hbase
    exact ⟨v', w', hrun, h2, h3, h5⟩

theorem wp_append_sl {o : Oper} {a : Act} {K : Act → World → Prop} {Q : Exit → Act → World → Prop} (s x : Operand) (t : TypeId)
    (ho : o.op = .call { callee := .builtin .append, args := #[s, x], argTypes := #[t, t] })
    (base : Nat) (e : TypeId) (i : TypeInfo) (z : Value) (size bytes : Nat) (ht : P.underlying t = some (.slice e)) (hi : P.info? e = some i) (hz : i.zero = some z)
    (hsize : i.size = size) (hby : i.bytes = bytes) (hzs : z.cells.size = size) (hsz : 0 < size)
    (v : Value) (n : Nat) (xs : List Value) (hs : a.eval s = v) (hown : w.ownsRow base e size v n xs)
    (u : Value) (m : Nat) (news : List Value) (hx : a.eval x = u) (hr : Sl w size u m news) (h1 : ∀ x ∈ news, x.oneCell' = true)
    (h63 : n + m ≤ maxLen) (hbytes : (n + m) * bytes ≤ 140737488355328) (hbase : base ≤ w.heap.size)
    (h : ∀ v' w', w'.ownsRow base e size v' (n + m) (xs ++ news) → w.grownBy w' v.ownBlock → (v'.ownBlock = v.ownBlock ∨ v'.ownBlock = some w.heap.size) → K (a.put o.dst v') w') : o.wp P a w K Q := by
  obtain ⟨v', w', hrun, h2, h3, h4⟩ := run_append_sl (P := P) w base t o.type e i z size bytes ht hi hz hsize hby hzs hsz v n xs hown u m news hr h1 h63 hbytes hbase
  unfold Oper.wp execOp
  simp only [ho, resolve, invoke, builtin, Sem.run_bind, Sem.run_pure, Result.andThen_ok, List.map_toArray, List.map_cons, List.map_nil, hs, hx, hrun]
  exact h v' w' h2 h3 h4

theorem wpList_append_sl {ops : Array Oper} {rest : List Oper} {o : Oper} {a : Act} {Q : Exit → Act → World → Prop} (hgd : o.guard = none) (s x : Operand) (t : TypeId)
    (ho : o.op = .call { callee := .builtin .append, args := #[s, x], argTypes := #[t, t] })
    (base : Nat) (e : TypeId) (i : TypeInfo) (z : Value) (size bytes : Nat) (ht : P.underlying t = some (.slice e)) (hi : P.info? e = some i) (hz : i.zero = some z)
    (hsize : i.size = size) (hby : i.bytes = bytes) (hzs : z.cells.size = size) (hsz : 0 < size)
    (v : Value) (n : Nat) (xs : List Value) (hs : a.eval s = v) (hown : w.ownsRow base e size v n xs)
    (u : Value) (m : Nat) (news : List Value) (hx : a.eval x = u) (hr : Sl w size u m news) (h1 : ∀ x ∈ news, x.oneCell' = true)
    (h63 : n + m ≤ maxLen) (hbytes : (n + m) * bytes ≤ 140737488355328) (hbase : base ≤ w.heap.size)
    (h : ∀ v' w', w'.ownsRow base e size v' (n + m) (xs ++ news) → w.grownBy w' v.ownBlock → (v'.ownBlock = v.ownBlock ∨ v'.ownBlock = some w.heap.size) → wpList P ops Q rest (a.put o.dst v') w') : wpList P ops Q (o :: rest) a w :=
  wpList_plain hgd fun _ hK => wp_append_sl w s x t ho base e i z size bytes ht hi hz hsize hby hzs hsz v n xs hs hown u m news hx hr h1 h63 hbytes hbase fun v' w' h2 h3 h4 => hK _ _ (h v' w' h2 h3 h4)
end

/-- behind an append onto a row of the call's own, its source in a new block -/
theorem own_below {B : Nat} {w wr w1 : World} {e : TypeId} {size n : Nat} {v : Value} {xs : List Value} (hb : Below B w wr) (hB : B ≤ w.heap.size) (ho : wr.ownsRow B e size v n xs) (o : Obj) (hg : (wr.alloc o).grownBy w1 v.ownBlock) : Below B w w1 :=
  (hb.alloc (Nat.le_trans hB hb.size) o).grown hg (by have := hb.size; simp; omega) fun k hk => (ho.lt k hk).1
theorem own_eq {w : World} {B : Nat} {e : TypeId} {size n n' : Nat} {v : Value} {xs ys : List Value} (h : w.ownsRow B e size v n xs) (h1 : n = n') (h2 : xs = ys) : w.ownsRow B e size v n' ys := by subst h1; subst h2; exact h

/-- from w with the row v to w' with the row v': what was there has not turned but for v's own row; v' is that row or a new one -/
def OwnStep (w w' : World) (v v' : Value) : Prop := w.grownBy w' v.ownBlock ∧ (v'.ownBlock = v.ownBlock ∨ ∃ k, v'.ownBlock = some k ∧ w.heap.size ≤ k)
theorem OwnStep.refl (w : World) (v : Value) : OwnStep w w v v := ⟨World.grownBy.refl w _, .inl rfl⟩
theorem OwnStep.trans {w w1 w2 : World} {v v1 v2 : Value} (h : OwnStep w w1 v v1) (k : OwnStep w1 w2 v1 v2) : OwnStep w w2 v v2 := by
  obtain ⟨h1, h2⟩ := h
  obtain ⟨k1, k2⟩ := k
  refine ⟨⟨k1.os.trans h1.os, k1.tape.trans h1.tape, k1.output.trans h1.output, Nat.le_trans h1.size k1.size, fun i hi hne => ?_⟩, ?_⟩
  · refine (k1.block i (Nat.lt_of_lt_of_le hi h1.size) ?_).trans (h1.block i hi hne)
    rcases h2 with h2 | ⟨g, h2, hg⟩
    · rw [h2]; exact hne
    · rw [h2]; intro e; injection e with e; omega
  · have hs := h1.size
    rcases k2 with k2 | ⟨g, k2, hg⟩
    · rcases h2 with h2 | ⟨g', h2, hg'⟩
      · exact .inl (k2.trans h2)
      · exact .inr ⟨g', k2.trans h2, hg'⟩
    · exact .inr ⟨g, k2, by omega⟩
theorem OwnStep.cell {w w' : World} {v v' : Value} (h : OwnStep w w' v v') {a : Addr} {u : Value} (hc : w.cell? a = some u) (hne : some a.block ≠ v.ownBlock) : w'.cell? a = some u := h.1.cell hc hne
theorem OwnStep.size {w w' : World} {v v' : Value} (h : OwnStep w w' v v') : w.heap.size ≤ w'.heap.size := h.1.size
theorem OwnStep.below {B : Nat} {w w' : World} {v v' : Value} (h : OwnStep w w' v v') (hB : B ≤ w.heap.size) (hv : ∀ k, v.ownBlock = some k → B ≤ k) : Below B w w' :=
  (Below.refl B w).grown h.1 hB hv
/-- a row of the call's own stays while the world grows above it -/
theorem own_keep {base B : Nat} {w w' : World} {e : TypeId} {size n : Nat} {v : Value} {xs : List Value} (h : w.ownsRow base e size v n xs) (hb : Below B w w') (hv : ∀ k, v.ownBlock = some k → k < B) : w'.ownsRow base e size v n xs := by
  obtain ⟨h1, h2⟩ := h
  refine ⟨h1, ?_⟩
  rcases h2 with h2 | ⟨g, cap, cur, hv', hg, hh, r⟩
  · exact .inl h2
  · refine .inr ⟨g, cap, cur, hv', hg, ?_, r⟩
    rw [hb.block g (hv g (by rw [hv']; rfl))]
    exact hh
theorem own_lit {base : Nat} (w : World) (e : TypeId) (cs : Array Value) (size n : Nat) (hb : base ≤ w.heap.size) (hm : n ≤ maxLen) (hs : cs.size = n * size) : (w.alloc (.cells cs e)).ownsRow base e size (.slice (some ⟨w.heap.size, 0, none⟩) n n) n cs.toList :=
  World.ownsRow_lit w cs n hb hm hs
theorem own_base {base base' : Nat} {w : World} {e : TypeId} {size n : Nat} {v : Value} {xs : List Value} (h : w.ownsRow base e size v n xs) (hb : base' ≤ base) : w.ownsRow base' e size v n xs := by
  obtain ⟨h1, h2⟩ := h
  refine ⟨h1, ?_⟩
  rcases h2 with h2 | ⟨g, cap, cur, hv', hg, r⟩
  · exact .inl h2
  · exact .inr ⟨g, cap, cur, hv', by omega, r⟩

theorem OwnStep.blk {w w' : World} {v v' : Value} {g : Nat} {t : TypeId} {cs : Array Value} (h : OwnStep w w' v v') (hb : Blk w g t cs) (hne : v.ownBlock ≠ some g) : Blk w' g t cs ∧ v'.ownBlock ≠ some g := by
  refine ⟨hb.grown h.1 (fun e => hne e.symm), fun e => ?_⟩
  have := hb.lt
  rcases h.2 with h2 | ⟨k, h2, hk⟩
  · exact hne (h2.symm.trans e)
  · rw [h2] at e; injection e with e; omega

/-- a literal slice in a new block -/
theorem Sl.lit (w : World) (e : TypeId) (cs : Array Value) (size n : Nat) (h : cs.size = n * size) : Sl (w.alloc (.cells cs e)) size (.slice (some ⟨w.heap.size, 0, none⟩) n n) n cs.toList := by
  refine ⟨by simpa using h, some ⟨w.heap.size, 0, none⟩, n, rfl, Nat.le_refl _, fun _ => ⟨w.heap.size, 0, rfl, by simp, fun j u hu => ?_⟩⟩
  have : (w.alloc (.cells cs e)).heap[w.heap.size]? = some (.cells cs e (0, 0)) := heap_alloc_new w _
  simp only [World.cell?, this]
  simpa using hu

def bvs (l : List UInt8) : List Value := l.map fun b => Value.int .u8 b.toNat
theorem bvs_length (l : List UInt8) : (bvs l).length = l.length := by simp [bvs]
theorem bvs_get {l : List UInt8} {i : Nat} (h : i < l.length) : (bvs l)[i]? = some (.int .u8 (l[i]).toNat) := by simp [bvs, List.getElem?_eq_getElem h]
/-- v is the bytes l -/
def By (w : World) (v : Value) (l : List UInt8) : Prop := Sl w 1 v l.length (bvs l)
theorem By.below {w w' : World} {v : Value} {l : List UInt8} (h : By w v l) (hb : Below w.heap.size w w') : By w' v l := Sl.below h hb
theorem By.at_ {w : World} {v : Value} {l : List UInt8} (h : By w v l) : ∃ A c, v = .slice A l.length c ∧ l.length ≤ c ∧ (0 < l.length → ∃ b off, A = some ⟨b, off, none⟩ ∧ b < w.heap.size ∧ ∀ i (hi : i < l.length), w.cell? ⟨b, off + i, none⟩ = some (.int .u8 (l[i]).toNat)) := by
  obtain ⟨_, A, c, hv, hc, h2⟩ := h
  refine ⟨A, c, hv, hc, fun hn => ?_⟩
  obtain ⟨b, off, hA, hb, hcell⟩ := h2 hn
  exact ⟨b, off, hA, hb, fun i hi => hcell i _ (bvs_get hi)⟩

end Go.Proofs.Ytjkoceacjbhblaa
namespace Go.Proofs.Ytjkoceacjbhblaa
open Go.ChangeShapes Go.WideShapes Go.ChangeAt Go.RowKit Go.Joins Go.Deep

theorem getElem?_flatten_even : ∀ (cs : List (List Value)) (k : Nat), (∀ c ∈ cs, c.length = k) → ∀ (j : Nat), 0 < k → cs.flatten[j]? = (cs[j / k]?).bind fun c => c[j % k]?
  | [], k, _, j, hk => by simp
  | c :: cs, k, h, j, hk => by
    have hc : c.length = k := h c (by simp)
    rw [List.flatten_cons]
    by_cases hj : j < k
    · rw [List.getElem?_append_left (by omega), Nat.div_eq_of_lt hj, Nat.mod_eq_of_lt hj]
      simp
    · rw [List.getElem?_append_right (by omega), hc, getElem?_flatten_even cs k (fun c hc => h c (by simp [hc])) (j - k) hk]
      have e : j = (j - k) + k := by omega
      have e1 : j / k = (j - k) / k + 1 := by
        conv => lhs; rw [e]
        rw [Nat.add_div_right _ hk]
      have e2 : j % k = (j - k) % k := by
        conv => lhs; rw [e]
        rw [Nat.add_mod_right]
      rw [e1, e2]
      simp
theorem length_flatten_even : ∀ (cs : List (List Value)) (k : Nat), (∀ c ∈ cs, c.length = k) → cs.flatten.length = cs.length * k
  | [], k, _ => by simp
  | c :: cs, k, h => by
    rw [List.flatten_cons, List.length_append, length_flatten_even cs k (fun c hc => h c (by simp [hc])), h c (by simp), List.length_cons, Nat.add_mul]
    omega

section
variable {H : Type} {enc : TypeId × Value → H} {P : Program} {w : World} {base : Nat} {spare : Nat → Bool} {held : Bool}

theorem open_sl {t e : TypeId} {k fuel : Nat} {v : Value} {x : DataW H × List MemPlace} (ht : P.underlying t = some (.slice e)) (hc : P.cellsOf e = k) (hk : 0 < k) (h : DataW.trod enc P w base spare held fuel t [v] = some x) :
    ∃ (cs : List (List Value)) (ds sp : List (DataW H)), Sl w k v cs.length cs.flatten ∧ cs.length ≤ maxLen ∧ ds.length = cs.length ∧ (x.1 = .slice ds sp ∨ (x.1 = .nil ∧ cs = [])) ∧
      ∀ i (hi : i < cs.length) (hd : i < ds.length), ∃ n y, DataW.trod enc P w base spare held n e cs[i] = some y ∧ ds[i] = y.1 := by
  rcases open_slice ht h with ⟨hcs, rfl⟩ | ⟨a, len, cap, m, n, D, Pl, hcs, hb, hl, hmx, hm, rfl, hx⟩
  · injection hcs with hv
    subst hv
    exact ⟨[], [], [], ⟨by simp, none, 0, rfl, by simp, fun h => by simp at h⟩, by simp, rfl, Or.inr ⟨rfl, rfl⟩, fun i hi => by simp at hi⟩
  · injection hcs with hv
    subst hv
    have hlm : len ≤ m := by subst hm; split <;> omega
    obtain ⟨C, hC⟩ := choose_lt (α := List Value) (p := fun i c => w.cells? base (a.add (i * P.cellsOf e)) (P.cellsOf e) = some c ∧ DataW.trod enc P w base spare held n e c = some (D i, Pl i)) (n := m) (fun i hi => hx i hi)
    have hlen : ∀ c ∈ (List.range len).map C, c.length = k := by
      intro c hc'
      obtain ⟨i, hi, rfl⟩ := List.mem_map.1 hc'
      have := (World.cells?_some (hC i (by have := List.mem_range.1 hi; omega)).1).2.1
      omega
    refine ⟨(List.range len).map C, (List.range len).map D, _, ?_, by simp; omega, by simp, Or.inl rfl, ?_⟩
    · refine ⟨length_flatten_even _ _ hlen, some a, cap, by simp, by simpa using hl, fun hn => ?_⟩
      have hn' : 0 < len := by simpa using hn
      have h0 := World.cells?_some (hC 0 (by omega)).1
      have hcell : ∀ i, i < len → ∀ j, j < k → w.cell? (a.add (i * k + j)) = (C i)[j]? := by
        intro i hi j hj
        have := (World.cells?_some (hC i (by omega)).1).2.2 j (by omega)
        rw [add_add, hc] at this
        exact this
      obtain ⟨b, off, spot⟩ := a
      have hs : spot = none := by
        have h1 := hcell 0 hn' 0 hk
        rw [List.getElem?_eq_getElem (by have := h0.2.1; omega)] at h1
        simpa [Addr.add] using World.cell?_spot h1
      subst hs
      have hadd : ∀ j, (Addr.add ⟨b, off, none⟩ j) = ⟨b, off + j, none⟩ := by
        intro j
        unfold Addr.add
        by_cases hj : j = 0 <;> simp [hj]
      have key : ∀ j u, ((List.range len).map C).flatten[j]? = some u → w.cell? ⟨b, off + j, none⟩ = some u := by
        intro j u hu
        rw [getElem?_flatten_even _ k hlen j hk] at hu
        obtain ⟨c, hc1, hc2⟩ := Option.bind_eq_some_iff.1 hu
        obtain ⟨hlt, hce⟩ := List.getElem?_eq_some_iff.1 hc1
        simp only [List.length_map, List.length_range] at hlt
        simp only [List.getElem_map, List.getElem_range] at hce
        subst hce
        have h2 := hcell (j / k) hlt (j % k) (Nat.mod_lt _ hk)
        rw [Nat.mul_comm, Nat.div_add_mod, hadd] at h2
        rw [h2]; exact hc2
      refine ⟨b, off, rfl, ?_, key⟩
      have h1 := hcell 0 hn' 0 hk
      rw [List.getElem?_eq_getElem (by have := h0.2.1; omega)] at h1
      simpa [Addr.add] using cell_lt h1
    · intro i hi hd
      simp only [List.length_map, List.length_range] at hi
      refine ⟨n, (D i, Pl i), ?_, ?_⟩
      · simpa using (hC i (by omega)).2
      · simp

/-- all that the datum weighs is within the machine's reach -/
def fits (P : Program) (t : TypeId) (d : DataW H) : Prop := ∀ n ∈ d.weights P t, n ≤ reachBytes
theorem weightsAll_mem_ {P : Program} {e : TypeId} : ∀ {l : List (DataW H)} {d : DataW H}, d ∈ l → ∀ n ∈ d.weights P e, n ∈ DataW.weightsAll P e l
  | d' :: r, d, hd, n, hn => by
    simp only [DataW.weightsAll, List.mem_append]
    rcases List.mem_cons.1 hd with rfl | h
    · exact Or.inl hn
    · exact Or.inr (weightsAll_mem_ h n hn)
theorem fits_row {t e : TypeId} {l sp : List (DataW H)} (hu : P.underlying t = some (.slice e)) (h : fits P t (.slice l sp)) : l.length * P.bytesOf e ≤ reachBytes ∧ ∀ d ∈ l, fits P e d := by
  constructor
  · have := h ((l.length + sp.length) * P.bytesOf e) (by simp [DataW.weights, hu])
    exact Nat.le_trans (Nat.mul_le_mul_right _ (by omega)) this
  · intro d hd n hn
    exact h n (by simp only [DataW.weights, hu, List.mem_cons, List.mem_append]; exact Or.inr (Or.inl (weightsAll_mem_ hd n hn)))
theorem fits_field {t : TypeId} {fs : Array Field} {l : List (DataW H)} (hu : P.underlying t = some (.struct fs)) (h : fits P t (.agg l)) {i : Nat} {f : Field} {d : DataW H} (hf : fs[i]? = some f) (hd : l[i]? = some d) : fits P f.type d := by
  intro n hn
  refine h n ?_
  simp only [DataW.weights, hu]
  exact DataW.weights_mem_each (j := i) (t := f.type) (by simp [hf]) hd n hn
theorem fits_arg {ts : List TypeId} {ds : List (DataW H)} (h : (DataW.weightsEach P ts ds).all (· ≤ reachBytes) = true) {j : Nat} {t : TypeId} {d : DataW H} (ht : ts[j]? = some t) (hd : ds[j]? = some d) : fits P t d :=
  fun n hn => by simpa using List.all_eq_true.1 h n (DataW.weights_mem_each ht hd n hn)
end
end Go.Proofs.Ytjkoceacjbhblaa
namespace Go.Proofs.Ytjkoceacjbhblaa
open Go.RowKit

/-- v reads as the list l, one cell each -/
def L1 {α : Type} (f : α → Value) (w : World) (v : Value) (l : List α) : Prop := Sl w 1 v l.length (l.map f)
theorem L1.at_ {α : Type} {f : α → Value} {w : World} {v : Value} {l : List α} (h : L1 f w v l) : ∃ A c, v = .slice A l.length c ∧ l.length ≤ c ∧ (0 < l.length → ∃ b off, A = some ⟨b, off, none⟩ ∧ b < w.heap.size ∧ ∀ i (hi : i < l.length), w.cell? ⟨b, off + i, none⟩ = some (f l[i])) := by
  obtain ⟨_, A, c, hv, hc, h2⟩ := h
  refine ⟨A, c, hv, hc, fun hn => ?_⟩
  obtain ⟨b, off, hA, hb, hcell⟩ := h2 hn
  exact ⟨b, off, hA, hb, fun i hi => hcell i _ (by simp [List.getElem?_eq_getElem hi])⟩
theorem L1.below {α : Type} {f : α → Value} {w w' : World} {v : Value} {l : List α} (h : L1 f w v l) (hb : Below w.heap.size w w') : L1 f w' v l := Sl.below h hb
abbrev Is := L1 (Value.int .i64)
abbrev Bs := L1 Value.bool
abbrev Ss := L1 Value.string

/-- the first k are the same -/
def agree {α : Type} (xs ys : List α) (k : Nat) : Prop := xs.take k = ys.take k
theorem agree_step {α : Type} {xs ys : List α} {k : Nat} (h : agree xs ys k) (hx : k < xs.length) (hy : k < ys.length) (he : xs[k] = ys[k]) : agree xs ys (k + 1) := by
  unfold agree at *
  rw [List.take_succ_eq_append_getElem hx, List.take_succ_eq_append_getElem hy, h, he]
theorem agree_all {α : Type} {xs ys : List α} (h : agree xs ys xs.length) (hl : xs.length = ys.length) : xs = ys := by
  unfold agree at h
  rwa [List.take_length, hl, List.take_length] at h

theorem below_drewN_ (w : World) (n : Nat) : Below w.heap.size w (w.drewN n) := ⟨rfl, rfl, rfl, Nat.le_refl _, fun _ _ => rfl⟩

set_option maxRecDepth 100000 in
set_option maxHeartbeats 1000000 in
theorem sameInts_any (u v : Value) (xs ys : List Int) (w : World) (hu : Is w u xs) (hv : Is w v ys) (hx : xs.length ≤ 9223372036854775807) (hy : ys.length ≤ 9223372036854775807) :
    Calls Try.prog 65 #[u, v] w fun e w' => e = .returned (.bool (decide (xs = ys))) ∧ ∃ n, w' = w.drewN n := by
  obtain ⟨A, c, rfl, hc, hcx⟩ := hu.at_
  obtain ⟨B, d, rfl, hd, hcy⟩ := hv.at_
  by_cases hl : xs.length = ys.length
  · have hl1 : ((xs.length : Int) != (ys.length : Int)) = false := by rw [hl]; simp
    have HL := Lib.hid hl
    clear hl
    go_enter Try.func65, Try.ntmps65
    go_wp2
    clear hl1
    go_loopw [5] (fun i wr => ∃ k : Nat, k ≤ xs.length ∧ i = .int .i64 k ∧ Hid (agree xs ys k) ∧ ∃ n, wr = w.drewN n) (fun i _ => xs.length - (intOf i).toNat)
    case atStart => exact ⟨0, by omega, rfl, rfl, 0, rfl⟩
    case round =>
      obtain ⟨k, hk, rfl, hag, n, rfl⟩ := hrel
      by_cases hlt : k < xs.length
      · have hlt' : k < ys.length := by have := HL.out; omega
        obtain ⟨b1, o1, rfl, hb1, hc1⟩ := hcx (by omega)
        obtain ⟨b2, o2, rfl, hb2, hc2⟩ := hcy (by omega)
        have h1 := hc1 k hlt
        have h2 := hc2 k hlt'
        have i0 : (0 : Int) ≤ (k : Int) := by omega
        have i1 : (k : Int) < (xs.length : Int) := by omega
        have i2 : (k : Int) < (ys.length : Int) := by omega
        clear hcx hcy hc1 hc2
        by_cases he : xs[k] = ys[k]
        · have he1 : (xs[k] != ys[k]) = false := by rw [he]; simp
          have HE := Lib.hid he
          clear he
          go_wp2
          go_quiet (fail)
          go_wp2
          go_light
          refine ⟨⟨k + 1, by omega, by go_num, agree_step hag.out hlt hlt' HE.out, _, by first | rfl | exact World.drewN_drewN _ _ _⟩, by simp [intOf]; omega⟩
        · have he1 : (xs[k] != ys[k]) = true := by rw [bne_iff_ne]; exact he
          have hne : xs ≠ ys := fun e => he (by subst e; rfl)
          have HE := Lib.hid hne
          clear he hne
          go_wp2
          go_quiet (fail)
          go_wp2
          go_ret
          refine ⟨ret_bool ?_, _, by first | rfl | exact World.drewN_drewN _ _ _⟩
          simp [HE.out]
      · obtain rfl : k = xs.length := by omega
        have he := agree_all hag.out HL.out
        have HE := Lib.hid he
        clear he hlt
        go_wp2
        go_ret
        refine ⟨ret_bool ?_, _, by first | rfl | exact World.drewN_drewN _ _ _⟩
        simp [HE.out]
  · have hl1 : ((xs.length : Int) != (ys.length : Int)) = true := by rw [bne_iff_ne]; omega
    have hne : xs ≠ ys := fun e => hl (by rw [e])
    have HE := Lib.hid hne
    clear hl hne
    go_enter Try.func65, Try.ntmps65
    go_wp2
    go_ret
    refine ⟨ret_bool ?_, 0, rfl⟩
    simp [HE.out]

end Go.Proofs.Ytjkoceacjbhblaa
namespace Go.Proofs.Ytjkoceacjbhblaa
open Go.RowKit

structure TxnD where
  name : ByteArray
  pid : Int
  ver : Int
  state : Int
  parts : List Int
  since : Int
  done : Int
structure CoordD where
  clock : Int
  next : Int
  wait : Int
  txns : List TxnD
/-- a row of the slice: its data and the slice of its parts -/
def tcells (t : TxnD × Value) : List Value := [.string t.1.name, .int .i64 t.1.pid, .int .i64 t.1.ver, .int .i64 t.1.state, t.2, .int .i64 t.1.since, .int .i64 t.1.done]
theorem tcells_get : ∀ (l : List (TxnD × Value)) (i : Nat) (h : i < l.length) (j : Nat), j < 7 → (l.flatMap tcells)[i * 7 + j]? = (tcells l[i])[j]?
  | e :: l, 0, _, j, hj => by
    rw [List.flatMap_cons, List.getElem?_append_left (by simp [tcells]; omega)]
    simp
  | e :: l, i + 1, h, j, hj => by
    have hl : (tcells e).length = 7 := rfl
    rw [List.flatMap_cons, List.getElem?_append_right (by rw [hl]; omega), hl, show (i + 1) * 7 + j - 7 = i * 7 + j from by omega]
    exact tcells_get l i (by simpa using h) j hj
/-- v reads as the transactions ds -/
def Txs (w : World) (v : Value) (ds : List TxnD) : Prop :=
  ∃ rows : List (TxnD × Value), rows.map Prod.fst = ds ∧ Sl w 7 v ds.length (rows.flatMap tcells) ∧ ∀ t ∈ rows, Is w t.2 t.1.parts ∧ t.1.parts.length ≤ 9223372036854775807
def coordV (c : CoordD) (tv : Value) : Value := .agg #[.int .i64 c.clock, .int .i64 c.next, .int .i64 c.wait, tv]
def Cv (w : World) (v : Value) (c : CoordD) : Prop := ∃ tv, v = coordV c tv ∧ Txs w tv c.txns ∧ c.txns.length ≤ 9223372036854775807
theorem Txs.below {w w' : World} {v : Value} {ds : List TxnD} (h : Txs w v ds) (hb : Below w.heap.size w w') : Txs w' v ds := by
  obtain ⟨rows, h1, h2, h3⟩ := h
  exact ⟨rows, h1, h2.below hb, fun t ht => ⟨(h3 t ht).1.below hb, (h3 t ht).2⟩⟩
theorem Cv.below {w w' : World} {v : Value} {c : CoordD} (h : Cv w v c) (hb : Below w.heap.size w w') : Cv w' v c := by
  obtain ⟨tv, h1, h2, h3⟩ := h
  exact ⟨tv, h1, h2.below hb, h3⟩
theorem Txs.at_ {w : World} {v : Value} {ds : List TxnD} (h : Txs w v ds) : ∃ A c, v = .slice A ds.length c ∧ ds.length ≤ c ∧ (0 < ds.length → ∃ b off, A = some ⟨b, off, none⟩ ∧ b < w.heap.size ∧
    ∀ i (hi : i < ds.length), ∃ pv, w.cell? ⟨b, off + i * 7, none⟩ = some (.string ds[i].name) ∧ w.cell? ⟨b, off + i * 7 + 1, none⟩ = some (.int .i64 ds[i].pid) ∧ w.cell? ⟨b, off + i * 7 + 2, none⟩ = some (.int .i64 ds[i].ver) ∧ w.cell? ⟨b, off + i * 7 + 3, none⟩ = some (.int .i64 ds[i].state) ∧
      w.cell? ⟨b, off + i * 7 + 4, none⟩ = some pv ∧ w.cell? ⟨b, off + i * 7 + 5, none⟩ = some (.int .i64 ds[i].since) ∧ w.cell? ⟨b, off + i * 7 + 6, none⟩ = some (.int .i64 ds[i].done) ∧ Is w pv ds[i].parts ∧ ds[i].parts.length ≤ 9223372036854775807) := by
  obtain ⟨rows, hr, ⟨hl, A, c, hv, hc, h2⟩, h3⟩ := h
  refine ⟨A, c, hv, hc, fun hn => ?_⟩
  obtain ⟨b, off, hA, hb, hcell⟩ := h2 hn
  refine ⟨b, off, hA, hb, fun i hi => ?_⟩
  subst hr
  have hi' : i < rows.length := by simpa using hi
  have he : (rows.map Prod.fst)[i] = rows[i].1 := by simp
  rw [he]
  have key : ∀ j u, j < 7 → (tcells rows[i])[j]? = some u → w.cell? ⟨b, off + i * 7 + j, none⟩ = some u := fun j u hj hu => by
    rw [Nat.add_assoc]
    exact hcell (i * 7 + j) u ((tcells_get rows i hi' j hj).trans hu)
  have hm := h3 rows[i] (List.getElem_mem _)
  exact ⟨rows[i].2, key 0 _ (by omega) rfl, key 1 _ (by omega) rfl, key 2 _ (by omega) rfl, key 3 _ (by omega) rfl, key 4 _ (by omega) rfl, key 5 _ (by omega) rfl, key 6 _ (by omega) rfl, hm.1, hm.2⟩

end Go.Proofs.Ytjkoceacjbhblaa
namespace Go.Proofs.Ytjkoceacjbhblaa
open Go.ChangeShapes Go.WideShapes Go.ChangeAt Go.RowKit Go.Joins Go.Deep

section
variable {H : Type} {enc : TypeId × Value → H} {P : Program} {w : World} {base : Nat} {spare : Nat → Bool} {held : Bool}
/-- an int that lies in an int -/
def I64 (x : Int) : Prop := (Lit.int .i64 x).wf = true

theorem open_ints {fuel : Nat} {v : Value} {x : DataW H × List MemPlace} (h : DataW.trod enc Try.prog w base spare held fuel 24 [v] = some x) :
    ∃ l : List Int, Is w v l ∧ l.length ≤ maxLen ∧ (∀ b ∈ l, I64 b) ∧ (fits Try.prog 24 x.1 → l.length * 8 ≤ reachBytes) := by
  obtain ⟨cs, ds, sp, hsl, hm, hl, hd, he⟩ := open_sl (k := 1) Try.underlying24 (by kernel_rfl) (by decide) h
  have key : ∀ cs : List (List Value), (∀ c ∈ cs, ∃ b : Int, c = [Value.int .i64 b] ∧ I64 b) → ∃ l : List Int, cs.flatten = l.map (Value.int .i64) ∧ l.length = cs.length ∧ ∀ b ∈ l, I64 b := by
    intro cs
    induction cs with
    | nil => exact fun _ => ⟨[], rfl, rfl, by simp⟩
    | cons c cs ih =>
      intro hcs
      obtain ⟨l, h1, h2, h3⟩ := ih (fun c hc => hcs c (by simp [hc]))
      obtain ⟨b, rfl, hb⟩ := hcs c (by simp)
      exact ⟨b :: l, by simp [h1], by simp [h2], by simpa using ⟨hb, h3⟩⟩
  obtain ⟨l, h1, h2, h3⟩ := key cs (fun c hc => by
    obtain ⟨i, hi, rfl⟩ := List.mem_iff_getElem.1 hc
    obtain ⟨n, y, h4, -⟩ := he i hi (by omega)
    obtain ⟨b, e1, -, e2⟩ := DataW.trod_int Try.underlying3 h4
    exact ⟨b, e1, e2⟩)
  refine ⟨l, ?_, by omega, h3, fun hf => ?_⟩
  · rw [h1, ← h2] at hsl; exact hsl
  · rcases hd with hd | ⟨hd, rfl⟩
    · rw [hd] at hf
      have := (fits_row Try.underlying24 hf).1
      have e : Try.prog.bytesOf 3 = 8 := by kernel_rfl
      rw [e] at this
      omega
    · simp at h2; subst h2; simp

def TxnD.Wf (t : TxnD) : Prop := t.name.size ≤ maxLen ∧ I64 t.pid ∧ I64 t.ver ∧ I64 t.state ∧ I64 t.since ∧ I64 t.done ∧ t.parts.length ≤ maxLen ∧ ∀ b ∈ t.parts, I64 b
def CoordD.Wf (c : CoordD) : Prop := I64 c.clock ∧ I64 c.next ∧ I64 c.wait ∧ c.txns.length ≤ maxLen ∧ ∀ t ∈ c.txns, t.Wf
def CoordD.Small (c : CoordD) : Prop := c.txns.length * 80 ≤ reachBytes ∧ ∀ t ∈ c.txns, t.parts.length * 8 ≤ reachBytes

end
end Go.Proofs.Ytjkoceacjbhblaa
namespace Go.Proofs.Ytjkoceacjbhblaa
open Go.RowKit

structure MemD where
  name : ByteArray
  heard : Int
  parts : List Int
structure OffD where
  part : Int
  at_ : Int
structure GroupD where
  clock : Int
  wait : Int
  gen : Int
  mems : List MemD
  offs : List OffD
/-- a row of the slice: its data and the slice of its parts -/
def mcells (t : MemD × Value) : List Value := [.string t.1.name, .int .i64 t.1.heard, t.2]
def ocells (o : OffD) : List Value := [.int .i64 o.part, .int .i64 o.at_]
theorem cells_get {α : Type} (f : α → List Value) (s : Nat) (hf : ∀ a, (f a).length = s) : ∀ (l : List α) (i : Nat) (h : i < l.length) (j : Nat), j < s → (l.flatMap f)[i * s + j]? = (f l[i])[j]?
  | e :: l, 0, _, j, hj => by
    rw [List.flatMap_cons, List.getElem?_append_left (by rw [hf]; omega)]
    simp
  | e :: l, i + 1, h, j, hj => by
    have hl : (f e).length = s := hf e
    have e1 : (i + 1) * s + j = s + (i * s + j) := by rw [Nat.add_mul]; omega
    rw [List.flatMap_cons, List.getElem?_append_right (by rw [hl]; omega), hl, show (i + 1) * s + j - s = i * s + j from by omega]
    exact cells_get f s hf l i (by simpa using h) j hj
/-- v reads as the members ds -/
def Mems (w : World) (v : Value) (ds : List MemD) : Prop :=
  ∃ rows : List (MemD × Value), rows.map Prod.fst = ds ∧ Sl w 3 v ds.length (rows.flatMap mcells) ∧ ∀ t ∈ rows, Is w t.2 t.1.parts ∧ t.1.parts.length ≤ 9223372036854775807
def Offs (w : World) (v : Value) (ds : List OffD) : Prop := Sl w 2 v ds.length (ds.flatMap ocells)
def groupV (g : GroupD) (mv ov : Value) : Value := .agg #[.int .i64 g.clock, .int .i64 g.wait, .int .i64 g.gen, mv, ov]
def Gv (w : World) (v : Value) (g : GroupD) : Prop := ∃ mv ov, v = groupV g mv ov ∧ Mems w mv g.mems ∧ Offs w ov g.offs ∧ g.mems.length ≤ 9223372036854775807 ∧ g.offs.length ≤ 9223372036854775807
theorem Mems.below {w w' : World} {v : Value} {ds : List MemD} (h : Mems w v ds) (hb : Below w.heap.size w w') : Mems w' v ds := by
  obtain ⟨rows, h1, h2, h3⟩ := h
  exact ⟨rows, h1, h2.below hb, fun t ht => ⟨(h3 t ht).1.below hb, (h3 t ht).2⟩⟩
theorem Gv.below {w w' : World} {v : Value} {g : GroupD} (h : Gv w v g) (hb : Below w.heap.size w w') : Gv w' v g := by
  obtain ⟨mv, ov, h1, h2, h3, h4⟩ := h
  exact ⟨mv, ov, h1, h2.below hb, Sl.below h3 hb, h4⟩
theorem Mems.at_ {w : World} {v : Value} {ds : List MemD} (h : Mems w v ds) : ∃ A c, v = .slice A ds.length c ∧ ds.length ≤ c ∧ (0 < ds.length → ∃ b off, A = some ⟨b, off, none⟩ ∧ b < w.heap.size ∧
    ∀ i (hi : i < ds.length), ∃ pv, w.cell? ⟨b, off + i * 3, none⟩ = some (.string ds[i].name) ∧ w.cell? ⟨b, off + i * 3 + 1, none⟩ = some (.int .i64 ds[i].heard) ∧ w.cell? ⟨b, off + i * 3 + 2, none⟩ = some pv ∧ Is w pv ds[i].parts ∧ ds[i].parts.length ≤ 9223372036854775807) := by
  obtain ⟨rows, hr, ⟨hl, A, c, hv, hc, h2⟩, h3⟩ := h
  refine ⟨A, c, hv, hc, fun hn => ?_⟩
  obtain ⟨b, off, hA, hb, hcell⟩ := h2 hn
  refine ⟨b, off, hA, hb, fun i hi => ?_⟩
  subst hr
  have hi' : i < rows.length := by simpa using hi
  have he : (rows.map Prod.fst)[i] = rows[i].1 := by simp
  rw [he]
  have key : ∀ j u, j < 3 → (mcells rows[i])[j]? = some u → w.cell? ⟨b, off + i * 3 + j, none⟩ = some u := fun j u hj hu => by
    rw [Nat.add_assoc]
    exact hcell (i * 3 + j) u ((cells_get mcells 3 (fun _ => rfl) rows i hi' j hj).trans hu)
  have hm := h3 rows[i] (List.getElem_mem _)
  exact ⟨rows[i].2, key 0 _ (by omega) rfl, key 1 _ (by omega) rfl, key 2 _ (by omega) rfl, hm.1, hm.2⟩
theorem Offs.at_ {w : World} {v : Value} {ds : List OffD} (h : Offs w v ds) : ∃ A c, v = .slice A ds.length c ∧ ds.length ≤ c ∧ (0 < ds.length → ∃ b off, A = some ⟨b, off, none⟩ ∧ b < w.heap.size ∧
    ∀ i (hi : i < ds.length), w.cell? ⟨b, off + i * 2, none⟩ = some (.int .i64 ds[i].part) ∧ w.cell? ⟨b, off + i * 2 + 1, none⟩ = some (.int .i64 ds[i].at_)) := by
  obtain ⟨hl, A, c, hv, hc, h2⟩ := h
  refine ⟨A, c, hv, hc, fun hn => ?_⟩
  obtain ⟨b, off, hA, hb, hcell⟩ := h2 hn
  refine ⟨b, off, hA, hb, fun i hi => ?_⟩
  have key : ∀ j u, j < 2 → (ocells ds[i])[j]? = some u → w.cell? ⟨b, off + i * 2 + j, none⟩ = some u := fun j u hj hu => by
    rw [Nat.add_assoc]
    exact hcell (i * 2 + j) u ((cells_get ocells 2 (fun _ => rfl) ds i hi j hj).trans hu)
  exact ⟨key 0 _ (by omega) rfl, key 1 _ (by omega) rfl⟩

set_option maxRecDepth 100000 in
set_option maxHeartbeats 4000000 in
theorem sameGroup_same (x y : Value) (g : GroupD) (w : World) (hx : Gv w x g) (hy : Gv w y g) :
    Calls Try.prog 28 #[x, y] w fun e w' => e = .returned (.bool true) ∧ Below w.heap.size w w' := by
  obtain ⟨xm, xo, rfl, mx, ox, hlm, hlo⟩ := hx
  obtain ⟨ym, yo, rfl, my, oy, -⟩ := hy
  obtain ⟨A1, c1, rfl, hc1, hx1⟩ := mx.at_
  obtain ⟨A2, c2, rfl, hc2, hy1⟩ := my.at_
  obtain ⟨A3, c3, rfl, hc3, hx2⟩ := ox.at_
  obtain ⟨A4, c4, rfl, hc4, hy2⟩ := oy.at_
  unfold groupV
  obtain ⟨ck, wt, gn, ms, os⟩ := g
  simp only at *
  have HX := Lib.hid hx1
  have HY := Lib.hid hy1
  have HX2 := Lib.hid hx2
  have HY2 := Lib.hid hy2
  clear hx1 hy1 hx2 hy2 mx my ox oy
  go_enter Try.func28, Try.ntmps28
  go_wp2
  have hb1 := (Blk.new w 36 #[.int .i64 ck, .int .i64 wt, .int .i64 gn, .slice A1 ms.length c1, .slice A3 os.length c3]).alloc (.cells #[.int .i64 ck, .int .i64 wt, .int .i64 gn, .slice A2 ms.length c2, .slice A4 os.length c4] 36)
  have hb2 := Blk.new (w.alloc (.cells #[.int .i64 ck, .int .i64 wt, .int .i64 gn, .slice A1 ms.length c1, .slice A3 os.length c3] 36)) 36 #[.int .i64 ck, .int .i64 wt, .int .i64 gn, .slice A2 ms.length c2, .slice A4 os.length c4]
  have hbl : Below w.heap.size w ((w.alloc (.cells #[.int .i64 ck, .int .i64 wt, .int .i64 gn, .slice A1 ms.length c1, .slice A3 os.length c3] 36)).alloc (.cells #[.int .i64 ck, .int .i64 wt, .int .i64 gn, .slice A2 ms.length c2, .slice A4 os.length c4] 36)) :=
    ((Below.refl _ _).alloc (Nat.le_refl _) _).alloc (by simp) _
  simp only [World.size_alloc] at hb2
  generalize hW0 : (w.alloc (.cells #[.int .i64 ck, .int .i64 wt, .int .i64 gn, .slice A1 ms.length c1, .slice A3 os.length c3] 36)).alloc (.cells #[.int .i64 ck, .int .i64 wt, .int .i64 gn, .slice A2 ms.length c2, .slice A4 os.length c4] 36) = W0 at *
  have hz : w.heap.size + 2 = W0.heap.size := by rw [← hW0]; simp
  have HZ := Lib.hid hz
  have HBL := Lib.hid hbl
  have HB1 := Lib.hid hb1
  have HB2 := Lib.hid hb2
  clear hW0 hz hbl hb1 hb2
  go_loopw [5] (fun i wr => ∃ k : Nat, k ≤ ms.length ∧ i = .int .i64 k ∧ Hid (Below W0.heap.size W0 wr)) (fun i _ => ms.length - (intOf i).toNat)
  case atStart => exact ⟨0, by omega, rfl, Below.refl _ _⟩
  case round =>
    obtain ⟨k, hk, rfl, hbw⟩ := hrel
    have g1 := (HB1.out.below hbw.out HB1.out.lt).cell 3
    have g2 := (HB2.out.below hbw.out HB2.out.lt).cell 3
    have hbelow : Below w.heap.size w wr := HBL.out.trans (hbw.out.mono HBL.out.size)
    have HBW := Lib.hid hbelow
    clear hbelow
    by_cases hlt : k < ms.length
    · obtain ⟨b1, o1, rfl, hbb1, q1⟩ := HX.out (by omega)
      obtain ⟨b2, o2, rfl, hbb2, q2⟩ := HY.out (by omega)
      obtain ⟨p1, x0, x1, x2, xi, xl⟩ := q1 k hlt
      obtain ⟨p2, y0, y1, y2, yi, yl⟩ := q2 k hlt
      have X0 := (HBW.out.cell (p := ⟨b1, o1 + k * 3, none⟩) hbb1).trans x0
      have X1 := (HBW.out.cell (p := ⟨b1, o1 + k * 3 + 1, none⟩) hbb1).trans x1
      have X2 := (HBW.out.cell (p := ⟨b1, o1 + k * 3 + 2, none⟩) hbb1).trans x2
      have Y0 := (HBW.out.cell (p := ⟨b2, o2 + k * 3, none⟩) hbb2).trans y0
      have Y1 := (HBW.out.cell (p := ⟨b2, o2 + k * 3 + 1, none⟩) hbb2).trans y1
      have Y2 := (HBW.out.cell (p := ⟨b2, o2 + k * 3 + 2, none⟩) hbb2).trans y2
      have hlb1 : b1 < wr.heap.size := by have := HBW.out.size; omega
      have hlb2 : b2 < wr.heap.size := by have := HBW.out.size; omega
      have hw1 : w.heap.size + 1 < wr.heap.size := by have := hbw.out.size; have := HZ.out; omega
      have hw0 : w.heap.size < wr.heap.size := by omega
      clear x0 x1 x2 y0 y1 y2 q1 q2
      have xi' := xi.below HBW.out
      have yi' := yi.below HBW.out
      obtain ⟨A5, c5, rfl, hc5, -⟩ := xi.at_
      obtain ⟨A6, c6, rfl, hc6, -⟩ := yi.at_
      have XI := Lib.hid xi'
      have YI := Lib.hid yi'
      clear xi yi xi' yi'
      go_wp2_with fail
      refine (sameInts_any _ _ ms[k].parts ms[k].parts _ (Sl.alloc (Sl.alloc XI.out _) _) (Sl.alloc (Sl.alloc YI.out _) _) xl xl).mono ?_
      rintro e w' ⟨rfl, n, rfl⟩
      go_wp2
      go_light
      refine ⟨⟨k + 1, by omega, by go_num, ?_⟩, by simp [intOf]; omega⟩
      exact (((hbw.out.alloc hbw.out.size _).alloc (by have := hbw.out.size; simp; omega) _).trans ((below_drewN_ _ _).mono (by have := hbw.out.size; simp; omega)))
    · obtain rfl : k = ms.length := by omega
      go_wp2
      clear g1 g2
      go_loopw [8] (fun i wq => ∃ j : Nat, j ≤ os.length ∧ i = .int .i64 j ∧ Hid (Below W0.heap.size W0 wq)) (fun i _ => os.length - (intOf i).toNat)
      case atStart => exact ⟨0, by omega, rfl, hbw⟩
      case round =>
        clear hbw HBW
        obtain ⟨j, hj, rfl, hbw⟩ := hrel
        have g1 := (HB1.out.below hbw.out HB1.out.lt).cell 4
        have g2 := (HB2.out.below hbw.out HB2.out.lt).cell 4
        have hbelow := HBL.out.trans (hbw.out.mono HBL.out.size)
        have HBW := Lib.hid hbelow
        clear hbelow
        by_cases hlt : j < os.length
        · obtain ⟨b1, o1, rfl, hbb1, q1⟩ := HX2.out (by omega)
          obtain ⟨b2, o2, rfl, hbb2, q2⟩ := HY2.out (by omega)
          obtain ⟨x0, x1⟩ := q1 j hlt
          obtain ⟨y0, y1⟩ := q2 j hlt
          have X0 := (HBW.out.cell (p := ⟨b1, o1 + j * 2, none⟩) hbb1).trans x0
          have X1 := (HBW.out.cell (p := ⟨b1, o1 + j * 2 + 1, none⟩) hbb1).trans x1
          have Y0 := (HBW.out.cell (p := ⟨b2, o2 + j * 2, none⟩) hbb2).trans y0
          have Y1 := (HBW.out.cell (p := ⟨b2, o2 + j * 2 + 1, none⟩) hbb2).trans y1
          have hj0 : (0 : Int) ≤ (j : Int) := by omega
          have hj1 : (j : Int) < (os.length : Int) := by omega
          clear x0 x1 y0 y1 q1 q2
          go_wp2
          go_quiet (fail)
          go_wp2
          go_light
          refine ⟨⟨j + 1, by omega, by go_num, ?_⟩, by simp [intOf]; omega⟩
          exact hbw.out.trans ((below_drewN_ _ _).mono (by have := hbw.out.size; omega))
        · obtain rfl : j = os.length := by omega
          go_wp2
          go_ret
          exact ⟨rfl, HBW.out⟩
end Go.Proofs.Ytjkoceacjbhblaa
namespace Go.Proofs.Ytjkoceacjbhblaa
open Go.ChangeShapes Go.WideShapes Go.ChangeAt Go.RowKit Go.Joins Go.Deep

section
variable {H : Type} {enc : TypeId × Value → H} {P : Program} {w : World} {base : Nat} {spare : Nat → Bool} {held : Bool}
theorem open_cells2 {t : TypeId} {f0 f1 : Field} {fuel : Nat} {cs : List Value} {x : DataW H × List MemPlace} (hs : P.underlying t = some (.struct #[f0, f1])) (hone : oneCellFields P #[f0, f1] = true) (hC : P.cellsOf t = 2)
    (h : DataW.trod enc P w base spare held fuel t cs = some x) :
    ∃ (v0 v1 : Value) (y0 y1 : DataW H × List MemPlace) (n : Nat), cs = [v0, v1] ∧ x.1 = .agg [y0.1, y1.1] ∧ DataW.trod enc P w base spare held n f0.type [v0] = some y0 ∧ DataW.trod enc P w base spare held n f1.type [v1] = some y1 := by
  obtain ⟨xs, n, _, rfl, hcl, hlen, hg⟩ := DataW.trod_struct hs h
  match cs, hcl.trans hC with
  | [c0, c1], _ =>
    obtain ⟨o0, k0⟩ := hone_of hone 0 f0 rfl
    obtain ⟨o1, k1⟩ := hone_of hone 1 f1 rfl
    match xs, hlen with
    | [y0, y1], _ =>
      exact ⟨c0, c1, y0, y1, n, rfl, rfl, by simpa [o0, k0] using hg 0 f0 rfl, by simpa [o1, k1] using hg 1 f1 rfl⟩
theorem open_cells3 {t : TypeId} {f0 f1 f2 : Field} {fuel : Nat} {cs : List Value} {x : DataW H × List MemPlace} (hs : P.underlying t = some (.struct #[f0, f1, f2])) (hone : oneCellFields P #[f0, f1, f2] = true) (hC : P.cellsOf t = 3)
    (h : DataW.trod enc P w base spare held fuel t cs = some x) :
    ∃ (v0 v1 v2 : Value) (y0 y1 y2 : DataW H × List MemPlace) (n : Nat), cs = [v0, v1, v2] ∧ x.1 = .agg [y0.1, y1.1, y2.1] ∧ DataW.trod enc P w base spare held n f0.type [v0] = some y0 ∧ DataW.trod enc P w base spare held n f1.type [v1] = some y1 ∧ DataW.trod enc P w base spare held n f2.type [v2] = some y2 := by
  obtain ⟨xs, n, _, rfl, hcl, hlen, hg⟩ := DataW.trod_struct hs h
  match cs, hcl.trans hC with
  | [c0, c1, c2], _ =>
    obtain ⟨o0, k0⟩ := hone_of hone 0 f0 rfl
    obtain ⟨o1, k1⟩ := hone_of hone 1 f1 rfl
    obtain ⟨o2, k2⟩ := hone_of hone 2 f2 rfl
    match xs, hlen with
    | [y0, y1, y2], _ =>
      exact ⟨c0, c1, c2, y0, y1, y2, n, rfl, rfl, by simpa [o0, k0] using hg 0 f0 rfl, by simpa [o1, k1] using hg 1 f1 rfl, by simpa [o2, k2] using hg 2 f2 rfl⟩
theorem open_cells5 {t : TypeId} {f0 f1 f2 f3 f4 : Field} {fuel : Nat} {cs : List Value} {x : DataW H × List MemPlace} (hs : P.underlying t = some (.struct #[f0, f1, f2, f3, f4])) (hone : oneCellFields P #[f0, f1, f2, f3, f4] = true) (hC : P.cellsOf t = 5)
    (h : DataW.trod enc P w base spare held fuel t cs = some x) :
    ∃ (v0 v1 v2 v3 v4 : Value) (y0 y1 y2 y3 y4 : DataW H × List MemPlace) (n : Nat), cs = [v0, v1, v2, v3, v4] ∧ x.1 = .agg [y0.1, y1.1, y2.1, y3.1, y4.1] ∧ DataW.trod enc P w base spare held n f0.type [v0] = some y0 ∧ DataW.trod enc P w base spare held n f1.type [v1] = some y1 ∧ DataW.trod enc P w base spare held n f2.type [v2] = some y2 ∧ DataW.trod enc P w base spare held n f3.type [v3] = some y3 ∧ DataW.trod enc P w base spare held n f4.type [v4] = some y4 := by
  obtain ⟨xs, n, _, rfl, hcl, hlen, hg⟩ := DataW.trod_struct hs h
  match cs, hcl.trans hC with
  | [c0, c1, c2, c3, c4], _ =>
    obtain ⟨o0, k0⟩ := hone_of hone 0 f0 rfl
    obtain ⟨o1, k1⟩ := hone_of hone 1 f1 rfl
    obtain ⟨o2, k2⟩ := hone_of hone 2 f2 rfl
    obtain ⟨o3, k3⟩ := hone_of hone 3 f3 rfl
    obtain ⟨o4, k4⟩ := hone_of hone 4 f4 rfl
    match xs, hlen with
    | [y0, y1, y2, y3, y4], _ =>
      exact ⟨c0, c1, c2, c3, c4, y0, y1, y2, y3, y4, n, rfl, rfl, by simpa [o0, k0] using hg 0 f0 rfl, by simpa [o1, k1] using hg 1 f1 rfl, by simpa [o2, k2] using hg 2 f2 rfl, by simpa [o3, k3] using hg 3 f3 rfl, by simpa [o4, k4] using hg 4 f4 rfl⟩

def MemD.Wf (t : MemD) : Prop := t.name.size ≤ maxLen ∧ I64 t.heard ∧ t.parts.length ≤ maxLen ∧ ∀ b ∈ t.parts, I64 b
def OffD.Wf (t : OffD) : Prop := I64 t.part ∧ I64 t.at_
def GroupD.Wf (c : GroupD) : Prop := I64 c.clock ∧ I64 c.wait ∧ I64 c.gen ∧ c.mems.length ≤ maxLen ∧ (∀ t ∈ c.mems, t.Wf) ∧ c.offs.length ≤ maxLen ∧ ∀ t ∈ c.offs, t.Wf
def GroupD.Small (c : GroupD) : Prop := c.mems.length * 48 ≤ reachBytes ∧ (∀ t ∈ c.mems, t.parts.length * 8 ≤ reachBytes) ∧ c.offs.length * 16 ≤ reachBytes

theorem open_mem {fuel : Nat} {cs : List Value} {x : DataW H × List MemPlace} (h : DataW.trod enc Try.prog w base spare held fuel 79 cs = some x) :
    ∃ (t : MemD) (pv : Value), cs = mcells (t, pv) ∧ Is w pv t.parts ∧ t.Wf ∧ (fits Try.prog 79 x.1 → t.parts.length * 8 ≤ reachBytes) := by
  obtain ⟨u0, u1, u2, y0, y1, y2, n, rfl, hx, g0, g1, g2⟩ := open_cells3 Try.underlying79 (by kernel_rfl) (by kernel_rfl) h
  obtain ⟨e0, z0, j0, w0⟩ := DataW.trod_string Try.underlying9 g0
  obtain ⟨e1, z1, j1, w1⟩ := DataW.trod_int Try.underlying3 g1
  obtain ⟨l, hl, hm, hw, hf⟩ := open_ints g2
  simp only [List.cons.injEq, and_true] at z0 z1
  subst z0 z1
  refine ⟨⟨e0, e1, l⟩, u2, rfl, hl, ⟨w0, w1, hm, hw⟩, fun hF => ?_⟩
  rw [hx] at hF
  exact hf (fits_field Try.underlying79 hF (i := 2) rfl rfl)

theorem open_mems {fuel : Nat} {v : Value} {x : DataW H × List MemPlace} (h : DataW.trod enc Try.prog w base spare held fuel 33 [v] = some x) :
    ∃ ds : List MemD, Mems w v ds ∧ ds.length ≤ maxLen ∧ (∀ t ∈ ds, t.Wf) ∧ (fits Try.prog 33 x.1 → ds.length * 48 ≤ reachBytes ∧ ∀ t ∈ ds, t.parts.length * 8 ≤ reachBytes) := by
  obtain ⟨cs, ds, sp, hsl, hm, hl, hd, he⟩ := open_sl (k := 3) Try.underlying33 (by kernel_rfl) (by decide) h
  have key : ∀ (cs : List (List Value)) (ds : List (DataW H)), ds.length = cs.length → (∀ i (hi : i < cs.length) (hd : i < ds.length), ∃ n y, DataW.trod enc Try.prog w base spare held n 79 cs[i] = some y ∧ ds[i] = y.1) →
      ∃ rows : List (MemD × Value), cs.flatten = rows.flatMap mcells ∧ rows.length = cs.length ∧ ∀ t ∈ rows, Is w t.2 t.1.parts ∧ t.1.Wf ∧ ((∀ d ∈ ds, fits Try.prog 79 d) → t.1.parts.length * 8 ≤ reachBytes) := by
    intro cs
    induction cs with
    | nil => exact fun _ _ _ => ⟨[], rfl, rfl, by simp⟩
    | cons c cs ih =>
      intro ds hl he
      match ds, hl with
      | d :: ds, hl =>
        obtain ⟨rows, h1, h2, h3⟩ := ih ds (by simpa using hl) (fun i hi hd => he (i + 1) (by simp; omega) (by simp; omega))
        obtain ⟨n, y, h4, h5⟩ := he 0 (by simp) (by simp)
        simp only [List.getElem_cons_zero] at h4 h5
        obtain ⟨t, pv, h6, h7, h8, h9⟩ := open_mem h4
        refine ⟨(t, pv) :: rows, by simp [h1, h6], by simp [h2], fun t' ht' => ?_⟩
        rcases List.mem_cons.1 ht' with rfl | ht'
        · exact ⟨h7, h8, fun hf => h9 (h5 ▸ hf d (by simp))⟩
        · obtain ⟨a1, a2, a3⟩ := h3 t' ht'
          exact ⟨a1, a2, fun hf => a3 (fun d hd => hf d (by simp [hd]))⟩
  obtain ⟨rows, h1, h2, h3⟩ := key cs ds hl he
  refine ⟨rows.map Prod.fst, ⟨rows, rfl, ?_, fun t ht => ⟨(h3 t ht).1, ?_⟩⟩, by simp; omega, ?_, fun hf => ?_⟩
  · rw [h1] at hsl
    simpa [h2] using hsl
  · have := (h3 t ht).2.1.2.2.1
    simp only [maxLen] at this
    omega
  · intro t ht
    obtain ⟨a, ha, rfl⟩ := List.mem_map.1 ht
    exact (h3 a ha).2.1
  · rcases hd with hd | ⟨hd, rfl⟩
    · rw [hd] at hf
      obtain ⟨f1, f2⟩ := fits_row Try.underlying33 hf
      have e : Try.prog.bytesOf 79 = 48 := by kernel_rfl
      rw [e] at f1
      refine ⟨by simp; omega, fun t ht => ?_⟩
      obtain ⟨a, ha, rfl⟩ := List.mem_map.1 ht
      exact (h3 a ha).2.2 f2
    · simp only [List.length_nil, List.length_eq_zero_iff] at h2
      subst h2
      simp

theorem open_offs {fuel : Nat} {v : Value} {x : DataW H × List MemPlace} (h : DataW.trod enc Try.prog w base spare held fuel 34 [v] = some x) :
    ∃ ds : List OffD, Offs w v ds ∧ ds.length ≤ maxLen ∧ (∀ t ∈ ds, t.Wf) ∧ (fits Try.prog 34 x.1 → ds.length * 16 ≤ reachBytes) := by
  obtain ⟨cs, ds, sp, hsl, hm, hl, hd, he⟩ := open_sl (k := 2) Try.underlying34 (by kernel_rfl) (by decide) h
  have key : ∀ cs : List (List Value), (∀ c ∈ cs, ∃ b : OffD, c = ocells b ∧ b.Wf) → ∃ l : List OffD, cs.flatten = l.flatMap ocells ∧ l.length = cs.length ∧ ∀ b ∈ l, b.Wf := by
    intro cs
    induction cs with
    | nil => exact fun _ => ⟨[], rfl, rfl, by simp⟩
    | cons c cs ih =>
      intro hcs
      obtain ⟨l, h1, h2, h3⟩ := ih (fun c hc => hcs c (by simp [hc]))
      obtain ⟨b, rfl, hb⟩ := hcs c (by simp)
      exact ⟨b :: l, by simp [h1], by simp [h2], by simpa using ⟨hb, h3⟩⟩
  obtain ⟨l, h1, h2, h3⟩ := key cs (fun c hc => by
    obtain ⟨i, hi, rfl⟩ := List.mem_iff_getElem.1 hc
    obtain ⟨n, y, h4, -⟩ := he i hi (by omega)
    obtain ⟨u0, u1, y0, y1, n', e0, hx, g0, g1⟩ := open_cells2 Try.underlying81 (by kernel_rfl) (by kernel_rfl) h4
    obtain ⟨b0, z0, -, w0⟩ := DataW.trod_int Try.underlying3 g0
    obtain ⟨b1, z1, -, w1⟩ := DataW.trod_int Try.underlying3 g1
    simp only [List.cons.injEq, and_true] at z0 z1
    subst z0 z1
    exact ⟨⟨b0, b1⟩, e0, w0, w1⟩)
  refine ⟨l, ?_, by omega, h3, fun hf => ?_⟩
  · rw [h1, ← h2] at hsl; exact hsl
  · rcases hd with hd | ⟨hd, rfl⟩
    · rw [hd] at hf
      have := (fits_row Try.underlying34 hf).1
      have e : Try.prog.bytesOf 81 = 16 := by kernel_rfl
      rw [e] at this
      omega
    · simp at h2; subst h2; simp

set_option maxRecDepth 100000 in
theorem open_group {r : Reach} {b0 : Nat} {v : Value} {d : DataW H} {p : List MemPlace} (hv : Value.okWide Try.prog w r b0 36 v) (h : DataW.Trod enc Try.prog w base spare held 36 v d p) :
    ∃ c : GroupD, Gv w v c ∧ c.Wf ∧ (fits Try.prog 36 d → c.Small) := by
  obtain ⟨cs, rfl, hsz⟩ := okWide_struct Try.underlying36 hv
  obtain ⟨fuel, hf⟩ := h
  obtain ⟨u0, u1, u2, u3, u4, y0, y1, y2, y3, y4, n, hcs, hx, g0, g1, g2, g3, g4⟩ := open_cells5 Try.underlying36 (by kernel_rfl) (by kernel_rfl) hf
  obtain ⟨e0, z0, j0, w0⟩ := DataW.trod_int Try.underlying3 g0
  obtain ⟨e1, z1, j1, w1⟩ := DataW.trod_int Try.underlying3 g1
  obtain ⟨e2, z2, j2, w2⟩ := DataW.trod_int Try.underlying3 g2
  obtain ⟨ms, ht, hm, hw, hF⟩ := open_mems g3
  obtain ⟨os, ht', hm', hw', hF'⟩ := open_offs g4
  simp only [List.cons.injEq, and_true] at z0 z1 z2
  subst z0 z1 z2
  obtain ⟨l⟩ := cs
  simp only [Value.cells] at hcs
  subst hcs
  refine ⟨⟨e0, e1, e2, ms, os⟩, ⟨u3, u4, rfl, ht, ht', by simp only [maxLen] at hm; omega, by simp only [maxLen] at hm'; omega⟩, ⟨w0, w1, w2, hm, hw, hm', hw'⟩, fun hfit => ?_⟩
  simp only at hx
  rw [hx] at hfit
  obtain ⟨s1, s2⟩ := hF (fits_field Try.underlying36 hfit (i := 3) rfl rfl)
  exact ⟨s1, s2, hF' (fits_field Try.underlying36 hfit (i := 4) rfl rfl)⟩
end
end Go.Proofs.Ytjkoceacjbhblaa
namespace Go.Proofs.Ytjkoceacjbhblaa

def swp (f : Nat → Nat) (i j : Nat) : Nat → Nat := fun k => if k = i then f j else if k = j then f i else f k
/-- g is f but for exchanges of places from a to b -/
def Sub (a b : Nat) (f g : Nat → Nat) : Prop := (∀ k, k < a ∨ b ≤ k → g k = f k) ∧ ∀ k, a ≤ k → k < b → ∃ j, a ≤ j ∧ j < b ∧ g k = f j
theorem Sub.refl (a b : Nat) (f : Nat → Nat) : Sub a b f f := ⟨fun _ _ => rfl, fun k h1 h2 => ⟨k, h1, h2, rfl⟩⟩
theorem Sub.trans {a b : Nat} {f g h : Nat → Nat} (x : Sub a b f g) (y : Sub a b g h) : Sub a b f h := by
  refine ⟨fun k hk => (y.1 k hk).trans (x.1 k hk), fun k h1 h2 => ?_⟩
  obtain ⟨j, j1, j2, e⟩ := y.2 k h1 h2
  obtain ⟨i, i1, i2, e2⟩ := x.2 j j1 j2
  exact ⟨i, i1, i2, e.trans e2⟩
theorem Sub.wide {a b a' b' : Nat} {f g : Nat → Nat} (x : Sub a b f g) (ha : a' ≤ a) (hb : b ≤ b') : Sub a' b' f g := by
  refine ⟨fun k hk => x.1 k (by omega), fun k h1 h2 => ?_⟩
  by_cases h : a ≤ k ∧ k < b
  · obtain ⟨j, j1, j2, e⟩ := x.2 k h.1 h.2
    exact ⟨j, by omega, by omega, e⟩
  · exact ⟨k, h1, h2, x.1 k (by omega)⟩
theorem Sub.swp {a b : Nat} {f g : Nat → Nat} (x : Sub a b f g) {i j : Nat} (i1 : a ≤ i) (i2 : i < b) (j1 : a ≤ j) (j2 : j < b) : Sub a b f (swp g i j) := by
  refine x.trans ⟨fun k hk => ?_, fun k h1 h2 => ?_⟩
  · have e1 : k ≠ i := by omega
    have e2 : k ≠ j := by omega
    simp [Go.Proofs.Ytjkoceacjbhblaa.swp, e1, e2]
  · unfold Go.Proofs.Ytjkoceacjbhblaa.swp
    split
    · exact ⟨j, j1, j2, rfl⟩
    · split
      · exact ⟨i, i1, i2, rfl⟩
      · exact ⟨k, h1, h2, rfl⟩
/-- what holds of all values of a stretch holds of them behind exchanges -/
theorem Sub.all {a b : Nat} {f g : Nat → Nat} (x : Sub a b f g) {P : Nat → Prop} (h : ∀ k, a ≤ k → k < b → P (f k)) : ∀ k, a ≤ k → k < b → P (g k) := by
  intro k h1 h2
  obtain ⟨j, j1, j2, e⟩ := x.2 k h1 h2
  rw [e]
  exact h j j1 j2

/-- a strict weak order -/
structure Ordr (L : Nat → Nat → Prop) : Prop where
  asym : ∀ x y, L x y → ¬ L y x
  neg : ∀ x y z, L x z → L x y ∨ L y z
/-- .. and what a stable sort makes of it -/
def Tie (L : Nat → Nat → Prop) (x y : Nat) : Prop := L x y ∨ (¬ L y x ∧ x < y)
theorem Ordr.irr {L : Nat → Nat → Prop} (h : Ordr L) (x : Nat) : ¬ L x x := fun e => h.asym x x e e
theorem Tie.trans {L : Nat → Nat → Prop} (o : Ordr L) {x y z : Nat} (h : Tie L x y) (k : Tie L y z) : Tie L x z := by
  rcases h with h | ⟨h, hx⟩
  · rcases k with k | ⟨k, _⟩
    · rcases o.neg x z y h with e | e
      · exact Or.inl e
      · exact absurd e (o.asym _ _ k)
    · rcases o.neg x z y h with e | e
      · exact Or.inl e
      · exact absurd e k
  · rcases k with k | ⟨k, hy⟩
    · rcases o.neg y x z k with e | e
      · exact absurd e h
      · exact Or.inl e
    · refine Or.inr ⟨fun e => ?_, by omega⟩
      rcases o.neg z y x e with e | e
      · exact k e
      · exact h e
theorem Tie.lo {L : Nat → Nat → Prop} {x y : Nat} (hx : x < y) (h : ¬ L y x) : Tie L x y := Or.inr ⟨h, hx⟩
theorem Tie.hi {L : Nat → Nat → Prop} {x y : Nat} (h : L y x) : Tie L y x := Or.inl h
def Srt (L : Nat → Nat → Prop) (f : Nat → Nat) (a b : Nat) : Prop := ∀ i j, a ≤ i → i < j → j < b → Tie L (f i) (f j)
theorem Srt.part {L : Nat → Nat → Prop} {f : Nat → Nat} {a b a' b' : Nat} (h : Srt L f a b) (ha : a ≤ a') (hb : b' ≤ b) : Srt L f a' b' := fun i j h1 h2 h3 => h i j (by omega) h2 (by omega)
theorem Srt.same {L : Nat → Nat → Prop} {f g : Nat → Nat} {a b : Nat} (h : Srt L f a b) (e : ∀ k, a ≤ k → k < b → g k = f k) : Srt L g a b := fun i j h1 h2 h3 => by
  rw [e i h1 (by omega), e j (by omega) h3]
  exact h i j h1 h2 h3
theorem Srt.one {L : Nat → Nat → Prop} {f : Nat → Nat} {a b : Nat} (h : b ≤ a + 1) : Srt L f a b := fun i j _ _ _ => by omega
/-- two sorted stretches, the first under the second -/
theorem Srt.join {L : Nat → Nat → Prop} {f : Nat → Nat} {a m b : Nat} (h1 : Srt L f a m) (h2 : Srt L f m b) (h : ∀ i j, a ≤ i → i < m → m ≤ j → j < b → Tie L (f i) (f j)) : Srt L f a b := by
  intro i j hi hij hj
  by_cases hm : j < m
  · exact h1 i j hi hij hm
  · by_cases hm2 : m ≤ i
    · exact h2 i j hm2 hij hj
    · exact h i j hi (by omega) (by omega) hj

def carryUp (f : Nat → Nat) (a i : Nat) : Nat → Nat := fun k => if a ≤ k ∧ k < i then f (k + 1) else if k = i then f a else f k
def downTo (f : Nat → Nat) (i m : Nat) : Nat → Nat := fun k => if k = i then f m else if i < k ∧ k ≤ m then f (k - 1) else f k
theorem carryUp_self (f : Nat → Nat) (a : Nat) : carryUp f a a = f := by
  funext k
  unfold carryUp
  rw [if_neg (by omega)]
  split
  · rename_i h; rw [h]
  · rfl
theorem carryUp_step {f : Nat → Nat} {a k : Nat} (h : a ≤ k) : swp (carryUp f a k) k (k + 1) = carryUp f a (k + 1) := by
  funext x
  unfold swp carryUp
  repeat' split
  all_goals first | rfl | omega | (congr 1; omega)
theorem downTo_self (f : Nat → Nat) (m : Nat) : downTo f m m = f := by
  funext k
  unfold downTo
  split
  · rename_i h; rw [h]
  · rw [if_neg (by omega)]
theorem downTo_step {f : Nat → Nat} {k m : Nat} (h : k + 1 ≤ m) : swp (downTo f (k + 1) m) (k + 1) k = downTo f k m := by
  funext x
  unfold swp downTo
  repeat' split
  all_goals first | rfl | omega | (congr 1; omega)
theorem Sub.carryUp {f : Nat → Nat} {a b i : Nat} (hi : i < b) (ha : a ≤ i) : Sub a b f (carryUp f a i) := by
  refine ⟨fun k hk => ?_, fun k h1 h2 => ?_⟩
  · unfold Go.Proofs.Ytjkoceacjbhblaa.carryUp
    rw [if_neg (by omega), if_neg (by omega)]
  · unfold Go.Proofs.Ytjkoceacjbhblaa.carryUp
    repeat' split
    · exact ⟨k + 1, by omega, by omega, rfl⟩
    · exact ⟨a, by omega, by omega, rfl⟩
    · exact ⟨k, h1, h2, rfl⟩
theorem Sub.downTo {f : Nat → Nat} {a b i m : Nat} (ha : a ≤ i) (him : i ≤ m) (hm : m < b) : Sub a b f (downTo f i m) := by
  refine ⟨fun k hk => ?_, fun k h1 h2 => ?_⟩
  · unfold Go.Proofs.Ytjkoceacjbhblaa.downTo
    rw [if_neg (by omega), if_neg (by omega)]
  · unfold Go.Proofs.Ytjkoceacjbhblaa.downTo
    repeat' split
    · exact ⟨m, by omega, by omega, rfl⟩
    · exact ⟨k - 1, by omega, by omega, rfl⟩
    · exact ⟨k, h1, h2, rfl⟩
/-- the first element put behind those that are under it -/
theorem Srt.carryUp {L : Nat → Nat → Prop} {f : Nat → Nat} {a b i : Nat} (h : Srt L f (a + 1) b) (ha : a ≤ i) (hi : i < b) (h1 : ∀ k, a < k → k ≤ i → Tie L (f k) (f a)) (h2 : ∀ k, i < k → k < b → Tie L (f a) (f k)) : Srt L (carryUp f a i) a b := by
  intro x y hx hxy hy
  unfold Go.Proofs.Ytjkoceacjbhblaa.carryUp
  by_cases c1 : x < i
  · rw [if_pos (show a ≤ x ∧ x < i from ⟨hx, c1⟩)]
    by_cases c2 : y < i
    · rw [if_pos (show a ≤ y ∧ y < i from ⟨by omega, c2⟩)]
      exact h _ _ (by omega) (by omega) (by omega)
    · rw [if_neg (by omega)]
      by_cases c3 : y = i
      · rw [if_pos c3]
        exact h1 _ (by omega) (by omega)
      · rw [if_neg c3]
        exact h _ _ (by omega) (by omega) (by omega)
  · rw [if_neg (show ¬ (a ≤ x ∧ x < i) by omega), if_neg (show ¬ (a ≤ y ∧ y < i) by omega), if_neg (show ¬ y = i by omega)]
    by_cases c3 : x = i
    · rw [if_pos c3]
      exact h2 _ (by omega) (by omega)
    · rw [if_neg c3]
      exact h _ _ (by omega) (by omega) (by omega)
/-- the last element put ahead of those that are over it -/
theorem Srt.downTo {L : Nat → Nat → Prop} {f : Nat → Nat} {a i m : Nat} (h : Srt L f a m) (ha : a ≤ i) (him : i ≤ m) (h1 : ∀ k, a ≤ k → k < i → Tie L (f k) (f m)) (h2 : ∀ k, i ≤ k → k < m → Tie L (f m) (f k)) : Srt L (downTo f i m) a (m + 1) := by
  intro x y hx hxy hy
  unfold Go.Proofs.Ytjkoceacjbhblaa.downTo
  by_cases c1 : x < i
  · rw [if_neg (show ¬ x = i by omega), if_neg (show ¬ (i < x ∧ x ≤ m) by omega)]
    by_cases c2 : y = i
    · rw [if_pos c2]
      exact h1 _ hx c1
    · rw [if_neg c2]
      by_cases c3 : i < y
      · rw [if_pos (show i < y ∧ y ≤ m from ⟨c3, by omega⟩)]
        exact h _ _ (by omega) (by omega) (by omega)
      · rw [if_neg (by omega)]
        exact h _ _ (by omega) (by omega) (by omega)
  · rw [if_neg (show ¬ y = i by omega), if_pos (show i < y ∧ y ≤ m from ⟨by omega, by omega⟩)]
    by_cases c2 : x = i
    · rw [if_pos c2]
      exact h2 _ (by omega) (by omega)
    · rw [if_neg c2, if_pos (show i < x ∧ x ≤ m from ⟨by omega, by omega⟩)]
      exact h _ _ (by omega) (by omega) (by omega)

def swr (f : Nat → Nat) (a b n : Nat) : Nat → Nat := fun k => if a ≤ k ∧ k < a + n then f (b + (k - a)) else if b ≤ k ∧ k < b + n then f (a + (k - b)) else f k
theorem swr_zero (f : Nat → Nat) (a b : Nat) : swr f a b 0 = f := by
  funext k
  unfold swr
  rw [if_neg (by omega), if_neg (by omega)]
theorem swr_step {f : Nat → Nat} {a b n : Nat} (h : a + n < b) : swp (swr f a b n) (a + n) (b + n) = swr f a b (n + 1) := by
  funext k
  unfold swp swr
  repeat' split
  all_goals first | rfl | omega | (congr 1; omega)
theorem Sub.swr {f : Nat → Nat} {a b n lo hi : Nat} (h : a + n ≤ b) (ha : lo ≤ a) (hb : b + n ≤ hi) : Sub lo hi f (swr f a b n) := by
  refine ⟨fun k hk => ?_, fun k h1 h2 => ?_⟩
  · unfold Go.Proofs.Ytjkoceacjbhblaa.swr
    rw [if_neg (by omega), if_neg (by omega)]
  · unfold Go.Proofs.Ytjkoceacjbhblaa.swr
    repeat' split
    · exact ⟨b + (k - a), by omega, by omega, rfl⟩
    · exact ⟨a + (k - b), by omega, by omega, rfl⟩
    · exact ⟨k, h1, h2, rfl⟩
def rot (f : Nat → Nat) (a m b : Nat) : Nat → Nat := fun k => if a ≤ k ∧ k < a + (b - m) then f (k + (m - a)) else if a + (b - m) ≤ k ∧ k < b then f (k - (b - m)) else f k
theorem rot_end {f : Nat → Nat} {m i : Nat} (h : i ≤ m) : swr f (m - i) m i = rot f (m - i) m (m + i) := by
  funext k
  unfold rot swr
  repeat' split
  all_goals first | rfl | omega | (congr 1; omega)
theorem rot_left {f : Nat → Nat} {m i j : Nat} (h : i ≤ m) (hj : j < i) : rot (swr f (m - i) m j) (m - (i - j)) m (m + j) = rot f (m - i) m (m + j) := by
  funext k
  unfold rot swr
  by_cases c1 : k < m - i
  · rw [if_neg (by omega), if_neg (by omega), if_neg (by omega), if_neg (by omega), if_neg (by omega), if_neg (by omega)]
  · by_cases c2 : m + j ≤ k
    · rw [if_neg (by omega), if_neg (by omega), if_neg (by omega), if_neg (by omega), if_neg (by omega), if_neg (by omega)]
    · by_cases c3 : k < m - i + j
      · rw [if_neg (by omega), if_neg (by omega), if_pos (by omega), if_pos (by omega)]
        congr 1; omega
      · by_cases c4 : k < m - (i - j) + j
        · rw [if_pos (by omega), if_neg (by omega), if_pos (by omega), if_neg (by omega), if_pos (by omega)]
          congr 1; omega
        · rw [if_neg (by omega), if_pos (by omega), if_neg (by omega), if_neg (by omega), if_neg (by omega), if_pos (by omega)]
theorem rot_right {f : Nat → Nat} {m i j : Nat} (h : i ≤ m) (hj : i < j) : rot (swr f (m - i) (m + j - i) i) (m - i) m (m + (j - i)) = rot f (m - i) m (m + j) := by
  funext k
  unfold rot swr
  by_cases c1 : k < m - i
  · rw [if_neg (by omega), if_neg (by omega), if_neg (by omega), if_neg (by omega), if_neg (by omega), if_neg (by omega)]
  · by_cases c2 : m + j ≤ k
    · rw [if_neg (by omega), if_neg (by omega), if_neg (by omega), if_neg (by omega), if_neg (by omega), if_neg (by omega)]
    · by_cases c3 : k < m - i + (j - i)
      · rw [if_pos (by omega), if_neg (by omega), if_neg (by omega), if_pos (by omega)]
      · by_cases c4 : k < m + (j - i)
        · rw [if_neg (by omega), if_pos (by omega), if_pos (by omega), if_pos (by omega)]
          congr 1; omega
        · rw [if_neg (by omega), if_neg (by omega), if_neg (by omega), if_pos (by omega), if_neg (by omega), if_pos (by omega)]
          congr 1; omega
theorem Sub.rot {f : Nat → Nat} {a m b lo hi : Nat} (h1 : a ≤ m) (h2 : m ≤ b) (ha : lo ≤ a) (hb : b ≤ hi) : Sub lo hi f (rot f a m b) := by
  refine ⟨fun k hk => ?_, fun k h1 h2 => ?_⟩
  · unfold Go.Proofs.Ytjkoceacjbhblaa.rot
    rw [if_neg (by omega), if_neg (by omega)]
  · unfold Go.Proofs.Ytjkoceacjbhblaa.rot
    repeat' split
    · exact ⟨k + (m - a), by omega, by omega, rfl⟩
    · exact ⟨k - (b - m), by omega, by omega, rfl⟩
    · exact ⟨k, h1, h2, rfl⟩
theorem rot_nil {f : Nat → Nat} {a m b : Nat} (h1 : a ≤ m) (h2 : m ≤ b) (h : a = m ∨ m = b) : rot f a m b = f := by
  funext k
  unfold rot
  repeat' split
  all_goals first | rfl | omega | (congr 1; omega)

structure MPre (L : Nat → Nat → Prop) (f : Nat → Nat) (a m b : Nat) : Prop where
  left : Srt L f a m
  right : Srt L f m b
  under : ∀ i j, a ≤ i → i < m → m ≤ j → j < b → f i < f j
/-- the place at which the two stretches are cut: so many of the first, and those of the second that come ahead -/
structure MCut (L : Nat → Nat → Prop) (f : Nat → Nat) (m s e lo hi p : Nat) : Prop where
  down : ∀ c, lo ≤ c → c < s → ¬ L (f (p - c)) (f c)
  up : ∀ c, s ≤ c → c < hi → L (f (p - c)) (f c)
/-- a rotated pair of sorted stretches: each element of the first half is under each of the second -/
theorem MPre.halves {L : Nat → Nat → Prop} {f : Nat → Nat} {a m b mid s e : Nat} (h : MPre L f a m b) (ha : a ≤ s) (hs : s ≤ m) (hm : m ≤ e) (he : e ≤ b) (hmid : mid + m = s + e)
    (h1 : ∀ i j, a ≤ i → i < s → e ≤ j → j < b → Tie L (f i) (f j)) (h2 : ∀ i j, m ≤ i → i < e → s ≤ j → j < m → Tie L (f i) (f j)) :
    (∀ i j, a ≤ i → i < mid → mid ≤ j → j < b → Tie L (rot f s m e i) (rot f s m e j)) ∧ MPre L (rot f s m e) a s mid ∧ MPre L (rot f s m e) mid e b := by
  have em : s + (e - m) = mid := by omega
  have r1 : ∀ i, a ≤ i → i < s → rot f s m e i = f i := fun i _ hi => by unfold rot; rw [if_neg (by omega), if_neg (by omega)]
  have r2 : ∀ i, s ≤ i → i < mid → rot f s m e i = f (i + (m - s)) := fun i h1 h2 => by unfold rot; rw [if_pos (by omega)]
  have r3 : ∀ i, mid ≤ i → i < e → rot f s m e i = f (i - (e - m)) := fun i h1 h2 => by unfold rot; rw [if_neg (by omega), if_pos (by omega)]
  have r4 : ∀ i, e ≤ i → rot f s m e i = f i := fun i h1 => by unfold rot; rw [if_neg (by omega), if_neg (by omega)]
  refine ⟨fun i j hi1 hi2 hj1 hj2 => ?_, ⟨?_, ?_, ?_⟩, ⟨?_, ?_, ?_⟩⟩
  · by_cases c1 : i < s
    · rw [r1 i hi1 c1]
      by_cases c2 : j < e
      · rw [r3 j hj1 c2]
        exact h.left _ _ hi1 (by omega) (by omega)
      · rw [r4 j (by omega)]
        exact h1 _ _ hi1 c1 (by omega) hj2
    · rw [r2 i (by omega) hi2]
      by_cases c2 : j < e
      · rw [r3 j hj1 c2]
        exact h2 _ _ (by omega) (by omega) (by omega) (by omega)
      · rw [r4 j (by omega)]
        exact h.right _ _ (by omega) (by omega) hj2
  · exact (h.left.part (Nat.le_refl _) hs).same r1
  · intro i j hi hij hj
    rw [r2 i hi (by omega), r2 j (by omega) hj]
    exact h.right _ _ (by omega) (by omega) (by omega)
  · intro i j hi1 hi2 hj1 hj2
    rw [r1 i hi1 hi2, r2 j hj1 hj2]
    exact h.under _ _ hi1 (by omega) (by omega) (by omega)
  · intro i j hi hij hj
    rw [r3 i hi (by omega), r3 j (by omega) hj]
    exact h.left _ _ (by omega) (by omega) (by omega)
  · exact (h.right.part hm (Nat.le_refl _)).same fun k h1 _ => r4 k h1
  · intro i j hi1 hi2 hj1 hj2
    rw [r3 i hi1 hi2, r4 j hj1]
    exact h.under _ _ (by omega) (by omega) (by omega) hj2
/-- the parts merged: the whole is -/
theorem Srt.halves {L : Nat → Nat → Prop} {f g : Nat → Nat} {a mid b : Nat} (h : ∀ i j, a ≤ i → i < mid → mid ≤ j → j < b → Tie L (f i) (f j)) (x : Sub a mid f g) {g' : Nat → Nat} (y : Sub mid b g g') (h1 : Srt L g a mid) (h2 : Srt L g' mid b) : Srt L g' a b := by
  refine Srt.join (h1.same fun k _ hk => y.1 k (by omega)) h2 fun i j hi1 hi2 hj1 hj2 => ?_
  rw [y.1 i (by omega)]
  obtain ⟨p, p1, p2, e⟩ := x.2 i hi1 hi2
  obtain ⟨q, q1, q2, e2⟩ := y.2 j hj1 hj2
  rw [e, e2, x.1 q (by omega)]
  exact h p q p1 p2 q1 q2

theorem cut_ok {L : Nat → Nat → Prop} (o : Ordr L) {f : Nat → Nat} {a m b mid lo hi s : Nat} (h : MPre L f a m b) (ham : a < m) (hmb : m < b) (hm1 : 2 * mid ≤ a + b) (hm2 : a + b ≤ 2 * mid + 1)
    (hl : (mid < m ∧ lo + b = mid + m ∧ hi = mid) ∨ (m ≤ mid ∧ lo = a ∧ hi = m)) (s1 : lo ≤ s) (s2 : s ≤ hi) (hd : s = lo ∨ ¬ L (f (mid + m - 1 - (s - 1))) (f (s - 1))) (hu : s = hi ∨ L (f (mid + m - 1 - s)) (f s)) :
    a ≤ s ∧ s ≤ m ∧ m ≤ mid + m - s ∧ mid + m - s ≤ b ∧ (∀ i j, a ≤ i → i < s → mid + m - s ≤ j → j < b → Tie L (f i) (f j)) ∧ (∀ i j, m ≤ i → i < mid + m - s → s ≤ j → j < m → Tie L (f i) (f j)) := by
  refine ⟨by omega, by omega, by omega, by omega, fun i j i1 i2 j1 j2 => ?_, fun i j i1 i2 j1 j2 => ?_⟩
  · have hs : ¬ s = lo := by omega
    have hd := hd.resolve_left hs
    rw [show mid + m - 1 - (s - 1) = mid + m - s by omega] at hd
    have t1 : Tie L (f (s - 1)) (f (mid + m - s)) := Tie.lo (h.under _ _ (by omega) (by omega) (by omega) (by omega)) hd
    have t2 : Tie L (f i) (f (mid + m - s)) := by
      by_cases e : i = s - 1
      · rw [e]; exact t1
      · exact (h.left i (s - 1) i1 (by omega) (by omega)).trans o t1
    by_cases e : j = mid + m - s
    · rw [e]; exact t2
    · exact t2.trans o (h.right _ j (by omega) (by omega) j2)
  · have hs : ¬ s = hi := by omega
    have hu := hu.resolve_left hs
    rw [show mid + m - 1 - s = mid + m - s - 1 by omega] at hu
    have t1 : Tie L (f (mid + m - s - 1)) (f s) := Tie.hi hu
    have t2 : Tie L (f i) (f s) := by
      by_cases e : i = mid + m - s - 1
      · rw [e]; exact t1
      · exact (h.right i (mid + m - s - 1) i1 (by omega) (by omega)).trans o t1
    by_cases e : j = s
    · rw [e]; exact t2
    · exact t2.trans o (h.left s j (by omega) (by omega) j2)
theorem one_left {L : Nat → Nat → Prop} (o : Ordr L) {f : Nat → Nat} {a b i : Nat} (h : MPre L f a (a + 1) b) (i1 : a + 1 ≤ i) (i2 : i ≤ b) (hd : i = a + 1 ∨ L (f (i - 1)) (f a)) (hu : i = b ∨ ¬ L (f i) (f a)) : Srt L (carryUp f a (i - 1)) a b := by
  refine Srt.carryUp h.right (by omega) (by omega) (fun k h1 h2 => ?_) (fun k h1 h2 => ?_)
  · have t1 := Tie.hi (hd.resolve_left (by omega))
    by_cases e : k = i - 1
    · rw [e]; exact t1
    · exact (h.right k (i - 1) (by omega) (by omega) (by omega)).trans o t1
  · have t1 := Tie.lo (h.under a i (Nat.le_refl _) (by omega) (by omega) (by omega)) (hu.resolve_left (by omega))
    by_cases e : k = i
    · rw [e]; exact t1
    · exact t1.trans o (h.right i k (by omega) (by omega) h2)
theorem one_right {L : Nat → Nat → Prop} (o : Ordr L) {f : Nat → Nat} {a m i : Nat} (h : Srt L f a m) (hu : ∀ k, a ≤ k → k < m → f k < f m) (i1 : a ≤ i) (i2 : i ≤ m) (hd : i = a ∨ ¬ L (f m) (f (i - 1))) (hv : i = m ∨ L (f m) (f i)) : Srt L (downTo f i m) a (m + 1) := by
  refine Srt.downTo h i1 i2 (fun k h1 h2 => ?_) (fun k h1 h2 => ?_)
  · have t1 := Tie.lo (hu (i - 1) (by omega) (by omega)) (hd.resolve_left (by omega))
    by_cases e : k = i - 1
    · rw [e]; exact t1
    · exact (h k (i - 1) h1 (by omega) (by omega)).trans o t1
  · have t1 := Tie.hi (hv.resolve_left (by omega))
    by_cases e : k = i
    · rw [e]; exact t1
    · exact t1.trans o (h i k i1 (by omega) h2)

structure Good (L : Nat → Nat → Prop) (B n : Nat) (f : Nat → Nat) : Prop where
  srt : ∀ i j, i < j → j < n → i / B = j / B → Tie L (f i) (f j)
  at_ : ∀ k, k < n → f k / B = k / B ∧ f k < n
/-- up to c the blocks are merged by twos -/
structure Half (L : Nat → Nat → Prop) (B n c : Nat) (f : Nat → Nat) : Prop where
  lo : ∀ i j, i < j → j < c → i / (B * 2) = j / (B * 2) → Tie L (f i) (f j)
  hi : ∀ i j, c ≤ i → i < j → j < n → i / B = j / B → Tie L (f i) (f j)
  at2 : ∀ k, k < n → f k / (B * 2) = k / (B * 2) ∧ f k < n
  at1 : ∀ k, c ≤ k → k < n → f k / B = k / B
  mul : ∃ u, c = u * (B * 2)
theorem Good.half {L : Nat → Nat → Prop} {B n : Nat} {f : Nat → Nat} (h : Good L B n f) : Half L B n 0 f :=
  ⟨fun _ _ _ h => by omega, fun i j _ => h.srt i j, fun k hk => ⟨by rw [← Nat.div_div_eq_div_mul, ← Nat.div_div_eq_div_mul, (h.at_ k hk).1], (h.at_ k hk).2⟩, fun k _ hk => (h.at_ k hk).1, 0, by simp⟩
theorem div_block {B u i : Nat} (hB : 0 < B) (h1 : u * B ≤ i) (h2 : i < u * B + B) : i / B = u := by
  rw [Nat.div_eq_iff hB]
  omega
theorem block_div {B u i : Nat} (hB : 0 < B) (h : i / B = u) : u * B ≤ i ∧ i < u * B + B := by
  rw [Nat.div_eq_iff hB] at h
  omega
theorem Half.pre {L : Nat → Nat → Prop} {B n c b : Nat} {f : Nat → Nat} (h : Half L B n c f) (hB : 0 < B) (h0 : c + B ≤ b) (h1 : b ≤ n) (h2 : b ≤ c + B * 2) : MPre L f c (c + B) b := by
  obtain ⟨u, hu⟩ := h.mul
  have e2 : u * (B * 2) = (u * 2) * B := by rw [Nat.mul_assoc, Nat.mul_comm 2 B]
  have e3 : (u * 2 + 1) * B = (u * 2) * B + B := Nat.succ_mul _ _
  refine ⟨fun i j i1 ij j2 => ?_, fun i j i1 ij j2 => ?_, fun i j i1 i2 j1 j2 => ?_⟩
  · exact h.hi i j i1 ij (by omega) ((div_block (u := u * 2) hB (by omega) (by omega)).trans (div_block (u := u * 2) hB (by omega) (by omega)).symm)
  · exact h.hi i j (by omega) ij (by omega) ((div_block (u := u * 2 + 1) hB (by omega) (by omega)).trans (div_block (u := u * 2 + 1) hB (by omega) (by omega)).symm)
  · have x1 := h.at1 i i1 (by omega)
    have x2 := h.at1 j (by omega) (by omega)
    rw [div_block (i := i) (u := u * 2) hB (by omega) (by omega)] at x1
    rw [div_block (i := j) (u := u * 2 + 1) hB (by omega) (by omega)] at x2
    have y1 := block_div hB x1
    have y2 := block_div hB x2
    omega
/-- the values of a stretch lie in it -/
theorem Half.inside {L : Nat → Nat → Prop} {B n c b : Nat} {f g : Nat → Nat} (h : Half L B n c f) (hB : 0 < B) (h1 : b ≤ n) (h2 : b ≤ c + B * 2) (x : Sub c b f g) :
    ∀ k, k < n → g k / (B * 2) = k / (B * 2) ∧ g k < n := by
  obtain ⟨u, hu⟩ := h.mul
  intro k hk
  by_cases hc : c ≤ k ∧ k < b
  · obtain ⟨j, j1, j2, e⟩ := x.2 k hc.1 hc.2
    have := h.at2 j (by omega)
    rw [e, this.1]
    refine ⟨?_, this.2⟩
    rw [div_block (u := u) (by omega) (by omega) (by omega), div_block (u := u) (by omega) (by omega) (by omega)]
  · rw [x.1 k (by omega)]
    exact h.at2 k hk
theorem Half.joins {L : Nat → Nat → Prop} {B n c b : Nat} {f g : Nat → Nat} (h : Half L B n c f) (hB : 0 < B) (h2 : b ≤ c + B * 2) (x : Sub c b f g) (s : Srt L g c b) : ∀ i j, i < j → j < b → i / (B * 2) = j / (B * 2) → Tie L (g i) (g j) := by
  obtain ⟨u, hu⟩ := h.mul
  intro i j hij hj he
  by_cases hc : c ≤ j
  · rw [div_block (i := j) (u := u) (by omega) (by omega) (by omega)] at he
    have := block_div (B := B * 2) (by omega) he
    exact s i j (by omega) hij hj
  · rw [x.1 i (by omega), x.1 j (by omega)]
    exact h.lo i j hij (by omega) he
theorem Half.step {L : Nat → Nat → Prop} {B n c : Nat} {f g : Nat → Nat} (h : Half L B n c f) (hB : 0 < B) (h1 : c + B * 2 ≤ n) (x : Sub c (c + B * 2) f g) (s : Srt L g c (c + B * 2)) : Half L B n (c + B * 2) g := by
  refine ⟨h.joins hB (Nat.le_refl _) x s, fun i j i1 ij j2 he => ?_, h.inside hB h1 (Nat.le_refl _) x, fun k k1 k2 => ?_, ?_⟩
  · rw [x.1 i (by omega), x.1 j (by omega)]
    exact h.hi i j (by omega) ij j2 he
  · rw [x.1 k (by omega)]
    exact h.at1 k (by omega) k2
  · obtain ⟨u, hu⟩ := h.mul
    exact ⟨u + 1, by rw [Nat.succ_mul]; omega⟩
theorem Half.last {L : Nat → Nat → Prop} {B n c : Nat} {f g : Nat → Nat} (h : Half L B n c f) (hB : 0 < B) (h1 : n ≤ c + B * 2) (x : Sub c n f g) (s : Srt L g c n) : Good L (B * 2) n g :=
  ⟨h.joins hB h1 x s, h.inside hB (Nat.le_refl _) h1 x⟩
theorem Half.rest {L : Nat → Nat → Prop} {B n c : Nat} {f : Nat → Nat} (h : Half L B n c f) (hB : 0 < B) (h1 : n ≤ c + B) : Good L (B * 2) n f := by
  refine h.last hB (by omega) (Sub.refl _ _ _) fun i j i1 ij j2 => h.hi i j i1 ij j2 ?_
  obtain ⟨u, hu⟩ := h.mul
  have e2 : u * (B * 2) = (u * 2) * B := by rw [Nat.mul_assoc, Nat.mul_comm 2 B]
  exact (div_block (u := u * 2) hB (by omega) (by omega)).trans (div_block (u := u * 2) hB (by omega) (by omega)).symm
theorem Good.whole {L : Nat → Nat → Prop} {B n : Nat} {f : Nat → Nat} (h : Good L B n f) (hB : n ≤ B) : Srt L f 0 n ∧ ∀ k, k < n → f k < n :=
  ⟨fun i j _ ij hj => h.srt i j ij hj (by rw [Nat.div_eq_of_lt (by omega), Nat.div_eq_of_lt (by omega)]), fun k hk => (h.at_ k hk).2⟩
/-- up to c blocks of twenty are sorted, behind it all is as it was -/
structure Ins (L : Nat → Nat → Prop) (n c : Nat) (f : Nat → Nat) : Prop where
  srt : ∀ i j, i < j → j < c → i / 20 = j / 20 → Tie L (f i) (f j)
  at_ : ∀ k, k < c → f k / 20 = k / 20 ∧ f k < n
  id_ : ∀ k, c ≤ k → f k = k
  mul : c % 20 = 0
theorem Ins.start (L : Nat → Nat → Prop) (n : Nat) : Ins L n 0 id := ⟨fun _ _ _ h => by omega, fun k h => by omega, fun k _ => rfl, rfl⟩
theorem Ins.step {L : Nat → Nat → Prop} {n c : Nat} {f g : Nat → Nat} (h : Ins L n c f) (h1 : c + 20 ≤ n) (x : Sub c (c + 20) f g) (s : Srt L g c (c + 20)) : Ins L n (c + 20) g := by
  have hm := h.mul
  refine ⟨fun i j ij hj he => ?_, fun k hk => ?_, fun k hk => ?_, by omega⟩
  · by_cases hc : c ≤ j
    · exact s i j (by omega) ij hj
    · rw [x.1 i (by omega), x.1 j (by omega)]
      exact h.srt i j ij (by omega) he
  · by_cases hc : c ≤ k
    · obtain ⟨j, j1, j2, e⟩ := x.2 k hc hk
      rw [e, h.id_ j j1]
      omega
    · rw [x.1 k (by omega)]
      exact h.at_ k (by omega)
  · rw [x.1 k (by omega)]
    exact h.id_ k (by omega)
theorem Ins.last {L : Nat → Nat → Prop} {n c : Nat} {f g : Nat → Nat} (h : Ins L n c f) (h0 : c ≤ n) (h1 : n < c + 20) (x : Sub c n f g) (s : Srt L g c n) : Good L 20 n g := by
  have hm := h.mul
  refine ⟨fun i j ij hj he => ?_, fun k hk => ?_⟩
  · by_cases hc : c ≤ j
    · exact s i j (by omega) ij hj
    · rw [x.1 i (by omega), x.1 j (by omega)]
      exact h.srt i j ij (by omega) he
  · by_cases hc : c ≤ k
    · obtain ⟨j, j1, j2, e⟩ := x.2 k hc hk
      rw [e, h.id_ j j1]
      omega
    · rw [x.1 k (by omega)]
      exact h.at_ k (by omega)

open Classical in
noncomputable def ahead (L : Nat → Nat → Prop) (n x : Nat) : Nat := (List.range n).countP fun k => decide (Tie L k x)
theorem countP_more {α : Type} (p q : α → Bool) : ∀ (l : List α), (∀ x ∈ l, p x = true → q x = true) → (∃ x ∈ l, q x = true ∧ p x = false) → l.countP p < l.countP q
  | [], _, ⟨x, hx, _⟩ => by simp at hx
  | a :: l, h, ⟨x, hx, h1, h2⟩ => by
    have hle : l.countP p ≤ l.countP q := List.countP_mono_left fun y hy => h y (List.mem_cons_of_mem _ hy)
    rcases List.mem_cons.1 hx with rfl | hx
    · rw [List.countP_cons_of_pos h1, List.countP_cons_of_neg (by simp [h2])]
      omega
    · have ih := countP_more p q l (fun y hy => h y (List.mem_cons_of_mem _ hy)) ⟨x, hx, h1, h2⟩
      rw [List.countP_cons, List.countP_cons]
      have := h a (by simp)
      split <;> split <;> simp_all <;> omega
theorem ahead_lt {L : Nat → Nat → Prop} (o : Ordr L) {n x y : Nat} (hx : x < n) (h : Tie L x y) : ahead L n x < ahead L n y := by
  refine countP_more _ _ _ (fun z _ hz => by simpa using (show Tie L z x by simpa using hz).trans o h) ⟨x, by simpa using hx, by simpa using h, ?_⟩
  simp only [decide_eq_false_iff_not]
  rintro (e | e)
  · exact o.irr x e
  · omega
theorem ahead_le {L : Nat → Nat → Prop} (o : Ordr L) {n x : Nat} (hx : x < n) : ahead L n x < n := by
  have : ahead L n x < (List.range n).countP fun _ => true := by
    unfold ahead
    refine countP_more _ _ _ (fun _ _ _ => rfl) ⟨x, by simpa using hx, rfl, ?_⟩
    simp only [decide_eq_false_iff_not]
    rintro (e | e)
    · exact o.irr x e
    · omega
  simpa using this
theorem rising_id {n : Nat} {s : Nat → Nat} (h : ∀ i j, i < j → j < n → s i < s j) (hb : ∀ i, i < n → s i < n) : ∀ k, k < n → s k = k := by
  have lo : ∀ k, k < n → k ≤ s k := by
    intro k
    induction k with
    | zero => intro _; omega
    | succ k ih => intro hk; have := ih (by omega); have := h k (k + 1) (by omega) hk; omega
  have hi : ∀ d k, k + d + 1 = n → s k ≤ k := by
    intro d
    induction d with
    | zero => intro k hk; have := hb k (by omega); omega
    | succ d ih => intro k hk; have := ih (k + 1) (by omega); have := h k (k + 1) (by omega) (by omega); omega
  intro k hk
  have := lo k hk
  have := hi (n - 1 - k) k (by omega)
  omega
theorem ahead_sorted {L : Nat → Nat → Prop} (o : Ordr L) {n : Nat} {f : Nat → Nat} (h : Srt L f 0 n) (hb : ∀ k, k < n → f k < n) : ∀ k, k < n → ahead L n (f k) = k :=
  rising_id (s := fun k => ahead L n (f k)) (fun i j ij hj => ahead_lt o (hb i (by omega)) (h i j (Nat.zero_le _) ij hj)) fun i hi => ahead_le o (hb i hi)

end Go.Proofs.Ytjkoceacjbhblaa
namespace Go.Proofs.Ytjkoceacjbhblaa
open Go.RowKit

def rowOf (f : Nat → Nat) (n : Nat) : Array Value := ((List.range n).map fun k => Value.int .i64 (f k)).toArray
theorem rowOf_get {f : Nat → Nat} {n i : Nat} (h : i < n) : (rowOf f n)[i]? = some (.int .i64 (f i)) := by simp [rowOf, h]
theorem rowOf_set (f : Nat → Nat) (n i x : Nat) : (rowOf f n).setIfInBounds i (.int .i64 x) = rowOf (fun k => if k = i then x else f k) n := by
  apply Array.ext
  · simp [rowOf]
  · intro k h1 h2
    have hk : k < (rowOf f n).size := by simpa using h1
    rw [Array.getElem_setIfInBounds hk]
    by_cases e : i = k
    · subst e; simp [rowOf]
    · simp [rowOf, e, Ne.symm e]
theorem rowOf_swap (f : Nat → Nat) (n i j : Nat) : ((rowOf f n).setIfInBounds i (.int .i64 (f j))).setIfInBounds j (.int .i64 (f i)) = rowOf (swp f i j) n := by
  rw [rowOf_set, rowOf_set]
  congr 1
  funext k
  unfold swp
  repeat' split
  all_goals simp_all
/-- the world w0, but for block b: it holds the numbers f 0 .. f (n - 1) -/
structure Ord (w0 : World) (b n : Nat) (f : Nat → Nat) (W : World) : Prop where
  os : W.os = w0.os
  tape : W.tape = w0.tape
  output : W.output = w0.output
  size : W.heap.size = w0.heap.size
  far : ∀ k, k ≠ b → W.heap[k]? = w0.heap[k]?
  row : W.heap[b]? = some (.cells (rowOf f n) 3 (0, 0))
section
variable {w0 W : World} {b n : Nat} {f : Nat → Nat}
theorem Ord.drewN (h : Ord w0 b n f W) (m : Nat) : Ord w0 b n f (W.drewN m) := ⟨h.os, h.tape, h.output, h.size, h.far, h.row⟩
theorem Ord.drew (h : Ord w0 b n f W) : Ord w0 b n f W.drew := ⟨h.os, h.tape, h.output, h.size, h.far, h.row⟩
theorem Ord.cell (h : Ord w0 b n f W) {i : Nat} (hi : i < n) : W.cell? ⟨b, i, none⟩ = some (.int .i64 (f i)) := by rw [cell_of_row W b i _ _ _ h.row, rowOf_get hi]
theorem Ord.frozen (h : Ord w0 b n f W) (i : Nat) : W.frozen? ⟨b, i, none⟩ = false := by simp [World.frozen?, h.row]
theorem Ord.lt (h : Ord w0 b n f W) : b < W.heap.size := Blk.lt h.row
theorem Ord.set_ (h : Ord w0 b n f W) (i x : Nat) : Ord w0 b n (fun k => if k = i then x else f k) (W.setCell ⟨b, i, none⟩ (.int .i64 x)) := by
  have hb := (Below.refl b W).setCell (p := ⟨b, i, none⟩) (Nat.le_refl _) (.int .i64 x)
  refine ⟨hb.os.trans h.os, hb.tape.trans h.tape, hb.output.trans h.output, by rw [← h.size]; simp, fun k hk => (Below.heap_setCell W _ _ k hk).trans (h.far k hk), ?_⟩
  have := Blk.set_ h.row i (.int .i64 x)
  rw [rowOf_set] at this
  exact this
theorem Ord.swap (h : Ord w0 b n f W) (i j : Nat) : Ord w0 b n (swp f i j) ((W.setCell ⟨b, i, none⟩ (.int .i64 (f j))).setCell ⟨b, j, none⟩ (.int .i64 (f i))) := by
  have h2 := (h.set_ i (f j)).set_ j (f i)
  refine ⟨h2.os, h2.tape, h2.output, h2.size, h2.far, ?_⟩
  rw [h2.row]
  congr 2
  rw [← rowOf_swap, rowOf_set, rowOf_set]
/-- behind the exchange's first store the second place still holds something -/
theorem Ord.c2 (h : Ord w0 b n f W) {i j : Nat} (hj : j < n) (x : Nat) : ∃ u, (W.setCell ⟨b, i, none⟩ (.int .i64 x)).cell? ⟨b, j, none⟩ = some u := ⟨_, (h.set_ i x).cell hj⟩
theorem Ord.start {w : World} {b n : Nat} {f : Nat → Nat} (h : w.heap[b]? = some (.cells (rowOf f n) 3 (0, 0))) : Ord w b n f w := ⟨rfl, rfl, rfl, rfl, fun _ _ => rfl, h⟩
/-- from a world of the row's to another -/
theorem Ord.trans {W' : World} {g : Nat → Nat} (h : Ord w0 b n f W) (k : Ord W b n g W') : Ord w0 b n g W' := ⟨k.os.trans h.os, k.tape.trans h.tape, k.output.trans h.output, k.size.trans h.size, fun x hx => (k.far x hx).trans (h.far x hx), k.row⟩
end
/-- what is asked of the comparison: over whatever the row holds, of places of names it tells cf -/
def CmpN (P : Program) (g : Nat) (cb : Array Value) (w0 : World) (b n : Nat) (cf : Nat → Nat → Int) : Prop :=
  ∀ (f : Nat → Nat) (W : World), Ord w0 b n f W → ∀ x y : Nat, x < n → y < n →
    Calls P g (#[.int .i64 x, .int .i64 y] ++ cb) W fun e w' => e = .returned (.int .i64 (cf x y)) ∧ ∃ q, w' = W.drewN q
def Lt (cf : Nat → Nat → Int) (x y : Nat) : Prop := cf x y < 0
end Go.Proofs.Ytjkoceacjbhblaa
