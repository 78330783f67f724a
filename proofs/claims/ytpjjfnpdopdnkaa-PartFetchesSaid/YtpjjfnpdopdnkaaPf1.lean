/- Parts of a proof, merged: Base, LawKit, BlkB, Mem, OpenSl, Same1, OpenGen, Tells, PartD, OpenPart, InB, Wire1, Wire2, Wire3. No condition. -/
import Derived.Test.YtpjjfnpdopdnkaaProg
import Derived.WalkKit
import Derived.WalkSpells
import Derived.WalkLawsBesides
import Derived.BigQuiet
import Derived.Deep.QuietTactic
import Derived.Deep.Light
import Derived.Deep.LoopGhost
import Derived.Deep.DeepMust
import Derived.Deep.DeepFit
import Derived.Deep.DeepCutAuto
import Derived.Lib.Hide
import Derived.Test.YtpjjfnpdopdnkaaRows
import Derived.ProofKit
import Derived.Lib.SmallJoins
import Derived.Deep.Slices
import Derived.Deep.Fields
import Derived.ChangeSame
import Derived.Laws.OwnMore
import Derived.Deep.AppendLies
import Derived.Deep.Draws
import Derived.Maps.AppendAt
import Derived.RegionTactic
import Derived.OwnWalk
import Derived.SizedLaws
import Derived.Lib.AppendStr
namespace Go.Proofs.Ytpjjfnpdopdnkaa
open Go.RowKit

theorem ret_int {k : IntKind} {a b : Int} (h : a = b) : Ending.returned (.int k a) = .returned (.int k b) := by rw [h]
theorem ret_bool {a b : Bool} (h : a = b) : Ending.returned (.bool a) = .returned (.bool b) := by rw [h]
theorem bytes_nil (s : ByteArray) : s.toList = [] ↔ s.size = 0 := by
  rw [ByteArray.toList_eq]
  have h2 : s.size = s.data.size := rfl
  rw [h2, ← Array.length_toList, List.length_eq_zero_iff]

end Go.Proofs.Ytpjjfnpdopdnkaa
namespace Go.Proofs.Ytpjjfnpdopdnkaa
open Go.ChangeShapes Go.WideShapes Go.ChangeAt Go.RowKit Go.Joins Go.Deep

theorem own_ : ownKnob Try.prog.godebug = none := by kernel_rfl
theorem laid_ : laidOutB Try.prog = true := by kernel_rfl

theorem toList_of {s : String} {l : List Char} (h : s = String.ofList l) : s.toList = l := by
  subst h
  exact String.toList_ofList
theorem words_split (r : List Char) : ∀ (a : List Char), (∀ c ∈ a, c ≠ Char.ofNat 32) → wordsSigns (a ++ Char.ofNat 32 :: r) = a :: wordsSigns r
  | [], _ => rfl
  | c :: a, h => by
    have hc : c ≠ Char.ofNat 32 := h c (by simp)
    have ih := words_split r a (fun x hx => h x (by simp [hx]))
    rw [List.cons_append, wordsSigns.eq_3 _ _ (fun e => hc e), ih]
def signs1 : List Char := List.map Char.ofNat [104, 97, 114, 110, 101, 115, 115]
def signs2 : List Char := List.map Char.ofNat [52, 48, 52, 52, 51, 48, 54, 56, 99, 53, 56, 102, 101, 97, 99, 98, 52, 49, 57, 100, 57, 101, 99, 97, 52, 53, 98, 53, 51, 54, 52, 54, 98, 101, 98, 52, 57, 51, 97, 99, 56, 53, 97, 101, 53, 101, 53, 51, 54, 51, 100, 57, 102, 50, 53, 101, 102, 56, 100, 48, 51, 48, 53, 56]
def signs3 : List Char := List.map Char.ofNat [99, 117, 116]
def signsRest : List Char := List.map Char.ofNat [97, 116, 32, 116, 97, 105, 108, 114, 97, 99, 101, 47, 116, 97, 105, 108, 114, 97, 99, 101, 108, 97, 119, 46, 80, 97, 114, 116, 78, 101, 119, 32, 116, 97, 105, 108, 114, 97, 99, 101, 47, 116, 97, 105, 108, 114, 97, 99, 101, 108, 97, 119, 46, 80, 97, 114, 116, 67, 111, 112, 105, 101, 115, 32, 116, 97, 105, 108, 114, 97, 99, 101, 47, 116, 97, 105, 108, 114, 97, 99, 101, 108, 97, 119, 46, 87, 105, 114, 101, 68, 101, 99, 111, 100, 101, 115, 32, 116, 97, 105, 108, 114, 97, 99, 101, 47, 116, 97, 105, 108, 114, 97, 99, 101, 108, 97, 119, 46, 83, 101, 103, 67, 104, 101, 99, 107, 115, 32, 116, 97, 105, 108, 114, 97, 99, 101, 47, 116, 97, 105, 108, 114, 97, 99, 101, 108, 97, 119, 46, 83, 101, 103, 69, 110, 116, 114, 105, 101, 115, 32, 116, 97, 105, 108, 114, 97, 99, 101, 47, 116, 97, 105, 108, 114, 97, 99, 101, 108, 97, 119, 46, 83, 101, 103, 83, 121, 110, 99, 115, 32, 116, 97, 105, 108, 114, 97, 99, 101, 47, 116, 97, 105, 108, 114, 97, 99, 101, 108, 97, 119, 46, 83, 101, 103, 67, 114, 97, 115, 104, 101, 115, 32, 116, 97, 105, 108, 114, 97, 99, 101, 47, 116, 97, 105, 108, 114, 97, 99, 101, 108, 97, 119, 46, 80, 97, 114, 116, 67, 104, 101, 99, 107, 115, 32, 116, 97, 105, 108, 114, 97, 99, 101, 47, 116, 97, 105, 108, 114, 97, 99, 101, 108, 97, 119, 46, 83, 101, 103, 67, 117, 116, 115, 32, 116, 97, 105, 108, 114, 97, 99, 101, 47, 116, 97, 105, 108, 114, 97, 99, 101, 108, 97, 119, 46, 83, 101, 103, 65, 112, 112, 101, 110, 100, 115, 32, 116, 97, 105, 108, 114, 97, 99, 101, 47, 116, 97, 105, 108, 114, 97, 99, 101, 108, 97, 119, 46, 80, 97, 114, 116, 82, 105, 115, 101, 115, 32, 116, 97, 105, 108, 114, 97, 99, 101, 47, 116, 97, 105, 108, 114, 97, 99, 101, 108, 97, 119, 46, 80, 97, 114, 116, 87, 105, 112, 101, 115, 32, 116, 97, 105, 108, 114, 97, 99, 101, 47, 116, 97, 105, 108, 114, 97, 99, 101, 108, 97, 119, 46, 80, 97, 114, 116, 69, 120, 112, 97, 110, 100, 115, 32, 116, 97, 105, 108, 114, 97, 99, 101, 47, 116, 97, 105, 108, 114, 97, 99, 101, 108, 97, 119, 46, 80, 97, 114, 116, 67, 114, 97, 115, 104, 101, 115, 32, 116, 97, 105, 108, 114, 97, 99, 101, 47, 116, 97, 105, 108, 114, 97, 99, 101, 108, 97, 119, 46, 80, 97, 114, 116, 83, 121, 110, 99, 115, 32, 116, 97, 105, 108, 114, 97, 99, 101, 47, 116, 97, 105, 108, 114, 97, 99, 101, 108, 97, 119, 46, 80, 97, 114, 116, 69, 108, 101, 99, 116, 115, 32, 116, 97, 105, 108, 114, 97, 99, 101, 47, 116, 97, 105, 108, 114, 97, 99, 101, 108, 97, 119, 46, 80, 97, 114, 116, 83, 104, 114, 105, 110, 107, 115, 32, 116, 97, 105, 108, 114, 97, 99, 101, 47, 116, 97, 105, 108, 114, 97, 99, 101, 108, 97, 119, 46, 80, 97, 114, 116, 82, 101, 97, 100, 115, 32, 116, 97, 105, 108, 114, 97, 99, 101, 47, 116, 97, 105, 108, 114, 97, 99, 101, 108, 97, 119, 46, 80, 97, 114, 116, 70, 101, 116, 99, 104, 101, 115, 32, 116, 97, 105, 108, 114, 97, 99, 101, 47, 116, 97, 105, 108, 114, 97, 99, 101, 108, 97, 119, 46, 80, 97, 114, 116, 80, 117, 116, 115]
theorem no_space {l : List Char} (h : (l.all fun c => !(c == Char.ofNat 32)) = true) : ∀ c ∈ l, c ≠ Char.ofNat 32 := by
  intro c hc e
  have := List.all_eq_true.1 h c hc
  simp [e] at this
theorem initList : Try.prog.initOrder.toList = signs1 ++ Char.ofNat 32 :: (signs2 ++ Char.ofNat 32 :: (signs3 ++ Char.ofNat 32 :: signsRest)) := toList_of (by kernel_rfl)
theorem initWords : ∃ ws, wordsSigns Try.prog.initOrder.toList = signs1 :: signs2 :: signs3 :: ws := by
  refine ⟨wordsSigns signsRest, ?_⟩
  rw [initList, words_split _ _ (no_space (by decide +kernel)), words_split _ _ (no_space (by decide +kernel)), words_split _ _ (no_space (by decide +kernel))]
theorem words1 (ws : List (List Char)) : behindMainWord (signs1 :: signs2 :: signs3 :: ws) = signs3 :: ws := by kernel_rfl
theorem words2 : (signs3 == "gc".toList) = false := by kernel_rfl
theorem words3 : (signs3 == "spec".toList) = false := by kernel_rfl
theorem words4 : (signs3 == "carried".toList) = false := by kernel_rfl
theorem words4' : signs3 ≠ "carried".toList := fun e => by have := words4; rw [e] at this; simp at this
theorem words5 : signs3 = "cut".toList := by kernel_rfl
theorem words6 (ws : List (List Char)) : stripLifts liftWords (signs3 :: ws) = ([], signs3 :: ws) := by kernel_rfl
theorem laysLater_ : Try.prog.laysLater = false := by kernel_rfl
theorem bearsReflect_ : Try.prog.bearsReflect = false := by kernel_rfl
theorem doorFits_ : Try.prog.doorFits [] = true := by kernel_rfl
theorem enter_of {P : Program} {ws : List (List Char)} (h : wordsSigns P.initOrder.toList = signs1 :: signs2 :: signs3 :: ws) (h1 : P.laysLater = false) (h2 : P.bearsReflect = false) (h3 : P.doorFits [] = true) : P.mayEnter = true := by
  unfold Program.mayEnter
  rw [h, words1]
  simp only [words2, words3, words4, words6, h1, h2, h3]
  simp [words5]
theorem lifts_of {P : Program} {ws : List (List Char)} (h : wordsSigns P.initOrder.toList = signs1 :: signs2 :: signs3 :: ws) : P.liftsFinal = false := by
  unfold Program.liftsFinal Program.headLifts
  rw [h, words1]
  have e : ((signs3 :: ws).head? == some "carried".toList) = false := by
    rw [List.head?_cons, beq_eq_false_iff_ne]
    exact fun e => words4' (Option.some.inj e)
  simp only [words6, e]
  simp
theorem make_of {P : Program} {ws : List (List Char)} (h : wordsSigns P.initOrder.toList = signs1 :: signs2 :: signs3 :: ws) : P.make = some .cut := by
  unfold Program.make
  rw [h, words1]
  simp only [words2, words3]
  simp [words5]
theorem mayEnter_ : Try.prog.mayEnter = true := by
  obtain ⟨ws, h⟩ := initWords
  exact enter_of h laysLater_ bearsReflect_ doorFits_
theorem lifts_ : Try.prog.liftsFinal = false := by
  obtain ⟨ws, h⟩ := initWords
  exact lifts_of h
theorem make_ : Try.prog.make = some .cut := by
  obtain ⟨ws, h⟩ := initWords
  exact make_of h

section
variable {H : Type} {enc : TypeId × Value → H} {P : Program}

theorem trodAll_stays {W W' : World} (hl : laidOutB P = true) (hb : Below W.heap.size W W') :
    ∀ (ts : List TypeId) (vs : List Value) (ds : List (DataW H)) (ps : List MemPlace), (∀ t ∈ ts, P.readableRec t = true ∧ t < P.types.size) →
      DataW.TrodAll enc P W 0 (fun _ => true) true ts vs ds ps → (∀ x ∈ ps, x.block < W.heap.size) →
      DataW.TrodAll enc P W' 0 (fun b => decide (b < W.heap.size)) true ts vs ds ps
  | [], [], [], _, _, h, _ => h
  | t :: ts, v :: vs, d :: ds, ps, hr, h, hlt => by
    obtain ⟨p, q, h1, h2, rfl⟩ := h
    exact ⟨p, q, Below.trod hl (hr t (by simp)).1 (hr t (by simp)).2 h1 hb (fun x hx => hlt x (by simp [hx])),
      trodAll_stays hl hb ts vs ds q (fun t' ht' => hr t' (by simp [ht'])) h2 (fun x hx => hlt x (by simp [hx])), rfl⟩
  | [], _ :: _, _, _, _, h, _ => h.elim
  | [], [], _ :: _, _, _, h, _ => h.elim
  | _ :: _, [], _, _, _, h, _ => h.elim
  | _ :: _, _ :: _, [], _, _, h, _ => h.elim

theorem law_post {f : Func} {s : ChangeSpec} {tb : TypeId} {W W' : World} {args : Array Value} {ds : List (DataW H)} {before : List MemPlace}
    (hl : laidOutB P = true) (hv : s.vars = []) (hfn : s.fn H (ds ++ []) = { results := [.lit (.bool true)], args := ds }) (hrt : f.resultTypes = #[tb]) (htb : P.underlying tb = some .bool)
    (hr : ∀ t ∈ f.params.toList, P.readableRec t = true ∧ t < P.types.size)
    (hW : DataW.Whole enc P f.params.toList s.vars false W args.toList ds [] before) (hb : Below W.heap.size W W') :
    s.post enc P f false true false false W args (.bool true) W' := by
  have hW0 := hW
  obtain ⟨p, q, hA, hV, rfl, hz, hn⟩ := hW
  rw [hv] at hV
  obtain ⟨_, rfl⟩ := trodVars_none hV
  have hlt : ∀ x ∈ p, x.block < W.heap.size := fun x hx => hW0.lt x (by simp [hx])
  refine ⟨ds, [], p ++ [], [], p, [], hW0, ?_, ?_, ?_, hb.frame _, fun h => by cases h⟩
  · rw [hfn, hrt]
    exact trodAll_mk1 (shut_bool htb true)
  · rw [hfn]
    exact trodAll_stays hl hb _ _ _ _ hr hA hlt
  · rw [hfn, hv]
    rfl
end

section
variable {H : Type} {enc : TypeId × Value → H} {P : Program} {w : World} {base : Nat} {spare : Nat → Bool} {held : Bool}
end

theorem rec_ok {P : Program} {ts : Array TypeId} (h : (ts.toList.all fun t => P.readableRec t && decide (t < P.types.size)) = true) : ∀ t ∈ ts.toList, P.readableRec t = true ∧ t < P.types.size := by
  intro t ht
  have := List.all_eq_true.1 h t ht
  simpa using this

end Go.Proofs.Ytpjjfnpdopdnkaa
namespace Go.Proofs.Ytpjjfnpdopdnkaa
open Go.RowKit

/-- block g is just these cells -/
def Blk (w : World) (g : Nat) (t : TypeId) (cs : Array Value) : Prop := w.heap[g]? = some (.cells cs t (0, 0))
section
variable {w w' : World} {g : Nat} {t : TypeId} {cs : Array Value}
theorem Blk.lt (h : Blk w g t cs) : g < w.heap.size := by
  rcases Nat.lt_or_ge g w.heap.size with hlt | hge
  · exact hlt
  · unfold Blk at h; rw [Array.getElem?_eq_none hge] at h; cases h
theorem Blk.cell (h : Blk w g t cs) (i : Nat) : w.cell? ⟨g, i, none⟩ = cs[i]? := by
  unfold Blk at h
  simp [World.cell?, h]
theorem Blk.frozen (h : Blk w g t cs) (i : Nat) : w.frozen? ⟨g, i, none⟩ = false := by
  unfold Blk at h
  simp [World.frozen?, h]
theorem Blk.new (w : World) (t : TypeId) (cs : Array Value) : Blk (w.alloc (.cells cs t)) w.heap.size t cs := heap_alloc_new w _
theorem Blk.alloc (h : Blk w g t cs) (o : Obj) : Blk (w.alloc o) g t cs := (Below.heap_alloc w o g h.lt).trans h
theorem Blk.set_ (h : Blk w g t cs) (i : Nat) (u : Value) : Blk (w.setCell ⟨g, i, none⟩ u) g t (cs.setIfInBounds i u) := by
  unfold Blk at h ⊢
  simp [World.setCell, Array.getElem?_modify, h]
theorem Blk.far (h : Blk w g t cs) {p : Addr} (hp : g ≠ p.block) (u : Value) : Blk (w.setCell p u) g t cs := (Below.heap_setCell w p u g hp).trans h
theorem Blk.below {B : Nat} (h : Blk w g t cs) (hb : Below B w w') (hg : g < B) : Blk w' g t cs := (hb.block g hg).trans h
theorem Blk.grown {row : Option Nat} (h : Blk w g t cs) (hb : w.grownBy w' row) (hg : some g ≠ row) : Blk w' g t cs := (hb.block g h.lt hg).trans h
end
theorem Blk.new_ (w : World) (t : TypeId) (cs : Array Value) {g : Nat} (h : g = w.heap.size) : Blk (w.alloc (.cells cs t)) g t cs := by subst h; exact Blk.new w t cs
end Go.Proofs.Ytpjjfnpdopdnkaa
namespace Go.Proofs.Ytpjjfnpdopdnkaa
open Go.RowKit

/-- the slice value v has n elements of size cells each, and they are xs -/
def Sl (w : World) (size : Nat) (v : Value) (n : Nat) (xs : List Value) : Prop :=
  xs.length = n * size ∧ ∃ A c, v = .slice A n c ∧ n ≤ c ∧ (0 < n → ∃ b off, A = some ⟨b, off, none⟩ ∧ b < w.heap.size ∧ ∀ j u, xs[j]? = some u → w.cell? ⟨b, off + j, none⟩ = some u)

theorem cell_lt {w : World} {a : Addr} {u : Value} (h : w.cell? a = some u) : a.block < w.heap.size := by
  rcases Nat.lt_or_ge a.block w.heap.size with h1 | h1
  · exact h1
  · unfold World.cell? at h
    rw [Array.getElem?_eq_none h1] at h
    simp at h

section
variable {w w' : World} {size n : Nat} {v : Value} {xs : List Value}
theorem Sl.keep (h : Sl w size v n xs) (hs : w.heap.size ≤ w'.heap.size) (hk : ∀ p : Addr, p.block < w.heap.size → w'.cell? p = w.cell? p) : Sl w' size v n xs := by
  obtain ⟨h1, A, c, hv, hc, h2⟩ := h
  refine ⟨h1, A, c, hv, hc, fun hn => ?_⟩
  obtain ⟨b, off, hA, hb, hcell⟩ := h2 hn
  exact ⟨b, off, hA, by omega, fun j u hu => (hk _ hb).trans (hcell j u hu)⟩
theorem Sl.below (h : Sl w size v n xs) (hb : Below w.heap.size w w') : Sl w' size v n xs := h.keep hb.size fun _ hp => hb.cell hp
theorem Sl.drew (h : Sl w size v n xs) : Sl w.drew size v n xs := h
theorem Sl.alloc (h : Sl w size v n xs) (o : Obj) : Sl (w.alloc o) size v n xs := h.keep (by simp) fun _ hp => World.cell?_alloc_lt w o _ hp
theorem Sl.form (h : Sl w size v n xs) : ∃ A c, v = .slice A n c ∧ n ≤ c := by
  obtain ⟨_, A, c, hv, hc, _⟩ := h
  exact ⟨A, c, hv, hc⟩
theorem Sl.nil_ (w : World) (size : Nat) : Sl w size (.slice none 0 0) 0 [] := ⟨by simp, none, 0, rfl, Nat.le_refl _, fun h => absurd h (by omega)⟩
theorem Sl.of_own {base : Nat} {e : TypeId} (h : w.ownsRow base e size v n xs) : Sl w size v n xs := by
  refine ⟨h.1, ?_⟩
  have hcl := @World.ownsRow.cells
  rcases h.2 with ⟨hv, hn⟩ | ⟨g, cap, cur, hv, hb, hh, hnc, hr⟩
  · subst hv; subst hn
    exact ⟨none, 0, rfl, Nat.le_refl _, fun h => absurd h (by omega)⟩
  · have hg : v.ownBlock = some g := by rw [hv]; rfl
    refine ⟨some ⟨g, 0, none⟩, cap, hv, hnc, fun _ => ⟨g, 0, rfl, (h.lt g hg).2, fun j u hu => ?_⟩⟩
    have := hcl h hg j u hu
    by_cases hj : j = 0
    · subst hj; simpa [Addr.add] using this
    · simpa [Addr.add, hj] using this
end

section
variable {P : Program} (w : World)
theorem run_append_of_nil (base : Nat) (t ty e : TypeId) (i : TypeInfo) (size : Nat) (ht : P.underlying t = some (.slice e)) (hi : P.info? e = some i)
    (v : Value) (n : Nat) (xs : List Value) (hown : w.ownsRow base e size v n xs) (c : Nat) : (Builtin.append_ #[t, t] ty #[v, .slice none 0 c]).run P w = .ok v w := by
  rcases hown.2 with ⟨rfl, rfl⟩ | ⟨g, cap, cur, rfl, _, _, hnc, _⟩
  · simp [Builtin.append_, run_underlying ht, sizeOf, typeInfo, hi, Builtin.lenOf, Builtin.firstCells]
  · simp [Builtin.append_, run_underlying ht, sizeOf, typeInfo, hi, Builtin.lenOf, Builtin.firstCells, hnc, storeCells]

theorem run_append_sl (base : Nat) (t ty e : TypeId) (i : TypeInfo) (z : Value) (size bytes : Nat) (ht : P.underlying t = some (.slice e)) (hi : P.info? e = some i) (hz : i.zero = some z)
    (hsize : i.size = size) (hby : i.bytes = bytes) (hzs : z.cells.size = size) (hsz : 0 < size)
    (v : Value) (n : Nat) (xs : List Value) (hown : w.ownsRow base e size v n xs)
    (u : Value) (m : Nat) (news : List Value) (hr : Sl w size u m news) (h1 : ∀ x ∈ news, x.oneCell' = true)
    (h63 : n + m ≤ maxLen) (hbytes : (n + m) * bytes ≤ 140737488355328) (hbase : base ≤ w.heap.size) :
    ∃ v' w', (Builtin.append_ #[t, t] ty #[v, u]).run P w = .ok v' w' ∧ w'.ownsRow base e size v' (n + m) (xs ++ news) ∧ w.grownBy w' v.ownBlock ∧
      (v'.ownBlock = v.ownBlock ∨ v'.ownBlock = some w.heap.size) := by
  obtain ⟨hl, A, c, rfl, hc, hcl⟩ := hr
  rcases A with _ | ad
  · have hm : m = 0 := by
      rcases Nat.eq_zero_or_pos m with h0 | h0
      · exact h0
      · obtain ⟨_, _, h, _⟩ := hcl h0
        cases h
    subst hm
    have hn : news = [] := List.eq_nil_of_length_eq_zero (by simpa using hl)
    subst hn
    exact ⟨v, w, run_append_of_nil w base t ty e i size ht hi v n xs hown c, by simpa using hown, World.grownBy.refl w _, .inl rfl⟩
  · have hcells : ∀ j x, news[j]? = some x → w.cell? (ad.add j) = some x := by
      intro j x hx
      rcases Nat.eq_zero_or_pos m with h0 | h0
      · subst h0
        have hn : news = [] := List.eq_nil_of_length_eq_zero (by simpa using hl)
        subst hn
        simp at hx
      · obtain ⟨b, off, h, _, hq⟩ := hcl h0
        injection h with h
        subst h
        by_cases hj : j = 0
        · subst hj; simpa [Addr.add] using hq 0 x hx
        · simpa [Addr.add, hj] using hq j x hx
    obtain ⟨v', w', hrun, h2, h3, _, h5⟩ := run_append_own_at (P := P) w base t ty e i z size bytes ht hi hz hsize hby hzs hsz v n xs hown ad m c news hl hcells h1 h63 hbytes hbase
    exact ⟨v', w', hrun, h2, h3, h5⟩

theorem wp_append_sl {o : Oper} {a : Act} {K : Act → World → Prop} {Q : Exit → Act → World → Prop} (s x : Operand) (t : TypeId)
    (ho : o.op = .call { callee := .builtin .append, args := #[s, x], argTypes := #[t, t] })
    (base : Nat) (e : TypeId) (i : TypeInfo) (z : Value) (size bytes : Nat) (ht : P.underlying t = some (.slice e)) (hi : P.info? e = some i) (hz : i.zero = some z)
    (hsize : i.size = size) (hby : i.bytes = bytes) (hzs : z.cells.size = size) (hsz : 0 < size)
    (v : Value) (n : Nat) (xs : List Value) (hs : a.eval s = v) (hown : w.ownsRow base e size v n xs)
    (u : Value) (m : Nat) (news : List Value) (hx : a.eval x = u) (hr : Sl w size u m news) (h1 : ∀ x ∈ news, x.oneCell' = true)
    (h63 : n + m ≤ maxLen) (hbytes : (n + m) * bytes ≤ 140737488355328) (hbase : base ≤ w.heap.size)
    (h : ∀ v' w', w'.ownsRow base e size v' (n + m) (xs ++ news) → w.grownBy w' v.ownBlock → (v'.ownBlock = v.ownBlock ∨ v'.ownBlock = some w.heap.size) → K (a.put o.dst v') w') : o.wp P a w K Q := by
  obtain ⟨v', w', hrun, h2, h3, h4⟩ := run_append_sl (P := P) w base t o.type e i z size bytes ht hi hz hsize hby hzs hsz v n xs hown u m news hr h1 h63 hbytes hbase
  unfold Oper.wp execOp
  simp only [ho, resolve, invoke, builtin, Sem.run_bind, Sem.run_pure, Result.andThen_ok, List.map_toArray, List.map_cons, List.map_nil, hs, hx, hrun]
  exact h v' w' h2 h3 h4

theorem wpList_append_sl {ops : Array Oper} {rest : List Oper} {o : Oper} {a : Act} {Q : Exit → Act → World → Prop} (hgd : o.guard = none) (s x : Operand) (t : TypeId)
    (ho : o.op = .call { callee := .builtin .append, args := #[s, x], argTypes := #[t, t] })
    (base : Nat) (e : TypeId) (i : TypeInfo) (z : Value) (size bytes : Nat) (ht : P.underlying t = some (.slice e)) (hi : P.info? e = some i) (hz : i.zero = some z)
    (hsize : i.size = size) (hby : i.bytes = bytes) (hzs : z.cells.size = size) (hsz : 0 < size)
    (v : Value) (n : Nat) (xs : List Value) (hs : a.eval s = v) (hown : w.ownsRow base e size v n xs)
    (u : Value) (m : Nat) (news : List Value) (hx : a.eval x = u) (hr : Sl w size u m news) (h1 : ∀ x ∈ news, x.oneCell' = true)
    (h63 : n + m ≤ maxLen) (hbytes : (n + m) * bytes ≤ 140737488355328) (hbase : base ≤ w.heap.size)
    (h : ∀ v' w', w'.ownsRow base e size v' (n + m) (xs ++ news) → w.grownBy w' v.ownBlock → (v'.ownBlock = v.ownBlock ∨ v'.ownBlock = some w.heap.size) → wpList P ops Q rest (a.put o.dst v') w') : wpList P ops Q (o :: rest) a w :=
  wpList_plain hgd fun _ hK => wp_append_sl w s x t ho base e i z size bytes ht hi hz hsize hby hzs hsz v n xs hs hown u m news hx hr h1 h63 hbytes hbase fun v' w' h2 h3 h4 => hK _ _ (h v' w' h2 h3 h4)
end

/-- behind an append onto a row of the call's own, its source in a new block -/
theorem own_below {B : Nat} {w wr w1 : World} {e : TypeId} {size n : Nat} {v : Value} {xs : List Value} (hb : Below B w wr) (hB : B ≤ w.heap.size) (ho : wr.ownsRow B e size v n xs) (o : Obj) (hg : (wr.alloc o).grownBy w1 v.ownBlock) : Below B w w1 :=
  (hb.alloc (Nat.le_trans hB hb.size) o).grown hg (by have := hb.size; simp; omega) fun k hk => (ho.lt k hk).1
theorem own_below' {B : Nat} {w wr w1 : World} {e : TypeId} {size n : Nat} {v : Value} {xs : List Value} (hb : Below B w wr) (hB : B ≤ w.heap.size) (ho : wr.ownsRow B e size v n xs) (hg : wr.grownBy w1 v.ownBlock) : Below B w w1 :=
  hb.grown hg (Nat.le_trans hB hb.size) fun k hk => (ho.lt k hk).1
theorem own_eq {w : World} {B : Nat} {e : TypeId} {size n n' : Nat} {v : Value} {xs ys : List Value} (h : w.ownsRow B e size v n xs) (h1 : n = n') (h2 : xs = ys) : w.ownsRow B e size v n' ys := by subst h1; subst h2; exact h

/-- from w with the row v to w' with the row v': what was there has not turned but for v's own row; v' is that row or a new one -/
def OwnStep (w w' : World) (v v' : Value) : Prop := w.grownBy w' v.ownBlock ∧ (v'.ownBlock = v.ownBlock ∨ ∃ k, v'.ownBlock = some k ∧ w.heap.size ≤ k)
theorem OwnStep.refl (w : World) (v : Value) : OwnStep w w v v := ⟨World.grownBy.refl w _, .inl rfl⟩
theorem OwnStep.trans {w w1 w2 : World} {v v1 v2 : Value} (h : OwnStep w w1 v v1) (k : OwnStep w1 w2 v1 v2) : OwnStep w w2 v v2 := by
  obtain ⟨h1, h2⟩ := h
  obtain ⟨k1, k2⟩ := k
  refine ⟨⟨k1.os.trans h1.os, k1.tape.trans h1.tape, k1.output.trans h1.output, Nat.le_trans h1.size k1.size, fun i hi hne => ?_⟩, ?_⟩
  · refine (k1.block i (Nat.lt_of_lt_of_le hi h1.size) ?_).trans (h1.block i hi hne)
    rcases h2 with h2 | ⟨g, h2, hg⟩
    · rw [h2]; exact hne
    · rw [h2]; intro e; injection e with e; omega
  · have hs := h1.size
    rcases k2 with k2 | ⟨g, k2, hg⟩
    · rcases h2 with h2 | ⟨g', h2, hg'⟩
      · exact .inl (k2.trans h2)
      · exact .inr ⟨g', k2.trans h2, hg'⟩
    · exact .inr ⟨g, k2, by omega⟩
theorem OwnStep.cell {w w' : World} {v v' : Value} (h : OwnStep w w' v v') {a : Addr} {u : Value} (hc : w.cell? a = some u) (hne : some a.block ≠ v.ownBlock) : w'.cell? a = some u := h.1.cell hc hne
theorem OwnStep.size {w w' : World} {v v' : Value} (h : OwnStep w w' v v') : w.heap.size ≤ w'.heap.size := h.1.size
theorem OwnStep.below {B : Nat} {w w' : World} {v v' : Value} (h : OwnStep w w' v v') (hB : B ≤ w.heap.size) (hv : ∀ k, v.ownBlock = some k → B ≤ k) : Below B w w' :=
  (Below.refl B w).grown h.1 hB hv
/-- an append whose source was laid in a new block -/
theorem OwnStep.of_append {w w1 : World} {v v1 : Value} {o : Obj} (_hlt : ∀ k, v.ownBlock = some k → k < w.heap.size) (hg : (w.alloc o).grownBy w1 v.ownBlock) (hat : v1.ownBlock = v.ownBlock ∨ v1.ownBlock = some (w.alloc o).heap.size) : OwnStep w w1 v v1 := by
  refine ⟨⟨hg.os, hg.tape, hg.output, Nat.le_trans (by simp) hg.size, fun i hi hne => (hg.block i (by simp; omega) hne).trans (Below.heap_alloc w o i hi)⟩, ?_⟩
  rcases hat with h | h
  · exact .inl h
  · exact .inr ⟨_, h, by simp⟩
/-- a row of the call's own stays while the world grows above it -/
theorem own_keep {base B : Nat} {w w' : World} {e : TypeId} {size n : Nat} {v : Value} {xs : List Value} (h : w.ownsRow base e size v n xs) (hb : Below B w w') (hv : ∀ k, v.ownBlock = some k → k < B) : w'.ownsRow base e size v n xs := by
  obtain ⟨h1, h2⟩ := h
  refine ⟨h1, ?_⟩
  rcases h2 with h2 | ⟨g, cap, cur, hv', hg, hh, r⟩
  · exact .inl h2
  · refine .inr ⟨g, cap, cur, hv', hg, ?_, r⟩
    rw [hb.block g (hv g (by rw [hv']; rfl))]
    exact hh
theorem own_lit {base : Nat} (w : World) (e : TypeId) (cs : Array Value) (size n : Nat) (hb : base ≤ w.heap.size) (hm : n ≤ maxLen) (hs : cs.size = n * size) : (w.alloc (.cells cs e)).ownsRow base e size (.slice (some ⟨w.heap.size, 0, none⟩) n n) n cs.toList :=
  World.ownsRow_lit w cs n hb hm hs
theorem own_base {base base' : Nat} {w : World} {e : TypeId} {size n : Nat} {v : Value} {xs : List Value} (h : w.ownsRow base e size v n xs) (hb : base' ≤ base) : w.ownsRow base' e size v n xs := by
  obtain ⟨h1, h2⟩ := h
  refine ⟨h1, ?_⟩
  rcases h2 with h2 | ⟨g, cap, cur, hv', hg, r⟩
  · exact .inl h2
  · exact .inr ⟨g, cap, cur, hv', by omega, r⟩

theorem OwnStep.blk {w w' : World} {v v' : Value} {g : Nat} {t : TypeId} {cs : Array Value} (h : OwnStep w w' v v') (hb : Blk w g t cs) (hne : v.ownBlock ≠ some g) : Blk w' g t cs ∧ v'.ownBlock ≠ some g := by
  refine ⟨hb.grown h.1 (fun e => hne e.symm), fun e => ?_⟩
  have := hb.lt
  rcases h.2 with h2 | ⟨k, h2, hk⟩
  · exact hne (h2.symm.trans e)
  · rw [h2] at e; injection e with e; omega

/-- a literal slice in a new block -/
theorem Sl.lit (w : World) (e : TypeId) (cs : Array Value) (size n : Nat) (h : cs.size = n * size) : Sl (w.alloc (.cells cs e)) size (.slice (some ⟨w.heap.size, 0, none⟩) n n) n cs.toList := by
  refine ⟨by simpa using h, some ⟨w.heap.size, 0, none⟩, n, rfl, Nat.le_refl _, fun _ => ⟨w.heap.size, 0, rfl, by simp, fun j u hu => ?_⟩⟩
  have : (w.alloc (.cells cs e)).heap[w.heap.size]? = some (.cells cs e (0, 0)) := heap_alloc_new w _
  simp only [World.cell?, this]
  simpa using hu

theorem bits_or_i64_nat (a b : Nat) (ha : a < 9223372036854775808) (hb : b < 9223372036854775808) : bits .or .i64 (a : Int) (b : Int) = ((a ||| b : Nat) : Int) := by
  have hx : a ||| b < 2 ^ 63 := Nat.or_lt_two_pow (by omega) (by omega)
  have h1 : (BitVec.ofInt 64 (a : Int)).toNat = a := by
    rw [BitVec.ofInt_natCast, BitVec.toNat_ofNat]; exact Nat.mod_eq_of_lt (by omega)
  have h2 : (BitVec.ofInt 64 (b : Int)).toNat = b := by
    rw [BitVec.ofInt_natCast, BitVec.toNat_ofNat]; exact Nat.mod_eq_of_lt (by omega)
  show IntKind.i64.wrap ((BitVec.ofInt 64 (a : Int) ||| BitVec.ofInt 64 (b : Int)).toNat : Int) = _
  rw [BitVec.toNat_or, h1, h2, IntKind.wrap_i64]
  omega
theorem seven_bits (m : Nat) : bits .or .i64 (bits .and .i64 (m : Int) 127) 128 = ((128 + m % 128 : Nat) : Int) := by
  rw [i64_and127, show ((m : Int) % 128) = ((m % 128 : Nat) : Int) from by omega, show (128 : Int) = ((128 : Nat) : Int) from rfl, bits_or_i64_nat _ _ (by omega) (by omega)]
  have h := Nat.two_pow_add_eq_or_of_lt (i := 7) (b := m % 128) (Nat.mod_lt _ (by omega)) 1
  rw [Nat.or_comm]
  have e : 2 ^ 7 * 1 = 128 := rfl
  rw [e] at h
  rw [← h]

def bvs (l : List UInt8) : List Value := l.map fun b => Value.int .u8 b.toNat
theorem bvs_length (l : List UInt8) : (bvs l).length = l.length := by simp [bvs]
theorem bvs_append (l r : List UInt8) : bvs (l ++ r) = bvs l ++ bvs r := by simp [bvs]
theorem bvs_one (l : List UInt8) : ∀ x ∈ bvs l, x.oneCell' = true := by
  intro x hx
  obtain ⟨b, _, rfl⟩ := List.mem_map.1 hx
  rfl
theorem bvs_get {l : List UInt8} {i : Nat} (h : i < l.length) : (bvs l)[i]? = some (.int .u8 (l[i]).toNat) := by simp [bvs, List.getElem?_eq_getElem h]
theorem bvs_snoc (l : List UInt8) (b : UInt8) : bvs (l ++ [b]) = bvs l ++ [.int .u8 b.toNat] := by simp [bvs]
/-- v is the bytes l -/
def By (w : World) (v : Value) (l : List UInt8) : Prop := Sl w 1 v l.length (bvs l)
theorem By.below {w w' : World} {v : Value} {l : List UInt8} (h : By w v l) (hb : Below w.heap.size w w') : By w' v l := Sl.below h hb
theorem By.at_ {w : World} {v : Value} {l : List UInt8} (h : By w v l) : ∃ A c, v = .slice A l.length c ∧ l.length ≤ c ∧ (0 < l.length → ∃ b off, A = some ⟨b, off, none⟩ ∧ b < w.heap.size ∧ ∀ i (hi : i < l.length), w.cell? ⟨b, off + i, none⟩ = some (.int .u8 (l[i]).toNat)) := by
  obtain ⟨_, A, c, hv, hc, h2⟩ := h
  refine ⟨A, c, hv, hc, fun hn => ?_⟩
  obtain ⟨b, off, hA, hb, hcell⟩ := h2 hn
  exact ⟨b, off, hA, hb, fun i hi => hcell i _ (bvs_get hi)⟩

end Go.Proofs.Ytpjjfnpdopdnkaa
namespace Go.Proofs.Ytpjjfnpdopdnkaa
open Go.ChangeShapes Go.WideShapes Go.ChangeAt Go.RowKit Go.Joins Go.Deep

theorem getElem?_flatten_even : ∀ (cs : List (List Value)) (k : Nat), (∀ c ∈ cs, c.length = k) → ∀ (j : Nat), 0 < k → cs.flatten[j]? = (cs[j / k]?).bind fun c => c[j % k]?
  | [], k, _, j, hk => by simp
  | c :: cs, k, h, j, hk => by
    have hc : c.length = k := h c (by simp)
    rw [List.flatten_cons]
    by_cases hj : j < k
    · rw [List.getElem?_append_left (by omega), Nat.div_eq_of_lt hj, Nat.mod_eq_of_lt hj]
      simp
    · rw [List.getElem?_append_right (by omega), hc, getElem?_flatten_even cs k (fun c hc => h c (by simp [hc])) (j - k) hk]
      have e : j = (j - k) + k := by omega
      have e1 : j / k = (j - k) / k + 1 := by
        conv => lhs; rw [e]
        rw [Nat.add_div_right _ hk]
      have e2 : j % k = (j - k) % k := by
        conv => lhs; rw [e]
        rw [Nat.add_mod_right]
      rw [e1, e2]
      simp
theorem length_flatten_even : ∀ (cs : List (List Value)) (k : Nat), (∀ c ∈ cs, c.length = k) → cs.flatten.length = cs.length * k
  | [], k, _ => by simp
  | c :: cs, k, h => by
    rw [List.flatten_cons, List.length_append, length_flatten_even cs k (fun c hc => h c (by simp [hc])), h c (by simp), List.length_cons, Nat.add_mul]
    omega

section
variable {H : Type} {enc : TypeId × Value → H} {P : Program} {w : World} {base : Nat} {spare : Nat → Bool} {held : Bool}

theorem open_sl {t e : TypeId} {k fuel : Nat} {v : Value} {x : DataW H × List MemPlace} (ht : P.underlying t = some (.slice e)) (hc : P.cellsOf e = k) (hk : 0 < k) (h : DataW.trod enc P w base spare held fuel t [v] = some x) :
    ∃ (cs : List (List Value)) (ds sp : List (DataW H)), Sl w k v cs.length cs.flatten ∧ cs.length ≤ maxLen ∧ ds.length = cs.length ∧ (x.1 = .slice ds sp ∨ (x.1 = .nil ∧ cs = [])) ∧
      ∀ i (hi : i < cs.length) (hd : i < ds.length), ∃ n y, DataW.trod enc P w base spare held n e cs[i] = some y ∧ ds[i] = y.1 := by
  rcases open_slice ht h with ⟨hcs, rfl⟩ | ⟨a, len, cap, m, n, D, Pl, hcs, hb, hl, hmx, hm, rfl, hx⟩
  · injection hcs with hv
    subst hv
    exact ⟨[], [], [], ⟨by simp, none, 0, rfl, by simp, fun h => by simp at h⟩, by simp, rfl, Or.inr ⟨rfl, rfl⟩, fun i hi => by simp at hi⟩
  · injection hcs with hv
    subst hv
    have hlm : len ≤ m := by subst hm; split <;> omega
    obtain ⟨C, hC⟩ := choose_lt (α := List Value) (p := fun i c => w.cells? base (a.add (i * P.cellsOf e)) (P.cellsOf e) = some c ∧ DataW.trod enc P w base spare held n e c = some (D i, Pl i)) (n := m) (fun i hi => hx i hi)
    have hlen : ∀ c ∈ (List.range len).map C, c.length = k := by
      intro c hc'
      obtain ⟨i, hi, rfl⟩ := List.mem_map.1 hc'
      have := (World.cells?_some (hC i (by have := List.mem_range.1 hi; omega)).1).2.1
      omega
    refine ⟨(List.range len).map C, (List.range len).map D, _, ?_, by simp; omega, by simp, Or.inl rfl, ?_⟩
    · refine ⟨length_flatten_even _ _ hlen, some a, cap, by simp, by simpa using hl, fun hn => ?_⟩
      have hn' : 0 < len := by simpa using hn
      have h0 := World.cells?_some (hC 0 (by omega)).1
      have hcell : ∀ i, i < len → ∀ j, j < k → w.cell? (a.add (i * k + j)) = (C i)[j]? := by
        intro i hi j hj
        have := (World.cells?_some (hC i (by omega)).1).2.2 j (by omega)
        rw [add_add, hc] at this
        exact this
      obtain ⟨b, off, spot⟩ := a
      have hs : spot = none := by
        have h1 := hcell 0 hn' 0 hk
        rw [List.getElem?_eq_getElem (by have := h0.2.1; omega)] at h1
        simpa [Addr.add] using World.cell?_spot h1
      subst hs
      have hadd : ∀ j, (Addr.add ⟨b, off, none⟩ j) = ⟨b, off + j, none⟩ := by
        intro j
        unfold Addr.add
        by_cases hj : j = 0 <;> simp [hj]
      have key : ∀ j u, ((List.range len).map C).flatten[j]? = some u → w.cell? ⟨b, off + j, none⟩ = some u := by
        intro j u hu
        rw [getElem?_flatten_even _ k hlen j hk] at hu
        obtain ⟨c, hc1, hc2⟩ := Option.bind_eq_some_iff.1 hu
        obtain ⟨hlt, hce⟩ := List.getElem?_eq_some_iff.1 hc1
        simp only [List.length_map, List.length_range] at hlt
        simp only [List.getElem_map, List.getElem_range] at hce
        subst hce
        have h2 := hcell (j / k) hlt (j % k) (Nat.mod_lt _ hk)
        rw [Nat.mul_comm, Nat.div_add_mod, hadd] at h2
        rw [h2]; exact hc2
      refine ⟨b, off, rfl, ?_, key⟩
      have h1 := hcell 0 hn' 0 hk
      rw [List.getElem?_eq_getElem (by have := h0.2.1; omega)] at h1
      simpa [Addr.add] using cell_lt h1
    · intro i hi hd
      simp only [List.length_map, List.length_range] at hi
      refine ⟨n, (D i, Pl i), ?_, ?_⟩
      · simpa using (hC i (by omega)).2
      · simp

/-- all that the datum weighs is within the machine's reach -/
def fits (P : Program) (t : TypeId) (d : DataW H) : Prop := ∀ n ∈ d.weights P t, n ≤ reachBytes
theorem weightsAll_mem_ {P : Program} {e : TypeId} : ∀ {l : List (DataW H)} {d : DataW H}, d ∈ l → ∀ n ∈ d.weights P e, n ∈ DataW.weightsAll P e l
  | d' :: r, d, hd, n, hn => by
    simp only [DataW.weightsAll, List.mem_append]
    rcases List.mem_cons.1 hd with rfl | h
    · exact Or.inl hn
    · exact Or.inr (weightsAll_mem_ h n hn)
theorem fits_row {t e : TypeId} {l sp : List (DataW H)} (hu : P.underlying t = some (.slice e)) (h : fits P t (.slice l sp)) : l.length * P.bytesOf e ≤ reachBytes ∧ ∀ d ∈ l, fits P e d := by
  constructor
  · have := h ((l.length + sp.length) * P.bytesOf e) (by simp [DataW.weights, hu])
    exact Nat.le_trans (Nat.mul_le_mul_right _ (by omega)) this
  · intro d hd n hn
    exact h n (by simp only [DataW.weights, hu, List.mem_cons, List.mem_append]; exact Or.inr (Or.inl (weightsAll_mem_ hd n hn)))
theorem fits_field {t : TypeId} {fs : Array Field} {l : List (DataW H)} (hu : P.underlying t = some (.struct fs)) (h : fits P t (.agg l)) {i : Nat} {f : Field} {d : DataW H} (hf : fs[i]? = some f) (hd : l[i]? = some d) : fits P f.type d := by
  intro n hn
  refine h n ?_
  simp only [DataW.weights, hu]
  exact DataW.weights_mem_each (j := i) (t := f.type) (by simp [hf]) hd n hn
theorem fits_arg {ts : List TypeId} {ds : List (DataW H)} (h : (DataW.weightsEach P ts ds).all (· ≤ reachBytes) = true) {j : Nat} {t : TypeId} {d : DataW H} (ht : ts[j]? = some t) (hd : ds[j]? = some d) : fits P t d :=
  fun n hn => by simpa using List.all_eq_true.1 h n (DataW.weights_mem_each ht hd n hn)
end
end Go.Proofs.Ytpjjfnpdopdnkaa
namespace Go.Proofs.Ytpjjfnpdopdnkaa
open Go.RowKit

/-- v reads as the list l, one cell each -/
def L1 {α : Type} (f : α → Value) (w : World) (v : Value) (l : List α) : Prop := Sl w 1 v l.length (l.map f)
theorem L1.at_ {α : Type} {f : α → Value} {w : World} {v : Value} {l : List α} (h : L1 f w v l) : ∃ A c, v = .slice A l.length c ∧ l.length ≤ c ∧ (0 < l.length → ∃ b off, A = some ⟨b, off, none⟩ ∧ b < w.heap.size ∧ ∀ i (hi : i < l.length), w.cell? ⟨b, off + i, none⟩ = some (f l[i])) := by
  obtain ⟨_, A, c, hv, hc, h2⟩ := h
  refine ⟨A, c, hv, hc, fun hn => ?_⟩
  obtain ⟨b, off, hA, hb, hcell⟩ := h2 hn
  exact ⟨b, off, hA, hb, fun i hi => hcell i _ (by simp [List.getElem?_eq_getElem hi])⟩
theorem L1.below {α : Type} {f : α → Value} {w w' : World} {v : Value} {l : List α} (h : L1 f w v l) (hb : Below w.heap.size w w') : L1 f w' v l := Sl.below h hb
abbrev Is := L1 (Value.int .i64)
abbrev Bs := L1 Value.bool
abbrev Ss := L1 Value.string

/-- the first k are the same -/
def agree {α : Type} (xs ys : List α) (k : Nat) : Prop := xs.take k = ys.take k
theorem agree_step {α : Type} {xs ys : List α} {k : Nat} (h : agree xs ys k) (hx : k < xs.length) (hy : k < ys.length) (he : xs[k] = ys[k]) : agree xs ys (k + 1) := by
  unfold agree at *
  rw [List.take_succ_eq_append_getElem hx, List.take_succ_eq_append_getElem hy, h, he]
theorem agree_all {α : Type} {xs ys : List α} (h : agree xs ys xs.length) (hl : xs.length = ys.length) : xs = ys := by
  unfold agree at h
  rwa [List.take_length, hl, List.take_length] at h

theorem below_drewN_ (w : World) (n : Nat) : Below w.heap.size w (w.drewN n) := ⟨rfl, rfl, rfl, Nat.le_refl _, fun _ _ => rfl⟩

set_option maxRecDepth 100000 in
set_option maxHeartbeats 1000000 in
theorem sameInts_any (u v : Value) (xs ys : List Int) (w : World) (hu : Is w u xs) (hv : Is w v ys) (hx : xs.length ≤ 9223372036854775807) (hy : ys.length ≤ 9223372036854775807) :
    Calls Try.prog 70 #[u, v] w fun e w' => e = .returned (.bool (decide (xs = ys))) ∧ ∃ n, w' = w.drewN n := by
  obtain ⟨A, c, rfl, hc, hcx⟩ := hu.at_
  obtain ⟨B, d, rfl, hd, hcy⟩ := hv.at_
  by_cases hl : xs.length = ys.length
  · have hl1 : ((xs.length : Int) != (ys.length : Int)) = false := by rw [hl]; simp
    have HL := Lib.hid hl
    clear hl
    go_enter Try.func70, Try.ntmps70
    go_wp2
    clear hl1
    go_loopw [5] (fun i wr => ∃ k : Nat, k ≤ xs.length ∧ i = .int .i64 k ∧ Hid (agree xs ys k) ∧ ∃ n, wr = w.drewN n) (fun i _ => xs.length - (intOf i).toNat)
    case atStart => exact ⟨0, by omega, rfl, rfl, 0, rfl⟩
    case round =>
      obtain ⟨k, hk, rfl, hag, n, rfl⟩ := hrel
      by_cases hlt : k < xs.length
      · have hlt' : k < ys.length := by have := HL.out; omega
        obtain ⟨b1, o1, rfl, hb1, hc1⟩ := hcx (by omega)
        obtain ⟨b2, o2, rfl, hb2, hc2⟩ := hcy (by omega)
        have h1 := hc1 k hlt
        have h2 := hc2 k hlt'
        have i0 : (0 : Int) ≤ (k : Int) := by omega
        have i1 : (k : Int) < (xs.length : Int) := by omega
        have i2 : (k : Int) < (ys.length : Int) := by omega
        clear hcx hcy hc1 hc2
        by_cases he : xs[k] = ys[k]
        · have he1 : (xs[k] != ys[k]) = false := by rw [he]; simp
          have HE := Lib.hid he
          clear he
          go_wp2
          go_quiet (fail)
          go_wp2
          go_light
          refine ⟨⟨k + 1, by omega, by go_num, agree_step hag.out hlt hlt' HE.out, _, by first | rfl | exact World.drewN_drewN _ _ _⟩, by simp [intOf]; omega⟩
        · have he1 : (xs[k] != ys[k]) = true := by rw [bne_iff_ne]; exact he
          have hne : xs ≠ ys := fun e => he (by subst e; rfl)
          have HE := Lib.hid hne
          clear he hne
          go_wp2
          go_quiet (fail)
          go_wp2
          go_ret
          refine ⟨ret_bool ?_, _, by first | rfl | exact World.drewN_drewN _ _ _⟩
          simp [HE.out]
      · obtain rfl : k = xs.length := by omega
        have he := agree_all hag.out HL.out
        have HE := Lib.hid he
        clear he hlt
        go_wp2
        go_ret
        refine ⟨ret_bool ?_, _, by first | rfl | exact World.drewN_drewN _ _ _⟩
        simp [HE.out]
  · have hl1 : ((xs.length : Int) != (ys.length : Int)) = true := by rw [bne_iff_ne]; omega
    have hne : xs ≠ ys := fun e => hl (by rw [e])
    have HE := Lib.hid hne
    clear hl hne
    go_enter Try.func70, Try.ntmps70
    go_wp2
    go_ret
    refine ⟨ret_bool ?_, 0, rfl⟩
    simp [HE.out]

end Go.Proofs.Ytpjjfnpdopdnkaa
namespace Go.Proofs.Ytpjjfnpdopdnkaa
open Go.ChangeShapes Go.WideShapes Go.ChangeAt Go.RowKit Go.Joins Go.Deep

section
variable {H : Type} {enc : TypeId × Value → H} {P : Program} {w : World} {base : Nat} {spare : Nat → Bool} {held : Bool}
theorem open_cells2 {t : TypeId} {f0 f1 : Field} {fuel : Nat} {cs : List Value} {x : DataW H × List MemPlace} (hs : P.underlying t = some (.struct #[f0, f1])) (hone : oneCellFields P #[f0, f1] = true) (hC : P.cellsOf t = 2)
    (h : DataW.trod enc P w base spare held fuel t cs = some x) :
    ∃ (v0 v1 : Value) (y0 y1 : DataW H × List MemPlace) (n : Nat), cs = [v0, v1] ∧ x.1 = .agg [y0.1, y1.1] ∧ DataW.trod enc P w base spare held n f0.type [v0] = some y0 ∧ DataW.trod enc P w base spare held n f1.type [v1] = some y1 := by
  obtain ⟨xs, n, _, rfl, hcl, hlen, hg⟩ := DataW.trod_struct hs h
  match cs, hcl.trans hC with
  | [c0, c1], _ =>
    obtain ⟨o0, k0⟩ := hone_of hone 0 f0 rfl
    obtain ⟨o1, k1⟩ := hone_of hone 1 f1 rfl
    match xs, hlen with
    | [y0, y1], _ =>
      exact ⟨c0, c1, y0, y1, n, rfl, rfl, by simpa [o0, k0] using hg 0 f0 rfl, by simpa [o1, k1] using hg 1 f1 rfl⟩
theorem open_cells7 {t : TypeId} {f0 f1 f2 f3 f4 f5 f6 : Field} {fuel : Nat} {cs : List Value} {x : DataW H × List MemPlace} (hs : P.underlying t = some (.struct #[f0, f1, f2, f3, f4, f5, f6])) (hone : oneCellFields P #[f0, f1, f2, f3, f4, f5, f6] = true) (hC : P.cellsOf t = 7)
    (h : DataW.trod enc P w base spare held fuel t cs = some x) :
    ∃ (v0 v1 v2 v3 v4 v5 v6 : Value) (y0 y1 y2 y3 y4 y5 y6 : DataW H × List MemPlace) (n : Nat), cs = [v0, v1, v2, v3, v4, v5, v6] ∧ x.1 = .agg [y0.1, y1.1, y2.1, y3.1, y4.1, y5.1, y6.1] ∧
      DataW.trod enc P w base spare held n f0.type [v0] = some y0 ∧ DataW.trod enc P w base spare held n f1.type [v1] = some y1 ∧ DataW.trod enc P w base spare held n f2.type [v2] = some y2 ∧ DataW.trod enc P w base spare held n f3.type [v3] = some y3 ∧ DataW.trod enc P w base spare held n f4.type [v4] = some y4 ∧ DataW.trod enc P w base spare held n f5.type [v5] = some y5 ∧ DataW.trod enc P w base spare held n f6.type [v6] = some y6 := by
  obtain ⟨xs, n, _, rfl, hcl, hlen, hg⟩ := DataW.trod_struct hs h
  match cs, hcl.trans hC with
  | [c0, c1, c2, c3, c4, c5, c6], _ =>
    obtain ⟨o0, k0⟩ := hone_of hone 0 f0 rfl
    obtain ⟨o1, k1⟩ := hone_of hone 1 f1 rfl
    obtain ⟨o2, k2⟩ := hone_of hone 2 f2 rfl
    obtain ⟨o3, k3⟩ := hone_of hone 3 f3 rfl
    obtain ⟨o4, k4⟩ := hone_of hone 4 f4 rfl
    obtain ⟨o5, k5⟩ := hone_of hone 5 f5 rfl
    obtain ⟨o6, k6⟩ := hone_of hone 6 f6 rfl
    match xs, hlen with
    | [y0, y1, y2, y3, y4, y5, y6], _ =>
      exact ⟨c0, c1, c2, c3, c4, c5, c6, y0, y1, y2, y3, y4, y5, y6, n, rfl, rfl, by simpa [o0, k0] using hg 0 f0 rfl, by simpa [o1, k1] using hg 1 f1 rfl, by simpa [o2, k2] using hg 2 f2 rfl, by simpa [o3, k3] using hg 3 f3 rfl, by simpa [o4, k4] using hg 4 f4 rfl, by simpa [o5, k5] using hg 5 f5 rfl, by simpa [o6, k6] using hg 6 f6 rfl⟩

/-- an int that lies in an int -/
def I64 (x : Int) : Prop := (Lit.int .i64 x).wf = true

theorem open_ints {fuel : Nat} {v : Value} {x : DataW H × List MemPlace} (h : DataW.trod enc Try.prog w base spare held fuel 23 [v] = some x) :
    ∃ l : List Int, Is w v l ∧ l.length ≤ maxLen ∧ (∀ b ∈ l, I64 b) ∧ (fits Try.prog 23 x.1 → l.length * 8 ≤ reachBytes) := by
  obtain ⟨cs, ds, sp, hsl, hm, hl, hd, he⟩ := open_sl (k := 1) Try.underlying23 (by kernel_rfl) (by decide) h
  have key : ∀ cs : List (List Value), (∀ c ∈ cs, ∃ b : Int, c = [Value.int .i64 b] ∧ I64 b) → ∃ l : List Int, cs.flatten = l.map (Value.int .i64) ∧ l.length = cs.length ∧ ∀ b ∈ l, I64 b := by
    intro cs
    induction cs with
    | nil => exact fun _ => ⟨[], rfl, rfl, by simp⟩
    | cons c cs ih =>
      intro hcs
      obtain ⟨l, h1, h2, h3⟩ := ih (fun c hc => hcs c (by simp [hc]))
      obtain ⟨b, rfl, hb⟩ := hcs c (by simp)
      exact ⟨b :: l, by simp [h1], by simp [h2], by simpa using ⟨hb, h3⟩⟩
  obtain ⟨l, h1, h2, h3⟩ := key cs (fun c hc => by
    obtain ⟨i, hi, rfl⟩ := List.mem_iff_getElem.1 hc
    obtain ⟨n, y, h4, -⟩ := he i hi (by omega)
    obtain ⟨b, e1, -, e2⟩ := DataW.trod_int Try.underlying3 h4
    exact ⟨b, e1, e2⟩)
  refine ⟨l, ?_, by omega, h3, fun hf => ?_⟩
  · rw [h1, ← h2] at hsl; exact hsl
  · rcases hd with hd | ⟨hd, rfl⟩
    · rw [hd] at hf
      have := (fits_row Try.underlying23 hf).1
      have e : Try.prog.bytesOf 3 = 8 := by kernel_rfl
      rw [e] at this
      omega
    · simp at h2; subst h2; simp

end
end Go.Proofs.Ytpjjfnpdopdnkaa
namespace Go.Proofs.Ytpjjfnpdopdnkaa
open Go.RowKit

theorem below_then {a b c : World} (h : Below a.heap.size a b) (k : Below b.heap.size b c) : Below a.heap.size a c := h.trans (k.mono h.size)
/-- the call says whether P holds; memory only grows -/
def Tells (P : Prop) (w : World) (e : Ending) (w' : World) : Prop := ∃ b : Bool, e = .returned (.bool b) ∧ (b = true ↔ P) ∧ Below w.heap.size w w'
theorem Tells.yes {P : Prop} {w w' : World} {e : Ending} (h : Tells P w e w') (hp : P) : e = .returned (.bool true) ∧ Below w.heap.size w w' := by
  obtain ⟨b, rfl, hb, hw⟩ := h
  rw [hb.2 hp]
  exact ⟨rfl, hw⟩
theorem Tells.no {P : Prop} {w w' : World} {e : Ending} (h : Tells P w e w') (hp : ¬ P) : e = .returned (.bool false) ∧ Below w.heap.size w w' := by
  obtain ⟨b, rfl, hb, hw⟩ := h
  rcases b with _ | _
  · exact ⟨rfl, hw⟩
  · exact absurd (hb.1 rfl) hp
theorem Tells.mk_yes {P : Prop} {w w' : World} (hp : P) (hw : Below w.heap.size w w') : Tells P w (.returned (.bool true)) w' := ⟨true, rfl, by simp [hp], hw⟩
theorem Tells.mk_no {P : Prop} {w w' : World} (hp : ¬ P) (hw : Below w.heap.size w w') : Tells P w (.returned (.bool false)) w' := ⟨false, rfl, by simp [hp], hw⟩
/-- the call gives the first place below n at which P holds, or -1; memory only grows -/
def Finds (P : Nat → Prop) (n : Nat) (w : World) (e : Ending) (w' : World) : Prop :=
  ∃ r : Int, e = .returned (.int .i64 r) ∧ Below w.heap.size w w' ∧ ((∃ k : Nat, k < n ∧ r = k ∧ P k ∧ ∀ j, j < k → ¬ P j) ∨ (r = -1 ∧ ∀ j, j < n → ¬ P j))
end Go.Proofs.Ytpjjfnpdopdnkaa
namespace Go.Proofs.Ytpjjfnpdopdnkaa
open Go.RowKit

structure RepD where
  up : Bool
  bytes : List UInt8
  synced : Int
  high : Int
structure PartD where
  epoch : Int
  leader : Int
  isr : List Bool
  known : List Int
  reps : List RepD
  few : Int
  base : Int
/-- a row of the slice: its data and the slice of its bytes -/
def rcells (t : RepD × Value) : List Value := [.bool t.1.up, t.2, .int .i64 t.1.synced, .int .i64 t.1.high]
theorem rcells_get : ∀ (l : List (RepD × Value)) (i : Nat) (h : i < l.length) (j : Nat), j < 4 → (l.flatMap rcells)[i * 4 + j]? = (rcells l[i])[j]?
  | e :: l, 0, _, j, hj => by
    rw [List.flatMap_cons, List.getElem?_append_left (by simp [rcells]; omega)]
    simp
  | e :: l, i + 1, h, j, hj => by
    have hl : (rcells e).length = 4 := rfl
    rw [List.flatMap_cons, List.getElem?_append_right (by rw [hl]; omega), hl, show (i + 1) * 4 + j - 4 = i * 4 + j from by omega]
    exact rcells_get l i (by simpa using h) j hj
/-- v reads as the replicas ds -/
def Reps (w : World) (v : Value) (ds : List RepD) : Prop :=
  ∃ rows : List (RepD × Value), rows.map Prod.fst = ds ∧ Sl w 4 v ds.length (rows.flatMap rcells) ∧ ∀ t ∈ rows, By w t.2 t.1.bytes ∧ t.1.bytes.length ≤ 9223372036854775807
def partV (c : PartD) (iv kv rv : Value) : Value := .agg #[.int .i64 c.epoch, .int .i64 c.leader, iv, kv, rv, .int .i64 c.few, .int .i64 c.base]
def Pv (w : World) (v : Value) (c : PartD) : Prop := ∃ iv kv rv, v = partV c iv kv rv ∧ Bs w iv c.isr ∧ Is w kv c.known ∧ Reps w rv c.reps ∧ c.isr.length ≤ 9223372036854775807 ∧ c.known.length ≤ 9223372036854775807 ∧ c.reps.length ≤ 9223372036854775807
theorem Reps.below {w w' : World} {v : Value} {ds : List RepD} (h : Reps w v ds) (hb : Below w.heap.size w w') : Reps w' v ds := by
  obtain ⟨rows, h1, h2, h3⟩ := h
  exact ⟨rows, h1, h2.below hb, fun t ht => ⟨(h3 t ht).1.below hb, (h3 t ht).2⟩⟩
theorem Pv.below {w w' : World} {v : Value} {c : PartD} (h : Pv w v c) (hb : Below w.heap.size w w') : Pv w' v c := by
  obtain ⟨iv, kv, rv, h1, h2, h3, h4, h5⟩ := h
  exact ⟨iv, kv, rv, h1, h2.below hb, h3.below hb, h4.below hb, h5⟩
theorem Reps.at_ {w : World} {v : Value} {ds : List RepD} (h : Reps w v ds) : ∃ A c, v = .slice A ds.length c ∧ ds.length ≤ c ∧ (0 < ds.length → ∃ b off, A = some ⟨b, off, none⟩ ∧ b < w.heap.size ∧
    ∀ i (hi : i < ds.length), ∃ pv, w.cell? ⟨b, off + i * 4, none⟩ = some (.bool ds[i].up) ∧ w.cell? ⟨b, off + i * 4 + 1, none⟩ = some pv ∧ w.cell? ⟨b, off + i * 4 + 2, none⟩ = some (.int .i64 ds[i].synced) ∧ w.cell? ⟨b, off + i * 4 + 3, none⟩ = some (.int .i64 ds[i].high) ∧ By w pv ds[i].bytes ∧ ds[i].bytes.length ≤ 9223372036854775807) := by
  obtain ⟨rows, hr, ⟨hl, A, c, hv, hc, h2⟩, h3⟩ := h
  refine ⟨A, c, hv, hc, fun hn => ?_⟩
  obtain ⟨b, off, hA, hb, hcell⟩ := h2 hn
  refine ⟨b, off, hA, hb, fun i hi => ?_⟩
  subst hr
  have hi' : i < rows.length := by simpa using hi
  have he : (rows.map Prod.fst)[i] = rows[i].1 := by simp
  rw [he]
  have key : ∀ j u, j < 4 → (rcells rows[i])[j]? = some u → w.cell? ⟨b, off + i * 4 + j, none⟩ = some u := fun j u hj hu => by
    rw [Nat.add_assoc]
    exact hcell (i * 4 + j) u ((rcells_get rows i hi' j hj).trans hu)
  have hm := h3 rows[i] (List.getElem_mem _)
  exact ⟨rows[i].2, key 0 _ (by omega) rfl, key 1 _ (by omega) rfl, key 2 _ (by omega) rfl, key 3 _ (by omega) rfl, hm.1, hm.2⟩
end Go.Proofs.Ytpjjfnpdopdnkaa
namespace Go.Proofs.Ytpjjfnpdopdnkaa
open Go.ChangeShapes Go.WideShapes Go.ChangeAt Go.RowKit Go.Joins Go.Deep

section
variable {H : Type} {enc : TypeId × Value → H} {w : World} {base : Nat} {spare : Nat → Bool} {held : Bool}
theorem u8_of {b : Int} (h : (Lit.int .u8 b).wf = true) : b = ((UInt8.ofNat b.toNat).toNat : Int) := by
  have h2 : 0 ≤ b ∧ b ≤ 255 := by
    simp [Lit.wf, IntKind.min, IntKind.max, IntKind.signed, IntKind.bits] at h
    omega
  obtain ⟨n, rfl⟩ := Int.eq_ofNat_of_zero_le h2.1
  simp
  omega
theorem open_bytes {fuel : Nat} {v : Value} {x : DataW H × List MemPlace} (h : DataW.trod enc Try.prog w base spare held fuel 34 [v] = some x) :
    ∃ l : List UInt8, By w v l ∧ l.length ≤ maxLen ∧ (fits Try.prog 34 x.1 → l.length ≤ reachBytes) := by
  obtain ⟨cs, ds, sp, hsl, hm, hl, hd, he⟩ := open_sl (k := 1) Try.underlying34 (by kernel_rfl) (by decide) h
  have key : ∀ cs : List (List Value), (∀ c ∈ cs, ∃ b : Int, c = [Value.int .u8 b] ∧ (Lit.int .u8 b).wf = true) → ∃ l : List UInt8, cs.flatten = bvs l ∧ l.length = cs.length := by
    intro cs
    induction cs with
    | nil => exact fun _ => ⟨[], rfl, rfl⟩
    | cons c cs ih =>
      intro hcs
      obtain ⟨l, h1, h2⟩ := ih (fun c hc => hcs c (by simp [hc]))
      obtain ⟨b, rfl, hb⟩ := hcs c (by simp)
      exact ⟨UInt8.ofNat b.toNat :: l, by rw [List.flatten_cons, h1]; show [Value.int .u8 b] ++ bvs l = [Value.int .u8 _] ++ bvs l; rw [← u8_of hb], by simp [h2]⟩
  obtain ⟨l, h1, h2⟩ := key cs (fun c hc => by
    obtain ⟨i, hi, rfl⟩ := List.mem_iff_getElem.1 hc
    obtain ⟨n, y, h4, -⟩ := he i hi (by omega)
    obtain ⟨b, e1, -, e2⟩ := DataW.trod_int Try.underlying5 h4
    exact ⟨b, e1, e2⟩)
  refine ⟨l, ?_, by omega, fun hf => ?_⟩
  · rw [h1, ← h2] at hsl; exact hsl
  · rcases hd with hd | ⟨hd, rfl⟩
    · rw [hd] at hf
      have := (fits_row Try.underlying34 hf).1
      have e : Try.prog.bytesOf 5 = 1 := by kernel_rfl
      rw [e] at this
      omega
    · simp at h2; subst h2; simp
theorem open_bools {fuel : Nat} {v : Value} {x : DataW H × List MemPlace} (h : DataW.trod enc Try.prog w base spare held fuel 22 [v] = some x) :
    ∃ l : List Bool, Bs w v l ∧ l.length ≤ maxLen ∧ (fits Try.prog 22 x.1 → l.length ≤ reachBytes) := by
  obtain ⟨cs, ds, sp, hsl, hm, hl, hd, he⟩ := open_sl (k := 1) Try.underlying22 (by kernel_rfl) (by decide) h
  have key : ∀ cs : List (List Value), (∀ c ∈ cs, ∃ b : Bool, c = [Value.bool b]) → ∃ l : List Bool, cs.flatten = l.map Value.bool ∧ l.length = cs.length := by
    intro cs
    induction cs with
    | nil => exact fun _ => ⟨[], rfl, rfl⟩
    | cons c cs ih =>
      intro hcs
      obtain ⟨l, h1, h2⟩ := ih (fun c hc => hcs c (by simp [hc]))
      obtain ⟨b, rfl⟩ := hcs c (by simp)
      exact ⟨b :: l, by simp [h1], by simp [h2]⟩
  obtain ⟨l, h1, h2⟩ := key cs (fun c hc => by
    obtain ⟨i, hi, rfl⟩ := List.mem_iff_getElem.1 hc
    obtain ⟨n, y, h4, -⟩ := he i hi (by omega)
    obtain ⟨b, e1, -⟩ := DataW.trod_bool Try.underlying4 h4
    exact ⟨b, e1⟩)
  refine ⟨l, ?_, by omega, fun hf => ?_⟩
  · rw [h1, ← h2] at hsl; exact hsl
  · rcases hd with hd | ⟨hd, rfl⟩
    · rw [hd] at hf
      have := (fits_row Try.underlying22 hf).1
      have e : Try.prog.bytesOf 4 = 1 := by kernel_rfl
      rw [e] at this
      omega
    · simp at h2; subst h2; simp

def RepD.Wf (t : RepD) : Prop := t.bytes.length ≤ maxLen ∧ I64 t.synced ∧ I64 t.high
def PartD.Wf (c : PartD) : Prop := I64 c.epoch ∧ I64 c.leader ∧ c.isr.length ≤ maxLen ∧ c.known.length ≤ maxLen ∧ (∀ b ∈ c.known, I64 b) ∧ c.reps.length ≤ maxLen ∧ (∀ t ∈ c.reps, t.Wf) ∧ I64 c.few ∧ I64 c.base
def PartD.Small (c : PartD) : Prop := c.isr.length ≤ reachBytes ∧ c.known.length * 8 ≤ reachBytes ∧ c.reps.length * 48 ≤ reachBytes ∧ ∀ t ∈ c.reps, t.bytes.length ≤ reachBytes

theorem open_log {fuel : Nat} {cs : List Value} {x : DataW H × List MemPlace} (h : DataW.trod enc Try.prog w base spare held fuel 42 cs = some x) :
    ∃ (l : List UInt8) (s : Int) (pv : Value), cs = [pv, .int .i64 s] ∧ By w pv l ∧ l.length ≤ maxLen ∧ I64 s ∧ (fits Try.prog 42 x.1 → l.length ≤ reachBytes) := by
  obtain ⟨u0, u1, y0, y1, n, rfl, hx, g0, g1⟩ := open_cells2 Try.underlying42 (by kernel_rfl) (by kernel_rfl) h
  obtain ⟨l, hl, hm, hf⟩ := open_bytes g0
  obtain ⟨e1, z1, j1, w1⟩ := DataW.trod_int Try.underlying3 g1
  simp only [List.cons.injEq, and_true] at z1
  subst z1
  refine ⟨l, e1, u0, rfl, hl, hm, w1, fun hF => ?_⟩
  rw [hx] at hF
  exact hf (fits_field Try.underlying42 hF (i := 0) rfl rfl)
set_option maxRecDepth 100000 in
theorem open_rep {fuel : Nat} {cs : List Value} {x : DataW H × List MemPlace} (h : DataW.trod enc Try.prog w base spare held fuel 71 cs = some x) :
    ∃ (t : RepD) (pv : Value), cs = rcells (t, pv) ∧ By w pv t.bytes ∧ t.Wf ∧ (fits Try.prog 71 x.1 → t.bytes.length ≤ reachBytes) := by
  obtain ⟨y0, y1, y2, n, rfl, hcl, g0, g1, g2⟩ := trod_struct3 Try.underlying71 h
  have e4 : Try.prog.cellsOf 71 = 4 := by kernel_rfl
  have eb : Try.prog.cellsOf 4 = 1 := by kernel_rfl
  have el : Try.prog.cellsOf 42 = 2 := by kernel_rfl
  have ei : Try.prog.cellsOf 3 = 1 := by kernel_rfl
  match cs, hcl.trans e4 with
  | [c0, c1, c2, c3], _ =>
    simp only [eb, el, ei, List.drop_zero, List.drop_succ_cons, List.take_succ_cons, List.take_zero] at g0 g1 g2
    obtain ⟨e0, z0, j0⟩ := DataW.trod_bool Try.underlying4 g0
    obtain ⟨l, s, pv, z1, hl, hm, w1, hf⟩ := open_log g1
    obtain ⟨e3, z3, j3, w3⟩ := DataW.trod_int Try.underlying3 g2
    simp only [List.cons.injEq, and_true] at z0 z1 z3
    obtain ⟨rfl, rfl⟩ := z1
    subst z0 z3
    refine ⟨⟨e0, l, s, e3⟩, c1, rfl, hl, ⟨hm, w1, w3⟩, fun hF => ?_⟩
    exact hf (fits_field Try.underlying71 hF (i := 1) rfl rfl)
theorem open_reps {fuel : Nat} {v : Value} {x : DataW H × List MemPlace} (h : DataW.trod enc Try.prog w base spare held fuel 24 [v] = some x) :
    ∃ ds : List RepD, Reps w v ds ∧ ds.length ≤ maxLen ∧ (∀ t ∈ ds, t.Wf) ∧ (fits Try.prog 24 x.1 → ds.length * 48 ≤ reachBytes ∧ ∀ t ∈ ds, t.bytes.length ≤ reachBytes) := by
  obtain ⟨cs, ds, sp, hsl, hm, hl, hd, he⟩ := open_sl (k := 4) Try.underlying24 (by kernel_rfl) (by decide) h
  have key : ∀ (cs : List (List Value)) (ds : List (DataW H)), ds.length = cs.length → (∀ i (hi : i < cs.length) (hd : i < ds.length), ∃ n y, DataW.trod enc Try.prog w base spare held n 71 cs[i] = some y ∧ ds[i] = y.1) →
      ∃ rows : List (RepD × Value), cs.flatten = rows.flatMap rcells ∧ rows.length = cs.length ∧ ∀ t ∈ rows, By w t.2 t.1.bytes ∧ t.1.Wf ∧ ((∀ d ∈ ds, fits Try.prog 71 d) → t.1.bytes.length ≤ reachBytes) := by
    intro cs
    induction cs with
    | nil => exact fun _ _ _ => ⟨[], rfl, rfl, by simp⟩
    | cons c cs ih =>
      intro ds hl he
      match ds, hl with
      | d :: ds, hl =>
        obtain ⟨rows, h1, h2, h3⟩ := ih ds (by simpa using hl) (fun i hi hd => he (i + 1) (by simp; omega) (by simp; omega))
        obtain ⟨n, y, h4, h5⟩ := he 0 (by simp) (by simp)
        simp only [List.getElem_cons_zero] at h4 h5
        obtain ⟨t, pv, h6, h7, h8, h9⟩ := open_rep h4
        refine ⟨(t, pv) :: rows, by simp [h1, h6], by simp [h2], fun t' ht' => ?_⟩
        rcases List.mem_cons.1 ht' with rfl | ht'
        · exact ⟨h7, h8, fun hf => h9 (h5 ▸ hf d (by simp))⟩
        · obtain ⟨a1, a2, a3⟩ := h3 t' ht'
          exact ⟨a1, a2, fun hf => a3 (fun d hd => hf d (by simp [hd]))⟩
  obtain ⟨rows, h1, h2, h3⟩ := key cs ds hl he
  refine ⟨rows.map Prod.fst, ⟨rows, rfl, ?_, fun t ht => ⟨(h3 t ht).1, ?_⟩⟩, by simp; omega, ?_, fun hf => ?_⟩
  · rw [h1] at hsl
    simpa [h2] using hsl
  · have := (h3 t ht).2.1.1
    simp only [maxLen] at this
    omega
  · intro t ht
    obtain ⟨a, ha, rfl⟩ := List.mem_map.1 ht
    exact (h3 a ha).2.1
  · rcases hd with hd | ⟨hd, rfl⟩
    · rw [hd] at hf
      obtain ⟨f1, f2⟩ := fits_row Try.underlying24 hf
      have e : Try.prog.bytesOf 71 = 48 := by kernel_rfl
      rw [e] at f1
      refine ⟨by simp; omega, fun t ht => ?_⟩
      obtain ⟨a, ha, rfl⟩ := List.mem_map.1 ht
      exact (h3 a ha).2.2 f2
    · simp only [List.length_nil, List.length_eq_zero_iff] at h2
      subst h2
      simp

set_option maxRecDepth 100000 in
theorem open_part {r : Reach} {b0 : Nat} {v : Value} {d : DataW H} {p : List MemPlace} (hv : Value.okWide Try.prog w r b0 26 v) (h : DataW.Trod enc Try.prog w base spare held 26 v d p) :
    ∃ c : PartD, Pv w v c ∧ c.Wf ∧ (fits Try.prog 26 d → c.Small) := by
  obtain ⟨cs, rfl, hsz⟩ := okWide_struct Try.underlying26 hv
  obtain ⟨fuel, hf⟩ := h
  obtain ⟨u0, u1, u2, u3, u4, u5, u6, y0, y1, y2, y3, y4, y5, y6, n, hcs, hx, g0, g1, g2, g3, g4, g5, g6⟩ := open_cells7 Try.underlying26 (by kernel_rfl) (by kernel_rfl) hf
  obtain ⟨e0, z0, j0, w0⟩ := DataW.trod_int Try.underlying3 g0
  obtain ⟨e1, z1, j1, w1⟩ := DataW.trod_int Try.underlying3 g1
  obtain ⟨l2, h2, m2, f2⟩ := open_bools g2
  obtain ⟨l3, h3, m3, w3, f3⟩ := open_ints g3
  obtain ⟨l4, h4, m4, w4, f4⟩ := open_reps g4
  obtain ⟨e5, z5, j5, w5⟩ := DataW.trod_int Try.underlying3 g5
  obtain ⟨e6, z6, j6, w6⟩ := DataW.trod_int Try.underlying3 g6
  simp only [List.cons.injEq, and_true] at z0 z1 z5 z6
  subst z0 z1 z5 z6
  obtain ⟨l⟩ := cs
  simp only [Value.cells] at hcs
  subst hcs
  have k2 := m2
  have k3 := m3
  have k4 := m4
  simp only [maxLen] at k2 k3 k4
  refine ⟨⟨e0, e1, l2, l3, l4, e5, e6⟩, ⟨u2, u3, u4, rfl, h2, h3, h4, by omega, by omega, by omega⟩, ⟨w0, w1, m2, m3, w3, m4, w4, w5, w6⟩, fun hfit => ?_⟩
  simp only at hx
  rw [hx] at hfit
  exact ⟨f2 (fits_field Try.underlying26 hfit (i := 2) rfl rfl), f3 (fits_field Try.underlying26 hfit (i := 3) rfl rfl), (f4 (fits_field Try.underlying26 hfit (i := 4) rfl rfl)).1, (f4 (fits_field Try.underlying26 hfit (i := 4) rfl rfl)).2⟩
end
end Go.Proofs.Ytpjjfnpdopdnkaa
namespace Go.Proofs.Ytpjjfnpdopdnkaa
open Go.RowKit

def inB (n lo hi : Int) : Bool := decide (lo ≤ n) && decide (n ≤ hi)
set_option maxHeartbeats 400000 in
theorem In_any (n lo hi : Int) (w : World) :
    Calls Try.prog 69 #[.int .i64 n, .int .i64 lo, .int .i64 hi] w fun e w' => e = .returned (.bool (inB n lo hi)) ∧ w = w' := by
  go_enter Try.func69, Try.ntmps69
  go_wp2
  all_goals go_ret
  all_goals refine ⟨ret_bool ?_, rfl⟩
  all_goals grind [inB]

end Go.Proofs.Ytpjjfnpdopdnkaa
namespace Go.Proofs.Ytpjjfnpdopdnkaa
open Go.RowKit

def entryFault (ep pid ver seq kind : Int) (txn : Bool) (ts : Nat) : Int :=
  if inB kind 1 3 = false then 3 else
  if (inB ep 0 1073741824 && inB pid 0 1073741824 && inB ver 0 1073741824 && inB seq 0 1073741824) = false then 2 else
  if 40 < ts then 1 else
  if kind ≠ 1 ∧ (pid = 0 ∨ txn = false ∨ 0 < seq ∨ 0 < ts) then 4 else
  if pid = 0 ∧ (txn = true ∨ 0 < ver ∨ 0 < seq) then 4 else 0

set_option maxHeartbeats 1000000 in
theorem EntryFault_any (ep pid ver seq kind : Int) (txn : Bool) (text : ByteArray) (w : World) :
    Calls Try.prog 97 #[.agg #[.int .i64 ep, .int .i64 pid, .int .i64 ver, .int .i64 seq, .int .i64 kind, .bool txn, .string text]] w fun e w' => e = .returned (.int .i64 (entryFault ep pid ver seq kind txn text.size)) ∧ Below w.heap.size w w' := by
  go_enter Try.func97, Try.ntmps97
  go_wp2_with (go_at_call 69; refine (In_any _ _ _ _).mono ?_; rintro e w' ⟨rfl, rfl⟩)
  all_goals go_ret
  all_goals refine ⟨ret_int ?_, (Below.refl _ _).alloc (by simp) _⟩
  all_goals go_light
  all_goals grind [entryFault]

def nat4 (a b c d : Int) (k : Nat) : Int := match k with | 0 => a | 1 => b | 2 => c | _ => d
def okTo (a b c d : Int) (k : Nat) : Prop := ∀ j < k, inB (nat4 a b c d j) 0 1073741824 = true
theorem okTo_step {a b c d : Int} {k : Nat} (h : okTo a b c d k) (h0 : 0 ≤ nat4 a b c d k) (h1 : nat4 a b c d k ≤ 1073741824) : okTo a b c d (k + 1) := by
  intro j hj
  rcases Nat.lt_succ_iff_lt_or_eq.1 hj with h' | rfl
  · exact h j h'
  · simp [inB, h0, h1]
theorem okTo_all {a b c d : Int} (h : okTo a b c d 4) : (inB a 0 1073741824 && inB b 0 1073741824 && inB c 0 1073741824 && inB d 0 1073741824) = true := by
  have h0 := h 0 (by omega)
  have h1 := h 1 (by omega)
  have h2 := h 2 (by omega)
  have h3 := h 3 (by omega)
  simp only [nat4] at h0 h1 h2 h3
  simp [h0, h1, h2, h3]

set_option maxHeartbeats 1000000 in
theorem wireCheck_any (ep pid ver seq kind : Int) (txn : Bool) (text : ByteArray) (w : World) :
    Calls Try.prog 95 #[.agg #[.int .i64 ep, .int .i64 pid, .int .i64 ver, .int .i64 seq, .int .i64 kind, .bool txn, .string text]] w fun e w' => e = .returned (.int .i64 (entryFault ep pid ver seq kind txn text.size)) ∧ Below w.heap.size w w' := by
  by_cases hk : inB kind 1 3 = true
  · have hk1 : 1 ≤ kind := by simp [inB] at hk; omega
    have hk3 : kind ≤ 3 := by simp [inB] at hk; omega
    have HK := Lib.hid hk
    clear hk
    go_enter Try.func95, Try.ntmps95
    go_wp2
    go_loop [23] (fun i => ∃ k : Nat, k ≤ 4 ∧ i = .int .i64 k ∧ Hid (okTo ep pid ver seq k)) (fun i => 4 - (intOf i).toNat)
    case atStart => exact ⟨0, by omega, rfl, fun j hj => by omega⟩
    case round =>
      obtain ⟨k, hk, rfl, ho⟩ := hrel
      by_cases h4 : k < 4
      · rcases (by omega : k = 0 ∨ k = 1 ∨ k = 2 ∨ k = 3) with rfl | rfl | rfl | rfl
        all_goals go_wp2
        all_goals first
          | (refine ⟨⟨_, ?_, rfl, okTo_step ho.out ?_ ?_⟩, ?_⟩ <;> first | (simp only [nat4]; omega) | (simp [intOf]; done) | omega)
          | (go_ret
             refine ⟨ret_int ?_, (((Below.refl _ _).alloc (by simp) _).alloc (by simp) _)⟩
             have hk' := HK.out
             clear ho HK
             go_light
             grind [entryFault, inB])
      · obtain rfl : k = 4 := by omega
        have ho' := okTo_all ho.out
        have hb : 0 ≤ ver ∧ ver ≤ 1073741824 ∧ 0 ≤ seq ∧ seq ≤ 1073741824 := by simp [inB] at ho'; omega
        obtain ⟨hb1, hb2, hb3, hb4⟩ := hb
        have HO := Lib.hid ho'
        clear ho' h4
        go_wp2
        all_goals go_ret
        all_goals refine ⟨ret_int ?_, (((Below.refl _ _).alloc (by simp) _).alloc (by simp) _)⟩
        all_goals have hk' := HK.out
        all_goals have ho' := HO.out
        all_goals have hts := bytes_nil text
        all_goals clear ho HK HO
        all_goals go_light
        all_goals grind [entryFault, inB]
  · have hk' : kind < 1 ∨ 3 < kind := by simp [inB] at hk; omega
    have hf : entryFault ep pid ver seq kind txn text.size = 3 := by simp [entryFault, hk]
    have HF := Lib.hid hf
    clear hf hk
    go_enter Try.func95, Try.ntmps95
    rcases hk' with h | h
    all_goals go_wp2
    all_goals (go_ret; exact ⟨ret_int (by rw [HF.out]), ((Below.refl _ _).alloc (by simp) _)⟩)

end Go.Proofs.Ytpjjfnpdopdnkaa
namespace Go.Proofs.Ytpjjfnpdopdnkaa
open Go.RowKit

def wsum (l : List UInt8) : Nat → Nat
  | 0 => 0
  | k + 1 => wsum l k + (k + 1) * (l.getD k 0).toNat
theorem wsum_le (l : List UInt8) : ∀ k, wsum l k ≤ k * (k * 255)
  | 0 => by simp [wsum]
  | k + 1 => by
    have ih := wsum_le l k
    have hb : (l.getD k 0).toNat ≤ 255 := by have := (l.getD k 0).toNat_lt; omega
    have h2 : (k + 1) * (l.getD k 0).toNat ≤ (k + 1) * 255 := Nat.mul_le_mul_left _ hb
    have h3 : k * (k * 255) ≤ k * ((k + 1) * 255) := Nat.mul_le_mul_left _ (by omega)
    have h4 : (k + 1) * ((k + 1) * 255) = k * ((k + 1) * 255) + (k + 1) * 255 := by rw [Nat.add_mul]; omega
    simp only [wsum]
    omega

theorem wsum_step (l : List UInt8) (k : Nat) (h : k < l.length) : (wsum l k : Int) + ((k : Int) + 1) * (l[k].toNat : Int) = (wsum l (k + 1) : Int) := by
  have e : l.getD k 0 = l[k] := by simp [List.getD, List.getElem?_eq_getElem h]
  simp only [wsum, e]
  push_cast
  rfl
theorem wsum_step' (l : List UInt8) (k : Nat) (h : k < l.length) : ((wsum l k : Int) % 65521 + ((k : Int) + 1) * (l[k].toNat : Int)) % 65521 = ((wsum l (k + 1) % 65521 : Nat) : Int) := by
  have := wsum_step l k h
  omega

set_option maxHeartbeats 1000000 in
theorem sum_any (v : Value) (l : List UInt8) (w : World) (h : By w v l) (hl : l.length ≤ 65536) :
    Calls Try.prog 75 #[v] w fun e w' => e = .returned (.int .i64 ((wsum l l.length % 65521 : Nat) : Int)) ∧ w = w' := by
  obtain ⟨A, c, rfl, hc, hcell⟩ := h.at_
  go_enter Try.func75, Try.ntmps75
  go_wp2
  go_loop [3, 8] (fun s i => ∃ k : Nat, k ≤ l.length ∧ i = .int .i64 k ∧ s = .int .i64 ((wsum l k % 65521 : Nat) : Int)) (fun _ i => l.length - (intOf i).toNat)
  case atStart => exact ⟨0, by omega, rfl, rfl⟩
  case round =>
    obtain ⟨k, hk, rfl, rfl⟩ := hrel
    by_cases hlt : k < l.length
    · obtain ⟨b, off, rfl, hb, hcs⟩ := hcell (by omega)
      have h1 := hcs k hlt
      have hu : l[k].toNat < 256 := l[k].toNat_lt
      have hs : wsum l k % 65521 < 65521 := Nat.mod_lt _ (by omega)
      have hp0 : (0 : Int) ≤ ((k : Int) + 1) * (l[k].toNat : Int) := Int.mul_nonneg (by omega) (by omega)
      have hp1 : ((k : Int) + 1) * (l[k].toNat : Int) ≤ 65537 * 256 := Int.mul_le_mul (by omega) (by omega) (by omega) (by omega)
      go_wp2
      go_light
      exact ⟨⟨k + 1, by omega, by go_num, by rw [wsum_step' l k hlt]⟩, by simp [intOf]; omega⟩
    · have hk' : k = l.length := by omega
      subst hk'
      go_wp2
      go_ret
      exact ⟨ret_int (by simp), rfl⟩

set_option maxHeartbeats 1000000 in
theorem sumOf_any (v : Value) (l : List UInt8) (w : World) (h : By w v l) (hl : l.length ≤ 65536) :
    Calls Try.prog 78 #[v] w fun e w' => e = .returned (.int .i64 ((wsum l l.length % 65521 : Nat) : Int)) ∧ w = w' := by
  obtain ⟨A, c, rfl, hc, hcell⟩ := h.at_
  go_enter Try.func78, Try.ntmps78
  go_wp2
  go_loop [3, 4] (fun s i => ∃ k : Nat, k ≤ l.length ∧ i = .int .i64 k ∧ s = .int .i64 ((wsum l k : Nat) : Int)) (fun _ i => l.length - (intOf i).toNat)
  case atStart => exact ⟨0, by omega, rfl, rfl⟩
  case round =>
    obtain ⟨k, hk, rfl, rfl⟩ := hrel
    have hs := wsum_le l k
    have hs2 : k * (k * 255) ≤ 65536 * (65536 * 255) := Nat.mul_le_mul (by omega) (Nat.mul_le_mul_right _ (by omega))
    have hs3 : wsum l k ≤ 65536 * (65536 * 255) := Nat.le_trans hs hs2
    clear hs hs2
    by_cases hlt : k < l.length
    · obtain ⟨b, off, rfl, hb, hcs⟩ := hcell (by omega)
      have h1 := hcs k hlt
      have hu : l[k].toNat < 256 := l[k].toNat_lt
      have hp0 : (0 : Int) ≤ ((k : Int) + 1) * (l[k].toNat : Int) := Int.mul_nonneg (by omega) (by omega)
      have hp1 : ((k : Int) + 1) * (l[k].toNat : Int) ≤ 65537 * 256 := Int.mul_le_mul (by omega) (by omega) (by omega) (by omega)
      go_wp2
      go_light
      exact ⟨⟨k + 1, by omega, by go_num, by rw [wsum_step l k hlt]⟩, by simp [intOf]; omega⟩
    · have hk' : k = l.length := by omega
      subst hk'
      go_wp2
      go_ret
      exact ⟨ret_int (by simp), rfl⟩

def sv (n : Nat) : List UInt8 := if n < 128 then [n.toUInt8] else (128 + n % 128).toUInt8 :: sv (n / 128)
termination_by n
decreasing_by omega
theorem sv_small {n : Nat} (h : n < 128) : sv n = [n.toUInt8] := by rw [sv, if_pos h]
theorem sv_big {n : Nat} (h : 128 ≤ n) : sv n = (128 + n % 128).toUInt8 :: sv (n / 128) := by rw [sv, if_neg (by omega)]
theorem sv_len : ∀ (f n : Nat), n < 128 ^ (f + 1) → (sv n).length ≤ f + 1
  | 0, n, h => by rw [sv_small (by simpa using h)]; simp
  | f + 1, n, h => by
    by_cases h1 : n < 128
    · rw [sv_small h1]; simp
    · rw [sv_big (by omega)]
      have := sv_len f (n / 128) (by rw [Nat.div_lt_iff_lt_mul (by omega)]; rw [Nat.pow_succ] at h; exact h)
      simp only [List.length_cons]
      omega

theorem u8info : (Try.prog.info? 5).map (fun i => (i.zero, i.size, i.bytes)) = some (some (.int .u8 0), 1, 1) := by kernel_rfl

set_option maxRecDepth 100000 in
set_option maxHeartbeats 1000000 in
theorem number_any (n : Nat) (hn : n ≤ 1073741824) (B : Nat) (v : Value) (l : List UInt8) (w : World) (hl : l.length ≤ 65536) (hB : B ≤ w.heap.size)
    (hown : w.ownsRow B 5 1 v l.length (bvs l)) :
    Calls Try.prog 102 #[v, .int .i64 n] w fun e w' => ∃ v', e = .returned v' ∧ w'.ownsRow B 5 1 v' (l ++ sv n).length (bvs (l ++ sv n)) ∧ OwnStep w w' v v' := by
  obtain ⟨i0, hi0, hz0, hz1, hz2⟩ := info_parts u8info
  go_enter Try.func102, Try.ntmps102
  go_wp2
  go_loopw [0, 1] (fun s i wr => ∃ (m : Nat) (pre : List UInt8), m ≤ 1073741824 ∧ i = .int .i64 m ∧ wr.ownsRow B 5 1 s (l ++ pre).length (bvs (l ++ pre)) ∧ Hid (OwnStep w wr v s) ∧ Hid (pre ++ sv m = sv n)) (fun _ i _ => (intOf i).toNat)
  case atStart => exact ⟨n, [], hn, rfl, by simpa using hown, OwnStep.refl _ _, rfl⟩
  case round =>
    obtain ⟨m, pre, hm, rfl, ho, hb, hp⟩ := hrel
    have hs := hb.out.size
    have hpl : pre.length ≤ 5 := by
      have h1 := congrArg List.length hp.out
      have h2 := sv_len 4 n (by omega)
      rw [List.length_append] at h1
      omega
    have hlt0 := fun k hk => (ho.lt k hk).2
    have HL := Lib.hid hlt0
    clear hlt0
    by_cases hlt : 127 < m
    · have hsb := seven_bits m
      have h128 : (128 + m % 128) % 256 = 128 + m % 128 := by omega
      have hL : (l ++ pre).length ≤ 65541 := by rw [List.length_append]; omega
      go_wp2_with (at_builtin; go_must (refine wpList_append_sl _ rfl (.tmp 7) (.tmp 12) 34 rfl B 5 i0 (.int .u8 0) 1 1 Try.underlying34 hi0 hz0 hz1 hz2 rfl (by decide) _ _ _ (by rfl) (ho.alloc _) _ 1 _ (by rfl) (Sl.lit _ _ _ 1 1 rfl) (by intro x hx; simp at hx; subst hx; rfl) (by simp only [maxLen]; omega) (by omega) (by simp; omega) ?_); intro v1 w1 hown1 hg1 hat1)
      go_light
      refine ⟨⟨m / 128, pre ++ [(128 + m % 128).toUInt8], by omega, by go_num, own_eq hown1 (by simp; omega) ?_, OwnStep.trans hb.out (OwnStep.of_append HL.out hg1 hat1), ?_⟩, by simp [intOf]; omega⟩
      · rw [← List.append_assoc, bvs_snoc]
        have : ((128 + m % 128).toUInt8).toNat = 128 + m % 128 := by simp; omega
        rw [this]
        simp
      · have h1 := hp.out
        rw [sv_big (by omega)] at h1
        show _ = _
        rw [← h1]
        simp
    · have hL : (l ++ pre).length ≤ 65541 := by rw [List.length_append]; omega
      have h256 : m % 256 = m := by omega
      go_wp2_with (at_builtin; go_must (refine wpList_append_sl _ rfl (.tmp 16) (.tmp 19) 34 rfl B 5 i0 (.int .u8 0) 1 1 Try.underlying34 hi0 hz0 hz1 hz2 rfl (by decide) _ _ _ (by rfl) (ho.alloc _) _ 1 _ (by rfl) (Sl.lit _ _ _ 1 1 rfl) (by intro x hx; simp at hx; subst hx; rfl) (by simp only [maxLen]; omega) (by omega) (by simp; omega) ?_); intro v1 w1 hown1 hg1 hat1)
      go_ret
      refine ⟨v1, rfl, own_eq hown1 ?_ ?_, OwnStep.trans hb.out (OwnStep.of_append HL.out hg1 hat1)⟩
      · have h1 := hp.out
        rw [sv_small (by omega)] at h1
        rw [← h1]
        simp; omega
      · have h1 := hp.out
        rw [sv_small (by omega)] at h1
        rw [← h1, ← List.append_assoc, bvs_snoc]
        have : (m.toUInt8).toNat = m := by simp; omega
        rw [this]

set_option maxRecDepth 100000 in
set_option maxHeartbeats 1000000 in
theorem sevens_any : ∀ (f n : Nat) (w : World), n < 128 ^ (f + 1) → n ≤ 1073741824 →
    Calls Try.prog 113 #[.int .i64 n] w fun e w' => ∃ v', e = .returned v' ∧ w'.ownsRow w.heap.size 5 1 v' (sv n).length (bvs (sv n)) ∧ Below w.heap.size w w'
  | 0, n, w, h, hn => by
    have h128 : n < 128 := by simpa using h
    have h256 : n % 256 = n := by omega
    clear h
    go_enter Try.func113, Try.ntmps113
    go_wp2
    go_ret
    refine ⟨_, rfl, own_eq (own_lit w 5 _ 1 1 (Nat.le_refl _) (by simp [maxLen]) rfl) (by rw [sv_small h128]; rfl) ?_, (Below.refl _ _).alloc (Nat.le_refl _) _⟩
    rw [sv_small h128]
    simp [bvs]; omega
  | f + 1, n, w, h, hn => by
    by_cases h128 : n < 128
    · have h256 : n % 256 = n := by omega
      clear h
      go_enter Try.func113, Try.ntmps113
      go_wp2
      go_ret
      refine ⟨_, rfl, own_eq (own_lit w 5 _ 1 1 (Nat.le_refl _) (by simp [maxLen]) rfl) (by rw [sv_small h128]; rfl) ?_, (Below.refl _ _).alloc (Nat.le_refl _) _⟩
      rw [sv_small h128]
      simp [bvs]; omega
    · have hd : n / 128 < 128 ^ (f + 1) := by rw [Nat.div_lt_iff_lt_mul (by omega)]; rw [Nat.pow_succ] at h; exact h
      have hc := fun W => sevens_any f (n / 128) W hd (by omega)
      have HC := Lib.hid hc
      clear hc hd h
      have hl5 : (sv (n / 128)).length ≤ 5 := sv_len 4 (n / 128) (by omega)
      have h256 : (128 + n % 128) % 256 = 128 + n % 128 := by omega
      obtain ⟨i0, hi0, hz0, hz1, hz2⟩ := info_parts u8info
      go_enter Try.func113, Try.ntmps113
      go_wp2_with fail
      rw [show ((n : Int) / 128) = ((n / 128 : Nat) : Int) from by omega]
      refine (HC.out _).mono ?_
      rintro e w1 ⟨v1, rfl, ho1, hb1⟩
      simp only [World.size_alloc] at ho1 hb1
      have hs1 := hb1.size
      simp only [World.size_alloc] at hs1
      have hd1 : w1.ownsRow w.heap.size 5 1 (.slice (some ⟨w.heap.size, 0, none⟩) 1 1) 1 #[Value.int .u8 (128 + (n : Int) % 128)].toList :=
        own_keep (own_lit w 5 _ 1 1 (Nat.le_refl _) (by simp [maxLen]) rfl) hb1 (by intro k hk; simp [Value.ownBlock] at hk; omega)
      go_wp2_with (at_builtin; go_must (refine wpList_append_sl _ rfl (.tmp 12) (.tmp 15) 34 rfl w.heap.size 5 i0 (.int .u8 0) 1 1 Try.underlying34 hi0 hz0 hz1 hz2 rfl (by decide) _ _ _ (by rfl) hd1 _ _ _ (by rfl) (Sl.of_own ho1) (bvs_one _) (by simp only [maxLen]; omega) (by omega) (by omega) ?_); intro v2 w2 hown2 hg2 hat2)
      go_ret
      have hbb := hb1.mono (B' := w.heap.size) (by omega)
      refine ⟨v2, rfl, own_eq hown2 ?_ ?_, own_below' (((Below.refl _ _).alloc (Nat.le_refl _) _).trans hbb) (Nat.le_refl _) hd1 hg2⟩
      · rw [sv_big (n := n) (by omega)]
        simp; omega
      · rw [sv_big (n := n) (by omega)]
        simp [bvs]
        omega
end Go.Proofs.Ytpjjfnpdopdnkaa
namespace Go.Proofs.Ytpjjfnpdopdnkaa
open Go.RowKit

/-- the first byte of a body -/
def kindByte (kind : Nat) (txn : Bool) : UInt8 := (kind + if txn then 16 else 0).toUInt8
theorem kindByte_nat {kind : Nat} {txn : Bool} (h : kind ≤ 3) : (kindByte kind txn).toNat = kind + if txn then 16 else 0 := by
  unfold kindByte
  cases txn <;> simp <;> omega
def svs (a b c d : Nat) (k : Nat) : List UInt8 := ([sv a, sv b, sv c, sv d].take k).flatten
def bodyB (ep pid ver seq kind : Nat) (txn : Bool) (text : ByteArray) : List UInt8 := [kindByte kind txn] ++ svs ep pid ver seq 4 ++ text.data.toList
def encB (ep pid ver seq kind : Nat) (txn : Bool) (text : ByteArray) : List UInt8 :=
  let b := bodyB ep pid ver seq kind txn text
  [b.length.toUInt8] ++ b ++ [(wsum b b.length % 65521 / 256).toUInt8, (wsum b b.length % 65521 % 256).toUInt8]
theorem svs_len (a b c d k : Nat) (ha : a ≤ 1073741824) (hb : b ≤ 1073741824) (hc : c ≤ 1073741824) (hd : d ≤ 1073741824) : (svs a b c d k).length ≤ 20 := by
  have h1 := sv_len 4 a (by omega)
  have h2 := sv_len 4 b (by omega)
  have h3 := sv_len 4 c (by omega)
  have h4 := sv_len 4 d (by omega)
  have : (svs a b c d k).length ≤ (svs a b c d 4).length := by
    match k with
    | 0 | 1 | 2 | 3 | 4 => simp [svs]; try omega
    | k + 5 => simp [svs]
  have h : (svs a b c d 4).length = (sv a).length + (sv b).length + (sv c).length + (sv d).length := by simp [svs]; omega
  omega

/-- the call began in w; in W the row v of its own holds the bytes l, and block bx is the box cs -/
structure St (w : World) (bx : Nat) (t : TypeId) (cs : Array Value) (W : World) (v : Value) (l : List UInt8) : Prop where
  own : W.ownsRow w.heap.size 5 1 v l.length (bvs l)
  box : Blk W bx t cs
  ne : v.ownBlock ≠ some bx
  below : Below w.heap.size w W
  tne : t ≠ 5
theorem St.call {w W W1 : World} {bx : Nat} {t : TypeId} {cs : Array Value} {v : Value} {l : List UInt8} (h : St w bx t cs W v l) (hb : Below W.heap.size W W1) : St w bx t cs W1 v l :=
  ⟨own_keep h.own hb fun k hk => (h.own.lt k hk).2, h.box.below hb h.box.lt, h.ne, h.below.trans (hb.mono h.below.size), h.tne⟩
theorem St.alloc {w W : World} {bx : Nat} {t : TypeId} {cs : Array Value} {v : Value} {l : List UInt8} (h : St w bx t cs W v l) (o : Obj) : St w bx t cs (W.alloc o) v l :=
  h.call ((Below.refl _ _).alloc (Nat.le_refl _) o)
theorem St.app {w W W1 : World} {bx : Nat} {t : TypeId} {cs : Array Value} {v v1 : Value} {l r : List UInt8} {n : Nat} {xs : List Value} (h : St w bx t cs W v l) (hg : W.grownBy W1 v.ownBlock) (ho : W1.ownsRow w.heap.size 5 1 v1 n xs)
    (hn : n = (l ++ r).length) (hx : xs = bvs (l ++ r)) : St w bx t cs W1 v1 (l ++ r) := by
  subst hn; subst hx
  refine ⟨ho, h.box.grown hg (fun e => h.ne e.symm), fun e => ?_, own_below' h.below (Nat.le_refl _) h.own hg, h.tne⟩
  have hb := h.box.grown hg (fun e => h.ne e.symm)
  rcases ho.2 with ⟨rfl, _⟩ | ⟨g, cap, cur, rfl, _, hh, _⟩
  · simp [Value.ownBlock] at e
  · simp only [Value.ownBlock, Option.some.injEq] at e
    subst e
    unfold Blk at hb
    rw [hh] at hb
    injection hb with hb
    injection hb with _ ht
    exact h.tne ht.symm

theorem st_start (w : World) (t : TypeId) (cs : Array Value) (ht : t ≠ 5) (k : Int) (b : UInt8) (hk : k = (b.toNat : Int)) :
    St w w.heap.size t cs ((w.alloc (.cells cs t)).alloc (.cells #[.int .u8 k] 5)) (.slice (some ⟨w.heap.size + 1, 0, none⟩) 1 1) [b] := by
  subst hk
  have h := own_lit (base := w.heap.size) (w.alloc (.cells cs t)) 5 #[.int .u8 b.toNat] 1 1 (by simp) (by simp [maxLen]) rfl
  simp only [World.size_alloc] at h
  exact ⟨h, (Blk.new w t cs).alloc _, by simp [Value.ownBlock], ((Below.refl _ _).alloc (Nat.le_refl _) _).alloc (by simp) _, ht⟩

set_option maxRecDepth 100000 in
set_option maxHeartbeats 1000000 in
theorem bodyOf_any (ep pid ver seq kind : Nat) (txn : Bool) (text : ByteArray) (w : World) (h1 : ep ≤ 1073741824) (h2 : pid ≤ 1073741824) (h3 : ver ≤ 1073741824) (h4 : seq ≤ 1073741824) (hk : kind ≤ 3) (ht : text.size ≤ 40) :
    Calls Try.prog 104 #[.agg #[.int .i64 ep, .int .i64 pid, .int .i64 ver, .int .i64 seq, .int .i64 kind, .bool txn, .string text]] w fun e w' => ∃ v', e = .returned v' ∧ w'.ownsRow w.heap.size 5 1 v' (bodyB ep pid ver seq kind txn text).length (bvs (bodyB ep pid ver seq kind txn text)) ∧ Below w.heap.size w w' := by
  obtain ⟨i0, hi0, hz0, hz1, hz2⟩ := info_parts u8info
  cases txn
  · go_enter Try.func104, Try.ntmps104
    go_wp2_with fail
    have s0 := st_start w 55 #[.int .i64 ep, .int .i64 pid, .int .i64 ver, .int .i64 seq, .int .i64 kind, .bool false, .string text] (by decide) (kind : Int) (kindByte kind false) (by rw [kindByte_nat hk]; simp)
    refine (sevens_any 4 ep _ (by omega) (by omega)).mono ?_
    rintro e w1 ⟨x1, rfl, hx1, hb1⟩
    have c1 := s0.call hb1
    have l1 := sv_len 4 ep (by omega)
    go_wp2_with (at_builtin; go_must (refine wpList_append_sl _ rfl (.tmp 14) (.tmp 17) 34 rfl w.heap.size 5 i0 (.int .u8 0) 1 1 Try.underlying34 hi0 hz0 hz1 hz2 rfl (by decide) _ _ _ (by rfl) c1.own _ _ _ (by rfl) (Sl.of_own hx1) (bvs_one _) (by simp only [maxLen, List.length_cons, List.length_nil]; omega) (by simp only [List.length_cons, List.length_nil]; omega) c1.below.size ?_; intro v1 u1 ho1 hg1 ha1; have s1 := c1.app (r := sv ep) hg1 ho1 (by simp only [List.length_append]) (by simp only [bvs_append]); have q1 := s1.box.cell 1; clear ho1 hg1 ha1))
    refine (sevens_any 4 pid _ (by omega) (by omega)).mono ?_
    rintro e w2 ⟨x2, rfl, hx2, hb2⟩
    have c2 := s1.call hb2
    have l2 := sv_len 4 pid (by omega)
    go_wp2_with (at_builtin; go_must (refine wpList_append_sl _ rfl (.tmp 19) (.tmp 22) 34 rfl w.heap.size 5 i0 (.int .u8 0) 1 1 Try.underlying34 hi0 hz0 hz1 hz2 rfl (by decide) _ _ _ (by rfl) c2.own _ _ _ (by rfl) (Sl.of_own hx2) (bvs_one _) (by simp only [maxLen, List.length_append, List.length_cons, List.length_nil]; omega) (by simp only [List.length_append, List.length_cons, List.length_nil]; omega) c2.below.size ?_; intro v2 u2 ho2 hg2 ha2; have s2 := c2.app (r := sv pid) hg2 ho2 (by simp only [List.length_append]) (by simp only [bvs_append]); have q2 := s2.box.cell 2; clear ho2 hg2 ha2))
    refine (sevens_any 4 ver _ (by omega) (by omega)).mono ?_
    rintro e w3 ⟨x3, rfl, hx3, hb3⟩
    have c3 := s2.call hb3
    have l3 := sv_len 4 ver (by omega)
    go_wp2_with (at_builtin; go_must (refine wpList_append_sl _ rfl (.tmp 24) (.tmp 27) 34 rfl w.heap.size 5 i0 (.int .u8 0) 1 1 Try.underlying34 hi0 hz0 hz1 hz2 rfl (by decide) _ _ _ (by rfl) c3.own _ _ _ (by rfl) (Sl.of_own hx3) (bvs_one _) (by simp only [maxLen, List.length_append, List.length_cons, List.length_nil]; omega) (by simp only [List.length_append, List.length_cons, List.length_nil]; omega) c3.below.size ?_; intro v3 u3 ho3 hg3 ha3; have s3 := c3.app (r := sv ver) hg3 ho3 (by simp only [List.length_append]) (by simp only [bvs_append]); have q3 := s3.box.cell 3; clear ho3 hg3 ha3))
    refine (sevens_any 4 seq _ (by omega) (by omega)).mono ?_
    rintro e w4 ⟨x4, rfl, hx4, hb4⟩
    have c4 := s3.call hb4
    have l4 := sv_len 4 seq (by omega)
    go_wp2_with (first | (at_builtin; refine wpList_append_sl _ rfl (.tmp 29) (.tmp 32) 34 rfl w.heap.size 5 i0 (.int .u8 0) 1 1 Try.underlying34 hi0 hz0 hz1 hz2 rfl (by decide) _ _ _ (by rfl) c4.own _ _ _ (by rfl) (Sl.of_own hx4) (bvs_one _) (by simp only [maxLen, List.length_append, List.length_cons, List.length_nil]; omega) (by simp only [List.length_append, List.length_cons, List.length_nil]; omega) c4.below.size ?_; intro v4 u4 ho4 hg4 ha4; have s4 := c4.app (r := sv seq) hg4 ho4 (by simp only [List.length_append]) (by simp only [bvs_append]); have q4 := s4.box.cell 6; clear ho4 hg4 ha4) | (at_builtin; go_must (refine Lib.wpList_append_own_string _ rfl (.tmp 34) (.tmp 36) 34 9 rfl w.heap.size 5 i0 Try.underlying34 Try.underlying9 hi0 hz0 hz1 hz2 _ _ _ (by rfl) s4.own text (by rfl) (by simp only [maxLen, List.length_append, List.length_cons, List.length_nil]; omega) (by simp only [List.length_append, List.length_cons, List.length_nil]; omega) s4.below.size ?_; intro v5 u5 ho5 hg5 ha5)))
    go_ret
    exact ⟨v5, rfl, own_eq ho5 (by simp [bodyB, svs]; omega) (by simp [bodyB, svs, bvs, Lib.strCells]), own_below' s4.below (Nat.le_refl _) s4.own hg5⟩
  · go_enter Try.func104, Try.ntmps104
    go_wp2_with fail
    have s0 := st_start w 55 #[.int .i64 ep, .int .i64 pid, .int .i64 ver, .int .i64 seq, .int .i64 kind, .bool true, .string text] (by decide) ((kind : Int) + 16) (kindByte kind true) (by rw [kindByte_nat hk]; simp)
    refine (sevens_any 4 ep _ (by omega) (by omega)).mono ?_
    rintro e w1 ⟨x1, rfl, hx1, hb1⟩
    have c1 := s0.call hb1
    have l1 := sv_len 4 ep (by omega)
    go_wp2_with (at_builtin; go_must (refine wpList_append_sl _ rfl (.tmp 14) (.tmp 17) 34 rfl w.heap.size 5 i0 (.int .u8 0) 1 1 Try.underlying34 hi0 hz0 hz1 hz2 rfl (by decide) _ _ _ (by rfl) c1.own _ _ _ (by rfl) (Sl.of_own hx1) (bvs_one _) (by simp only [maxLen, List.length_cons, List.length_nil]; omega) (by simp only [List.length_cons, List.length_nil]; omega) c1.below.size ?_; intro v1 u1 ho1 hg1 ha1; have s1 := c1.app (r := sv ep) hg1 ho1 (by simp only [List.length_append]) (by simp only [bvs_append]); have q1 := s1.box.cell 1; clear ho1 hg1 ha1))
    refine (sevens_any 4 pid _ (by omega) (by omega)).mono ?_
    rintro e w2 ⟨x2, rfl, hx2, hb2⟩
    have c2 := s1.call hb2
    have l2 := sv_len 4 pid (by omega)
    go_wp2_with (at_builtin; go_must (refine wpList_append_sl _ rfl (.tmp 19) (.tmp 22) 34 rfl w.heap.size 5 i0 (.int .u8 0) 1 1 Try.underlying34 hi0 hz0 hz1 hz2 rfl (by decide) _ _ _ (by rfl) c2.own _ _ _ (by rfl) (Sl.of_own hx2) (bvs_one _) (by simp only [maxLen, List.length_append, List.length_cons, List.length_nil]; omega) (by simp only [List.length_append, List.length_cons, List.length_nil]; omega) c2.below.size ?_; intro v2 u2 ho2 hg2 ha2; have s2 := c2.app (r := sv pid) hg2 ho2 (by simp only [List.length_append]) (by simp only [bvs_append]); have q2 := s2.box.cell 2; clear ho2 hg2 ha2))
    refine (sevens_any 4 ver _ (by omega) (by omega)).mono ?_
    rintro e w3 ⟨x3, rfl, hx3, hb3⟩
    have c3 := s2.call hb3
    have l3 := sv_len 4 ver (by omega)
    go_wp2_with (at_builtin; go_must (refine wpList_append_sl _ rfl (.tmp 24) (.tmp 27) 34 rfl w.heap.size 5 i0 (.int .u8 0) 1 1 Try.underlying34 hi0 hz0 hz1 hz2 rfl (by decide) _ _ _ (by rfl) c3.own _ _ _ (by rfl) (Sl.of_own hx3) (bvs_one _) (by simp only [maxLen, List.length_append, List.length_cons, List.length_nil]; omega) (by simp only [List.length_append, List.length_cons, List.length_nil]; omega) c3.below.size ?_; intro v3 u3 ho3 hg3 ha3; have s3 := c3.app (r := sv ver) hg3 ho3 (by simp only [List.length_append]) (by simp only [bvs_append]); have q3 := s3.box.cell 3; clear ho3 hg3 ha3))
    refine (sevens_any 4 seq _ (by omega) (by omega)).mono ?_
    rintro e w4 ⟨x4, rfl, hx4, hb4⟩
    have c4 := s3.call hb4
    have l4 := sv_len 4 seq (by omega)
    go_wp2_with (first | (at_builtin; refine wpList_append_sl _ rfl (.tmp 29) (.tmp 32) 34 rfl w.heap.size 5 i0 (.int .u8 0) 1 1 Try.underlying34 hi0 hz0 hz1 hz2 rfl (by decide) _ _ _ (by rfl) c4.own _ _ _ (by rfl) (Sl.of_own hx4) (bvs_one _) (by simp only [maxLen, List.length_append, List.length_cons, List.length_nil]; omega) (by simp only [List.length_append, List.length_cons, List.length_nil]; omega) c4.below.size ?_; intro v4 u4 ho4 hg4 ha4; have s4 := c4.app (r := sv seq) hg4 ho4 (by simp only [List.length_append]) (by simp only [bvs_append]); have q4 := s4.box.cell 6; clear ho4 hg4 ha4) | (at_builtin; go_must (refine Lib.wpList_append_own_string _ rfl (.tmp 34) (.tmp 36) 34 9 rfl w.heap.size 5 i0 Try.underlying34 Try.underlying9 hi0 hz0 hz1 hz2 _ _ _ (by rfl) s4.own text (by rfl) (by simp only [maxLen, List.length_append, List.length_cons, List.length_nil]; omega) (by simp only [List.length_append, List.length_cons, List.length_nil]; omega) s4.below.size ?_; intro v5 u5 ho5 hg5 ha5)))
    go_ret
    exact ⟨v5, rfl, own_eq ho5 (by simp [bodyB, svs]; omega) (by simp [bodyB, svs, bvs, Lib.strCells]), own_below' s4.below (Nat.le_refl _) s4.own hg5⟩
end Go.Proofs.Ytpjjfnpdopdnkaa
