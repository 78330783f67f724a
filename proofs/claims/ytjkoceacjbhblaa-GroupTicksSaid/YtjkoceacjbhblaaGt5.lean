/- Parts of a proof, merged: RefCopy, TxnB, GroupS, IdxMem, Ans, ClashB, CheckB, GrpC, MayB, GrpM. No condition. -/
import Derived.Test.YtjkoceacjbhblaaGt4
import Derived.Outline
import Derived.Test.YtjkoceacjbhblaaGt1
import Derived.Test.YtjkoceacjbhblaaGt3
import Derived.Shelf.AbstractIn
import Derived.Deep.QuietTactic
import Derived.Deep.CutRange
namespace Go.Proofs.Ytjkoceacjbhblaa
open Go.RowKit

/-- the loop of intsCopy -/
def IcLp (w : World) (l : List Int) (s i : Value) (wr : World) : Prop :=
  ∃ k : Nat, k ≤ l.length ∧ i = .int .i64 k ∧ wr.ownsRow w.heap.size 3 1 s k ((l.take k).map (Value.int .i64)) ∧ Below w.heap.size w wr

set_option maxRecDepth 100000 in
set_option maxHeartbeats 1000000 in
theorem intsCopy_any (v : Value) (l : List Int) (w : World) (h : Is w v l) (hm : l.length * 8 ≤ 140737488355328) :
    Calls Try.prog 80 #[v] w fun e w' => ∃ v', e = .returned v' ∧ w'.ownsRow w.heap.size 3 1 v' l.length (l.map (Value.int .i64)) ∧ Below w.heap.size w w' := by
  obtain ⟨i0, hi0, hz0, hz1, hz2⟩ := info_parts CloneInt_info
  obtain ⟨A, c, rfl, hc, hcell⟩ := h.at_
  have HC := Lib.hid hcell
  clear h hcell
  go_enter Try.func80, Try.ntmps80
  go_wp2
  go_loopw [3, 4] (fun s i wr => IcLp w l s i wr) (fun _ i _ => l.length - (intOf i).toNat)
  case atStart => exact ⟨0, by omega, rfl, by simpa using World.ownsRow_nil _ _ _ _, Below.refl _ _⟩
  case round =>
    obtain ⟨k, hk, rfl, ho, hb⟩ := hrel
    by_cases hlt : k < l.length
    · obtain ⟨b, off, rfl, hbl, hcell⟩ := HC.out (by omega)
      have X := (hb.cell (p := ⟨b, off + k, none⟩) hbl).trans (hcell k hlt)
      have hsz := hb.size
      have k0 : (0 : Int) ≤ (k : Int) := by omega
      have k1 : (k : Int) < (l.length : Int) := by omega
      have HB := Lib.hid hb
      clear hcell hb
      go_wp2_with (at_builtin; go_must (refine wpList_append_sl _ rfl (.tmp 11) (.tmp 16) 24 rfl w.heap.size 3 i0 (.int .i64 0) 1 8 Try.underlying24 hi0 hz0 hz1 hz2 rfl (by decide) _ _ _ (by rfl) (ho.alloc _) _ 1 _ (by rfl) (Sl.lit _ _ _ 1 1 rfl) (by intro x hx; simp at hx; subst hx; rfl) (by simp only [maxLen]; omega) (by omega) (by simp; omega) ?_; intro v4 w4 ho4 hg4 ha4))
      go_light
      exact ⟨⟨k + 1, by omega, by go_num, own_eq ho4 rfl (by rw [List.take_succ_eq_append_getElem hlt, List.map_append]; rfl), own_below HB.out (Nat.le_refl _) ho _ hg4⟩, by simp [intOf]; omega⟩
    · obtain rfl : k = l.length := by omega
      go_wp2
      go_ret
      exact ⟨_, rfl, by simpa using ho, hb⟩

theorem Sl.lit' (w : World) (e : TypeId) (cs : Array Value) (size n g : Nat) (h : cs.size = n * size) (hg : g = w.heap.size) : Sl (w.alloc (.cells cs e)) size (.slice (some ⟨g, 0, none⟩) n n) n cs.toList := by
  subst hg
  exact Sl.lit w e cs size n h
/-- rows of two element types lie in two blocks -/
theorem own_apart {w : World} {b1 b2 : Nat} {e1 e2 : TypeId} {s1 s2 n1 n2 : Nat} {v1 v2 : Value} {x1 x2 : List Value} (h1 : w.ownsRow b1 e1 s1 v1 n1 x1) (h2 : w.ownsRow b2 e2 s2 v2 n2 x2) (he : e1 ≠ e2) : v1.ownBlock = none ∨ v1.ownBlock ≠ v2.ownBlock := by
  rcases h1.2 with ⟨hv, _⟩ | ⟨g1, cap1, cur1, hv, _, hh1, _⟩
  · left; rw [hv]; rfl
  · right
    rcases h2.2 with ⟨hv2, _⟩ | ⟨g2, cap2, cur2, hv2, _, hh2, _⟩
    · rw [hv, hv2]
      exact fun h => by cases h
    · rw [hv, hv2]
      intro h
      have hg : g1 = g2 := by injection h
      subst hg
      rw [hh1] at hh2
      injection hh2 with hh2
      injection hh2 with _ h3
      exact he h3
theorem Own.push {w0 w w6 w7 : World} {base k : Nat} {tv v5 v7 : Value} {ds : List TxnD} {rows : List (TxnD × Value)} {t : TxnD} {o : Obj} (h : Own w0 w base tv ds rows k) (hk : k = ds.length) (hb0 : w0.heap.size ≤ base) (hb : base ≤ w.heap.size)
    (h6 : Below w.heap.size w w6) (ho5 : w6.ownsRow w.heap.size 3 1 v5 t.parts.length (t.parts.map (Value.int .i64))) (ho7 : w7.ownsRow base 76 7 v7 (k + 1) (rows.flatMap tcells ++ tcells (t, v5))) (hg : (w6.alloc o).grownBy w7 tv.ownBlock) :
    Own w0 w7 base v7 (ds ++ [t]) (rows ++ [(t, v5)]) (k + 1) := by
  subst hk
  have hl : rows.length = ds.length := by rw [← h.fst]; simp
  have e1 : rows.take ds.length = rows := by rw [← hl, List.take_length]
  have e2 : (rows ++ [(t, v5)]).take (ds.length + 1) = rows ++ [(t, v5)] := by rw [List.take_of_length_le]; simp [hl]
  have hown6 := (own_keep h.own h6 (fun b hb => (h.own.lt b hb).2)).alloc o
  refine ⟨by simp [h.fst], own_eq ho7 (by simp) (by simp), ?_, ?_, ?_, ?_⟩
  · exact ((h.bel.trans (h6.mono h.bel.size)).alloc (Nat.le_trans h.bel.size h6.size) o).grown hg (by have := h.bel.size; have := h6.size; simp; omega) fun b hb => by have := (h.own.lt b hb).1; omega
  · intro t' ht'
    rw [List.drop_of_length_le (by simp [hl])] at ht'
    simp at ht'
  · intro t' ht'
    rw [e2] at ht'
    rcases List.mem_append.1 ht' with ht' | ht'
    · have hp := h.parts t' (by rw [e1]; exact ht')
      have hp6 := (own_keep hp h6 (fun b hb => (hp.lt b hb).2)).alloc o
      exact hp6.kept hg (own_apart hp6 hown6 (by decide))
    · simp only [List.mem_singleton] at ht'
      subst ht'
      exact own_base ((ho5.alloc o).kept hg (own_apart (ho5.alloc o) hown6 (by decide))) hb
  · rw [e2]
    have ha := h.apart
    rw [e1] at ha
    refine List.pairwise_append.2 ⟨ha, by simp, fun a ha' b hb' => ?_⟩
    simp only [List.mem_singleton] at hb'
    subst hb'
    rcases hab : a.2.ownBlock with _ | x
    · exact Or.inl rfl
    · refine Or.inr fun e => ?_
      have h1 := (h.parts a (by rw [e1]; exact ha')).lt x hab
      have h2 := ho5.lt x e.symm
      omega

/-- the loop of tailraceref.CoordCopy -/
def RcLp (w : World) (bc zc : Array Value) (ck nx wt : Int) (ts : List TxnD) (i : Value) (wr : World) : Prop :=
  ∃ (k : Nat) (rows : List (TxnD × Value)) (tv : Value), k ≤ ts.length ∧ i = .int .i64 k ∧ Own w wr (w.heap.size + 3) tv (ts.take k) rows k ∧ Blk wr w.heap.size 28 bc ∧ Blk wr (w.heap.size + 1) 28 zc ∧ Blk wr (w.heap.size + 2) 28 #[.int .i64 ck, .int .i64 nx, .int .i64 wt, tv] ∧ Below w.heap.size w wr

end Go.Proofs.Ytjkoceacjbhblaa
namespace Go.Proofs.Ytjkoceacjbhblaa
open Go.RowKit

theorem rises_no {l : List Int} {k : Nat} (hk : k < l.length) (h : l[k] < 0 ∨ 3 < l[k] ∨ ∃ j, ∃ hj : j + 1 = k, l[k] ≤ l[j]) : ¬ Rises l := by
  intro hr
  have h1 := hr k hk
  rcases h with h | h | ⟨j, hj, h⟩
  · omega
  · omega
  · have := h1.2.2 j hj
    omega
/-- the first k rise -/
def RisesTo (l : List Int) (n : Nat) : Prop := ∀ k (h : k < l.length), k < n → 0 ≤ l[k] ∧ l[k] ≤ 3 ∧ ∀ j (_ : j + 1 = k), l[j] < l[k]
theorem RisesTo.step {l : List Int} {n : Nat} (h : RisesTo l n) (hn : n < l.length) (h0 : 0 ≤ l[n]) (h3 : l[n] ≤ 3) (hs : ∀ j (_ : j + 1 = n), l[j] < l[n]) : RisesTo l (n + 1) := by
  intro k hk hkn
  rcases Nat.lt_succ_iff_lt_or_eq.1 hkn with h' | rfl
  · exact h k hk h'
  · exact ⟨h0, h3, hs⟩
theorem RisesTo.all {l : List Int} (h : RisesTo l l.length) : Rises l := fun k hk => h k hk hk

end Go.Proofs.Ytjkoceacjbhblaa
namespace Go.Proofs.Ytjkoceacjbhblaa
open Go.RowKit

structure MemOk (clock : Int) (t : MemD) : Prop where
  name : NameOk t.name
  heard : 0 ≤ t.heard ∧ t.heard ≤ clock
  rises : Rises t.parts
def MemsOk (clock : Int) (ms : List MemD) (n : Nat) : Prop := ∀ i (h : i < ms.length), i < n → MemOk clock ms[i] ∧ ∀ k (hk : k < i), ms[k].name ≠ ms[i].name
structure OffsOk (os : List OffD) : Prop where
  at_ : ∀ o ∈ os, 0 ≤ o.at_ ∧ o.at_ ≤ 400
  rises : Rises (os.map OffD.part)
structure GroupOk (g : GroupD) : Prop where
  clock : 0 ≤ g.clock ∧ g.clock ≤ 1073741824
  wait : 1 ≤ g.wait ∧ g.wait ≤ 1000
  gen : 0 ≤ g.gen ∧ g.gen ≤ 1073741824
  many : g.mems.length ≤ 6
  offs : g.offs.length ≤ 4
  all : MemsOk g.clock g.mems g.mems.length
  offsOk : OffsOk g.offs
def NamedAt (ms : List MemD) (s : ByteArray) (j : Nat) : Prop := ∃ h : j < ms.length, ms[j].name = s
theorem MemsOk.step {ck : Int} {ms : List MemD} {k : Nat} (h : MemsOk ck ms k) (hk : k < ms.length) (ht : MemOk ck ms[k]) (hc : ¬ ∃ j, j < k ∧ NamedAt ms ms[k].name j) : MemsOk ck ms (k + 1) := by
  intro i hi hik
  rcases Nat.lt_succ_iff_lt_or_eq.1 hik with h' | rfl
  · exact h i hi h'
  · exact ⟨ht, fun j hj he => hc ⟨j, hj, by omega, he⟩⟩
theorem not_ok_mem {g : GroupD} {k : Nat} (hk : k < g.mems.length) (h : ¬ MemOk g.clock g.mems[k]) : ¬ GroupOk g := fun hg => h (hg.all k hk hk).1
theorem not_ok_named {g : GroupD} {k : Nat} (hk : k < g.mems.length) (h : ∃ j, j < k ∧ NamedAt g.mems g.mems[k].name j) : ¬ GroupOk g := by
  obtain ⟨j, hj, hl, he⟩ := h
  exact fun hg => (hg.all k hk hk).2 j hj he
/-- the first n offsets may be -/
def OffsTo (os : List OffD) (n : Nat) : Prop := (∀ j (h : j < os.length), j < n → 0 ≤ os[j].at_ ∧ os[j].at_ ≤ 400) ∧ RisesTo (os.map OffD.part) n
theorem OffsTo.all {os : List OffD} (h : OffsTo os os.length) : OffsOk os :=
  ⟨fun o ho => by obtain ⟨i, hi, rfl⟩ := List.mem_iff_getElem.1 ho; exact h.1 i hi hi, RisesTo.all (by have := h.2; rw [List.length_map]; exact this)⟩
theorem OffsTo.zero (os : List OffD) : OffsTo os 0 := ⟨fun j _ hj => by omega, fun k _ hk => by omega⟩
theorem OffsTo.step {os : List OffD} {n : Nat} (h : OffsTo os n) (hn : n < os.length) (h0 : 0 ≤ os[n].at_) (h1 : os[n].at_ ≤ 400) (h2 : 0 ≤ os[n].part) (h3 : os[n].part ≤ 3) (hs : ∀ j (hj : j + 1 = n), os[j].part < os[n].part) : OffsTo os (n + 1) := by
  refine ⟨fun j hj hjn => ?_, ?_⟩
  · rcases Nat.lt_succ_iff_lt_or_eq.1 hjn with h' | rfl
    · exact h.1 j hj h'
    · exact ⟨h0, h1⟩
  · refine h.2.step (by simpa using hn) (by simpa using h2) (by simpa using h3) ?_
    intro j hj
    simpa using hs j hj
theorem not_ok_off {g : GroupD} {k : Nat} (hk : k < g.offs.length) (h : g.offs[k].at_ < 0 ∨ 400 < g.offs[k].at_ ∨ g.offs[k].part < 0 ∨ 3 < g.offs[k].part ∨ ∃ j, ∃ hj : j + 1 = k, g.offs[k].part ≤ g.offs[j].part) : ¬ GroupOk g := by
  intro hg
  have h1 := hg.offsOk.at_ g.offs[k] (List.getElem_mem _)
  have h2 := hg.offsOk.rises k (by simpa using hk)
  simp only [List.getElem_map] at h2
  rcases h with h | h | h | h | ⟨j, hj, h⟩
  · omega
  · omega
  · omega
  · omega
  · have := h2.2.2 j hj
    omega
theorem GroupOk.bounds {g : GroupD} (h : GroupOk g) : (g.mems.length * 48 ≤ 140737488355328 ∧ (∀ t ∈ g.mems, t.parts.length * 8 ≤ 140737488355328) ∧ g.offs.length * 16 ≤ 140737488355328) ∧ g.mems.length ≤ 9223372036854775807 ∧ g.offs.length ≤ 9223372036854775807 ∧ ∀ t ∈ g.mems, t.parts.length ≤ 9223372036854775807 := by
  have h1 := h.many
  have h2 := h.offs
  have h3 : ∀ t ∈ g.mems, t.parts.length ≤ 4 := fun t ht => by
    obtain ⟨i, hi, rfl⟩ := List.mem_iff_getElem.1 ht
    exact ((h.all i hi hi).1.rises).small
  refine ⟨⟨by omega, fun t ht => by have := h3 t ht; omega, by omega⟩, by omega, by omega, fun t ht => by have := h3 t ht; omega⟩
end Go.Proofs.Ytjkoceacjbhblaa
namespace Go.Proofs.Ytjkoceacjbhblaa
open Go.RowKit

set_option maxRecDepth 100000 in
set_option maxHeartbeats 1000000 in
theorem IdxMem_any (v : Value) (n : Nat) (xs : List Value) (P : Nat → Prop) (g : Nat) (lb : Array Value) (w : World) (h : Sl w 3 v n xs) (hm : n ≤ 9223372036854775807) (eg : ∀ args w, (callFunc g args).run Try.prog w = .ok (.enter g args) w)
    (hf : ∀ j u0 u1 u2, j < n → xs[j * 3 + 0]? = some u0 → xs[j * 3 + 1]? = some u1 → xs[j * 3 + 2]? = some u2 → ∀ W, Below w.heap.size w W → Calls Try.prog g (#[.agg #[u0, u1, u2]] ++ lb) W (Tells (P j) W)) :
    Calls Try.prog 111 #[v, .func (.func g) #[] lb] w (Finds P n w) := by
  obtain ⟨hl, A, c, rfl, hc, hcl⟩ := h
  have HF := Lib.hid hf
  have HCL := Lib.hid hcl
  have HL := Lib.hid hl
  clear hf hcl hl
  go_enter Try.func111, Try.ntmps111
  go_wp2
  go_loopw [5, 8] (fun _ i wr => ∃ k : Nat, k ≤ n ∧ i = .int .i64 k ∧ Hid (Below w.heap.size w wr) ∧ Hid (∀ j, j < k → ¬ P j)) (fun _ i _ => n - (intOf i).toNat)
  case atStart => exact ⟨0, by omega, rfl, Below.refl _ _, fun j hj => by omega⟩
  case round =>
    obtain ⟨k, hk, rfl, BW, HN⟩ := hrel
    by_cases hlt : k < n
    · obtain ⟨b, off, rfl, hb, hcell⟩ := HCL.out (by omega)
      have hl := HL.out
      have hlt' : (k : Int) < (n : Int) := by omega
      obtain ⟨u0, g0⟩ : ∃ u, xs[k * 3 + 0]? = some u := ⟨_, List.getElem?_eq_getElem (by omega)⟩
      have l0 := (BW.out.cell (p := ⟨b, off + (k * 3 + 0), none⟩) hb).trans (hcell _ _ g0)
      rw [show off + (k * 3 + 0) = off + k * 3 from by omega] at l0
      obtain ⟨u1, g1⟩ : ∃ u, xs[k * 3 + 1]? = some u := ⟨_, List.getElem?_eq_getElem (by omega)⟩
      have l1 := (BW.out.cell (p := ⟨b, off + (k * 3 + 1), none⟩) hb).trans (hcell _ _ g1)
      rw [show off + (k * 3 + 1) = off + k * 3 + 1 from by omega] at l1
      obtain ⟨u2, g2⟩ : ∃ u, xs[k * 3 + 2]? = some u := ⟨_, List.getElem?_eq_getElem (by omega)⟩
      have l2 := (BW.out.cell (p := ⟨b, off + (k * 3 + 2), none⟩) hb).trans (hcell _ _ g2)
      rw [show off + (k * 3 + 2) = off + k * 3 + 2 from by omega] at l2
      have hcall := HF.out k _ _ _ hlt g0 g1 g2 wr BW.out
      clear hcell hl g0 g1 g2
      go_wp2_with (go_at_fn g; refine hcall.mono ?_; rintro e w1 ⟨q, rfl, hq, hb1⟩)
      all_goals first
        | (go_ret
           exact ⟨k, rfl, below_then BW.out hb1, Or.inl ⟨k, hlt, rfl, hq.1 (by assumption), HN.out⟩⟩)
        | skip
      go_roundw
      case rel => exact ⟨k + 1, by omega, by go_num, below_then BW.out hb1, fun j hj => by
        rcases Nat.lt_succ_iff_lt_or_eq.1 hj with h' | rfl
        · exact HN.out j h'
        · exact fun hp => by simp_all⟩
      case measure => simp [intOf]; omega
    · obtain rfl : k = n := by omega
      go_wp2
      go_ret
      exact ⟨-1, rfl, BW.out, Or.inr ⟨rfl, HN.out⟩⟩

set_option maxRecDepth 100000 in
set_option maxHeartbeats 1000000 in
theorem HasMem_any (v : Value) (n : Nat) (xs : List Value) (P : Nat → Prop) (g : Nat) (lb : Array Value) (w : World) (h : Sl w 3 v n xs) (hm : n ≤ 9223372036854775807) (eg : ∀ args w, (callFunc g args).run Try.prog w = .ok (.enter g args) w)
    (hf : ∀ j u0 u1 u2, j < n → xs[j * 3 + 0]? = some u0 → xs[j * 3 + 1]? = some u1 → xs[j * 3 + 2]? = some u2 → ∀ W, Below w.heap.size w W → Calls Try.prog g (#[.agg #[u0, u1, u2]] ++ lb) W (Tells (P j) W)) :
    Calls Try.prog 71 #[v, .func (.func g) #[] lb] w (Tells (∃ j, j < n ∧ P j) w) := by
  obtain ⟨A, c, rfl, -⟩ := id h.form
  have hI := IdxMem_any _ n xs P g lb w h hm eg hf
  have H := Lib.hid hI
  clear hI hf h
  go_enter Try.func71, Try.ntmps71
  go_wp2_with (go_at_call 111; refine H.out.mono ?_; rintro e w1 ⟨r, rfl, hb1, hr⟩)
  go_ret
  refine ⟨_, rfl, ?_, hb1⟩
  rcases hr with ⟨k, h1, rfl, h2, _⟩ | ⟨rfl, h2⟩
  · simp
    exact ⟨k, h1, h2⟩
  · simp
    intro j hj
    exact h2 j hj
end Go.Proofs.Ytjkoceacjbhblaa
namespace Go.Proofs.Ytjkoceacjbhblaa
open Go.RowKit

/-- the call answers an error number: 0 where P holds, else 12; memory only grows -/
def Answers (P : Prop) (w : World) (e : Ending) (w' : World) : Prop := ∃ n : Int, e = .returned (.int .i64 n) ∧ (P ∧ n = 0 ∨ ¬ P ∧ n = 12) ∧ Below w.heap.size w w'
theorem Answers.yes {P : Prop} {w w' : World} {e : Ending} (h : Answers P w e w') (hp : P) : e = .returned (.int .i64 0) ∧ Below w.heap.size w w' := by
  obtain ⟨b, rfl, hb, hw⟩ := h
  rcases hb with ⟨_, rfl⟩ | ⟨hn, _⟩
  · exact ⟨rfl, hw⟩
  · exact absurd hp hn
theorem Answers.no {P : Prop} {w w' : World} {e : Ending} (h : Answers P w e w') (hp : ¬ P) : e = .returned (.int .i64 12) ∧ Below w.heap.size w w' := by
  obtain ⟨b, rfl, hb, hw⟩ := h
  rcases hb with ⟨hn, _⟩ | ⟨_, rfl⟩
  · exact absurd hn hp
  · exact ⟨rfl, hw⟩
theorem Answers.below {P : Prop} {w w' : World} {e : Ending} (h : Answers P w e w') : Below w.heap.size w w' := by
  obtain ⟨_, _, _, h⟩ := h
  exact h
theorem Answers.mk_no {P : Prop} {w w' : World} (hp : ¬ P) (hw : Below w.heap.size w w') : Answers P w (.returned (.int .i64 12)) w' := ⟨12, rfl, Or.inr ⟨hp, rfl⟩, hw⟩
theorem Answers.mk_yes {P : Prop} {w w' : World} (hp : P) (hw : Below w.heap.size w w') : Answers P w (.returned (.int .i64 0)) w' := ⟨0, rfl, Or.inl ⟨hp, rfl⟩, hw⟩

end Go.Proofs.Ytjkoceacjbhblaa
namespace Go.Proofs.Ytjkoceacjbhblaa
open Go.RowKit

theorem toList_inj {a b : ByteArray} (h : a.toList = b.toList) : a = b := by
  rw [ByteArray.toList_eq, ByteArray.toList_eq] at h
  exact ByteArray.ext (Array.toList_inj.1 h)

end Go.Proofs.Ytjkoceacjbhblaa
namespace Go.Proofs.Ytjkoceacjbhblaa
open Go.RowKit

theorem Sl.front {w : World} {size n k c : Nat} {A : Option Addr} {xs : List Value} (h : Sl w size (.slice A n c) n xs) (hk : k ≤ n) : Sl w size (.slice A k c) k (xs.take (k * size)) := by
  obtain ⟨hl, A', c', hv, hc, hcell⟩ := h
  injection hv with e1 e2 e3
  subst e1 e3
  have hm : k * size ≤ n * size := Nat.mul_le_mul_right size hk
  refine ⟨by rw [List.length_take, hl]; omega, A, c, rfl, by omega, fun h0 => ?_⟩
  obtain ⟨b, off, hA, hb, hq⟩ := hcell (by omega)
  refine ⟨b, off, hA, hb, fun j u hu => hq j u ?_⟩
  rw [List.getElem?_take] at hu
  split at hu
  · exact hu
  · cases hu

end Go.Proofs.Ytjkoceacjbhblaa
namespace Go.Proofs.Ytjkoceacjbhblaa
open Go.RowKit

theorem group_head_no (g : GroupD) (h : g.clock < 0 ∨ 1073741824 < g.clock ∨ g.wait < 1 ∨ 1000 < g.wait ∨ g.gen < 0 ∨ 1073741824 < g.gen ∨ 6 < g.mems.length ∨ 4 < g.offs.length) : ¬ GroupOk g := by
  intro hg
  have h1 := hg.clock
  have h2 := hg.wait
  have h3 := hg.gen
  have h4 := hg.many
  have h5 := hg.offs
  omega
set_option maxRecDepth 100000 in
set_option maxHeartbeats 4000000 in
theorem group_check_head (g : GroupD) (A A' : Option Addr) (m m' : Nat) (w : World)
    (hcs : g.clock < 0 ∨ (0 ≤ g.clock ∧ 1073741824 < g.clock) ∨ (0 ≤ g.clock ∧ g.clock ≤ 1073741824 ∧ g.wait < 1) ∨ (0 ≤ g.clock ∧ g.clock ≤ 1073741824 ∧ 1 ≤ g.wait ∧ 1000 < g.wait) ∨ (0 ≤ g.clock ∧ g.clock ≤ 1073741824 ∧ 1 ≤ g.wait ∧ g.wait ≤ 1000 ∧ g.gen < 0) ∨ (0 ≤ g.clock ∧ g.clock ≤ 1073741824 ∧ 1 ≤ g.wait ∧ g.wait ≤ 1000 ∧ 0 ≤ g.gen ∧ 1073741824 < g.gen) ∨
      (0 ≤ g.clock ∧ g.clock ≤ 1073741824 ∧ 1 ≤ g.wait ∧ g.wait ≤ 1000 ∧ 0 ≤ g.gen ∧ g.gen ≤ 1073741824 ∧ 6 < g.mems.length) ∨ (0 ≤ g.clock ∧ g.clock ≤ 1073741824 ∧ 1 ≤ g.wait ∧ g.wait ≤ 1000 ∧ 0 ≤ g.gen ∧ g.gen ≤ 1073741824 ∧ g.mems.length ≤ 6 ∧ 4 < g.offs.length)) :
    Calls Try.prog 31 #[groupV g (.slice A g.mems.length m) (.slice A' g.offs.length m')] w (Answers (GroupOk g) w) := by
  have hno : ¬ GroupOk g := group_head_no g (by omega)
  unfold groupV
  obtain ⟨ck, wt, gn, ms, os⟩ := g
  simp only at *
  have HN := Lib.hid hno
  clear hno
  rcases hcs with h1 | ⟨h1, h2⟩ | ⟨h1, h2, h3⟩ | ⟨h1, h2, h3, h4⟩ | ⟨h1, h2, h3, h4, h5⟩ | ⟨h1, h2, h3, h4, h5, h6⟩ | ⟨h1, h2, h3, h4, h5, h6, h7⟩ | ⟨h1, h2, h3, h4, h5, h6, h7, h8⟩
  all_goals go_enter Try.func31, Try.ntmps31
  all_goals go_wp2
  all_goals go_ret
  all_goals exact Answers.mk_no HN.out ((Below.refl _ _).alloc (Nat.le_refl _) _)

set_option maxRecDepth 100000 in
set_option maxHeartbeats 1000000 in
theorem group_named (x0 : ByteArray) (x1 : Int) (x2 : Value) (nm : ByteArray) (b : Nat) (w : World) (hlt : b < w.heap.size) (h0 : w.cell? ⟨b, 0, none⟩ = some (.string nm)) (_ho : x2.oneCell' = true) :
    Calls Try.prog 72 #[.agg #[.string x0, .int .i64 x1, x2], .pointer (some ⟨b, 0, none⟩)] w (Tells (x0 = nm) w) := by
  have hx : (x0.toList == nm.toList) = true ↔ x0 = nm := ⟨fun h => toList_inj (eq_of_beq h), fun h => by simp [h]⟩
  have HX := Lib.hid hx
  clear hx
  go_enter Try.func72, Try.ntmps72
  go_wp2
  go_ret
  exact ⟨_, rfl, HX.out, (Below.refl _ _).alloc (Nat.le_refl _) _⟩

theorem has_named (ms : List MemD) (A : Option Addr) (k m : Nat) (s : ByteArray) (bt : Nat) (w : World) (hx : Mems w (.slice A ms.length m) ms) (hk : k ≤ ms.length) (hm : ms.length ≤ 6) (hlt : bt < w.heap.size) (h0 : w.cell? ⟨bt, 0, none⟩ = some (.string s)) :
    Calls Try.prog 71 #[.slice A k m, .func (.func 72) #[] #[.pointer (some ⟨bt, 0, none⟩)]] w (Tells (∃ j, j < k ∧ NamedAt ms s j) w) := by
  obtain ⟨rows, hr, hsl, hp⟩ := hx
  refine HasMem_any _ k _ (NamedAt ms s) 72 #[.pointer (some ⟨bt, 0, none⟩)] w (hsl.front hk) (by omega) (enters_of Try.func72 (by kernel_rfl) rfl) ?_
  intro j u0 u1 u2 hj g0 g1 g2 W hW
  have hjr : j < rows.length := by
    have : rows.length = ms.length := by rw [← hr]; simp
    omega
  have key : ∀ i, i < 3 → ((rows.flatMap mcells).take (k * 3))[j * 3 + i]? = (mcells rows[j])[i]? := by
    intro i hi
    rw [List.getElem?_take, if_pos (by omega)]
    exact cells_get mcells 3 (fun _ => rfl) rows j hjr i hi
  rw [key _ (by omega)] at g0 g1 g2
  simp only [mcells, List.getElem?_cons_zero, List.getElem?_cons_succ, Option.some.injEq] at g0 g1 g2
  subst g0 g1 g2
  have hone : rows[j].2.oneCell' = true := Sl.oneCell (hp _ (List.getElem_mem _)).1
  refine (group_named _ _ _ s bt W (Nat.lt_of_lt_of_le hlt hW.size) ((hW.cell (p := ⟨bt, 0, none⟩) hlt).trans h0) hone).mono fun e w' h => h.cong ?_
  subst hr
  unfold NamedAt
  simp [hjr]

set_option maxRecDepth 100000 in
set_option maxHeartbeats 16000000 in
theorem group_check_good (g : GroupD) (A A' : Option Addr) (m m' : Nat) (w : World) (hx : Mems w (.slice A g.mems.length m) g.mems) (ho : Offs w (.slice A' g.offs.length m') g.offs)
    (h1 : 0 ≤ g.clock) (h2 : g.clock ≤ 1073741824) (h3 : 1 ≤ g.wait) (h4 : g.wait ≤ 1000) (h5 : 0 ≤ g.gen) (h6 : g.gen ≤ 1073741824) (h7 : g.mems.length ≤ 6) (h8 : g.offs.length ≤ 4) :
    Calls Try.prog 31 #[groupV g (.slice A g.mems.length m) (.slice A' g.offs.length m')] w (Answers (GroupOk g) w) := by
  have hok : MemsOk g.clock g.mems g.mems.length → OffsTo g.offs g.offs.length → GroupOk g := fun h h' => ⟨⟨h1, h2⟩, ⟨h3, h4⟩, ⟨h5, h6⟩, h7, h8, h, h'.all⟩
  obtain ⟨A1, m1, hv, hm, hcell⟩ := hx.at_
  injection hv with e1 e2 e3
  subst e1 e3
  obtain ⟨A2, m2, hv, hm', hcell'⟩ := ho.at_
  injection hv with e1 e2 e3
  subst e1 e3
  have HOK := Lib.hid hok
  have HX := Lib.hid hx
  have HC := Lib.hid hcell
  have HO := Lib.hid hcell'
  clear hok hx hcell hcell' ho
  unfold groupV
  obtain ⟨ck, wt, gn, ms, os⟩ := g
  simp only at *
  have d1 : decide (ck < 0) = false := by simp; omega
  have d2 : decide (1073741824 < ck) = false := by simp; omega
  have d3 : decide (wt < 1) = false := by simp; omega
  have d4 : decide (1000 < wt) = false := by simp; omega
  have d5 : decide (gn < 0) = false := by simp; omega
  have d6 : decide (1073741824 < gn) = false := by simp; omega
  have d7 : decide ((6 : Int) < (ms.length : Int)) = false := by simp; omega
  have d8 : decide ((4 : Int) < (os.length : Int)) = false := by simp; omega
  go_enter Try.func31, Try.ntmps31
  go_wp2
  clear d1 d2 d3 d4 d5 d6 d7 d8
  have hbl := (Below.refl w.heap.size w).alloc (Nat.le_refl _) (.cells #[.int .i64 ck, .int .i64 wt, .int .i64 gn, .slice A ms.length m, .slice A' os.length m'] 36)
  have bx := Blk.new w 36 #[.int .i64 ck, .int .i64 wt, .int .i64 gn, .slice A ms.length m, .slice A' os.length m']
  generalize w.alloc (.cells #[.int .i64 ck, .int .i64 wt, .int .i64 gn, .slice A ms.length m, .slice A' os.length m'] 36) = W0 at *
  have HBL := Lib.hid hbl
  have HB := Lib.hid bx
  clear hbl bx h1 h2 h3 h4 h5 h6
  go_loopw [52] (fun i wr => ∃ k : Nat, k ≤ ms.length ∧ i = .int .i64 k ∧ Hid (MemsOk ck ms k) ∧ Hid (Below W0.heap.size W0 wr)) (fun i _ => ms.length - (intOf i).toNat)
  case atStart => exact ⟨0, by omega, rfl, fun j _ hj => by omega, Below.refl _ _⟩
  case round =>
    obtain ⟨k, hk, rfl, HK, HW⟩ := hrel
    have hbw := below_then HBL.out HW.out
    have bw := HB.out.below HW.out HB.out.lt
    have g0 := bw.cell 0
    have g3 := bw.cell 3
    have g4 := bw.cell 4
    have glt := bw.lt
    have HBW := Lib.hid hbw
    have BW := Lib.hid bw
    clear bw hbw
    by_cases hlt : k < ms.length
    · obtain ⟨b, off, rfl, hb, hcell⟩ := HC.out (by omega)
      obtain ⟨pv, x0, x1, x2, xi, xl⟩ := hcell k hlt
      have X0 := (HBW.out.cell (p := ⟨b, off + k * 3, none⟩) hb).trans x0
      have X1 := (HBW.out.cell (p := ⟨b, off + k * 3 + 1, none⟩) hb).trans x1
      have X2 := (HBW.out.cell (p := ⟨b, off + k * 3 + 2, none⟩) hb).trans x2
      have i0 : (0 : Int) ≤ (k : Int) := by omega
      have i1 : (k : Int) < (ms.length : Int) := by omega
      obtain ⟨A3, c3, rfl, hc3, xcell⟩ := xi.at_
      have HXC := Lib.hid xcell
      have hble : b < wr.heap.size := by have := HBW.out.size; omega
      clear x0 x1 x2 hcell xi xcell
      go_wp2_with fail
      have bt := Blk.new wr 79 #[.string ms[k].name, .int .i64 ms[k].heard, .slice A3 ms[k].parts.length c3]
      have hal := (Below.refl wr.heap.size wr).alloc (Nat.le_refl _) (.cells #[.string ms[k].name, .int .i64 ms[k].heard, .slice A3 ms[k].parts.length c3] 79)
      have bw2 := BW.out.below hal BW.out.lt
      generalize wr.alloc (.cells #[.string ms[k].name, .int .i64 ms[k].heard, .slice A3 ms[k].parts.length c3] 79) = w2 at *
      refine (group_name_any _ w2).mono ?_
      rintro e w3 hT
      have h3 : Below w2.heap.size w2 w3 := by obtain ⟨_, _, _, h⟩ := hT; exact h
      have hb3 := below_then hal h3
      have bw3 := bw2.below h3 bw2.lt
      have bt3 := bt.below h3 bt.lt
      clear g0 g3 g4 glt X0 X1 X2 BW
      have g0 := bw3.cell 0
      have g3 := bw3.cell 3
      have glt := bw3.lt
      have t1 := bt3.cell 1
      have tlt := bt3.lt
      have B3 := Lib.hid hb3
      have BT3 := Lib.hid bt3
      have BW3 := Lib.hid bw3
      clear hal h3 hb3 bw2 bw3 bt bt3
      by_cases hn : NameOk ms[k].name
      · obtain ⟨rfl, -⟩ := hT.yes hn
        have HNM := Lib.hid hn
        clear hT hn
        by_cases hbad : ms[k].heard < 0 ∨ (0 ≤ ms[k].heard ∧ ck < ms[k].heard)
        · have hno : ¬ GroupOk ⟨ck, wt, gn, ms, os⟩ := not_ok_mem (g := ⟨ck, wt, gn, ms, os⟩) hlt (fun h => by have := h.heard; simp only at this; omega)
          have HN := Lib.hid hno
          clear hno
          rcases hbad with y1 | ⟨y1, y2⟩
          all_goals go_wp2_with fail
          all_goals go_ret
          all_goals exact Answers.mk_no HN.out (below_then HBW.out B3.out)
        · have y1 : 0 ≤ ms[k].heard := by omega
          have y2 : ms[k].heard ≤ ck := by omega
          have j0 : (k : Int) ≤ (m : Int) := by omega
          clear hbad
          go_wp2_with fail
          have hb4 := below_then HBW.out B3.out
          refine (has_named ms _ k m ms[k].name wr.heap.size w3 (HX.out.below hb4) (by omega) h7 tlt (BT3.out.cell 0)).mono ?_
          rintro e w4 hT
          have h4 : Below w3.heap.size w3 w4 := by obtain ⟨_, _, _, h⟩ := hT; exact h
          have h5 := below_then B3.out h4
          have bt4 := BT3.out.below h4 BT3.out.lt
          clear g0 g3 glt t1 tlt
          have t2 := bt4.cell 2
          have tlt := bt4.lt
          have H5 := Lib.hid h5
          have H6 := Lib.hid (below_then HBW.out h5)
          clear hb4 h4 h5 bt4
          by_cases hc : ∃ j, j < k ∧ NamedAt ms ms[k].name j
          · obtain ⟨rfl, -⟩ := hT.yes hc
            have hno : ¬ GroupOk ⟨ck, wt, gn, ms, os⟩ := not_ok_named (g := ⟨ck, wt, gn, ms, os⟩) hlt hc
            have HN := Lib.hid hno
            clear hT hc hno
            go_wp2_with fail
            go_ret
            exact Answers.mk_no HN.out H6.out
          · obtain ⟨rfl, -⟩ := hT.no hc
            have hstep : Rises ms[k].parts → MemsOk ck ms (k + 1) := fun hr => HK.out.step hlt ⟨HNM.out, ⟨y1, y2⟩, hr⟩ hc
            have HS := Lib.hid hstep
            clear hT hc hstep
            go_wp2_with fail
            go_loopw [84] (fun j wq => ∃ q : Nat, q ≤ ms[k].parts.length ∧ j = .int .i64 q ∧ Hid (RisesTo ms[k].parts q) ∧ ∃ n, wq = w4.drewN n) (fun j _ => ms[k].parts.length - (intOf j).toNat)
            case atStart => exact ⟨0, by omega, rfl, fun j _ hj => by omega, 0, rfl⟩
            case round =>
              obtain ⟨q, hq, rfl, HQ, n, rfl⟩ := hrel
              have hbe := below_then H6.out (below_drewN_ w4 n)
              have HBE := Lib.hid hbe
              clear hbe
              by_cases hlq : q < ms[k].parts.length
              · obtain ⟨b3, o3, rfl, hb3, hxc⟩ := HXC.out (by omega)
                have U := (H6.out.cell (p := ⟨b3, o3 + q, none⟩) hb3).trans (hxc q hlq)
                have q0 : (0 : Int) ≤ (q : Int) := by omega
                have q1 : (q : Int) < (ms[k].parts.length : Int) := by omega
                have hno : ms[k].parts[q] < 0 ∨ 3 < ms[k].parts[q] ∨ (∃ j, ∃ hj : j + 1 = q, ms[k].parts[q] ≤ ms[k].parts[j]) → ¬ GroupOk ⟨ck, wt, gn, ms, os⟩ := fun h => not_ok_mem (g := ⟨ck, wt, gn, ms, os⟩) hlt (fun h' => rises_no hlq h h'.rises)
                have HN := Lib.hid hno
                clear hno
                by_cases hp1 : ms[k].parts[q] < 0
                · clear hxc
                  go_wp2
                  go_ret
                  exact Answers.mk_no (HN.out (Or.inl hp1)) HBE.out
                · by_cases hp2 : 3 < ms[k].parts[q]
                  · clear hxc
                    go_wp2
                    go_ret
                    exact Answers.mk_no (HN.out (Or.inr (Or.inl hp2))) HBE.out
                  · have y3 : 0 ≤ ms[k].parts[q] := by omega
                    have y4 : ms[k].parts[q] ≤ 3 := by omega
                    clear hp1 hp2
                    rcases q with _ | q
                    · clear hxc
                      have U0 : w4.cell? ⟨b3, o3, none⟩ = some (.int .i64 ms[k].parts[0]) := U
                      clear U
                      go_wp2
                      go_light
                      exact ⟨⟨1, by omega, rfl, HQ.out.step hlq y3 y4 (fun j hj => by omega), _, rfl⟩, by simp [intOf]; omega⟩
                    · have hq' : q < ms[k].parts.length := by omega
                      have U2 := (H6.out.cell (p := ⟨b3, o3 + q, none⟩) hb3).trans (hxc q hq')
                      have e1 : ((q + 1 : Nat) : Int) = (q : Int) + 1 := by omega
                      clear hxc
                      by_cases hqq : ms[k].parts[q] < ms[k].parts[q + 1]
                      · go_wp2
                        go_light
                        exact ⟨⟨q + 1 + 1, by omega, by go_num, HQ.out.step hlq y3 y4 (fun j hj => by
                          obtain rfl : j = q := by omega
                          exact hqq), _, rfl⟩, by simp [intOf]; omega⟩
                      · go_wp2
                        go_ret
                        exact Answers.mk_no (HN.out (Or.inr (Or.inr ⟨q, rfl, by omega⟩))) HBE.out
              · obtain rfl : q = ms[k].parts.length := by omega
                have hr := HS.out HQ.out.all
                have HR := Lib.hid hr
                clear hr
                go_wp2
                go_light
                exact ⟨⟨k + 1, by omega, by go_num, HR.out, below_then HW.out (below_then H5.out (below_drewN_ _ _))⟩, by simp [intOf]; omega⟩
      · obtain ⟨rfl, -⟩ := hT.no hn
        have hno : ¬ GroupOk ⟨ck, wt, gn, ms, os⟩ := not_ok_mem (g := ⟨ck, wt, gn, ms, os⟩) hlt (fun h => hn h.name)
        have HN := Lib.hid hno
        clear hT hn hno
        go_wp2_with fail
        go_ret
        exact Answers.mk_no HN.out (below_then HBW.out B3.out)
    · obtain rfl : k = ms.length := by omega
      clear hlt
      obtain ⟨w9, hw9⟩ : ∃ w9, w9 = wr := ⟨_, rfl⟩
      subst hw9
      go_wp2_with fail
      go_loopw [114] (fun i wq => ∃ k : Nat, k ≤ os.length ∧ i = .int .i64 k ∧ Hid (OffsTo os k) ∧ Hid (Below w9.heap.size w9 wq)) (fun i _ => os.length - (intOf i).toNat)
      case atStart => exact ⟨0, by omega, rfl, OffsTo.zero os, Below.refl _ _⟩
      case round =>
        obtain ⟨k, hko, rfl, HQ, HV⟩ := hrel
        have hbv := below_then HBW.out HV.out
        have bv := BW.out.below HV.out BW.out.lt
        have v4 := bv.cell 4
        have vlt := bv.lt
        have HBV := Lib.hid hbv
        have BV := Lib.hid bv
        clear bv hbv g0 g3 g4 glt
        by_cases hlt : k < os.length
        · obtain ⟨b, off, rfl, hb, hcell⟩ := HO.out (by omega)
          obtain ⟨x0, x1⟩ := hcell k hlt
          have X0 := (HBV.out.cell (p := ⟨b, off + k * 2, none⟩) hb).trans x0
          have X1 := (HBV.out.cell (p := ⟨b, off + k * 2 + 1, none⟩) hb).trans x1
          have i0 : (0 : Int) ≤ (k : Int) := by omega
          have i1 : (k : Int) < (os.length : Int) := by omega
          have hble : b < wr.heap.size := by have := HBV.out.size; omega
          have hno : os[k].at_ < 0 ∨ 400 < os[k].at_ ∨ os[k].part < 0 ∨ 3 < os[k].part ∨ (∃ j, ∃ hj : j + 1 = k, os[k].part ≤ os[j].part) → ¬ GroupOk ⟨ck, wt, gn, ms, os⟩ := fun h => not_ok_off (g := ⟨ck, wt, gn, ms, os⟩) hlt h
          have HN := Lib.hid hno
          have HCC := Lib.hid hcell
          clear hno x0 x1 hcell
          go_wp2_with fail
          have bo := Blk.new wr 81 #[.int .i64 os[k].part, .int .i64 os[k].at_]
          have hal := (Below.refl wr.heap.size wr).alloc (Nat.le_refl _) (.cells #[.int .i64 os[k].part, .int .i64 os[k].at_] 81)
          have bv2 := BV.out.below hal BV.out.lt
          generalize wr.alloc (.cells #[.int .i64 os[k].part, .int .i64 os[k].at_] 81) = w2 at *
          clear v4 vlt X0 X1
          have b0 := bo.cell 0
          have b1 := bo.cell 1
          have blt := bo.lt
          have v4 := bv2.cell 4
          have vlt := bv2.lt
          have HA := Lib.hid hal
          have HBE := Lib.hid (below_then HBV.out hal)
          clear bo hal bv2
          by_cases hp1 : os[k].part < 0
          · have d1 : decide (os[k].part < 0) = true := decide_eq_true hp1
            go_quiet (fail)
            go_wp2
            go_ret
            exact Answers.mk_no (HN.out (by omega)) (below_then HBE.out (below_drewN_ _ _))
          have d1 : decide (os[k].part < 0) = false := decide_eq_false hp1
          by_cases hp2 : 4 ≤ os[k].part
          · have d2 : decide (4 ≤ os[k].part) = true := decide_eq_true hp2
            go_quiet (fail)
            go_wp2
            go_ret
            exact Answers.mk_no (HN.out (by omega)) (below_then HBE.out (below_drewN_ _ _))
          have d2 : decide (4 ≤ os[k].part) = false := decide_eq_false hp2
          have y1 : 0 ≤ os[k].part := by omega
          have y2 : os[k].part < 4 := by omega
          clear hp1 hp2
          by_cases hp1 : os[k].at_ < 0
          · have d3 : decide (os[k].at_ < 0) = true := decide_eq_true hp1
            go_quiet (fail)
            go_wp2
            go_ret
            exact Answers.mk_no (HN.out (Or.inl hp1)) (below_then HBE.out (below_drewN_ _ _))
          have d3 : decide (os[k].at_ < 0) = false := decide_eq_false hp1
          by_cases hp2 : 400 < os[k].at_
          · have d4 : decide (400 < os[k].at_) = true := decide_eq_true hp2
            go_quiet (fail)
            go_wp2
            go_ret
            exact Answers.mk_no (HN.out (Or.inr (Or.inl hp2))) (below_then HBE.out (below_drewN_ _ _))
          have d4 : decide (400 < os[k].at_) = false := decide_eq_false hp2
          have y3 : 0 ≤ os[k].at_ := by omega
          have y4 : os[k].at_ ≤ 400 := by omega
          clear hp1 hp2
          rcases k with _ | k
          · go_quiet (fail)
            go_wp2
            go_light
            exact ⟨⟨1, by omega, rfl, HQ.out.step hlt y3 y4 y1 (by omega) (fun j hj => by omega), below_then HV.out (below_then HA.out (below_drewN_ _ _))⟩, by simp [intOf]; omega⟩
          · have hk' : k < os.length := by omega
            obtain ⟨u0, -⟩ := HCC.out k hk'
            have U2 := (HBE.out.cell (p := ⟨b, off + k * 2, none⟩) hb).trans u0
            have e1 : ((k + 1 : Nat) : Int) = (k : Int) + 1 := by omega
            have d5 : decide ((0 : Int) < (k : Int) + 1) = true := decide_eq_true (by omega)
            clear u0
            by_cases hqq : os[k].part < os[k + 1].part
            · have d6 : decide (os[k + 1].part ≤ os[k].part) = false := decide_eq_false (by omega)
              go_quiet (fail)
              go_wp2
              go_light
              exact ⟨⟨k + 1 + 1, by omega, by go_num, HQ.out.step hlt y3 y4 y1 (by omega) (fun j hj => by
                obtain rfl : j = k := by omega
                exact hqq), below_then HV.out (below_then HA.out (below_drewN_ _ _))⟩, by simp [intOf]; omega⟩
            · have d6 : decide (os[k + 1].part ≤ os[k].part) = true := decide_eq_true (by omega)
              go_quiet (fail)
              go_wp2
              go_ret
              exact Answers.mk_no (HN.out (Or.inr (Or.inr (Or.inr (Or.inr ⟨k, rfl, by omega⟩))))) (below_then HBE.out (below_drewN_ _ _))
        · obtain rfl : k = os.length := by omega
          have hr := HOK.out HK.out HQ.out
          have HR := Lib.hid hr
          clear hr
          go_wp2
          go_ret
          exact Answers.mk_yes HR.out HBV.out

theorem group_check_any (v : Value) (g : GroupD) (w : World) (h : Gv w v g) : Calls Try.prog 31 #[v] w (Answers (GroupOk g) w) := by
  obtain ⟨mv, ov, rfl, hx, ho, -⟩ := h
  obtain ⟨A, m, rfl, -⟩ := hx.at_
  obtain ⟨A', m', rfl, -⟩ := ho.at_
  by_cases hb : g.clock < 0 ∨ 1073741824 < g.clock ∨ g.wait < 1 ∨ 1000 < g.wait ∨ g.gen < 0 ∨ 1073741824 < g.gen ∨ 6 < g.mems.length ∨ 4 < g.offs.length
  · exact group_check_head g A A' m m' w (by omega)
  · simp only [not_or] at hb
    exact group_check_good g A A' m m' w hx ho (by omega) (by omega) (by omega) (by omega) (by omega) (by omega) (by omega) (by omega)

end Go.Proofs.Ytjkoceacjbhblaa
namespace Go.Proofs.Ytjkoceacjbhblaa
open Go.RowKit

/-- the value that the loop over the parts keeps -/
def LastOf (l : List Int) (q : Nat) (last : Int) : Prop := (q = 0 → last = -1) ∧ ∀ p (h : p < l.length), p + 1 = q → l[p] = last
end Go.Proofs.Ytjkoceacjbhblaa
namespace Go.Proofs.Ytjkoceacjbhblaa
open Go.RowKit

/-- tailraceref.In within a region that has drawn -/
theorem quiet_in {w : World} {a n : Nat} {x lo hi : Int} : Calls Try.prog 64 #[.int .i64 x, .int .i64 lo, .int .i64 hi] (w.drewN (a + n)) fun e w'' => e = .returned (.bool (inB x lo hi)) ∧ ∃ m, w'' = w.drewN (a + m) :=
  (In_any x lo hi _).mono fun _ _ h => ⟨h.1, n, h.2.symm⟩
set_option maxRecDepth 100000 in
set_option maxHeartbeats 4000000 in
theorem rises_any (v : Value) (l : List Int) (w : World) (h : Is w v l) (hl : l.length ≤ 9223372036854775807) : Calls Try.prog 74 #[v] w (Tells (Rises l) w) := by
  obtain ⟨A, c, rfl, hc, hcell⟩ := h.at_
  have HC := Lib.hid hcell
  clear h hcell
  go_enter Try.func74, Try.ntmps74
  go_wp2
  go_loopw [3] (fun i wr => ∃ k : Nat, k ≤ l.length ∧ i = .int .i64 k ∧ Hid (RisesTo l k) ∧ ∃ n, wr = w.drewN n) (fun i _ => l.length - (intOf i).toNat)
  case atStart => exact ⟨0, by omega, rfl, fun j _ hj => by omega, 0, rfl⟩
  case round =>
    obtain ⟨k, hk, rfl, HK, n, rfl⟩ := hrel
    have HBE := Lib.hid (below_drewN_ w n)
    by_cases hlt : k < l.length
    · obtain ⟨b, off, rfl, hb, hcell⟩ := HC.out (by omega)
      have X := hcell k hlt
      have i0 : (0 : Int) ≤ (k : Int) := by omega
      have i1 : (k : Int) < (l.length : Int) := by omega
      have HCC := Lib.hid hcell
      clear hcell
      rcases hin : inB l[k] 0 3 with _ | _
      · have hno : ¬ Rises l := rises_no hlt (by simp only [inB, Bool.and_eq_false_iff, decide_eq_false_iff_not] at hin; omega)
        have HN := Lib.hid hno
        clear hno
        go_wp2_with fail
        go_quiet ((go_at_call 64; exact quiet_in))
        go_wp2
        go_ret
        exact Tells.mk_no HN.out (below_then HBE.out (below_drewN_ _ _))
      · have hbd : 0 ≤ l[k] ∧ l[k] ≤ 3 := by simpa [inB] using hin
        rcases k with _ | k
        · have X0 : w.cell? ⟨b, off, none⟩ = some (.int .i64 l[0]) := X
          have hst := HK.out.step hlt hbd.1 hbd.2 (fun j hj => by omega)
          have HST := Lib.hid hst
          clear hst hbd X
          go_wp2_with fail
          go_quiet ((go_at_call 64; exact quiet_in))
          go_wp2
          go_light
          exact ⟨⟨1, by omega, rfl, HST.out, _, rfl⟩, by simp [intOf]; omega⟩
        · have hk' : k < l.length := by omega
          have X2 := HCC.out k hk'
          have e1 : ((k + 1 : Nat) : Int) = (k : Int) + 1 := by omega
          have HBD := Lib.hid hbd
          clear hbd
          by_cases hq : l[k] < l[k + 1]
          · have hst := HK.out.step hlt HBD.out.1 HBD.out.2 (fun j hj => by
              obtain rfl : j = k := by omega
              exact hq)
            have HST := Lib.hid hst
            clear hst
            go_wp2_with fail
            go_quiet ((go_at_call 64; exact quiet_in))
            go_wp2
            go_light
            exact ⟨⟨k + 1 + 1, by omega, by go_num, HST.out, _, rfl⟩, by simp [intOf]; omega⟩
          · have hq2 : l[k + 1] ≤ l[k] := by omega
            have hno : ¬ Rises l := rises_no hlt (Or.inr (Or.inr ⟨k, rfl, hq2⟩))
            have HN := Lib.hid hno
            clear hno
            go_wp2_with fail
            go_quiet ((go_at_call 64; exact quiet_in))
            go_wp2
            go_ret
            exact Tells.mk_no HN.out (below_then HBE.out (below_drewN_ _ _))
    · obtain rfl : k = l.length := by omega
      have hr := HK.out.all
      have HR := Lib.hid hr
      clear hr
      go_wp2
      go_ret
      exact Tells.mk_yes HR.out HBE.out

set_option maxRecDepth 100000 in
set_option maxHeartbeats 8000000 in
theorem group_may_head (g : GroupD) (A A' : Option Addr) (m m' : Nat) (w : World)
    (hcs : inB g.clock 0 1073741824 = false ∨ (inB g.clock 0 1073741824 = true ∧ inB g.wait 1 1000 = false) ∨ (inB g.clock 0 1073741824 = true ∧ inB g.wait 1 1000 = true ∧ inB g.gen 0 1073741824 = false) ∨ (inB g.clock 0 1073741824 = true ∧ inB g.wait 1 1000 = true ∧ inB g.gen 0 1073741824 = true ∧ 6 < g.mems.length) ∨
      (inB g.clock 0 1073741824 = true ∧ inB g.wait 1 1000 = true ∧ inB g.gen 0 1073741824 = true ∧ g.mems.length ≤ 6 ∧ 4 < g.offs.length)) :
    Calls Try.prog 32 #[groupV g (.slice A g.mems.length m) (.slice A' g.offs.length m')] w (Tells (GroupOk g) w) := by
  have hno : ¬ GroupOk g := by
    intro hc
    have h1 := hc.clock
    have h2 := hc.wait
    have h3 := hc.gen
    have h4 := hc.many
    have h5 := hc.offs
    simp only [inB, Bool.and_eq_false_iff, decide_eq_false_iff_not] at hcs
    omega
  unfold groupV
  obtain ⟨ck, wt, gn, ms, os⟩ := g
  simp only at *
  have HN := Lib.hid hno
  clear hno
  rcases hcs with h1 | ⟨h1, h2⟩ | ⟨h1, h2, h3⟩ | ⟨h1, h2, h3, h4⟩ | ⟨h1, h2, h3, h4, h5⟩
  all_goals go_enter Try.func32, Try.ntmps32
  all_goals go_wp2_with (go_at_call 64; refine (In_any _ _ _ _).mono ?_; rintro e w' ⟨rfl, rfl⟩)
  all_goals go_ret
  all_goals exact Tells.mk_no HN.out ((Below.refl _ _).alloc (Nat.le_refl _) _)

/-- the loop over the offsets -/
def GmLp (w : World) (os : List OffD) (s i : Value) (wr : World) : Prop :=
  ∃ k : Nat, k ≤ os.length ∧ i = .int .i64 k ∧ (∀ j (hj : j < os.length), j < k → 0 ≤ os[j].at_ ∧ os[j].at_ ≤ 400) ∧ wr.ownsRow w.heap.size 3 1 s k (((os.map OffD.part).take k).map (Value.int .i64)) ∧ Below w.heap.size w wr

set_option maxRecDepth 100000 in
set_option maxHeartbeats 16000000 in
theorem group_may_good (g : GroupD) (A A' : Option Addr) (m m' : Nat) (w : World) (hx : Mems w (.slice A g.mems.length m) g.mems) (ho : Offs w (.slice A' g.offs.length m') g.offs)
    (h1 : inB g.clock 0 1073741824 = true) (h2 : inB g.wait 1 1000 = true) (h3 : inB g.gen 0 1073741824 = true) (h7 : g.mems.length ≤ 6) (h8 : g.offs.length ≤ 4) (hnm : ∀ t ∈ g.mems, t.name.size ≤ 9223372036854775807) :
    Calls Try.prog 32 #[groupV g (.slice A g.mems.length m) (.slice A' g.offs.length m')] w (Tells (GroupOk g) w) := by
  have hok : MemsOk g.clock g.mems g.mems.length → (∀ j (hj : j < g.offs.length), j < g.offs.length → 0 ≤ g.offs[j].at_ ∧ g.offs[j].at_ ≤ 400) → Rises (g.offs.map OffD.part) → GroupOk g := fun h h' h'' => ⟨by simpa [inB] using h1, by simpa [inB] using h2, by simpa [inB] using h3, h7, h8, h, ⟨fun o ho => by
    obtain ⟨i, hi, rfl⟩ := List.mem_iff_getElem.1 ho
    exact h' i hi hi, h''⟩⟩
  obtain ⟨A1, m1, hv, hm, hcell⟩ := hx.at_
  injection hv with e1 e2 e3
  subst e1 e3
  obtain ⟨A2, m2, hv, hm', hcell'⟩ := ho.at_
  injection hv with e1 e2 e3
  subst e1 e3
  have HOK := Lib.hid hok
  have HC := Lib.hid hcell
  have HO := Lib.hid hcell'
  have HNS := Lib.hid hnm
  clear hok hx hcell hcell' ho hnm
  unfold groupV
  obtain ⟨ck, wt, gn, ms, os⟩ := g
  simp only at *
  go_enter Try.func32, Try.ntmps32
  go_wp2_with (go_at_call 64; refine (In_any _ _ _ _).mono ?_; rintro e w' ⟨rfl, rfl⟩)
  have hbl := (Below.refl w.heap.size w).alloc (Nat.le_refl _) (.cells #[.int .i64 ck, .int .i64 wt, .int .i64 gn, .slice A ms.length m, .slice A' os.length m'] 36)
  have bx := Blk.new w 36 #[.int .i64 ck, .int .i64 wt, .int .i64 gn, .slice A ms.length m, .slice A' os.length m']
  generalize w.alloc (.cells #[.int .i64 ck, .int .i64 wt, .int .i64 gn, .slice A ms.length m, .slice A' os.length m'] 36) = W0 at *
  have HBL := Lib.hid hbl
  have HB := Lib.hid bx
  clear hbl bx h1 h2 h3
  go_loopw [3] (fun i wr => ∃ k : Nat, k ≤ ms.length ∧ i = .int .i64 k ∧ Hid (MemsOk ck ms k) ∧ Hid (Below W0.heap.size W0 wr)) (fun i _ => ms.length - (intOf i).toNat)
  case atStart => exact ⟨0, by omega, rfl, fun j _ hj => by omega, Below.refl _ _⟩
  case round =>
    obtain ⟨k, hk, rfl, HK, HW⟩ := hrel
    have hbw := below_then HBL.out HW.out
    have bw := HB.out.below HW.out HB.out.lt
    have g0 := bw.cell 0
    have g3 := bw.cell 3
    have g4 := bw.cell 4
    have glt := bw.lt
    have HBW := Lib.hid hbw
    have BW := Lib.hid bw
    clear bw hbw
    by_cases hlt : k < ms.length
    · obtain ⟨b, off, rfl, hb, hcell⟩ := HC.out (by omega)
      obtain ⟨pv, x0, x1, x2, xi, xl⟩ := hcell k hlt
      have X0 := (HBW.out.cell (p := ⟨b, off + k * 3, none⟩) hb).trans x0
      have X1 := (HBW.out.cell (p := ⟨b, off + k * 3 + 1, none⟩) hb).trans x1
      have X2 := (HBW.out.cell (p := ⟨b, off + k * 3 + 2, none⟩) hb).trans x2
      have i0 : (0 : Int) ≤ (k : Int) := by omega
      have i1 : (k : Int) < (ms.length : Int) := by omega
      obtain ⟨A3, c3, rfl, hc3, -⟩ := xi.at_
      have HXI := Lib.hid xi
      have HCC := Lib.hid hcell
      have hble : b < wr.heap.size := by have := HBW.out.size; omega
      clear x0 x1 x2 hcell xi
      go_wp2_with fail
      have bt := Blk.new wr 79 #[.string ms[k].name, .int .i64 ms[k].heard, .slice A3 ms[k].parts.length c3]
      have hal := (Below.refl wr.heap.size wr).alloc (Nat.le_refl _) (.cells #[.string ms[k].name, .int .i64 ms[k].heard, .slice A3 ms[k].parts.length c3] 79)
      have bw2 := BW.out.below hal BW.out.lt
      generalize wr.alloc (.cells #[.string ms[k].name, .int .i64 ms[k].heard, .slice A3 ms[k].parts.length c3] 79) = w2 at *
      refine (nameMay_any ms[k].name w2 (HNS.out _ (List.getElem_mem _))).mono ?_
      rintro e w3 hT
      have h3 : Below w2.heap.size w2 w3 := by obtain ⟨_, _, _, h⟩ := hT; exact h
      have hb3 := below_then hal h3
      have bw3 := bw2.below h3 bw2.lt
      have bt3 := bt.below h3 bt.lt
      clear g0 g3 g4 glt X0 X1 X2 BW
      have g0 := bw3.cell 0
      have g3 := bw3.cell 3
      have glt := bw3.lt
      have t0 := bt3.cell 0
      have t1 := bt3.cell 1
      have t2 := bt3.cell 2
      have tlt := bt3.lt
      have B3 := Lib.hid hb3
      have BT3 := Lib.hid bt3
      have BW3 := Lib.hid bw3
      clear hal h3 hb3 bw2 bw3 bt bt3
      by_cases hn : NameOk ms[k].name
      · obtain ⟨rfl, -⟩ := hT.yes hn
        have HNM := Lib.hid hn
        clear hT hn
        rcases hin : inB ms[k].heard 0 ck with _ | _
        · have hno : ¬ GroupOk ⟨ck, wt, gn, ms, os⟩ := not_ok_mem (g := ⟨ck, wt, gn, ms, os⟩) hlt (fun h => by
            have := h.heard
            simp only [inB, Bool.and_eq_false_iff, decide_eq_false_iff_not] at hin this
            omega)
          have HN := Lib.hid hno
          clear hno
          go_wp2_with (go_at_call 64; refine (In_any _ _ _ _).mono ?_; rintro e w' ⟨rfl, rfl⟩)
          go_ret
          exact Tells.mk_no HN.out (below_then HBW.out B3.out)
        · have hbd : 0 ≤ ms[k].heard ∧ ms[k].heard ≤ ck := by simpa [inB] using hin
          have HBD := Lib.hid hbd
          clear hbd
          go_wp2_with (go_at_call 64; refine (In_any _ _ _ _).mono ?_; rintro e w' ⟨rfl, rfl⟩)
          refine (rises_any _ ms[k].parts w3 (HXI.out.below (below_then HBW.out B3.out)) xl).mono ?_
          rintro e w4 hT
          have h4 : Below w3.heap.size w3 w4 := by obtain ⟨_, _, _, h⟩ := hT; exact h
          have h5 := below_then B3.out h4
          have bt4 := BT3.out.below h4 BT3.out.lt
          have bw4 := BW3.out.below h4 BW3.out.lt
          clear g0 g3 glt t0 t1 t2 tlt hin
          have t0 := bt4.cell 0
          have tlt := bt4.lt
          have g3 := bw4.cell 3
          have glt := bw4.lt
          have H5 := Lib.hid h5
          have H6 := Lib.hid (below_then HBW.out h5)
          clear h4 h5 bt4 bw4
          by_cases hr : Rises ms[k].parts
          · obtain ⟨rfl, -⟩ := hT.yes hr
            have HR := Lib.hid hr
            clear hT hr
            go_wp2_with fail
            go_loopw [5] (fun j wq => ∃ p : Nat, p ≤ k ∧ j = .int .i64 p ∧ Hid (∀ j', j' < p → ¬ NamedAt ms ms[k].name j') ∧ ∃ n, wq = w4.drewN n) (fun j _ => k - (intOf j).toNat)
            case atStart => exact ⟨0, by omega, rfl, fun j' hj => by omega, 0, rfl⟩
            case round =>
              obtain ⟨p, hp, rfl, HP, n, rfl⟩ := hrel
              have hbe := below_then H6.out (below_drewN_ w4 n)
              have HBE := Lib.hid hbe
              clear hbe
              by_cases hlp : p < k
              · have hlp' : p < ms.length := by omega
                obtain ⟨-, u0, -⟩ := HCC.out p hlp'
                have U0 := (H6.out.cell (p := ⟨b, off + p * 3, none⟩) hb).trans u0
                have p0 : (0 : Int) ≤ (p : Int) := by omega
                have p1 : (p : Int) < (ms.length : Int) := by omega
                have p2 : (p : Int) < (k : Int) := by omega
                clear u0
                by_cases hnm : ms[p].name = ms[k].name
                · have m1 : (ms[p].name.toList == ms[k].name.toList) = true := by simp [hnm]
                  have hno : ¬ GroupOk ⟨ck, wt, gn, ms, os⟩ := not_ok_named (g := ⟨ck, wt, gn, ms, os⟩) hlt ⟨p, hlp, hlp', hnm⟩
                  have HN := Lib.hid hno
                  clear hno hnm
                  go_wp2
                  go_quiet (fail)
                  go_wp2
                  go_ret
                  exact Tells.mk_no HN.out (below_then HBE.out (below_drewN_ _ _))
                · have m1 : (ms[p].name.toList == ms[k].name.toList) = false := beq_eq_false_iff_ne.2 fun h => hnm (toList_inj h)
                  have hst : ∀ j', j' < p + 1 → ¬ NamedAt ms ms[k].name j' := fun j' hj' => by
                    rcases Nat.lt_succ_iff_lt_or_eq.1 hj' with h' | rfl
                    · exact HP.out j' h'
                    · exact fun ⟨_, h⟩ => hnm h
                  have HST := Lib.hid hst
                  clear hst hnm
                  go_wp2
                  go_quiet (fail)
                  go_wp2
                  go_light
                  exact ⟨⟨p + 1, by omega, by go_num, HST.out, _, rfl⟩, by simp [intOf]; omega⟩
              · obtain rfl : p = k := by omega
                have hst := HK.out.step hlt ⟨HNM.out, HBD.out, HR.out⟩ (fun ⟨j, hj, h⟩ => HP.out j hj h)
                have HST := Lib.hid hst
                clear hst
                go_wp2
                go_light
                exact ⟨⟨p + 1, by omega, by go_num, HST.out, below_then HW.out (below_then H5.out (below_drewN_ w4 n))⟩, by simp [intOf]; omega⟩
          · obtain ⟨rfl, -⟩ := hT.no hr
            have hno : ¬ GroupOk ⟨ck, wt, gn, ms, os⟩ := not_ok_mem (g := ⟨ck, wt, gn, ms, os⟩) hlt (fun h => hr h.rises)
            have HN := Lib.hid hno
            clear hT hr hno
            go_wp2_with fail
            go_ret
            exact Tells.mk_no HN.out H6.out
      · obtain ⟨rfl, -⟩ := hT.no hn
        have hno : ¬ GroupOk ⟨ck, wt, gn, ms, os⟩ := not_ok_mem (g := ⟨ck, wt, gn, ms, os⟩) hlt (fun h => hn h.name)
        have HN := Lib.hid hno
        clear hT hn hno
        go_wp2_with fail
        go_ret
        exact Tells.mk_no HN.out (below_then HBW.out B3.out)
    · obtain rfl : k = ms.length := by omega
      clear hlt
      obtain ⟨w9, hw9⟩ : ∃ w9, w9 = wr := ⟨_, rfl⟩
      subst hw9
      obtain ⟨i0, hi0, hz0, hz1, hz2⟩ := info_parts CloneInt_info
      have h9 := BW.out.lt
      go_wp2_with fail
      clear g0 g3 g4 glt
      go_loopw [6, 7] (fun s i wq => GmLp w9 os s i wq) (fun _ i _ => os.length - (intOf i).toNat)
      case atStart => exact ⟨0, by omega, rfl, fun j _ hj => by omega, by simpa using World.ownsRow_nil _ _ _ _, Below.refl _ _⟩
      case round =>
        obtain ⟨k, hko, rfl, hat, ho, hb⟩ := hrel
        have HAT := Lib.hid hat
        have hbv := below_then HBW.out hb
        have bv := BW.out.below hb BW.out.lt
        have v4 := bv.cell 4
        have vlt := bv.lt
        have hsz := hb.size
        have HBV := Lib.hid hbv
        have HB9 := Lib.hid hb
        clear bv hbv hb hat
        by_cases hlt : k < os.length
        · obtain ⟨b, off, rfl, hbb, hcell⟩ := HO.out (by omega)
          obtain ⟨x0, x1⟩ := hcell k hlt
          have X0 := (HBV.out.cell (p := ⟨b, off + k * 2, none⟩) hbb).trans x0
          have X1 := (HBV.out.cell (p := ⟨b, off + k * 2 + 1, none⟩) hbb).trans x1
          have i0' : (0 : Int) ≤ (k : Int) := by omega
          have i1' : (k : Int) < (os.length : Int) := by omega
          clear x0 x1 hcell
          rcases hin : inB os[k].at_ 0 400 with _ | _
          · have hno : ¬ GroupOk ⟨ck, wt, gn, ms, os⟩ := not_ok_off (g := ⟨ck, wt, gn, ms, os⟩) hlt (by
              simp only [inB, Bool.and_eq_false_iff, decide_eq_false_iff_not] at hin
              simp only
              omega)
            have HN := Lib.hid hno
            clear hno
            go_wp2_with (go_at_call 64; refine (In_any _ _ _ _).mono ?_; rintro e w' ⟨rfl, rfl⟩)
            go_ret
            exact Tells.mk_no HN.out HBV.out
          · have hst : ∀ j (hj : j < os.length), j < k + 1 → 0 ≤ os[j].at_ ∧ os[j].at_ ≤ 400 := fun j hj hjk => by
              rcases Nat.lt_succ_iff_lt_or_eq.1 hjk with h' | rfl
              · exact HAT.out j hj h'
              · simpa [inB] using hin
            have HST := Lib.hid hst
            clear hst
            go_wp2_with (first | (go_at_call 64; refine (In_any _ _ _ _).mono ?_; rintro e w' ⟨rfl, rfl⟩) | (at_builtin; go_must (refine wpList_append_sl _ rfl (.tmp 95) (.tmp 102) 24 rfl w9.heap.size 3 i0 (.int .i64 0) 1 8 Try.underlying24 hi0 hz0 hz1 hz2 rfl (by decide) _ _ _ (by rfl) (ho.alloc _) _ 1 _ (by rfl) (Sl.lit _ _ _ 1 1 rfl) (by intro x hx; simp at hx; subst hx; rfl) (by simp only [maxLen]; omega) (by omega) (by simp; omega) ?_; intro v4 w4 ho4 hg4 ha4)))
            go_light
            have hmk : k < (os.map OffD.part).length := by simpa using hlt
            exact ⟨⟨k + 1, by omega, by go_num, HST.out, own_eq ho4 rfl (by rw [List.take_succ_eq_append_getElem hmk, List.map_append]; simp), own_below HB9.out (Nat.le_refl _) ho _ hg4⟩, by simp [intOf]; omega⟩
        · obtain rfl : k = os.length := by omega
          obtain ⟨A8, c8, rfl, -⟩ := (Sl.of_own ho).form
          have his : Is wr (.slice A8 os.length c8) (os.map OffD.part) := by
            have := Sl.of_own ho
            rw [List.take_of_length_le (by simp)] at this
            unfold Is L1
            rw [List.length_map]
            exact this
          have HI := Lib.hid his
          have hyes : Rises (os.map OffD.part) → GroupOk ⟨ck, wt, gn, ms, os⟩ := fun hr => HOK.out HK.out HAT.out hr
          have HY := Lib.hid hyes
          clear his hyes ho
          go_wp2_with fail
          refine (rises_any _ (os.map OffD.part) wr HI.out (by simp; omega)).mono ?_
          rintro e w5 ⟨bb, rfl, hbb, hb5⟩
          have HBB := Lib.hid hbb
          have hb6 := below_then HBV.out hb5
          clear hbb hb5
          go_wp2
          go_ret
          exact ⟨bb, rfl, HBB.out.trans ⟨HY.out, fun h => h.offsOk.rises⟩, hb6⟩

theorem group_may_any (v : Value) (g : GroupD) (w : World) (h : Gv w v g) (hnm : ∀ t ∈ g.mems, t.name.size ≤ 9223372036854775807) : Calls Try.prog 32 #[v] w (Tells (GroupOk g) w) := by
  obtain ⟨mv, ov, rfl, hx, ho, -⟩ := h
  obtain ⟨A, m, rfl, -⟩ := hx.at_
  obtain ⟨A', m', rfl, -⟩ := ho.at_
  by_cases h1 : inB g.clock 0 1073741824 = true
  · by_cases h2 : inB g.wait 1 1000 = true
    · by_cases h3 : inB g.gen 0 1073741824 = true
      · by_cases h7 : g.mems.length ≤ 6
        · by_cases h8 : g.offs.length ≤ 4
          · exact group_may_good g A A' m m' w hx ho h1 h2 h3 h7 h8 hnm
          · exact group_may_head g A A' m m' w (Or.inr (Or.inr (Or.inr (Or.inr ⟨h1, h2, h3, h7, by omega⟩))))
        · exact group_may_head g A A' m m' w (Or.inr (Or.inr (Or.inr (Or.inl ⟨h1, h2, h3, by omega⟩))))
      · exact group_may_head g A A' m m' w (Or.inr (Or.inr (Or.inl ⟨h1, h2, by simpa using h3⟩)))
    · exact group_may_head g A A' m m' w (Or.inr (Or.inl ⟨h1, by simpa using h2⟩))
  · exact group_may_head g A A' m m' w (Or.inl (by simpa using h1))

end Go.Proofs.Ytjkoceacjbhblaa
