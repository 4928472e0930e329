/- Part of a proof: the walks of the functions, and their plain laws: Words, Sha, Dig, Digw, Digb, Diga. -/
import Derived.WalkKit
import Derived.WalkLawsBesides
import Derived.WalkSpells
import Derived.Handy
import Derived.Lib.Hide
import Derived.Lib.Strings
import Derived.Lib.IndexBytes
import Derived.Lib.ConvBytes
import Derived.Deep.QuietTactic
import Derived.BigQuiet
import Derived.BigRegion
import Derived.BigGuardPart
import Derived.Deep.LoopGhost
import Derived.Deep.Draws
import Derived.Deep.RegionWith
import Derived.Deep.DeepCutAuto
import Derived.Deep.CutBlock
import Derived.Deep.DeepFit
import Derived.Laws.CopyOwn
import Derived.StillTailTactics
import Derived.Deep.RegionHeld3
import Derived.Deep.MidRow
import Derived.Maps.AppendAt
import Derived.Deep.AppendLies
import Derived.Test.YtnkebhlkhpgghaaGreatDoorProg
import Derived.Test.YtnkebhlkhpgghaaGreatDoorShelf
set_option linter.unusedVariables false
set_option linter.unusedSimpArgs false

/- Words of this claim: blocks known whole, what a call keeps, slices that read as lists, texts as lists of bytes. Plain definitions and lemmas, over any program. -/
namespace Go.Proofs.YtnkebhlkhpgghaaGreatDoor
open Go Go.RowKit

/-! ### Texts as lists of bytes -/
abbrev Bytes := List UInt8
def bs (l : Bytes) : ByteArray := ⟨l.toArray⟩
def lb (s : ByteArray) : Bytes := s.data.toList
@[simp] theorem lb_bs (l : Bytes) : lb (bs l) = l := by simp [lb, bs]
@[simp] theorem bs_lb (s : ByteArray) : bs (lb s) = s := by simp [lb, bs]
theorem lb_length (s : ByteArray) : (lb s).length = s.size := by rw [lb, Array.length_toList]; rfl
@[simp] theorem bs_size (l : Bytes) : (bs l).size = l.length := by show l.toArray.size = _; simp
theorem lb_append (s t : ByteArray) : lb (s ++ t) = lb s ++ lb t := by simp [lb]
theorem bs_append (s t : Bytes) : bs s ++ bs t = bs (s ++ t) := by
  have : lb (bs s ++ bs t) = lb (bs (s ++ t)) := by rw [lb_append]; simp
  rw [← bs_lb (bs s ++ bs t), this, bs_lb]
theorem lb_get (s : ByteArray) (i : Nat) (h : i < s.size) : s[i] = (lb s)[i]'(by rw [lb_length]; exact h) := rfl
theorem u8_le (c : UInt8) : (c.toNat : Int) ≤ 255 := by have := c.toNat_lt; omega
theorem u8_ge (c : UInt8) : 0 ≤ (c.toNat : Int) := by omega
theorem take_lb (s : ByteArray) (k : Nat) (h : k < s.size) : (lb s).take (k + 1) = (lb s).take k ++ [s[k]] := by
  rw [List.take_succ_eq_append_getElem (by rw [lb_length]; exact h)]; rfl
theorem take_all (s : ByteArray) : (lb s).take s.size = lb s := by rw [← lb_length]; exact List.take_length
theorem bs_inj {l m : Bytes} (h : bs l = bs m) : l = m := by have := congrArg lb h; simpa using this
theorem lb_inj {s t : ByteArray} (h : lb s = lb t) : s = t := by rw [← bs_lb s, ← bs_lb t, h]
theorem lb_extract (s : ByteArray) (i j : Nat) : lb (s.extract i j) = ((lb s).drop i).take (j - i) := by
  simp [lb, ByteArray.data_extract]

def bcells (l : Bytes) : List Value := l.map fun c => Value.int .u8 c.toNat
theorem bcells_length (l : Bytes) : (bcells l).length = l.length := by simp [bcells]
theorem bcells_append (l m : Bytes) : bcells (l ++ m) = bcells l ++ bcells m := by simp [bcells]
theorem bcells_one (l : Bytes) : ∀ v ∈ bcells l, v.oneCell' = true := by intro v hv; obtain ⟨x, _, rfl⟩ := List.mem_map.1 hv; rfl
/-! ### Blocks known whole -/
def Blk (w : World) (g : Nat) (t : TypeId) (cs : Array Value) : Prop := w.heap[g]? = some (.cells cs t (0, 0))
section
variable {w w' : World} {g : Nat} {t : TypeId} {cs : Array Value}
theorem lt_of_get {o : Obj} (h : w.heap[g]? = some o) : g < w.heap.size := (Array.getElem?_eq_some_iff.1 h).1
theorem Blk.lt (h : Blk w g t cs) : g < w.heap.size := lt_of_get h
theorem Blk.cell (h : Blk w g t cs) (i : Nat) : w.cell? ⟨g, i, none⟩ = cs[i]? := by
  unfold Blk at h; simp [World.cell?, h]
theorem Blk.frozen (h : Blk w g t cs) (i : Nat) : w.frozen? ⟨g, i, none⟩ = false := by
  unfold Blk at h; simp [World.frozen?, h]
theorem Blk.new (w : World) (t : TypeId) (cs : Array Value) : Blk (w.alloc (.cells cs t)) w.heap.size t cs := heap_alloc_new w _
theorem Blk.alloc (h : Blk w g t cs) (o : Obj) : Blk (w.alloc o) g t cs := (Below.heap_alloc w o g h.lt).trans h
theorem Blk.drew (h : Blk w g t cs) : Blk w.drew g t cs := h
theorem Blk.drewN (h : Blk w g t cs) (n : Nat) : Blk (w.drewN n) g t cs := h
theorem Blk.set (h : Blk w g t cs) (i : Nat) (u : Value) : Blk (w.setCell ⟨g, i, none⟩ u) g t (cs.setIfInBounds i u) := by
  unfold Blk at h ⊢
  simp [World.setCell, Array.getElem?_modify, h]
theorem Blk.far (h : Blk w g t cs) {p : Addr} (hp : g ≠ p.block) (u : Value) : Blk (w.setCell p u) g t cs := (Below.heap_setCell w p u g hp).trans h
theorem Blk.ne {g' : Nat} {t' : TypeId} {cs' : Array Value} (h : Blk w g t cs) (h' : Blk w g' t' cs') (hne : t ≠ t') : g ≠ g' := by
  rintro rfl
  unfold Blk at h h'
  rw [h] at h'
  injection h' with h'
  injection h' with _ ht
  exact hne ht
theorem Blk.inj {cs' : Array Value} {t' : TypeId} (h : Blk w g t cs) (h' : Blk w g t' cs') : cs = cs' := by
  unfold Blk at h h'
  rw [h] at h'
  injection h' with h'
  injection h' with h' _
end

/-! ### What a call keeps: of the old blocks only those of S may have turned -/
structure Keep (S : Nat → Prop) (w w' : World) : Prop where
  os : w'.os = w.os
  tape : w'.tape = w.tape
  output : w'.output = w.output
  size : w.heap.size ≤ w'.heap.size
  block : ∀ k, k < w.heap.size → ¬ S k → w'.heap[k]? = w.heap[k]?
def One (g : Nat) : Nat → Prop := fun k => k = g
theorem One.self (g : Nat) : One g g := rfl
def Non : Nat → Prop := fun _ => False
abbrev Ext (w w' : World) : Prop := Below w.heap.size w w'
section
variable {S S' : Nat → Prop} {a b c w w' : World}
theorem Keep.refl (S : Nat → Prop) (w : World) : Keep S w w := ⟨rfl, rfl, rfl, Nat.le_refl _, fun _ _ _ => rfl⟩
theorem Keep.trans (h : Keep S a b) (k : Keep S b c) : Keep S a c :=
  ⟨k.os.trans h.os, k.tape.trans h.tape, k.output.trans h.output, Nat.le_trans h.size k.size,
    fun i hi hs => (k.block i (Nat.lt_of_lt_of_le hi h.size) hs).trans (h.block i hi hs)⟩
/-- What the second step may turn: what the first may, or a new block. -/
theorem Keep.then (h : Keep S a b) (k : Keep S' b c) (hs : ∀ i, S' i → S i ∨ a.heap.size ≤ i) : Keep S a c :=
  ⟨k.os.trans h.os, k.tape.trans h.tape, k.output.trans h.output, Nat.le_trans h.size k.size,
    fun i hi hn => (k.block i (Nat.lt_of_lt_of_le hi h.size) (fun h' => (hs i h').elim hn (fun h'' => by omega))).trans (h.block i hi hn)⟩
theorem Keep.mono (h : Keep S a b) (hs : ∀ i, i < a.heap.size → S i → S' i) : Keep S' a b :=
  ⟨h.os, h.tape, h.output, h.size, fun i hi hn => h.block i hi (fun h' => hn (hs i hi h'))⟩
theorem Keep.of_ext (h : Ext a b) : Keep S a b := ⟨h.os, h.tape, h.output, h.size, fun i hi _ => h.block i hi⟩
theorem Keep.ext (h : Keep S a b) (hs : ∀ i, S i → a.heap.size ≤ i) : Ext a b :=
  ⟨h.os, h.tape, h.output, h.size, fun i hi => h.block i hi (fun h' => by have := hs i h'; omega)⟩
theorem Keep.alloc (h : Keep S a w) (o : Obj) : Keep S a (w.alloc o) :=
  h.trans ⟨rfl, rfl, rfl, by simp, fun k hk _ => Below.heap_alloc _ _ _ hk⟩
theorem Keep.drew (h : Keep S a w) : Keep S a w.drew := ⟨h.os, h.tape, h.output, h.size, h.block⟩
theorem Keep.drewN (h : Keep S a w) (n : Nat) : Keep S a (w.drewN n) := ⟨h.os, h.tape, h.output, h.size, h.block⟩
theorem Keep.setCell (h : Keep S a w) {p : Addr} (hp : S p.block ∨ a.heap.size ≤ p.block) (u : Value) : Keep S a (w.setCell p u) :=
  h.then (S' := fun i => i = p.block) ⟨rfl, rfl, rfl, by simp [World.setCell], fun k _ hs => Below.heap_setCell _ _ _ _ hs⟩ (fun i hi => by subst hi; exact hp)
theorem Keep.setIn (h : Keep S a w) {g : Nat} (hp : S g) (i : Nat) (u : Value) : Keep S a (w.setCell ⟨g, i, none⟩ u) := h.setCell (p := ⟨g, i, none⟩) (Or.inl hp) u
theorem Keep.setNew (h : Keep S a w) {g : Nat} (hp : a.heap.size ≤ g) (i : Nat) (u : Value) : Keep S a (w.setCell ⟨g, i, none⟩ u) := h.setCell (p := ⟨g, i, none⟩) (Or.inr hp) u
theorem Keep.grown (h : Keep S a w) {row : Option Nat} (hg : w.grownBy w' row) (hr : ∀ k, row = some k → S k ∨ a.heap.size ≤ k) : Keep S a w' :=
  h.then (S' := fun i => row = some i) ⟨hg.os, hg.tape, hg.output, hg.size, fun k hk hs => hg.block k hk (fun e => hs e.symm)⟩ (fun i hi => hr i hi)
theorem Ext.refl (w : World) : Ext w w := Below.refl _ _
theorem Ext.trans (h : Ext a b) (k : Ext b c) : Ext a c := Below.trans h (k.mono h.size)
theorem Ext.alloc (h : Ext a w) (o : Obj) : Ext a (w.alloc o) := Below.alloc h h.size o
theorem Ext.drew (h : Ext a w) : Ext a w.drew := Below.drew h
theorem Ext.drewN (h : Ext a w) (n : Nat) : Ext a (w.drewN n) := ⟨h.os, h.tape, h.output, h.size, h.block⟩
theorem Ext.setCell (h : Ext a w) {p : Addr} (hp : a.heap.size ≤ p.block) (u : Value) : Ext a (w.setCell p u) := Below.setCell h hp u
theorem Ext.keep (h : Ext a b) (k : Keep S b c) (hs : ∀ i, S i → a.heap.size ≤ i) : Ext a c :=
  ((Keep.of_ext (S := Non) h).then k (fun i hi => Or.inr (hs i hi))).ext (fun _ h => h.elim)
theorem Blk.keep {g : Nat} {t : TypeId} {cs : Array Value} (h : Blk a g t cs) (k : Keep S a b) (hg : ¬ S g) : Blk b g t cs := (k.block g h.lt hg).trans h
theorem Blk.ext {g : Nat} {t : TypeId} {cs : Array Value} (h : Blk a g t cs) (k : Ext a b) : Blk b g t cs := (k.block g h.lt).trans h
theorem Keep.cell (k : Keep S a b) {p : Addr} (h : p.block < a.heap.size) (hs : ¬ S p.block) : b.cell? p = a.cell? p := World.cell?_of_block (w := a) (k.block p.block h hs)
theorem Ext.cell_some (k : Ext a b) {p : Addr} {v : Value} (h : a.cell? p = some v) : b.cell? p = some v := (Below.cell k (World.block_lt_of_cell? a p h)).trans h
theorem Keep.cell_some (k : Keep S a b) {p : Addr} {v : Value} (h : a.cell? p = some v) (hs : ¬ S p.block) : b.cell? p = some v := (k.cell (World.block_lt_of_cell? a p h) hs).trans h
end

/-! ### What a call hands back -/
/-- It returns v, and nothing that was there has turned. -/
def Ret (v : Value) (w : World) : Ending → World → Prop := fun e w' => e = .returned v ∧ Ext w w'

theorem ret_int {k : IntKind} {a b : Int} (h : a = b) : Ending.returned (.int k a) = .returned (.int k b) := by rw [h]
theorem val_int {k : IntKind} {a b : Int} (h : a = b) : Value.int k a = .int k b := by rw [h]

theorem Blk.new' {w : World} {t : TypeId} {cs : Array Value} {n : Nat} (h : n = w.heap.size) : Blk (w.alloc (.cells cs t)) n t cs := by subst h; exact Blk.new _ _ _
theorem bytes_ext (w : World) (e : TypeId) (s : ByteArray) : Ext w (Lib.bytesWorld w e s) :=
  ⟨rfl, rfl, rfl, by rw [Lib.bytesWorld_size]; omega, fun i hi => Lib.bytesWorld_at_old w e s i hi⟩
theorem lb_getD (s : ByteArray) (j : Nat) (h : j < s.size) : (lb s).getD j 0 = s[j] := by
  rw [List.getD_eq_getElem?_getD, List.getElem?_eq_getElem (by rw [lb_length]; exact h)]; rfl
theorem set_self (l : List Int) (k : Nat) : l.set k (l.getD k 0) = l := by
  apply List.ext_getElem (by simp)
  intro i h1 h2
  rw [List.getElem_set]
  split
  · rename_i h; subst h; simp at h1; simp [List.getD, h1]
  · rfl
theorem set_getD_self (l : List Int) (k : Nat) (x : Int) (h : k < l.length) : (l.set k x).getD k 0 = x := by
  rw [List.getD_eq_getElem?_getD, List.getElem?_set_self h]; rfl

/-! ### Several cells at once: a whole array or struct, in a block that is known whole -/
theorem Blk.setCells {w : World} {g : Nat} {t : TypeId} (vs : List Value) : ∀ (w : World) (A B C : List Value), Blk w g t (A ++ B ++ C).toArray → B.length = vs.length →
    Blk (w.setCells g A.length vs) g t (A ++ vs ++ C).toArray := by
  induction vs with
  | nil =>
    intro w A B C h hl
    obtain rfl := List.eq_nil_of_length_eq_zero hl
    exact h
  | cons v r ih =>
    intro w A B C h hl
    match B, hl with
    | b :: B, hl =>
      rw [World.setCells]
      have h1 := h.set A.length v
      have e : (A ++ b :: B ++ C).toArray.setIfInBounds A.length v = (A ++ [v] ++ B ++ C).toArray := by simp
      rw [e] at h1
      have h2 := ih (w.setCell ⟨g, A.length, none⟩ v) (A ++ [v]) B C h1 (by simpa using hl)
      simpa using h2
theorem Keep.setCells {S : Nat → Prop} {g : Nat} (hg : S g) (vs : List Value) : ∀ (a w : World) (o : Nat), Keep S a w → Keep S a (w.setCells g o vs) := by
  induction vs with
  | nil => intro a w o h; exact h
  | cons v r ih =>
    intro a w o h
    rw [World.setCells]
    exact ih a _ (o + 1) (h.setIn hg o v)
theorem Blk.rangeAt {w : World} {g : Nat} {t : TypeId} {A B C : List Value} (h : Blk w g t (A ++ B ++ C).toArray) : w.rangeAt g A.length B := by
  intro j v hv
  have hj : j < B.length := (List.getElem?_eq_some_iff.1 hv).1
  rw [h.cell, List.getElem?_toArray, List.append_assoc, List.getElem?_append_right (by omega), Nat.add_sub_cancel_left, List.getElem?_append_left hj, hv]
theorem Blk.there {w : World} {g : Nat} {t : TypeId} {A B C : List Value} (h : Blk w g t (A ++ B ++ C).toArray) : w.there g A.length B.length := by
  intro j hj
  exact ⟨by rw [h.rangeAt j _ (List.getElem?_eq_getElem hj)]; rfl, h.frozen _⟩
section
variable {P : Program} {ops : Array Oper} {rest : List Oper} {op : Oper} {a : Act} {w : World} {Q : Exit → Act → World → Prop}
theorem wpList_load_part (hgd : op.guard = none) (ty : TypeId) (x : Operand) (ho : op.op = .load ty x) (g : Nat) (t : TypeId) (A B C : List Value) (hx : a.eval x = .pointer (some ⟨g, A.length, none⟩))
    (hB : Blk w g t (A ++ B ++ C).toArray) (d : TypeDesc) (hu : P.underlying ty = some d) (hd : d.isRow = true) (hi : (P.info? ty).map (·.size) = some B.length)
    (h : wpList P ops Q rest (a.put op.dst (.agg B.toArray)) w) : wpList P ops Q (op :: rest) a w :=
  wpList_load_mid hgd ty x ho g A.length hx B d hB.rangeAt hu hd hi h
theorem wpList_store_part (hgd : op.guard = none) (ty : TypeId) (x y : Operand) (ho : op.op = .store ty x y) (g : Nat) (t : TypeId) (A B C vs : List Value) (hx : a.eval x = .pointer (some ⟨g, A.length, none⟩)) (hy : a.eval y = .agg vs.toArray)
    (hB : Blk w g t (A ++ B ++ C).toArray) (hl : B.length = vs.length) (hi : (P.info? ty).map (·.size) = some vs.length) (h1 : ∀ v ∈ vs, v.oneCell' = true)
    (h : ∀ w1, Blk w1 g t (A ++ vs ++ C).toArray → Keep (One g) w w1 → wpList P ops Q rest (a.put op.dst undef) w1) : wpList P ops Q (op :: rest) a w :=
  wpList_store_mid hgd ty x y ho g A.length vs.toArray hx hy (by have := hB.there; rw [hl] at this; simpa using this) (by simpa using hi) (all_oneCell_toArray h1)
    (h _ (Blk.setCells (w := w) vs w A B C hB hl) (Keep.setCells (One.self g) vs w w _ (Keep.refl _ _)))
/-- The whole block. -/
theorem wpList_load_blk (hgd : op.guard = none) (ty : TypeId) (x : Operand) (ho : op.op = .load ty x) (g : Nat) (t : TypeId) (B : List Value) (hx : a.eval x = .pointer (some ⟨g, 0, none⟩))
    (hB : Blk w g t B.toArray) (d : TypeDesc) (hu : P.underlying ty = some d) (hd : d.isRow = true) (hi : (P.info? ty).map (·.size) = some B.length)
    (h : wpList P ops Q rest (a.put op.dst (.agg B.toArray)) w) : wpList P ops Q (op :: rest) a w :=
  wpList_load_part hgd ty x ho g t [] B [] hx (by simpa using hB) d hu hd hi h
theorem wpList_store_blk (hgd : op.guard = none) (ty : TypeId) (x y : Operand) (ho : op.op = .store ty x y) (g : Nat) (t : TypeId) (B vs : List Value) (hx : a.eval x = .pointer (some ⟨g, 0, none⟩)) (hy : a.eval y = .agg vs.toArray)
    (hB : Blk w g t B.toArray) (hl : B.length = vs.length) (hi : (P.info? ty).map (·.size) = some vs.length) (h1 : ∀ v ∈ vs, v.oneCell' = true)
    (h : ∀ w1, Blk w1 g t vs.toArray → Keep (One g) w w1 → wpList P ops Q rest (a.put op.dst undef) w1) : wpList P ops Q (op :: rest) a w :=
  wpList_store_part hgd ty x y ho g t [] B [] vs hx hy (by simpa using hB) hl hi h1 (fun w1 hb hk => h w1 (by simpa using hb) hk)
end

/-! ### Results that lie in a block -/
theorem run_loadVar_blk {P : Program} {w : World} {g : Nat} {t ty : TypeId} {B : List Value} (hB : Blk w g t B.toArray) {d : TypeDesc} (hu : P.underlying ty = some d) (hd : d.isRow = true) (hi : (P.info? ty).map (·.size) = some B.length) :
    (loadVar ty ⟨g, 0, none⟩).run P w = .ok (.agg B.toArray) w :=
  run_loadVar_mid w g 0 ty B d (by have h := Blk.rangeAt (A := []) (B := B) (C := []) (by simpa using hB); exact h) hu hd hi
theorem results_blk {P : Program} {w : World} {fn : Func} {a t : Tmp} {ty ty' : TypeId} (h : fn.results = #[.cell a ty]) (tmps : Array Value) (g : Nat) (hx : tmps.getD a undef = .pointer (some ⟨g, 0, none⟩)) {B : List Value} (hB : Blk w g ty' B.toArray)
    {d : TypeDesc} (hu : P.underlying ty = some d) (hd : d.isRow = true) (hi : (P.info? ty).map (·.size) = some B.length) :
    (results fn tmps).run P w = .ok (.agg B.toArray) w := by
  simp only [Array.getD_eq_getD_getElem?] at hx
  simp [results, h, hx, asAddr, run_loadVar_blk hB hu hd hi]
theorem results_blk_tmp {P : Program} {w : World} {fn : Func} {a u : Tmp} {ty ty' : TypeId} (h : fn.results = #[.cell a ty, .tmp u]) (tmps : Array Value) (g : Nat) (hx : tmps.getD a undef = .pointer (some ⟨g, 0, none⟩)) {B : List Value} (hB : Blk w g ty' B.toArray)
    {d : TypeDesc} (hu : P.underlying ty = some d) (hd : d.isRow = true) (hi : (P.info? ty).map (·.size) = some B.length) :
    (results fn tmps).run P w = .ok (.tuple #[.agg B.toArray, tmps.getD u undef]) w := by
  simp only [Array.getD_eq_getD_getElem?] at hx
  simp [results, h, hx, asAddr, run_loadVar_blk hB hu hd hi]
theorem results_blk_tmp2 {P : Program} {w : World} {fn : Func} {a u v : Tmp} {ty ty' : TypeId} (h : fn.results = #[.cell a ty, .tmp u, .tmp v]) (tmps : Array Value) (g : Nat) (hx : tmps.getD a undef = .pointer (some ⟨g, 0, none⟩)) {B : List Value} (hB : Blk w g ty' B.toArray)
    {d : TypeDesc} (hu : P.underlying ty = some d) (hd : d.isRow = true) (hi : (P.info? ty).map (·.size) = some B.length) :
    (results fn tmps).run P w = .ok (.tuple #[.agg B.toArray, tmps.getD u undef, tmps.getD v undef]) w := by
  simp only [Array.getD_eq_getD_getElem?] at hx
  simp [results, h, hx, asAddr, run_loadVar_blk hB hu hd hi]
theorem results_tmp_blk_tmp {P : Program} {w : World} {fn : Func} {a u v : Tmp} {ty ty' : TypeId} (h : fn.results = #[.tmp u, .cell a ty, .tmp v]) (tmps : Array Value) (g : Nat) (hx : tmps.getD a undef = .pointer (some ⟨g, 0, none⟩)) {B : List Value} (hB : Blk w g ty' B.toArray)
    {d : TypeDesc} (hu : P.underlying ty = some d) (hd : d.isRow = true) (hi : (P.info? ty).map (·.size) = some B.length) :
    (results fn tmps).run P w = .ok (.tuple #[tmps.getD u undef, .agg B.toArray, tmps.getD v undef]) w := by
  simp only [Array.getD_eq_getD_getElem?] at hx
  simp [results, h, hx, asAddr, run_loadVar_blk hB hu hd hi]

/-! ### Rows of the call's own -/
theorem own_slice {w : World} {base n : Nat} {e : TypeId} {size : Nat} {v : Value} {xs : List Value} (h : w.ownsRow base e size v n xs) : ∃ A c, v = .slice A n c := by
  rcases h.2 with ⟨rfl, rfl⟩ | ⟨g, cap, cur, rfl, _⟩
  · exact ⟨none, 0, rfl⟩
  · exact ⟨_, cap, rfl⟩
theorem own_base {w : World} {base : Nat} {e : TypeId} {size n : Nat} {v : Value} {xs : List Value} (h : w.ownsRow base e size v n xs) (k : Nat) (hk : v.ownBlock = some k) : base ≤ k := by
  rcases h.2 with ⟨rfl, _⟩ | ⟨g, cap, cur, rfl, hb, _⟩
  · simp [Value.ownBlock] at hk
  · have : g = k := by simpa [Value.ownBlock] using hk
    omega
theorem own_lt {w : World} {base : Nat} {e : TypeId} {size n : Nat} {v : Value} {xs : List Value} (h : w.ownsRow base e size v n xs) (k : Nat) (hk : v.ownBlock = some k) : k < w.heap.size := by
  rcases h.2 with ⟨rfl, _⟩ | ⟨g, cap, cur, rfl, hb, hh, _⟩
  · simp [Value.ownBlock] at hk
  · have : g = k := by simpa [Value.ownBlock] using hk
    subst this
    exact lt_of_get hh
/-- The block of a row. -/
def Of (v : Value) : Nat → Prop := fun k => v.ownBlock = some k
theorem own_keep {w w1 : World} {S : Nat → Prop} {base : Nat} {e : TypeId} {size n : Nat} {v : Value} {xs : List Value} (h : w.ownsRow base e size v n xs) (k : Keep S w w1) (hs : ∀ g, v.ownBlock = some g → ¬ S g) : w1.ownsRow base e size v n xs := by
  rcases h with ⟨h0, h | ⟨g, cap, cur, hv, hb, hh, r⟩⟩
  · exact ⟨h0, .inl h⟩
  · exact ⟨h0, .inr ⟨g, cap, cur, hv, hb, by rw [k.block g (lt_of_get hh) (hs g (by rw [hv]; rfl))]; exact hh, r⟩⟩
theorem own_ext {w w1 : World} {base : Nat} {e : TypeId} {size n : Nat} {v : Value} {xs : List Value} (h : w.ownsRow base e size v n xs) (k : Ext w w1) : w1.ownsRow base e size v n xs :=
  own_keep h (Keep.of_ext (S := Non) k) (fun _ _ h => h)
theorem own_none (W : World) (base : Nat) (e : TypeId) (size : Nat) : W.ownsRow base e size (.slice none 0 0) 0 [] := ⟨by simp, .inl ⟨rfl, rfl⟩⟩
section
variable {P : Program} {ops : Array Oper} {rest : List Oper} {o : Oper} {a : Act} {Q : Exit → Act → World → Prop}
/-- 'append(v, x)' of one element of size cells: it was laid in a new block first. -/
theorem wpList_append1 {W : World} (base : Nat) (hgd : o.guard = none) (s x : Operand) (t e : TypeId) (z : Value) (size bytes : Nat)
    (ho : o.op = .call { callee := .builtin .append, args := #[s, x], argTypes := #[t, t] })
    (ht : P.underlying t = some (.slice e)) (hinfo : (P.info? e).map (fun i => (i.zero, i.size, i.bytes)) = some (some z, size, bytes)) (hz : z.cells.size = size) (hb0 : 0 < bytes) (hs0 : 0 < size)
    (v : Value) (n : Nat) (xs news : List Value) (hs : a.eval s = v) (hx : a.eval x = .slice (some ⟨W.heap.size, 0, none⟩) 1 1) (hn : news.length = size) (h1 : ∀ u ∈ news, u.oneCell' = true)
    (HO : W.ownsRow base e size v n xs) (hbase : base ≤ W.heap.size) (hl : (n + 1) * bytes ≤ 140737488355328)
    (h : ∀ A c w1, w1.ownsRow base e size (.slice A (n + 1) c) (n + 1) (xs ++ news) → Keep (Of v) W w1 → ((Value.slice A (n + 1) c).ownBlock = v.ownBlock ∨ ∃ b, (Value.slice A (n + 1) c).ownBlock = some b ∧ W.heap.size ≤ b) → wpList P ops Q rest (a.put o.dst (.slice A (n + 1) c)) w1) :
    wpList P ops Q (o :: rest) a (W.alloc (.cells news.toArray e)) := by
  obtain ⟨i0, hi, hzz⟩ := Option.map_eq_some_iff.1 hinfo
  simp only [Prod.mk.injEq] at hzz
  obtain ⟨hz0, hz1, hz2⟩ := hzz
  have hlen : n + 1 ≤ 140737488355328 := Nat.le_trans (Nat.le_mul_of_pos_right _ hb0) hl
  refine wpList_append_own_at (W.alloc (.cells news.toArray e)) hgd s x t ho base e i0 z size bytes ht hi hz0 hz1 hz2 hz (by omega) v n xs hs (HO.alloc _) ⟨W.heap.size, 0, none⟩ 1 1 news hx (by omega)
    (by have := World.news_of_block (cs := news.toArray) (t := e) (fr := (0, 0)) (heap_alloc_new W (.cells news.toArray e)); simpa using this) h1 (by simp only [maxLen]; omega) hl (by simp; omega) ?_
  intro v1 w1 hown hg _ hat
  obtain ⟨A, c, rfl⟩ := own_slice hown
  refine h A c w1 hown (((Keep.refl _ _).alloc _).grown hg (fun k hk => Or.inl hk)) ?_
  rcases hat with hat | hat
  · exact .inl hat
  · exact .inr ⟨_, hat, by simp⟩
end

end Go.Proofs.YtnkebhlkhpgghaaGreatDoor
/- crc and digest: the walks. -/
namespace Go.Proofs.YtnkebhlkhpgghaaGreatDoor
open Go Go.RowKit

/-! ### crc -/
def crcBit (x : Int) : Int := if bits .and .u32 x 1 == 1 then bits .xor .u32 (x / 2) 3988292384 else x / 2
def crcBits : Nat → Int → Int
  | 0, x => x
  | k + 1, x => crcBit (crcBits k x)
def crcByte (x c : Int) : Int := crcBits 8 (bits .xor .u32 x c)
def crcAdd (x : Int) : Bytes → Int
  | [] => x
  | c :: l => crcAdd (crcByte x c.toNat) l
theorem crcAdd_snoc (x : Int) (l : Bytes) (c : UInt8) : crcAdd x (l ++ [c]) = crcByte (crcAdd x l) c.toNat := by
  induction l generalizing x with
  | nil => rfl
  | cons a l ih => exact ih _
theorem u32_range (op : BinOp) (a b : Int) : 0 ≤ bits op .u32 a b ∧ bits op .u32 a b < 4294967296 := by
  have := bits_within op .u32 a b
  exact ⟨bits_lo_u32 op a b, by have := bits_hi_u32 op a b; omega⟩
theorem crcBit_range {x : Int} (h0 : 0 ≤ x) (h1 : x < 4294967296) : 0 ≤ crcBit x ∧ crcBit x < 4294967296 := by
  unfold crcBit
  split
  · exact u32_range _ _ _
  · omega
theorem crcBits_range {x : Int} (h0 : 0 ≤ x) (h1 : x < 4294967296) (k : Nat) : 0 ≤ crcBits k x ∧ crcBits k x < 4294967296 := by
  induction k with
  | zero => exact ⟨h0, h1⟩
  | succ k ih => exact crcBit_range ih.1 ih.2
theorem crcByte_range (x c : Int) : 0 ≤ crcByte x c ∧ crcByte x c < 4294967296 :=
  crcBits_range (u32_range _ _ _).1 (u32_range _ _ _).2 8
theorem crcAdd_range {x : Int} (h0 : 0 ≤ x) (h1 : x < 4294967296) (l : Bytes) : 0 ≤ crcAdd x l ∧ crcAdd x l < 4294967296 := by
  induction l generalizing x with
  | nil => exact ⟨h0, h1⟩
  | cons c l ih => exact ih (crcByte_range x _).1 (crcByte_range x _).2

set_option maxHeartbeats 400000 in
theorem crcStep_any (g : Nat) (c s : Int) (w : World) (hB : Blk w g 127 #[.int .u32 s]) (s0 : 0 ≤ s) (s1 : s < 4294967296) (c0 : 0 ≤ c) (c1 : c ≤ 255) :
    Calls Tryz.prog 131 #[.int .u8 c, .pointer (some ⟨g, 0, none⟩)] w fun e w' => e = .returned (.tuple #[]) ∧ Blk w' g 127 #[.int .u32 (crcByte s c)] ∧ Keep (One g) w w' := by
  have hc := hB.cell
  have hf := hB.frozen
  have HB := Lib.hid hB
  clear hB
  go_enter Tryz.func131, Tryz.ntmps131
  go_wp2_with fail
  go_loopw [8] (fun i wr => ∃ k : Nat, k ≤ 8 ∧ i = .int .i64 k ∧ Blk wr g 127 #[.int .u32 (crcBits k (bits .xor .u32 s c))] ∧ Keep (One g) w wr) (fun i _ => 8 - (intOf i).toNat)
  case atStart => exact ⟨0, by omega, rfl, HB.out.set 0 _, (Keep.refl _ _).setIn (One.self g) 0 _⟩
  case round =>
    obtain ⟨k, hk, rfl, hBr, hK⟩ := hrel
    have hr := crcBits_range (u32_range .xor s c).1 (u32_range .xor s c).2 k
    have hs : crcBits (k + 1) (bits .xor .u32 s c) = crcBit (crcBits k (bits .xor .u32 s c)) := rfl
    have h8 : k = 8 → crcBits k (bits .xor .u32 s c) = crcByte s c := by rintro rfl; rfl
    have HS := Lib.hid hs
    have H8 := Lib.hid h8
    clear hs h8
    generalize crcBits k (bits .xor .u32 s c) = x at *
    have hcr : wr.cell? ⟨g, 0, none⟩ = some (.int .u32 x) := hBr.cell 0
    have hfr : wr.frozen? ⟨g, 0, none⟩ = false := hBr.frozen 0
    have HBr := Lib.hid hBr
    have HK := Lib.hid hK
    clear hBr hc hf hK
    go_wp2_with fail
    · go_roundw
      case rel => exact ⟨k + 1, by omega, by go_num, by rw [HS.out]; unfold crcBit; rw [if_pos ‹_›]; exact (HBr.out.set 0 _).set 0 _, (HK.out.setIn (One.self g) 0 _).setIn (One.self g) 0 _⟩
      case measure => simp [intOf]; omega
    · go_roundw
      case rel => exact ⟨k + 1, by omega, by go_num, by rw [HS.out]; unfold crcBit; rw [if_neg (Bool.eq_false_iff.1 ‹_›)]; exact HBr.out.set 0 _, HK.out.setIn (One.self g) 0 _⟩
      case measure => simp [intOf]; omega
    · have h8 : k = 8 := by omega
      go_end0
      exact ⟨rfl, by rw [← H8.out h8]; exact HBr.out, HK.out⟩

set_option maxHeartbeats 400000 in
theorem crcAdd_any (s : Int) (b : ByteArray) (w : World) (s0 : 0 ≤ s) (s1 : s < 4294967296) (hb : b.size ≤ maxLen) :
    Calls Tryz.prog 114 #[.int .u32 s, .string b] w (Ret (.int .u32 (crcAdd s (lb b))) w) := by
  unfold maxLen at hb
  go_enter Tryz.func114, Tryz.ntmps114
  go_wp2_with fail
  go_loopw [10] (fun i wr => ∃ k : Nat, k ≤ b.size ∧ i = .int .i64 k ∧ Blk wr w.heap.size 127 #[.int .u32 (crcAdd s ((lb b).take k))] ∧ Ext w wr) (fun i _ => b.size - (intOf i).toNat)
  case atStart => exact ⟨0, by omega, rfl, Blk.new _ _ _, (Ext.refl _).alloc _⟩
  case round =>
    obtain ⟨k, hk, rfl, hBr, hE⟩ := hrel
    have hr := crcAdd_range s0 s1 ((lb b).take k)
    by_cases hlt : k < b.size
    · have HS := Lib.hid ((congrArg (crcAdd s) (take_lb b k hlt)).trans (crcAdd_snoc s ((lb b).take k) b[k]))
      generalize crcAdd s ((lb b).take k) = x at *
      have HE := Lib.hid hE
      have HB := Lib.hid hBr
      clear hE hBr
      go_wp2_with (go_at_call 131; refine (crcStep_any _ _ _ _ HB.out hr.1 hr.2 (u8_ge _) (u8_le _)).mono ?_; rintro e w1 ⟨rfl, hB1, hK1⟩)
      go_roundw
      case rel => exact ⟨k + 1, by omega, by go_num, by rw [HS.out]; assumption, HE.out.keep (by assumption) (fun i hi => by cases hi; exact Nat.le_refl _)⟩
      case measure => simp [intOf]; omega
    · have hc : wr.cell? ⟨w.heap.size, 0, none⟩ = some (.int .u32 (crcAdd s ((lb b).take k))) := hBr.cell 0
      have HE := Lib.hid hE
      clear hE hBr
      go_wp2_with fail
      go_ret
      exact ⟨ret_int (by rw [show k = b.size from by omega, take_all]), HE.out⟩

def crcOf (l : Bytes) : Int := bits .xor .u32 4294967295 (crcAdd 4294967295 l)
theorem crcOf_range (l : Bytes) : 0 ≤ crcOf l ∧ crcOf l < 4294967296 := u32_range _ _ _

theorem crcOf_any (b : ByteArray) (w : World) (hb : b.size ≤ maxLen) : Calls Tryz.prog 95 #[.string b] w (Ret (.int .u32 (crcOf (lb b))) w) := by
  have hr := crcAdd_range (x := 4294967295) (by omega) (by omega) (lb b)
  go_enter Tryz.func95, Tryz.ntmps95
  go_wp2_with (first | (go_at_call 114; refine (crcAdd_any _ _ _ (by omega) (by omega) hb).mono ?_; rintro e w1 ⟨rfl, hE⟩) | go_in)
  go_ret
  exact ⟨rfl, hE⟩
end Go.Proofs.YtnkebhlkhpgghaaGreatDoor
/- digest: the walks. -/
namespace Go.Proofs.YtnkebhlkhpgghaaGreatDoor
open Go Go.RowKit

/-- x turned to the right by -k bits. -/
def rotr (x k : Int) : Int := bits .or .u32 (x * 2 ^ (32 + k).toNat % 4294967296) (x / 2 ^ (-k).toNat)
theorem rotr_range (x k : Int) : 0 ≤ rotr x k ∧ rotr x k < 4294967296 := u32_range _ _ _

theorem and31_u64 (k : Int) (k0 : -31 ≤ k) (k1 : k ≤ -1) : bits .and .u64 (IntKind.u64.wrap k) 31 = 32 + k := by
  rw [IntKind.wrap_u64]
  have h : bits .and .u64 (k % 18446744073709551616) 31 = (k % 18446744073709551616) % 32 :=
    bits_mask .u64 64 (by decide) (fun n a b => by rw [IntKind.wrap_u64]; omega) 5 (by decide) (k % 18446744073709551616) (by omega) (by omega)
  omega

set_option maxHeartbeats 400000 in
theorem rotl_any (x k : Int) (w : World) (h0 : 0 ≤ x) (h1 : x < 4294967296) (k0 : -31 ≤ k) (k1 : k ≤ -1) :
    Calls Tryz.prog 132 #[.int .u32 x, .int .i64 k] w fun e w' => e = .returned (.int .u32 (rotr x k)) ∧ w = w' := by
  have hb := and31_u64 k k0 k1
  have e1 : (32 - (32 + k)) = -k := by omega
  go_enter Tryz.func132, Tryz.ntmps132
  go_wp2_with fail
  go_ret
  exact ⟨rfl, rfl⟩

/-- x turned by each of some numbers, all of them against one another. -/
def turns (x : Int) : Int → List Int → Int
  | o, [] => o
  | o, n :: l => turns x (bits .xor .u32 o (rotr x (-n))) l
theorem turns_snoc (x o : Int) (l : List Int) (n : Int) : turns x o (l ++ [n]) = bits .xor .u32 (turns x o l) (rotr x (-n)) := by
  induction l generalizing o with
  | nil => rfl
  | cons a l ih => exact ih _
def ints (l : List Int) : Array Value := (l.map (Value.int .i64)).toArray

set_option maxHeartbeats 400000 in
theorem turns_any (x : Int) (g : Nat) (l : List Int) (w : World) (h0 : 0 ≤ x) (h1 : x < 4294967296) (hB : Blk w g 3 (ints l)) (hl : ∀ n ∈ l, 1 ≤ n ∧ n ≤ 31) (hm : l.length ≤ 100) :
    Calls Tryz.prog 121 #[.int .u32 x, .slice (some ⟨g, 0, none⟩) l.length l.length] w fun e w' => e = .returned (.int .u32 (turns x 0 l)) ∧ w = w' := by
  have HB := Lib.hid hB
  have HL := Lib.hid hl
  clear hB hl
  go_enter Tryz.func121, Tryz.ntmps121
  go_wp2_with fail
  go_loop [5, 10] (fun o i => ∃ k : Nat, k ≤ l.length ∧ i = .int .i64 k ∧ o = .int .u32 (turns x 0 (l.take k))) (fun _ i => l.length - (intOf i).toNat)
  case atStart => exact ⟨0, by omega, rfl, rfl⟩
  case round =>
    obtain ⟨k, hk, rfl, rfl⟩ := hrel
    by_cases hlt : k < l.length
    · have HS := Lib.hid (show turns x 0 (l.take (k + 1)) = bits .xor .u32 (turns x 0 (l.take k)) (rotr x (-(l[k]))) by
        rw [List.take_succ_eq_append_getElem hlt, turns_snoc])
      have hn := HL.out l[k] (List.getElem_mem hlt)
      have hc : w.cell? ⟨g, k, none⟩ = some (.int .i64 l[k]) := by rw [HB.out.cell]; simp [ints, hlt]
      generalize l[k] = n at *
      go_wp2_with (go_at_call 132; refine (rotl_any _ _ _ h0 h1 (by omega) (by omega)).mono ?_; rintro e w1 ⟨rfl, rfl⟩)
      go_round
      case rel => exact ⟨k + 1, by omega, by go_num, by rw [HS.out]⟩
      case measure => simp [intOf]; omega
    · go_wp2_with fail
      go_ret
      exact ⟨ret_int (by rw [List.take_of_length_le (by omega)]), rfl⟩
end Go.Proofs.YtnkebhlkhpgghaaGreatDoor
/- digest.words: the walk. -/
namespace Go.Proofs.YtnkebhlkhpgghaaGreatDoor
open Go Go.RowKit

def u32s (l : List Int) : Array Value := (l.map (Value.int .u32)).toArray
theorem u32s_get (l : List Int) (i : Nat) (h : i < l.length) : (u32s l)[i]? = some (.int .u32 (l.getD i 0)) := by
  simp [u32s, h, List.getD]
theorem u32s_set (l : List Int) (i : Nat) (v : Int) : (u32s l).setIfInBounds i (.int .u32 v) = u32s (l.set i v) := by
  simp [u32s, List.map_set]
def InU32 (l : List Int) : Prop := ∀ n ∈ l, 0 ≤ n ∧ n < 4294967296
theorem InU32.getD {l : List Int} (h : InU32 l) (i : Nat) : 0 ≤ l.getD i 0 ∧ l.getD i 0 < 4294967296 := by
  rw [List.getD_eq_getElem?_getD]
  rcases hx : l[i]? with _ | x
  · simp
  · exact h x (List.mem_of_getElem? hx)
theorem InU32.set {l : List Int} (h : InU32 l) (i : Nat) {v : Int} (h0 : 0 ≤ v) (h1 : v < 4294967296) : InU32 (l.set i v) := by
  intro n hn
  rcases List.mem_or_eq_of_mem_set hn with h' | rfl
  · exact h n h'
  · exact ⟨h0, h1⟩
theorem InU32.replicate (n : Nat) : InU32 (List.replicate n 0) := by
  intro x hx
  obtain ⟨_, rfl⟩ := List.mem_replicate.1 hx
  omega
theorem data_length' (s : ByteArray) : s.data.toList.length = s.size := lb_length s
def be4 (x : Int) : Bytes → Int
  | [] => x
  | c :: l => be4 (bits .or .u32 (x * 256 % 4294967296) c.toNat) l
theorem be4_snoc (x : Int) (l : Bytes) (c : UInt8) : be4 x (l ++ [c]) = bits .or .u32 (be4 x l * 256 % 4294967296) c.toNat := by
  induction l generalizing x with
  | nil => rfl
  | cons a l ih => exact ih _
theorem be4_range {x : Int} (h0 : 0 ≤ x) (h1 : x < 4294967296) (l : Bytes) : 0 ≤ be4 x l ∧ be4 x l < 4294967296 := by
  induction l generalizing x with
  | nil => exact ⟨h0, h1⟩
  | cons a l ih => exact ih (u32_range _ _ _).1 (u32_range _ _ _).2
def W1 (l : Bytes) : Nat → List Int
  | 0 => List.replicate 64 0
  | k + 1 => (W1 l k).set k (be4 ((W1 l k).getD k 0) ((l.drop (4 * k)).take 4))
theorem W1_length (l : Bytes) (k : Nat) : (W1 l k).length = 64 := by
  induction k with
  | zero => simp [W1]
  | succ k ih => simp [W1, ih]
theorem W1_in (l : Bytes) (k : Nat) : InU32 (W1 l k) := by
  induction k with
  | zero => exact InU32.replicate 64
  | succ k ih => exact ih.set k (be4_range (ih.getD k).1 (ih.getD k).2 _).1 (be4_range (ih.getD k).1 (ih.getD k).2 _).2
def w2f (ws : List Int) (t : Nat) : Int :=
  (ws.getD (t - 16) 0 + bits .xor .u32 (turns (ws.getD (t - 15) 0) 0 [7, 18]) (ws.getD (t - 15) 0 / 8) + ws.getD (t - 7) 0 +
    bits .xor .u32 (turns (ws.getD (t - 2) 0) 0 [17, 19]) (ws.getD (t - 2) 0 / 1024)) % 4294967296
def W2 (l : Bytes) : Nat → List Int
  | 0 => W1 l 16
  | k + 1 => (W2 l k).set (16 + k) (w2f (W2 l k) (16 + k))
theorem W2_length (l : Bytes) (k : Nat) : (W2 l k).length = 64 := by
  induction k with
  | zero => exact W1_length l 16
  | succ k ih => simp [W2, ih]
theorem W2_in (l : Bytes) (k : Nat) : InU32 (W2 l k) := by
  induction k with
  | zero => exact W1_in l 16
  | succ k ih => exact ih.set _ (by unfold w2f; omega) (by unfold w2f; omega)
def zeros64 : Array Value := u32s (List.replicate 64 0)
theorem alloc_w (W : World) : (Instr.alloc 191 true (.tuple #[])).run Tryz.prog W = .ok (.pointer (some ⟨W.heap.size, 0, none⟩)) (W.alloc (.cells zeros64 191)) := by kernel_rfl
attribute [local go_sem ↓] alloc_w
set_option maxRecDepth 100000 in
set_option maxHeartbeats 1000000 in
theorem words_any (s : ByteArray) (w : World) (hs : s.size = 64) :
    Calls Tryz.prog 120 #[.string s] w (Ret (.agg (u32s (W2 (lb s) 48))) w) := by
  go_enter Tryz.func120, Tryz.ntmps120
  go_wp2_with fail
  go_loopw [10, 4, 6, 20, 21, 22] (fun i t4 t6 t20 t21 t22 wr => ∃ k : Nat, k ≤ 16 ∧ i = .int .i64 k ∧ Blk wr (w.heap.size + 1) 191 (u32s (W1 (lb s) k)) ∧ Ext w wr ∧ Blk wr w.heap.size 191 zeros64) (fun i _ _ _ _ _ _ => 16 - (intOf i).toNat)
  case atStart => exact ⟨0, by omega, rfl, Blk.new' (by simp), ((Ext.refl _).alloc _).alloc _, (Blk.new _ _ _).alloc _⟩
  case round =>
    obtain ⟨k, hk, rfl, hB, hE, hZ⟩ := hrel
    obtain ⟨wo, rfl⟩ : ∃ wo : World, wo = wr := ⟨_, rfl⟩
    by_cases hlt : k < 16
    · obtain ⟨piece, hp⟩ : ∃ p, p = s.extract (4 * k) (4 * k + 4) := ⟨_, rfl⟩
      have hps : piece.size = 4 := by rw [hp, ByteArray.size_extract]; omega
      have kb := Lib.run_convert_string_bytes (P := Tryz.prog) wo 9 62 5 piece Tryz.underlying9 Tryz.underlying62 Tryz.underlying5
      have hlp : lb piece = ((lb s).drop (4 * k)).take 4 := by rw [hp, lb_extract]; congr 1; omega
      have hsz := hB.lt
      have hB1 := hB.ext (bytes_ext wo 5 piece)
      have HZ := Lib.hid (hZ.ext (bytes_ext wo 5 piece))
      clear hZ
      have hE1 := hE.trans (bytes_ext wo 5 piece)
      have hbc := Lib.bytesWorld_cell wo 5 piece
      have hbs := Lib.bytesWorld_size wo 5 piece
      rw [hps] at kb
      generalize Lib.bytesWorld wo 5 piece = wb at *
      have HBC := Lib.hid hbc
      have HBS := Lib.hid hbs
      have HB := Lib.hid hB1
      have HE := Lib.hid hE1
      have HLP := Lib.hid hlp
      have HPS := Lib.hid hps
      have HSZ := Lib.hid hsz
      clear hbc hbs hB hE hB1 hE1 hps hlp hsz
      have HP := Lib.hid hp.symm
      clear hp
      have hp2 := HP.out
      go_wp2_with fail
      clear kb hp2
      have hrg := (W1_in (lb s) k).getD k
      go_loopw [22, 6] (fun i t6 wr => ∃ j : Nat, j ≤ 4 ∧ i = .int .i64 j ∧ Blk wr (w.heap.size + 1) 191 (u32s ((W1 (lb s) k).set k (be4 ((W1 (lb s) k).getD k 0) ((lb piece).take j)))) ∧ Keep (One (w.heap.size + 1)) wb wr) (fun i _ _ => 4 - (intOf i).toNat)
      case atStart => exact ⟨0, by omega, rfl, by rw [show (lb piece).take 0 = [] from rfl, be4, set_self]; exact HB.out, Keep.refl _ _⟩
      case round =>
        obtain ⟨j, hj, rfl, hBi, hKi⟩ := hrel
        by_cases hlj : j < 4
        · have hr2 := be4_range hrg.1 hrg.2 ((lb piece).take j)
          have hjp : j < piece.size := by rw [HPS.out]; exact hlj
          have hst := (congrArg (be4 ((W1 (lb s) k).getD k 0)) (take_lb piece j hjp)).trans (be4_snoc _ _ _)
          have hc1 : wr.cell? ⟨wo.heap.size, j, none⟩ = some (.int .u8 ((piece[j]).toNat : Int)) := by
            rw [hKi.cell (p := ⟨wo.heap.size, j, none⟩) (by rw [HBS.out]; exact Nat.lt_succ_self _) (by intro h; have := HSZ.out; simp only [One] at h; omega), HBC.out j hjp]
            exact congrArg (fun c : UInt8 => some (Value.int .u8 (c.toNat : Int))) (lb_getD piece j hjp)
          have hw0 : (0 : Int) ≤ ((piece[j]).toNat : Int) := u8_ge _
          have hw1 : ((piece[j]).toNat : Int) ≤ 255 := u8_le _
          have HST := Lib.hid hst
          clear hst
          generalize be4 ((W1 (lb s) k).getD k 0) ((lb piece).take j) = x at *
          generalize ((piece[j]).toNat : Int) = c at *
          have hc2 : wr.cell? ⟨w.heap.size + 1, k, none⟩ = some (.int .u32 x) := by
            rw [hBi.cell, u32s_get _ _ (by simp [W1_length]; omega)]
            rw [set_getD_self _ _ _ (by rw [W1_length]; omega)]
          have hf2 : wr.frozen? ⟨w.heap.size + 1, k, none⟩ = false := hBi.frozen k
          have HBi := Lib.hid hBi
          have HKi := Lib.hid hKi
          clear hBi hKi hrg
          go_wp2_with fail
          go_roundw
          case rel => exact ⟨j + 1, by omega, by go_num, by rw [HST.out]; have := HBi.out.set k (.int .u32 (bits .or .u32 (x * 256 % 4294967296) c)); rw [u32s_set, List.set_set] at this; exact this, HKi.out.setIn (One.self _) _ _⟩
          case measure => simp [intOf]; omega
        · have h4 : j = 4 := by omega
          subst h4
          have ha : W1 (lb s) (k + 1) = (W1 (lb s) k).set k (be4 ((W1 (lb s) k).getD k 0) ((lb piece).take 4)) := by
            rw [W1, HLP.out, List.take_take]; rfl
          have HA := Lib.hid ha
          have HBi := Lib.hid hBi
          have HKi := Lib.hid hKi
          clear hBi hKi hrg ha
          go_wp2_with fail
          go_roundw
          case rel => exact ⟨k + 1, by omega, by go_num, by rw [HA.out]; exact HBi.out, HE.out.keep HKi.out (fun i hi => by cases hi; omega), HZ.out.keep HKi.out (by simp only [One]; omega)⟩
          case measure => simp [intOf]; omega
    · have hk16 : k = 16 := by omega
      have hB0 : Blk wo (w.heap.size + 1) 191 (u32s (W2 (lb s) 0)) := by rw [W2, ← hk16]; exact hB
      have HK16 := Lib.hid hk16
      clear hk16 hB
      go_wp2_with fail
      go_loopw [7, 8, 9] (fun t s0 s1 wr => ∃ t' : Nat, 16 ≤ t' ∧ t' ≤ 64 ∧ t = .int .i64 t' ∧ Blk wr (w.heap.size + 1) 191 (u32s (W2 (lb s) (t' - 16))) ∧ Ext w wr ∧ Blk wr w.heap.size 191 zeros64) (fun t _ _ _ => 64 - (intOf t).toNat)
      case atStart => exact ⟨16, by omega, by omega, rfl, hB0, hE, hZ⟩
      case round =>
        clear hB0 hE hZ
        obtain ⟨t, ht1, ht2, rfl, hB, hE, hZ⟩ := hrel
        by_cases hlt : t < 64
        · have hr := W2_in (lb s) (t - 16)
          have hst : W2 (lb s) (t + 1 - 16) = (W2 (lb s) (t - 16)).set t (w2f (W2 (lb s) (t - 16)) t) := by
            rw [show t + 1 - 16 = (t - 16) + 1 from by omega, W2, show 16 + (t - 16) = t from by omega]
          have hlen := W2_length (lb s) (t - 16)
          generalize W2 (lb s) (t - 16) = ws at *
          have hc : ∀ i, i < 64 → wr.cell? ⟨w.heap.size + 1, i, none⟩ = some (.int .u32 (ws.getD i 0)) := fun i hi => by rw [hB.cell, u32s_get _ _ (by omega)]
          have c15 := hc (t - 15) (by omega)
          have c2 := hc (t - 2) (by omega)
          have c16 := hc (t - 16) (by omega)
          have c7 := hc (t - 7) (by omega)
          have ct := hc t (by omega)
          have cf := hB.frozen t
          clear hc
          unfold w2f at hst
          have b15 := hr.getD (t - 15)
          have b2 := hr.getD (t - 2)
          have b16 := hr.getD (t - 16)
          have b7 := hr.getD (t - 7)
          generalize ws.getD (t - 15) 0 = x15 at *
          generalize ws.getD (t - 2) 0 = x2 at *
          generalize hx16 : ws.getD (t - 16) 0 = x16 at *
          generalize hx7 : ws.getD (t - 7) 0 = x7 at *
          have HX16 := Lib.hid hx16
          have HX7 := Lib.hid hx7
          clear hx16 hx7
          have HST := Lib.hid hst
          have HB := Lib.hid hB
          have HZ := Lib.hid hZ
          clear hZ
          have HE := Lib.hid hE
          have HR := Lib.hid hr
          have HLEN := Lib.hid hlen
          clear hst hB hE hr hlen
          go_wp2_with fail
          have i15 : IntKind.i64.wrap ((t : Int) - 15) = (t : Int) - 15 := IntWalk.i64_in _ (by omega)
          have j15 : (0 : Int) ≤ (t : Int) - 15 := by omega
          have k15 : (t : Int) - 15 < 64 := by omega
          have j15' : (15 : Int) ≤ (t : Int) := by omega
          have k15' : (t : Int) < 79 := by omega
          have n15 : ((t : Int) - 15).toNat = t - 15 := by omega
          go_region_held3 (fun w' => w'.cell? ⟨w.heap.size + 1, t - 15, none⟩ = some (.int .u32 x15)) (go_keep)
            (first | (go_at_call 121; refine (turns_any x15 wr.heap.size [7, 18] _ (by omega) (by omega) (by exact (Blk.new' rfl).drew) (by decide) (by decide)).mono ?_; rintro e w1 ⟨rfl, rfl⟩))
          rename_i hh
          clear hh i15 j15 k15 j15' k15' n15
          go_wp2_with fail
          have i2 : IntKind.i64.wrap ((t : Int) - 2) = (t : Int) - 2 := IntWalk.i64_in _ (by omega)
          have j2 : (0 : Int) ≤ (t : Int) - 2 := by omega
          have k2 : (t : Int) - 2 < 64 := by omega
          have j2' : (2 : Int) ≤ (t : Int) := by omega
          have k2' : (t : Int) < 66 := by omega
          have n2 : ((t : Int) - 2).toNat = t - 2 := by omega
          go_region_held3 (fun w' => w'.cell? ⟨w.heap.size + 1, t - 2, none⟩ = some (.int .u32 x2)) (go_keep)
            (first | (go_at_call 121; refine (turns_any x2 (wr.heap.size + 1) [17, 19] _ (by omega) (by omega) (by exact (Blk.new' (by simp)).drew.drew) (by decide) (by decide)).mono ?_; rintro e w1 ⟨rfl, rfl⟩))
          clear i2 j2 k2 j2' k2' n2
          go_wp2_with fail
          rename_i hh
          clear hh
          have hB2 := ((HB.out.alloc (.cells #[.int .i64 7, .int .i64 18] 3)).alloc (.cells #[.int .i64 17, .int .i64 19] 3)).drew.drew
          have HZ2 := Lib.hid ((HZ.out.alloc (.cells #[.int .i64 7, .int .i64 18] 3)).alloc (.cells #[.int .i64 17, .int .i64 19] 3)).drew.drew
          have hE2 := ((HE.out.alloc (.cells #[.int .i64 7, .int .i64 18] 3)).alloc (.cells #[.int .i64 17, .int .i64 19] 3)).drew.drew
          clear c15 c2 c16 c7 ct cf
          generalize ((wr.alloc (.cells #[.int .i64 7, .int .i64 18] 3)).alloc (.cells #[.int .i64 17, .int .i64 19] 3)).drew.drew = w2 at *
          have c16 : w2.cell? ⟨w.heap.size + 1, t - 16, none⟩ = some (.int .u32 x16) := by rw [hB2.cell, u32s_get _ _ (by rw [HLEN.out]; omega), HX16.out]
          have c7 : w2.cell? ⟨w.heap.size + 1, t - 7, none⟩ = some (.int .u32 x7) := by rw [hB2.cell, u32s_get _ _ (by rw [HLEN.out]; omega), HX7.out]
          have ct : w2.cell? ⟨w.heap.size + 1, t, none⟩ = some (.int .u32 (ws.getD t 0)) := by rw [hB2.cell, u32s_get _ _ (by rw [HLEN.out]; omega)]
          have cf : w2.frozen? ⟨w.heap.size + 1, t, none⟩ = false := hB2.frozen t
          have HB2 := Lib.hid hB2
          have HE2 := Lib.hid hE2
          clear hB2 hE2
          have i16 : IntKind.i64.wrap ((t : Int) - 16) = (t : Int) - 16 := IntWalk.i64_in _ (by omega)
          have j16 : (0 : Int) ≤ (t : Int) - 16 := by omega
          have k16 : (t : Int) - 16 < 64 := by omega
          have j16' : (16 : Int) ≤ (t : Int) := by omega
          have k16' : (t : Int) < 80 := by omega
          have n16 : ((t : Int) - 16).toNat = t - 16 := by omega
          have i7 : IntKind.i64.wrap ((t : Int) - 7) = (t : Int) - 7 := IntWalk.i64_in _ (by omega)
          have j7 : (0 : Int) ≤ (t : Int) - 7 := by omega
          have k7 : (t : Int) - 7 < 64 := by omega
          have j7' : (7 : Int) ≤ (t : Int) := by omega
          have k7' : (t : Int) < 71 := by omega
          have n7 : ((t : Int) - 7).toNat = t - 7 := by omega
          have t0 : (0 : Int) ≤ (t : Int) := by omega
          have HK : Hid (∀ v, (w2.setCell ⟨w.heap.size + 1, t, none⟩ v).drew.cell? ⟨w.heap.size + 1, t - 16, none⟩ = some (.int .u32 x16) ∧ (w2.setCell ⟨w.heap.size + 1, t, none⟩ v).drew.cell? ⟨w.heap.size + 1, t - 7, none⟩ = some (.int .u32 x7)) :=
            fun v => ⟨(World.cell?_setCell_other w2 _ _ v (by intro h; have := congrArg Addr.off h; simp only at this; omega)).trans c16, (World.cell?_setCell_other w2 _ _ v (by intro h; have := congrArg Addr.off h; simp only at this; omega)).trans c7⟩
          go_still_tail 15, (by kernel_rfl)
          clear i16 j16 k16 j16' k16' n16 i7 j7 k7 j7' k7' n7 t0 HK
          go_wp2_with fail
          go_roundw
          case rel => exact ⟨t + 1, by omega, by omega, by go_num, by rw [HST.out, ← u32s_set]; exact (HB2.out.set t _).drew, (HE2.out.setCell (p := ⟨w.heap.size + 1, t, none⟩) (Nat.le_succ _) _).drew, (HZ2.out.far (p := ⟨w.heap.size + 1, t, none⟩) (by simp) _).drew⟩
          case measure => simp [intOf]; omega
        · have ht : t = 64 := by omega
          subst ht
          have HE := Lib.hid hE
          have HZ := Lib.hid hZ
          have HB := Lib.hid hB
          clear hE hZ hB
          have hlen : (W2 (lb s) 48).length = 64 := W2_length _ _
          have hone : ∀ v ∈ (W2 (lb s) 48).map (Value.int .u32), v.oneCell' = true := by intro v hv; obtain ⟨x, _, rfl⟩ := List.mem_map.1 hv; rfl
          have HL := Lib.hid hlen
          have HO := Lib.hid hone
          clear hlen hone
          go_wp2_with (first
            | (refine wpList_load_blk rfl 191 (.tmp 3) rfl (w.heap.size + 1) 191 ((W2 (lb s) 48).map (Value.int .u32)) rfl HB.out _ Tryz.underlying191 rfl (by rw [List.length_map, HL.out]; kernel_rfl) ?_)
            | (refine wpList_store_blk rfl 191 (.tmp 2) (.tmp 80) rfl w.heap.size 191 ((List.replicate 64 0).map (Value.int .u32)) ((W2 (lb s) 48).map (Value.int .u32)) rfl rfl HZ.out (by rw [List.length_map, List.length_map, HL.out]; rfl) (by rw [List.length_map, HL.out]; kernel_rfl) HO.out ?_; intro w1 hB1 hK1))
          exact bodyPost_ret (results_blk (t := 0) rfl _ w.heap.size rfl hB1 Tryz.underlying191 rfl (by rw [List.length_map, HL.out]; kernel_rfl)) rfl ⟨rfl, HE.out.keep hK1 (fun i hi => by cases hi; exact Nat.le_refl _)⟩
end Go.Proofs.YtnkebhlkhpgghaaGreatDoor
/- digest.block: the walk. -/
namespace Go.Proofs.YtnkebhlkhpgghaaGreatDoor
open Go Go.RowKit

/-- The 64 constants. -/
def K64 : List Int := [1116352408, 1899447441, 3049323471, 3921009573, 961987163, 1508970993, 2453635748, 2870763221, 3624381080, 310598401, 607225278, 1426881987, 1925078388, 2162078206, 2614888103, 3248222580,
  3835390401, 4022224774, 264347078, 604807628, 770255983, 1249150122, 1555081692, 1996064986, 2554220882, 2821834349, 2952996808, 3210313671, 3336571891, 3584528711, 113926993, 338241895,
  666307205, 773529912, 1294757372, 1396182291, 1695183700, 1986661051, 2177026350, 2456956037, 2730485921, 2820302411, 3259730800, 3345764771, 3516065817, 3600352804, 4094571909, 275423344,
  430227734, 506948616, 659060556, 883997877, 958139571, 1322822218, 1537002063, 1747873779, 1955562222, 2024104815, 2227730452, 2361852424, 2428436474, 2756734187, 3204031479, 3329325298]
theorem K64_in : InU32 K64 := by unfold InU32; decide
/-- The variable digest.constants holds them. -/
def Tab (w : World) : Prop := ∃ ty fr, w.heap[0]? = some (.cells (u32s K64) ty fr)
theorem Tab.cell {w : World} (h : Tab w) (i : Nat) (hi : i < 64) : w.cell? ⟨0, i, none⟩ = some (.int .u32 (K64.getD i 0)) := by
  obtain ⟨ty, fr, h⟩ := h
  simp only [World.cell?, h]
  exact u32s_get K64 i hi
theorem Tab.pos {w : World} (h : Tab w) : 0 < w.heap.size := by
  obtain ⟨ty, fr, h⟩ := h
  exact lt_of_get h
theorem Tab.ext {w w' : World} (h : Tab w) (k : Ext w w') : Tab w' := by
  obtain ⟨ty, fr, h⟩ := h
  exact ⟨ty, fr, (k.block 0 (lt_of_get h)).trans h⟩
theorem Tab.keep {S : Nat → Prop} {w w' : World} (h : Tab w) (k : Keep S w w') (hs : ¬ S 0) : Tab w' := by
  obtain ⟨ty, fr, h⟩ := h
  exact ⟨ty, fr, (k.block 0 (lt_of_get h) hs).trans h⟩

structure S8 where
  a : Int
  b : Int
  c : Int
  d : Int
  e : Int
  f : Int
  g : Int
  h : Int
def S8.In (s : S8) : Prop := (0 ≤ s.a ∧ s.a < 4294967296) ∧ (0 ≤ s.b ∧ s.b < 4294967296) ∧ (0 ≤ s.c ∧ s.c < 4294967296) ∧ (0 ≤ s.d ∧ s.d < 4294967296) ∧ (0 ≤ s.e ∧ s.e < 4294967296) ∧ (0 ≤ s.f ∧ s.f < 4294967296) ∧ (0 ≤ s.g ∧ s.g < 4294967296) ∧ (0 ≤ s.h ∧ s.h < 4294967296)
def S8.cells (s : S8) : List Value := [.int .u32 s.a, .int .u32 s.b, .int .u32 s.c, .int .u32 s.d, .int .u32 s.e, .int .u32 s.f, .int .u32 s.g, .int .u32 s.h]
def rnd (k w : Int) (s : S8) : S8 :=
  let x := ((((s.h + turns s.e 0 [6, 11, 25]) % 4294967296 + bits .xor .u32 (bits .and .u32 s.e s.f) (bits .and .u32 (bits .xor .u32 IntKind.u32.max s.e) s.g)) % 4294967296 + k) % 4294967296 + w) % 4294967296
  let y := (turns s.a 0 [2, 13, 22] + bits .xor .u32 (bits .xor .u32 (bits .and .u32 s.a s.b) (bits .and .u32 s.a s.c)) (bits .and .u32 s.b s.c)) % 4294967296
  { a := (x + y) % 4294967296, b := s.a, c := s.b, d := s.c, e := (s.d + x) % 4294967296, f := s.e, g := s.f, h := s.g }
def rnds (ws : List Int) (s : S8) : Nat → S8
  | 0 => s
  | t + 1 => rnd (K64.getD t 0) (ws.getD t 0) (rnds ws s t)
theorem rnd_in (k w : Int) {s : S8} (h : s.In) : (rnd k w s).In := by
  obtain ⟨h1, h2, h3, h4, h5, h6, h7, h8⟩ := h
  unfold S8.In rnd
  simp only
  refine ⟨?_, h1, h2, h3, ?_, h5, h6, h7⟩ <;> omega
theorem rnds_in (ws : List Int) {s : S8} (h : s.In) (t : Nat) : (rnds ws s t).In := by
  induction t with
  | zero => exact h
  | succ t ih => exact rnd_in _ _ ih
def add8 (s r : S8) : S8 := ⟨(s.a + r.a) % 4294967296, (s.b + r.b) % 4294967296, (s.c + r.c) % 4294967296, (s.d + r.d) % 4294967296, (s.e + r.e) % 4294967296, (s.f + r.f) % 4294967296, (s.g + r.g) % 4294967296, (s.h + r.h) % 4294967296⟩
def shaBlock (s : S8) (l : Bytes) : S8 := add8 s (rnds (W2 l 48) s 64)
theorem shaBlock_in (s : S8) (l : Bytes) : (shaBlock s l).In := by
  unfold shaBlock add8 S8.In
  simp only
  omega

def z64 : Array Value := u32s (List.replicate 64 0)
theorem alloc_w' (W : World) : (Instr.alloc 191 true (.tuple #[])).run Tryz.prog W = .ok (.pointer (some ⟨W.heap.size, 0, none⟩)) (W.alloc (.cells z64 191)) := by kernel_rfl
attribute [local go_sem ↓] alloc_w'

set_option maxRecDepth 100000 in
set_option maxHeartbeats 1000000 in
theorem block_any (a b c d e f g h : Int) (s : ByteArray) (w : World) (hs : s.size = 64) (hT : Tab w) (hi : (S8.mk a b c d e f g h).In) :
    Calls Tryz.prog 98 #[.agg #[.int .u32 a, .int .u32 b, .int .u32 c, .int .u32 d, .int .u32 e, .int .u32 f, .int .u32 g, .int .u32 h], .string s] w (Ret (.agg (shaBlock ⟨a, b, c, d, e, f, g, h⟩ (lb s)).cells.toArray) w) := by
  have HT := Lib.hid hT
  have HI := Lib.hid hi
  clear hT hi
  go_enter Tryz.func98, Tryz.ntmps98
  go_wp2_with fail
  go_step3
  go_wp2_with (first
    | (go_at_call 120; refine (words_any _ _ hs).mono ?_; rintro e w1 ⟨rfl, hE1⟩)
    | (refine wpList_store_blk rfl 191 (.tmp 5) (.tmp 20) rfl _ 191 ((List.replicate 64 0).map (Value.int .u32)) ((W2 (lb s) 48).map (Value.int .u32)) rfl rfl (Blk.new _ _ _) (by rw [List.length_map, List.length_map, W2_length]; rfl) (by rw [List.length_map, W2_length]; kernel_rfl) (by intro v hv; obtain ⟨x, _, rfl⟩ := List.mem_map.1 hv; rfl) ?_; intro w2 hB2 hK2))
  have hA := ((((Blk.new w 128 #[.int .u32 a, .int .u32 b, .int .u32 c, .int .u32 d, .int .u32 e, .int .u32 f, .int .u32 g, .int .u32 h]).alloc (.cells #[.int .u32 0, .int .u32 0, .int .u32 0, .int .u32 0, .int .u32 0, .int .u32 0, .int .u32 0, .int .u32 0] 128)).ext hE1).alloc (.cells z64 191))
  have hlt1 : w.heap.size + 1 < w1.heap.size := by have := hE1.size; simp at this; omega
  have hA := hA.keep hK2 (by simp only [One]; omega)
  have hZ := (((Blk.new' (n := w.heap.size + 1) (cs := #[.int .u32 0, .int .u32 0, .int .u32 0, .int .u32 0, .int .u32 0, .int .u32 0, .int .u32 0, .int .u32 0]) (t := 128) (w := w.alloc (.cells #[.int .u32 a, .int .u32 b, .int .u32 c, .int .u32 d, .int .u32 e, .int .u32 f, .int .u32 g, .int .u32 h] 128)) (by simp)).ext hE1).alloc (.cells z64 191)).keep hK2 (by simp only [One]; omega)
  have hE2 : Ext w w2 := (((((Ext.refl w).alloc (.cells #[.int .u32 a, .int .u32 b, .int .u32 c, .int .u32 d, .int .u32 e, .int .u32 f, .int .u32 g, .int .u32 h] 128)).alloc (.cells #[.int .u32 0, .int .u32 0, .int .u32 0, .int .u32 0, .int .u32 0, .int .u32 0, .int .u32 0, .int .u32 0] 128)).trans hE1).alloc (.cells z64 191)).keep hK2 (fun i hi => by cases hi; omega)
  clear hK2 hE1
  generalize w1.heap.size = q at *
  have hq : ¬ q = w.heap.size := by omega
  have hq1 : ¬ q = w.heap.size + 1 := by omega
  have hc := hA.cell
  have HA := Lib.hid hA
  have HZ := Lib.hid hZ
  have HE := Lib.hid hE2
  have HB := Lib.hid hB2
  clear hA hZ hE2 hB2
  go_quiet (fail)
  go_wp2_with fail
  go_quiet (fail)
  clear hc
  go_wp2_with fail
  go_step3
  go_wp2_with fail
  go_loopw [6, 7, 8, 9, 10, 11, 12, 13, 14, 15, 16] (fun va vb vc vd ve vf vg vh t v1 v2 wr => ∃ k : Nat, k ≤ 64 ∧ t = .int .i64 k ∧ va = .int .u32 (rnds (W2 (lb s) 48) ⟨a, b, c, d, e, f, g, h⟩ k).a ∧ vb = .int .u32 (rnds (W2 (lb s) 48) ⟨a, b, c, d, e, f, g, h⟩ k).b ∧
      vc = .int .u32 (rnds (W2 (lb s) 48) ⟨a, b, c, d, e, f, g, h⟩ k).c ∧ vd = .int .u32 (rnds (W2 (lb s) 48) ⟨a, b, c, d, e, f, g, h⟩ k).d ∧ ve = .int .u32 (rnds (W2 (lb s) 48) ⟨a, b, c, d, e, f, g, h⟩ k).e ∧ vf = .int .u32 (rnds (W2 (lb s) 48) ⟨a, b, c, d, e, f, g, h⟩ k).f ∧
      vg = .int .u32 (rnds (W2 (lb s) 48) ⟨a, b, c, d, e, f, g, h⟩ k).g ∧ vh = .int .u32 (rnds (W2 (lb s) 48) ⟨a, b, c, d, e, f, g, h⟩ k).h ∧
      Blk wr w.heap.size 128 #[.int .u32 a, .int .u32 b, .int .u32 c, .int .u32 d, .int .u32 e, .int .u32 f, .int .u32 g, .int .u32 h] ∧ Blk wr (w.heap.size + 1) 128 #[.int .u32 0, .int .u32 0, .int .u32 0, .int .u32 0, .int .u32 0, .int .u32 0, .int .u32 0, .int .u32 0] ∧
      Blk wr q 191 (u32s (W2 (lb s) 48)) ∧ Ext w wr) (fun va vb vc vd ve vf vg vh t v1 v2 _ => 64 - (intOf t).toNat)
  case atStart => exact ⟨0, by omega, rfl, rfl, rfl, rfl, rfl, rfl, rfl, rfl, rfl, HA.out, HZ.out, HB.out, (HE.out.drewN _).drewN _⟩
  case round =>
    obtain ⟨k, hk, rfl, rfl, rfl, rfl, rfl, rfl, rfl, rfl, rfl, hA, hZ, hB, hE⟩ := hrel
    clear HA HZ HE HB
    have hin := rnds_in (W2 (lb s) 48) HI.out k
    by_cases hlt : k < 64
    · have hst : rnds (W2 (lb s) 48) ⟨a, b, c, d, e, f, g, h⟩ (k + 1) = rnd (K64.getD k 0) ((W2 (lb s) 48).getD k 0) (rnds (W2 (lb s) 48) ⟨a, b, c, d, e, f, g, h⟩ k) := rfl
      have hK := K64_in.getD k
      have hW := (W2_in (lb s) 48).getD k
      have hT := HT.out.ext hE
      have c0 := hT.cell k hlt
      have cq : wr.cell? ⟨q, k, none⟩ = some (.int .u32 ((W2 (lb s) 48).getD k 0)) := by rw [hB.cell, u32s_get _ _ (by rw [W2_length]; exact hlt)]
      generalize K64.getD k 0 = kk at *
      generalize (W2 (lb s) 48).getD k 0 = ww at *
      generalize rnds (W2 (lb s) 48) ⟨a, b, c, d, e, f, g, h⟩ k = r at *
      obtain ⟨ra, rb, rc, rd, re, rf, rg, rh⟩ := r
      obtain ⟨i1, i2, i3, i4, i5, i6, i7, i8⟩ := hin
      simp only at i1 i2 i3 i4 i5 i6 i7 i8
      have HST := Lib.hid hst
      have HA := Lib.hid hA
      have HZ := Lib.hid hZ
      have HB := Lib.hid hB
      have HE := Lib.hid hE
      clear hst hA hZ hB hE hT
      have k0 : (0 : Int) ≤ (k : Int) := by omega
      have k1 : (k : Int) < 64 := by omega
      go_wp2_with fail
      go_region_held3 (fun w' => w'.cell? ⟨0, k, none⟩ = some (.int .u32 kk) ∧ w'.cell? ⟨q, k, none⟩ = some (.int .u32 ww)) (go_keep)
        (first | (go_at_call 121; refine (turns_any re wr.heap.size [6, 11, 25] _ (by omega) (by omega) (by exact (Blk.new' rfl).drew) (by decide) (by decide)).mono ?_; rintro e w1 ⟨rfl, rfl⟩))
      rename_i hh
      clear hh c0 cq k0 k1
      go_wp2_with (go_at_call 121; refine (turns_any ra (wr.heap.size + 1) [2, 13, 22] _ (by omega) (by omega) (by exact (Blk.new' (by simp)).drew) (by decide) (by decide)).mono ?_; rintro e w1 ⟨rfl, rfl⟩)
      go_roundw
      case rel => exact ⟨k + 1, by omega, by go_num, by rw [HST.out]; rfl, by rw [HST.out]; rfl, by rw [HST.out]; rfl, by rw [HST.out]; rfl, by rw [HST.out]; rfl, by rw [HST.out]; rfl, by rw [HST.out]; rfl, by rw [HST.out]; rfl,
        ((HA.out.alloc _).alloc _).drew, ((HZ.out.alloc _).alloc _).drew, ((HB.out.alloc _).alloc _).drew, ((HE.out.alloc _).alloc _).drew⟩
      case measure => simp [intOf]; omega
    · have h64 : rnds (W2 (lb s) 48) ⟨a, b, c, d, e, f, g, h⟩ k = rnds (W2 (lb s) 48) ⟨a, b, c, d, e, f, g, h⟩ 64 := by rw [show k = 64 from by omega]
      have H64 := Lib.hid h64
      clear h64
      have hsb : shaBlock ⟨a, b, c, d, e, f, g, h⟩ (lb s) = add8 ⟨a, b, c, d, e, f, g, h⟩ (rnds (W2 (lb s) 48) ⟨a, b, c, d, e, f, g, h⟩ 64) := rfl
      rw [← H64.out] at hsb
      have HSB := Lib.hid hsb
      clear hsb H64
      generalize rnds (W2 (lb s) 48) ⟨a, b, c, d, e, f, g, h⟩ k = r at *
      obtain ⟨ra, rb, rc, rd, re, rf, rg, rh⟩ := r
      have hz := hZ.cell
      have hzf := hZ.frozen
      have ha := hA.cell
      have haf := hA.frozen
      have HA := Lib.hid hA
      have HZ := Lib.hid hZ
      have HE := Lib.hid hE
      clear hA hZ hB hE
      have hk64 : ((k : Int) == 64) = true := by rw [show k = 64 from by omega]; rfl
      go_wp2_with fail
      have x0 : ∀ W, (Instr.index 128 (.agg #[.int .u32 ra, .int .u32 rb, .int .u32 rc, .int .u32 rd, .int .u32 re, .int .u32 rf, .int .u32 rg, .int .u32 rh]) (.int .i64 0)).run Tryz.prog W = .ok (.int .u32 ra) W := fun _ => by kernel_rfl
      have x1 : ∀ W, (Instr.index 128 (.agg #[.int .u32 ra, .int .u32 rb, .int .u32 rc, .int .u32 rd, .int .u32 re, .int .u32 rf, .int .u32 rg, .int .u32 rh]) (.int .i64 1)).run Tryz.prog W = .ok (.int .u32 rb) W := fun _ => by kernel_rfl
      have x2 : ∀ W, (Instr.index 128 (.agg #[.int .u32 ra, .int .u32 rb, .int .u32 rc, .int .u32 rd, .int .u32 re, .int .u32 rf, .int .u32 rg, .int .u32 rh]) (.int .i64 2)).run Tryz.prog W = .ok (.int .u32 rc) W := fun _ => by kernel_rfl
      have x3 : ∀ W, (Instr.index 128 (.agg #[.int .u32 ra, .int .u32 rb, .int .u32 rc, .int .u32 rd, .int .u32 re, .int .u32 rf, .int .u32 rg, .int .u32 rh]) (.int .i64 3)).run Tryz.prog W = .ok (.int .u32 rd) W := fun _ => by kernel_rfl
      have x4 : ∀ W, (Instr.index 128 (.agg #[.int .u32 ra, .int .u32 rb, .int .u32 rc, .int .u32 rd, .int .u32 re, .int .u32 rf, .int .u32 rg, .int .u32 rh]) (.int .i64 4)).run Tryz.prog W = .ok (.int .u32 re) W := fun _ => by kernel_rfl
      have x5 : ∀ W, (Instr.index 128 (.agg #[.int .u32 ra, .int .u32 rb, .int .u32 rc, .int .u32 rd, .int .u32 re, .int .u32 rf, .int .u32 rg, .int .u32 rh]) (.int .i64 5)).run Tryz.prog W = .ok (.int .u32 rf) W := fun _ => by kernel_rfl
      have x6 : ∀ W, (Instr.index 128 (.agg #[.int .u32 ra, .int .u32 rb, .int .u32 rc, .int .u32 rd, .int .u32 re, .int .u32 rf, .int .u32 rg, .int .u32 rh]) (.int .i64 6)).run Tryz.prog W = .ok (.int .u32 rg) W := fun _ => by kernel_rfl
      have x7 : ∀ W, (Instr.index 128 (.agg #[.int .u32 ra, .int .u32 rb, .int .u32 rc, .int .u32 rd, .int .u32 re, .int .u32 rf, .int .u32 rg, .int .u32 rh]) (.int .i64 7)).run Tryz.prog W = .ok (.int .u32 rh) W := fun _ => by kernel_rfl
      obtain ⟨i1, i2, i3, i4, i5, i6, i7, i8⟩ := hin
      simp only at i1 i2 i3 i4 i5 i6 i7 i8
      refine wp_loop_rounds 9 ?_
      repeat any_goals (rw [rounds_succ]; go_wp2_with fail)
      rw [Exit.noGoto_ret]
      refine bodyPost_ret (results_blk (t := 0) (ty' := 128) (B := (shaBlock ⟨a, b, c, d, e, f, g, h⟩ (lb s)).cells) rfl _ (w.heap.size + 1) rfl ?b Tryz.underlying128 rfl (by kernel_rfl)) rfl ⟨rfl, ?e⟩
      case b => rw [HSB.out]; exact ((((((((((((((((HZ.out.far (p := ⟨w.heap.size, 0, none⟩) (by simp) _).far (p := ⟨w.heap.size, 1, none⟩) (by simp) _).far (p := ⟨w.heap.size, 2, none⟩) (by simp) _).far (p := ⟨w.heap.size, 3, none⟩) (by simp) _).far (p := ⟨w.heap.size, 4, none⟩) (by simp) _).far (p := ⟨w.heap.size, 5, none⟩) (by simp) _).far (p := ⟨w.heap.size, 6, none⟩) (by simp) _).far (p := ⟨w.heap.size, 7, none⟩) (by simp) _).set 0 _).set 1 _).set 2 _).set 3 _).set 4 _).set 5 _).set 6 _).set 7 _)
      case e => exact ((((((((((((((((HE.out.setCell (p := ⟨w.heap.size, 0, none⟩) (Nat.le_refl _) _).setCell (p := ⟨w.heap.size, 1, none⟩) (Nat.le_refl _) _).setCell (p := ⟨w.heap.size, 2, none⟩) (Nat.le_refl _) _).setCell (p := ⟨w.heap.size, 3, none⟩) (Nat.le_refl _) _).setCell (p := ⟨w.heap.size, 4, none⟩) (Nat.le_refl _) _).setCell (p := ⟨w.heap.size, 5, none⟩) (Nat.le_refl _) _).setCell (p := ⟨w.heap.size, 6, none⟩) (Nat.le_refl _) _).setCell (p := ⟨w.heap.size, 7, none⟩) (Nat.le_refl _) _).setCell (p := ⟨w.heap.size + 1, 0, none⟩) (Nat.le_succ _) _).setCell (p := ⟨w.heap.size + 1, 1, none⟩) (Nat.le_succ _) _).setCell (p := ⟨w.heap.size + 1, 2, none⟩) (Nat.le_succ _) _).setCell (p := ⟨w.heap.size + 1, 3, none⟩) (Nat.le_succ _) _).setCell (p := ⟨w.heap.size + 1, 4, none⟩) (Nat.le_succ _) _).setCell (p := ⟨w.heap.size + 1, 5, none⟩) (Nat.le_succ _) _).setCell (p := ⟨w.heap.size + 1, 6, none⟩) (Nat.le_succ _) _).setCell (p := ⟨w.heap.size + 1, 7, none⟩) (Nat.le_succ _) _)
end Go.Proofs.YtnkebhlkhpgghaaGreatDoor
/- digest.Add, End, Of: the walks. -/
namespace Go.Proofs.YtnkebhlkhpgghaaGreatDoor
open Go Go.RowKit

theorem strClone_any (s : ByteArray) (w : World) (hs : s.size ≤ 140737488355328) : Calls Tryz.prog 99 #[.string s] w (Ret (.string s) w) := by
  go_enter Tryz.func99, Tryz.ntmps99
  go_wp2_with (go_at_call 122; refine (Tryz.stringslite_Clone _ _ (by omega)).mono ?_; rintro e w1 ⟨rfl, hE⟩)
  go_ret
  exact ⟨rfl, hE⟩

def strOf : Value → Nat
  | .string s => s.size
  | _ => 0
/-- What blocks of 64 bytes do to eight words, and what is left. -/
def absorb (s : S8) (l : Bytes) : S8 × Bytes := if h : l.length < 64 then (s, l) else absorb (shaBlock s (l.take 64)) (l.drop 64)
  termination_by l.length
  decreasing_by simp; omega
theorem absorb_less {s : S8} {l : Bytes} (h : l.length < 64) : absorb s l = (s, l) := by rw [absorb, dif_pos h]
theorem absorb_more {s : S8} {l : Bytes} (h : ¬ l.length < 64) : absorb s l = absorb (shaBlock s (l.take 64)) (l.drop 64) := by rw [absorb, dif_neg h]
theorem absorb_in {s : S8} (hs : s.In) (l : Bytes) : (absorb s l).1.In := by
  induction hn : l.length using Nat.strongRecOn generalizing s l with
  | _ n ih =>
    by_cases h : l.length < 64
    · rw [absorb_less h]; exact hs
    · rw [absorb_more h]
      exact ih _ (by simp; omega) (shaBlock_in _ _) (l.drop 64) rfl
theorem absorb_length (s : S8) (l : Bytes) : (absorb s l).2.length < 64 := by
  induction hn : l.length using Nat.strongRecOn generalizing s l with
  | _ n ih =>
    by_cases h : l.length < 64
    · rw [absorb_less h]; exact h
    · rw [absorb_more h]
      exact ih _ (by simp; omega) _ (l.drop 64) rfl
theorem cells_one (s : S8) : ∀ v ∈ s.cells, v.oneCell' = true := by intro v hv; simp [S8.cells] at hv; rcases hv with rfl | rfl | rfl | rfl | rfl | rfl | rfl | rfl <;> rfl

def St (s : S8) (n : Int) (r : ByteArray) : List Value := s.cells ++ [Value.int .u64 n, Value.string r]
theorem St_one (s : S8) (n : Int) (r : ByteArray) : ∀ v ∈ St s n r, v.oneCell' = true := by
  intro v hv
  rcases List.mem_append.1 hv with h | h
  · exact cells_one s v h
  · simp at h; rcases h with rfl | rfl <;> rfl
def St0 : List Value := St ⟨0, 0, 0, 0, 0, 0, 0, 0⟩ 0 ByteArray.empty

set_option maxRecDepth 100000 in
set_option maxHeartbeats 1000000 in
theorem add_any (h : S8) (n : Int) (rest b : ByteArray) (w : World) (hT : Tab w) (hi : h.In) (n0 : 0 ≤ n) (n1 : n < 18446744073709551616) (hr : rest.size ≤ 64) (hb : b.size ≤ 140737488355000) :
    Calls Tryz.prog 70 #[.agg #[.int .u32 h.a, .int .u32 h.b, .int .u32 h.c, .int .u32 h.d, .int .u32 h.e, .int .u32 h.f, .int .u32 h.g, .int .u32 h.h, .int .u64 n, .string rest], .string b] w
      (Ret (.agg (St (absorb h (lb rest ++ lb b)).1 ((n + b.size) % 18446744073709551616) (bs (absorb h (lb rest ++ lb b)).2)).toArray) w) := by
  have HT := Lib.hid hT
  have HI := Lib.hid hi
  clear hT hi
  go_enter Tryz.func70, Tryz.ntmps70
  go_wp2_with fail
  go_loopw [5] (fun v wr => ∃ (s : S8) (t : ByteArray), v = .string t ∧ t.size ≤ rest.size + b.size ∧ absorb h (lb rest ++ lb b) = absorb s (lb t) ∧ s.In ∧ Blk wr w.heap.size 130 (St s ((n + b.size) % 18446744073709551616) rest).toArray ∧
      Blk wr (w.heap.size + 1) 130 St0.toArray ∧ Ext w wr) (fun v _ => strOf v)
  case atStart => exact ⟨h, rest ++ b, rfl, by simp, by rw [lb_append], HI.out, by exact (Blk.new _ _ _).alloc _, Blk.new' (by simp), ((Ext.refl _).alloc _).alloc _⟩
  case round =>
    obtain ⟨s, t, rfl, hsz, hab, hin, hB, hZ, hE⟩ := hrel
    by_cases hlt : t.size < 64
    · rw [absorb_less (l := lb t) (by rw [lb_length]; exact hlt)] at hab
      have HAB := Lib.hid hab
      have HB := Lib.hid hB
      have HZ := Lib.hid hZ
      have HE := Lib.hid hE
      clear hab hB hZ hE
      go_wp2_with (first
        | (go_at_call 99; refine (strClone_any _ _ (by omega)).mono ?_; rintro e w3 ⟨rfl, hE3⟩; have hc9 : w3.cell? ⟨w.heap.size, 9, none⟩ = some (.string rest) := (HB.out.ext hE3).cell 9; have hf9 : w3.frozen? ⟨w.heap.size, 9, none⟩ = false := (HB.out.ext hE3).frozen 9)
        | (refine wpList_load_blk rfl 130 (.tmp 2) rfl w.heap.size 130 (St s ((n + b.size) % 18446744073709551616) t) rfl (by exact (HB.out.ext hE3).set 9 _) _ Tryz.underlying130 rfl (by kernel_rfl) ?_)
        | (refine wpList_store_blk rfl 130 (.tmp 4) (.tmp 31) rfl (w.heap.size + 1) 130 St0 (St s ((n + b.size) % 18446744073709551616) t) rfl rfl (by exact (HZ.out.ext hE3).far (p := ⟨w.heap.size, 9, none⟩) (by simp) _) rfl (by kernel_rfl) (St_one _ _ _) ?_; intro w1 hB1 hK1))
      exact bodyPost_ret (results_blk (t := 0) rfl _ (w.heap.size + 1) rfl hB1 Tryz.underlying130 rfl (by kernel_rfl)) rfl ⟨by rw [HAB.out]; simp only [bs_lb], ((HE.out.trans hE3).setCell (p := ⟨w.heap.size, 9, none⟩) (Nat.le_refl _) _).keep hK1 (fun i hi => by cases hi; exact Nat.le_succ _)⟩
    · have hge : 64 ≤ t.size := by omega
      obtain ⟨sa, sb, sc, sd, se, sf, sg, sh⟩ := s
      have hc : ∀ i, wr.cell? ⟨w.heap.size, i, none⟩ = (#[Value.int .u32 sa, Value.int .u32 sb, Value.int .u32 sc, Value.int .u32 sd, Value.int .u32 se, Value.int .u32 sf, Value.int .u32 sg, Value.int .u32 sh, Value.int .u64 ((n + b.size) % 18446744073709551616), Value.string rest] : Array Value)[i]? := hB.cell
      have HAB := Lib.hid hab
      have HB := Lib.hid hB
      have HZ := Lib.hid hZ
      have HE := Lib.hid hE
      have HIN := Lib.hid hin
      clear hab hB hZ hE hin
      have hfr : ∀ i, wr.frozen? ⟨w.heap.size, i, none⟩ = false := HB.out.frozen
      go_wp2_with fail
      go_still_tail 4, (by kernel_rfl)
      clear hc hfr
      change wpList _ _ _ _ _ wr.drew
      have HB1 := Lib.hid HB.out.drew
      have HZ1 := Lib.hid HZ.out.drew
      have HE1 := Lib.hid HE.out.drew
      clear HB HZ HE
      generalize wr.drew = w2 at *
      have HT2 := Lib.hid (HT.out.ext HE1.out)
      have hsx : (t.extract 0 64).size = 64 := by rw [ByteArray.size_extract]; omega
      have HSX := Lib.hid hsx
      clear hsx
      go_wp2_with (first
        | (go_at_call 98; refine (block_any _ _ _ _ _ _ _ _ _ _ HSX.out HT2.out HIN.out).mono ?_; rintro e w3 ⟨rfl, hE3⟩)
        | (refine wpList_store_part rfl 128 _ _ rfl w.heap.size 130 [] (S8.cells ⟨sa, sb, sc, sd, se, sf, sg, sh⟩) [Value.int .u64 ((n + b.size) % 18446744073709551616), Value.string rest] _ rfl rfl (HB1.out.ext hE3) rfl (by kernel_rfl) (cells_one _) ?_; intro w4 hB4 hK4))
      go_roundw
      case rel =>
        refine ⟨shaBlock ⟨sa, sb, sc, sd, se, sf, sg, sh⟩ (lb (t.extract 0 64)), _, rfl, by rw [ByteArray.size_extract]; omega, ?_, shaBlock_in _ _, hB4, (HZ1.out.ext hE3).keep hK4 (by simp only [One]; omega), (HE1.out.trans hE3).keep hK4 (fun i hi => by cases hi; exact Nat.le_refl _)⟩
        rw [HAB.out, absorb_more (by rw [lb_length]; omega), lb_extract, lb_extract]
        simp only [List.drop_zero, Nat.sub_zero]
        rw [List.take_of_length_le (l := List.drop 64 (lb t)) (by rw [List.length_drop, lb_length]; exact Nat.le_refl _)]
      case measure => simp only [strOf, ByteArray.size_extract]; omega

def S8.start : S8 := ⟨1779033703, 3144134277, 1013904242, 2773480762, 1359893119, 2600822924, 528734635, 1541459225⟩
theorem S8.start_in : S8.start.In := by unfold S8.In S8.start; decide
theorem start_any (w : World) : Calls Tryz.prog 71 #[] w (Ret (.agg (St S8.start 0 ByteArray.empty).toArray) w) := by
  go_enter Tryz.func71, Tryz.ntmps71
  go_wp2_with (refine wpList_store_blk rfl 130 (.tmp 0) (.tmp 2) rfl w.heap.size 130 St0 (St S8.start 0 ByteArray.empty) rfl rfl (Blk.new _ _ _) rfl (by kernel_rfl) (St_one _ _ _) ?_; intro w1 hB1 hK1)
  exact bodyPost_ret (results_blk (t := 0) rfl _ w.heap.size rfl hB1 Tryz.underlying130 rfl (by kernel_rfl)) rfl ⟨rfl, ((Ext.refl _).alloc _).keep hK1 (fun i hi => by cases hi; exact Nat.le_refl _)⟩

/-- What is laid behind the bytes that fill no block yet: 128, bytes 0 up to 56, and how many bits there were. -/
def padN (r : Nat) : Nat := (119 - r) % 64
def pad (r : Nat) (n : Int) : Bytes := 128 :: List.replicate (padN r) 0 ++ (List.range 8).map fun i => UInt8.ofNat ((n * 8 % 18446744073709551616) / 2 ^ (56 - 8 * i) % 256).toNat
def word (s : S8) (i : Nat) : Int := [s.a, s.b, s.c, s.d, s.e, s.f, s.g, s.h].getD i 0
def digestBytes (s : S8) : Bytes := (List.range 32).map fun i => UInt8.ofNat (word s (i / 4) / 2 ^ (24 - 8 * (i % 4)) % 256).toNat
def shaEnd (s : S8) (n : Int) (r : Bytes) : Bytes := digestBytes (absorb s (r ++ pad r.length n)).1
def sha (l : Bytes) : Bytes := shaEnd (absorb S8.start l).1 l.length (absorb S8.start l).2
theorem sha_length (l : Bytes) : (sha l).length = 32 := by simp [sha, shaEnd, digestBytes]
end Go.Proofs.YtnkebhlkhpgghaaGreatDoor
