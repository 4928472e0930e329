/- Part of a proof: the walks of the functions, and their plain laws: Heq, Flat, Blog, Lnk, Heads, Rsm, Rsm2. -/
import Derived.Test.YtnkebhlkhpgghaaGreatDoorPart11
import Derived.Great.Walk
set_option linter.unusedVariables false
set_option linter.unusedSimpArgs false

/- Two heads, and two digests, are compared. -/
namespace Go.Proofs.YtnkebhlkhpgghaaGreatDoor
open Go Go.RowKit Go.Deep

theorem dig_eq (p q : Bytes) (w : World) (hp : p.length = 32) (hq : q.length = 32) : (Op.equalIn 10000 40 (.agg (bcells p).toArray) (.agg (bcells q).toArray)).run Tryz.prog w = .ok (decide (p = q)) w := by
  have h := run_equalIn_bytes w 9998 40 5 32 Tryz.underlying40 Tryz.underlying5 u8_size p q hp hq
  have h2 : (p == q) = decide (p = q) := by by_cases h : p = q <;> simp [h]
  rw [h2] at h
  exact h
theorem dig_guard (op : BinOp) (u v : Operand) (p q : Array Value) (w : World) : (eqGuard op 40 u v (.agg p) (.agg q)).run Tryz.prog w = .ok () w := run_eqGuard_agg w op 40 u v _ _ (by kernel_rfl)
theorem dig_eql (p q : Bytes) (w : World) (hp : p.length = 32) (hq : q.length = 32) : (binOp .eql 40 (.agg (bcells p).toArray) (.agg (bcells q).toArray)).run Tryz.prog w = .ok (.bool (decide (p = q))) w := by
  rw [run_eql_struct, dig_eq p q w hp hq]; rfl
theorem dig_neq (p q : Bytes) (w : World) (hp : p.length = 32) (hq : q.length = 32) : (binOp .neq 40 (.agg (bcells p).toArray) (.agg (bcells q).toArray)).run Tryz.prog w = .ok (.bool (!decide (p = q))) w := by
  rw [run_neq_struct, dig_eq p q w hp hq]; rfl
set_option maxRecDepth 16000 in
theorem hd_eq (x y : Hd) (w : World) (hx : x.In) (hy : y.In) : (Op.equalIn 10000 70 (.agg x.cells.toArray) (.agg y.cells.toArray)).run Tryz.prog w = .ok (decide (x = y)) w := by
  rw [run_equalIn_struct w 9999 70 _ _ (by kernel_rfl) (by kernel_rfl)]
  simp only [Program.fieldsOf, Tryz.underlying70]
  have ax : x.anchor.length = 32 := hx.a
  have ay : y.anchor.length = 32 := hy.a
  have g : ∀ (z : Hd), z.anchor.length = 32 → z.cells.toArray[0]? = some (.int .u64 z.id) ∧ z.cells.toArray[1]? = some (.int .u64 z.first) ∧ z.cells.toArray.extract 2 (2 + 32) = (bcells z.anchor).toArray := by
    intro z h1
    refine ⟨by simp [Hd.cells], by simp [Hd.cells], by simp [Hd.cells, bcells, h1]; exact List.take_of_length_le (by simp [h1])⟩
  obtain ⟨a0, a1, a2⟩ := g x ax
  obtain ⟨b0, b1, b2⟩ := g y ay
  rw [eqFields_int _ _ .u64 _ _ (by decide) Tryz.underlying34 a0 b0, eqFields_int _ _ .u64 _ _ (by decide) Tryz.underlying34 a1 b1,
    eqFields_arr _ _ 5 32 _ _ (by decide) Tryz.underlying40 Tryz.underlying5 u8_size dig_size ax ay a2 b2]
  obtain ⟨x1, x2, x3⟩ := x
  obtain ⟨y1, y2, y3⟩ := y
  simp only [Op.eqFields, Sem.run_pure, Hd.mk.injEq]
  by_cases h1 : x1 = y1 <;> by_cases h2 : x2 = y2 <;> by_cases h3 : x3 = y3 <;> simp [h1, h2, h3]
theorem hd_guard (op : BinOp) (u v : Operand) (x y : Array Value) (w : World) : (eqGuard op 70 u v (.agg x) (.agg y)).run Tryz.prog w = .ok () w := run_eqGuard_agg w op 70 u v _ _ (by kernel_rfl)
theorem hd_neq (x y : Hd) (w : World) (hx : x.In) (hy : y.In) : (binOp .neq 70 (.agg x.cells.toArray) (.agg y.cells.toArray)).run Tryz.prog w = .ok (.bool (!decide (x = y))) w := by
  rw [run_neq_struct, hd_eq x y w hx hy]; rfl

/-! ### A slice of heads -/
/-- At A there lie just these heads. -/
def HdS (w : World) (A : Option Addr) (hs : List Hd) : Prop := ∀ (i : Nat) (x : Hd), hs[i]? = some x → ∃ hb ho, A = some ⟨hb, ho, none⟩ ∧ ∀ (j : Nat) (u : Value), x.cells[j]? = some u → w.cell? ⟨hb, ho + i * 34 + j, none⟩ = some u
theorem HdS.ext {w w' : World} {A : Option Addr} {hs : List Hd} (h : HdS w A hs) (e : Ext w w') : HdS w' A hs := fun i x hx => by
  obtain ⟨hb, ho, h1, h2⟩ := h i x hx
  exact ⟨hb, ho, h1, fun j u hu => e.cell_some (h2 j u hu)⟩
theorem HdS.range {w : World} {hb ho : Nat} {hs : List Hd} (h : HdS w (some ⟨hb, ho, none⟩) hs) (i : Nat) (x : Hd) (hx : hs[i]? = some x) : w.rangeAt hb (ho + i * 34) x.cells := fun j u hu => by
  obtain ⟨hb', ho', h1, h2⟩ := h i x hx
  injection h1 with h1
  injection h1 with h3 h4
  subst h3 h4
  exact h2 j u hu
/-- Are heads those of a super's segments, in order? -/
structure Lnk (segs : Int) (x : Sp) (hs : List Hd) : Prop where
  l1 : 1 ≤ hs.length
  l2 : (hs.length : Int) ≤ segs
  ids : ∀ (i : Nat) (h : Hd), hs[i]? = some h → h.id = IntKind.u64.wrap (x.tail + i)
  last : ∀ h, hs[hs.length - 1]? = some h → h.id = x.id
  first : ∀ h, hs[0]? = some h → h.first = x.first
  anchor : ∀ h, hs[0]? = some h → h.anchor = x.anchor
noncomputable def lnk (segs : Int) (x : Sp) (hs : List Hd) : Bool := @decide (Lnk segs x hs) (Classical.propDecidable _)
theorem lnk_true {segs : Int} {x : Sp} {hs : List Hd} (h : Lnk segs x hs) : lnk segs x hs = true := by simp [lnk, h]
theorem lnk_false {segs : Int} {x : Sp} {hs : List Hd} (h : ¬ Lnk segs x hs) : lnk segs x hs = false := by simp [lnk, h]
end Go.Proofs.YtnkebhlkhpgghaaGreatDoor
/- A row of heads, copied. -/
namespace Go.Proofs.YtnkebhlkhpgghaaGreatDoor
open Go Go.RowKit Go.Deep

def flatH (hs : List Hd) : List Value := (hs.map Hd.cells).flatten
theorem flatH_length {hs : List Hd} (hi : ∀ h ∈ hs, h.In) : (flatH hs).length = hs.length * 34 := by
  induction hs with
  | nil => rfl
  | cons h t ih =>
    have h1 := ih (fun x hx => hi x (List.mem_cons_of_mem _ hx))
    have h2 := hd_len (hi h List.mem_cons_self)
    simp only [flatH, List.map_cons, List.flatten_cons, List.length_append, List.length_cons] at h1 ⊢
    omega
theorem flatH_one (hs : List Hd) : ∀ v ∈ flatH hs, v.oneCell' = true := by
  intro v hv
  simp only [flatH, List.mem_flatten, List.mem_map] at hv
  obtain ⟨l, ⟨h, _, rfl⟩, hv⟩ := hv
  exact hd_one h v hv
theorem flatH_get : ∀ (hs : List Hd), (∀ h ∈ hs, h.In) → ∀ (i : Nat) (x : Hd) (j : Nat) (u : Value), hs[i]? = some x → x.cells[j]? = some u → (flatH hs)[i * 34 + j]? = some u
  | [], _, i, x, j, u, hx, hu => by simp at hx
  | h :: t, hi, 0, x, j, u, hx, hu => by
    obtain rfl := Option.some.inj hx
    rw [Nat.zero_mul, Nat.zero_add]
    show (h.cells ++ flatH t)[j]? = some u
    rw [List.getElem?_append_left (List.getElem?_eq_some_iff.1 hu).1]
    exact hu
  | h :: t, hi, i + 1, x, j, u, hx, hu => by
    have h1 := flatH_get t (fun x hx => hi x (List.mem_cons_of_mem _ hx)) i x j u hx hu
    have h2 := hd_len (hi h List.mem_cons_self)
    show (h.cells ++ flatH t)[(i + 1) * 34 + j]? = some u
    rw [List.getElem?_append_right (by omega), h2, show (i + 1) * 34 + j - 34 = i * 34 + j from by omega]
    exact h1
theorem flatH_inv : ∀ (hs : List Hd), (∀ h ∈ hs, h.In) → ∀ (m : Nat) (u : Value), (flatH hs)[m]? = some u → ∃ i j x, hs[i]? = some x ∧ x.cells[j]? = some u ∧ m = i * 34 + j
  | [], _, m, u, h => by simp [flatH] at h
  | h :: t, hi, m, u, hu => by
    have h2 := hd_len (hi h List.mem_cons_self)
    have hu : (h.cells ++ flatH t)[m]? = some u := hu
    by_cases hm : m < 34
    · rw [List.getElem?_append_left (by omega)] at hu
      exact ⟨0, m, h, rfl, hu, by omega⟩
    · rw [List.getElem?_append_right (by omega), h2] at hu
      obtain ⟨i, j, x, h3, h4, h5⟩ := flatH_inv t (fun x hx => hi x (List.mem_cons_of_mem _ hx)) _ u hu
      exact ⟨i + 1, j, x, h3, h4, by omega⟩
theorem HdS.flat {w : World} {hb ho : Nat} {hs : List Hd} (h : HdS w (some ⟨hb, ho, none⟩) hs) (hi : ∀ h ∈ hs, h.In) : ∀ (m : Nat) (u : Value), (flatH hs)[m]? = some u → w.cell? ((⟨hb, ho, none⟩ : Addr).add m) = some u := by
  intro m u hu
  obtain ⟨i, j, x, h1, h2, rfl⟩ := flatH_inv hs hi m u hu
  have := h.range i x h1 j u h2
  rw [Addr.add_lit, ← Nat.add_assoc]
  exact this
theorem hds_own {w : World} {base : Nat} {hs : List Hd} {A : Option Addr} {c n : Nat} (h : w.ownsRow base 70 34 (.slice A n c) n (flatH hs)) (hi : ∀ h ∈ hs, h.In) (h1 : 1 ≤ n) (hn : n = hs.length) : ∃ g, A = some ⟨g, 0, none⟩ ∧ base ≤ g ∧ n ≤ c ∧ c ≤ 9223372036854775807 ∧ g < w.heap.size ∧ HdS w (some ⟨g, 0, none⟩) hs := by
  rcases h.2 with ⟨hv, h0⟩ | ⟨g, cap, cur, hv, hb, hg, hc, hm, _⟩
  · omega
  · injection hv with hv1 hv2 hv3
    subst hv1 hv3
    refine ⟨g, rfl, hb, hc, by simp only [maxLen] at hm; omega, (by have := Array.getElem?_eq_some_iff.1 hg; exact this.1), fun i x hx => ⟨g, 0, rfl, fun j u hu => ?_⟩⟩
    have h2 := h.cells (g := g) rfl (i * 34 + j) u (flatH_get hs hi i x j u hx hu)
    rw [Addr.add_lit, ← Nat.add_assoc] at h2
    exact h2
/-- 'append(nil, heads...)'. -/
theorem wpList_copyH {ops : Array Oper} {rest : List Oper} {o : Oper} {a : Act} {Q : Exit → Act → World → Prop} {W : World} (hgd : o.guard = none) (s x : Operand) (ho : o.op = .call { callee := .builtin .append, args := #[s, x], argTypes := #[52, 52] }) (hs0 : a.eval s = .slice none 0 0)
    (hb hf c n : Nat) (hs : List Hd) (hx : a.eval x = .slice (some ⟨hb, hf, none⟩) n c) (hn : n = hs.length) (hi : ∀ h ∈ hs, h.In) (hS : HdS W (some ⟨hb, hf, none⟩) hs) (h1 : 1 ≤ hs.length) (hl : hs.length ≤ 100)
    (h : ∀ g c' w1, W.heap.size ≤ g → HdS w1 (some ⟨g, 0, none⟩) hs → Ext W w1 → n ≤ c' → c' ≤ 9223372036854775807 → g < w1.heap.size → wpList Tryz.prog ops Q rest (a.put o.dst (.slice (some ⟨g, 0, none⟩) n c')) w1) :
    wpList Tryz.prog ops Q (o :: rest) a W := by
  have hinfo : (Tryz.prog.info? 70).map (fun i => (i.zero, i.size, i.bytes)) = some (some (.agg zs34.toArray), 34, 48) := by kernel_rfl
  refine wpList_appendR W.heap.size hgd s x 52 70 (.agg zs34.toArray) 34 48 ho Tryz.underlying52 hinfo (by decide) (by decide) (by decide) (.slice none 0 0) 0 [] hs0 (own_none _ _ _ _) (Nat.le_refl _)
    ⟨hb, hf, none⟩ n c (flatH hs) hx (by rw [flatH_length hi, hn]) (hS.flat hi) (flatH_one hs) (by omega) ?_
  intro A c' w1 hO hK
  rw [Nat.zero_add, List.nil_append] at hO
  rw [Nat.zero_add]
  obtain ⟨g, rfl, h2, h3, h4, h5, h6⟩ := hds_own hO hi (by omega) hn
  exact h g c' w1 h2 h6 (hK.ext (fun i hi => by simp [Of, Value.ownBlock] at hi)) h3 h4 h5
end Go.Proofs.YtnkebhlkhpgghaaGreatDoor
/- The two logs are built: each of 109 cells. -/
namespace Go.Proofs.YtnkebhlkhpgghaaGreatDoor
open Go Go.RowKit Go.Deep

theorem fill_at {place : Nat → Option (Nat × Nat)} {cs : Array Value} {i : Nat} {v : Value} {rest : List (Nat × Value)} (A B C V : List Value) (hc : cs = (A ++ B ++ C).toArray) (hp : place i = some (A.length, B.length)) (hv : v.cells.toList = V) (hl : V.length = B.length) :
    Instr.fill place cs ((i, v) :: rest) = Instr.fill place (A ++ V ++ C).toArray rest := by
  subst hc
  rw [fill_seg hp (by rw [← hl, ← hv]; simp) (by simp), hv]
  congr 1
  simp only [List.append_assoc, List.take_left', List.drop_append, List.drop_left']
  simp
def zlg (e : Value) : List Value := [.pointer none, .int .i64 0, .int .i64 0] ++ zs70 ++ ([.slice none 0 0, e] ++ List.replicate 32 (.int .u8 0)) ++ [.int .u64 0, .bool false]
def plLog : Array (Nat × Nat) := #[(0, 1), (1, 2), (3, 70), (73, 1), (74, 1), (75, 32), (107, 1), (108, 1)]
theorem places_lg (w : World) : ∀ fields, Tryz.prog.underlying 77 = some (.struct fields) → (fields.mapM fun f => (do pure (f.offset, ← sizeOf f.type) : Sem (Nat × Nat))).run Tryz.prog w = .ok plLog w := by
  intro fields h
  rw [Tryz.underlying77] at h
  injection h with h
  injection h with h
  subst h
  kernel_rfl
theorem places_rl (w : World) : ∀ fields, Tryz.prog.underlying 102 = some (.struct fields) → (fields.mapM fun f => (do pure (f.offset, ← sizeOf f.type) : Sem (Nat × Nat))).run Tryz.prog w = .ok plLog w := by
  intro fields h
  rw [Tryz.underlying102] at h
  injection h with h
  injection h with h
  subst h
  kernel_rfl
def lgAll (p : Value) (per segs : Int) (x : Sp) (s e : Value) (next : Int) : List Value := [p, .int .i64 per, .int .i64 segs] ++ x.cells ++ [s, e] ++ bcells x.sum ++ [.int .u64 next, .bool false]
theorem fill_lg (p : Value) (per segs : Int) (x : Sp) (hx : x.In) (s e z : Value) (h1 : p.cells = #[p]) (h2 : s.cells = #[s]) (h3 : e.cells = #[e]) : Instr.fill (plLog[·]?) (zlg z).toArray [(0, p), (1, .agg #[.int .i64 per, .int .i64 segs]), (2, .agg x.cells.toArray), (3, s), (4, e), (5, .agg (bcells x.sum).toArray), (6, .int .u64 x.next)] = some (lgAll p per segs x s e x.next).toArray := by
  have hl := Sp.cells_length hx
  have hs : (bcells x.sum).length = 32 := by simp [bcells, hx.s]
  refine Eq.trans (fill_at [] [.pointer none] ([.int .i64 0, .int .i64 0] ++ zs70 ++ ([.slice none 0 0, z] ++ List.replicate 32 (.int .u8 0)) ++ [.int .u64 0, .bool false]) [p] ?_ ?_ ?_ ?_) ?_
  · first | rfl | simp [zlg]
  · first | rfl | simp [hl, hs, plLog]
  · first | rfl | rw [h1] | rw [h2] | rw [h3]
  · first | rfl | (rw [hl]; rfl) | (rw [hs]; rfl)
  refine Eq.trans (fill_at [p] [.int .i64 0, .int .i64 0] (zs70 ++ ([.slice none 0 0, z] ++ List.replicate 32 (.int .u8 0)) ++ [.int .u64 0, .bool false]) [.int .i64 per, .int .i64 segs] ?_ ?_ ?_ ?_) ?_
  · first | rfl | simp [zlg]
  · first | rfl | simp [hl, hs, plLog]
  · first | rfl | rw [h1] | rw [h2] | rw [h3]
  · first | rfl | (rw [hl]; rfl) | (rw [hs]; rfl)
  refine Eq.trans (fill_at [p, .int .i64 per, .int .i64 segs] zs70 (([.slice none 0 0, z] ++ List.replicate 32 (.int .u8 0)) ++ [.int .u64 0, .bool false]) x.cells ?_ ?_ ?_ ?_) ?_
  · first | rfl | simp [zlg]
  · first | rfl | simp [hl, hs, plLog]
  · first | rfl | rw [h1] | rw [h2] | rw [h3]
  · first | rfl | (rw [hl]; rfl) | (rw [hs]; rfl)
  refine Eq.trans (fill_at ([p, .int .i64 per, .int .i64 segs] ++ x.cells) [.slice none 0 0] ([z] ++ List.replicate 32 (.int .u8 0) ++ [.int .u64 0, .bool false]) [s] ?_ ?_ ?_ ?_) ?_
  · first | rfl | simp [zlg]
  · first | rfl | simp [hl, hs, plLog]
  · first | rfl | rw [h1] | rw [h2] | rw [h3]
  · first | rfl | (rw [hl]; rfl) | (rw [hs]; rfl)
  refine Eq.trans (fill_at ([p, .int .i64 per, .int .i64 segs] ++ x.cells ++ [s]) [z] (List.replicate 32 (.int .u8 0) ++ [.int .u64 0, .bool false]) [e] ?_ ?_ ?_ ?_) ?_
  · first | rfl | simp [zlg]
  · first | rfl | simp [hl, hs, plLog]
  · first | rfl | rw [h1] | rw [h2] | rw [h3]
  · first | rfl | (rw [hl]; rfl) | (rw [hs]; rfl)
  refine Eq.trans (fill_at ([p, .int .i64 per, .int .i64 segs] ++ x.cells ++ [s, e]) (List.replicate 32 (.int .u8 0)) [.int .u64 0, .bool false] (bcells x.sum) ?_ ?_ ?_ ?_) ?_
  · first | rfl | simp [zlg]
  · first | rfl | simp [hl, hs, plLog]
  · first | rfl | rw [h1] | rw [h2] | rw [h3]
  · first | rfl | (rw [hl]; rfl) | (rw [hs]; rfl)
  refine Eq.trans (fill_at ([p, .int .i64 per, .int .i64 segs] ++ x.cells ++ [s, e] ++ bcells x.sum) [.int .u64 0] [.bool false] [.int .u64 x.next] ?_ ?_ ?_ ?_) ?_
  · first | rfl | simp [zlg]
  · first | rfl | simp [hl, hs, plLog]
  · first | rfl | rw [h1] | rw [h2] | rw [h3]
  · first | rfl | (rw [hl]; rfl) | (rw [hs]; rfl)
  simp [Instr.fill, lgAll]
theorem fill_rl (p : Value) (per segs : Int) (x : Sp) (hx : x.In) (e z : Value) (h1 : p.cells = #[p]) (h2 : True) (h3 : e.cells = #[e]) : Instr.fill (plLog[·]?) (zlg z).toArray [(0, p), (1, .agg #[.int .i64 per, .int .i64 segs]), (2, .agg x.cells.toArray), (4, e), (5, .agg (bcells x.sum).toArray), (6, .int .u64 x.next)] = some (lgAll p per segs x (.slice none 0 0) e x.next).toArray := by
  have hl := Sp.cells_length hx
  have hs : (bcells x.sum).length = 32 := by simp [bcells, hx.s]
  refine Eq.trans (fill_at [] [.pointer none] ([.int .i64 0, .int .i64 0] ++ zs70 ++ ([.slice none 0 0, z] ++ List.replicate 32 (.int .u8 0)) ++ [.int .u64 0, .bool false]) [p] ?_ ?_ ?_ ?_) ?_
  · first | rfl | simp [zlg]
  · first | rfl | simp [hl, hs, plLog]
  · first | rfl | rw [h1] | rw [h2] | rw [h3]
  · first | rfl | (rw [hl]; rfl) | (rw [hs]; rfl)
  refine Eq.trans (fill_at [p] [.int .i64 0, .int .i64 0] (zs70 ++ ([.slice none 0 0, z] ++ List.replicate 32 (.int .u8 0)) ++ [.int .u64 0, .bool false]) [.int .i64 per, .int .i64 segs] ?_ ?_ ?_ ?_) ?_
  · first | rfl | simp [zlg]
  · first | rfl | simp [hl, hs, plLog]
  · first | rfl | rw [h1] | rw [h2] | rw [h3]
  · first | rfl | (rw [hl]; rfl) | (rw [hs]; rfl)
  refine Eq.trans (fill_at [p, .int .i64 per, .int .i64 segs] zs70 (([.slice none 0 0, z] ++ List.replicate 32 (.int .u8 0)) ++ [.int .u64 0, .bool false]) x.cells ?_ ?_ ?_ ?_) ?_
  · first | rfl | simp [zlg]
  · first | rfl | simp [hl, hs, plLog]
  · first | rfl | rw [h1] | rw [h2] | rw [h3]
  · first | rfl | (rw [hl]; rfl) | (rw [hs]; rfl)
  refine Eq.trans (fill_at ([p, .int .i64 per, .int .i64 segs] ++ x.cells ++ [.slice none 0 0]) [z] (List.replicate 32 (.int .u8 0) ++ [.int .u64 0, .bool false]) [e] ?_ ?_ ?_ ?_) ?_
  · first | rfl | simp [zlg]
  · first | rfl | simp [hl, hs, plLog]
  · first | rfl | rw [h1] | rw [h2] | rw [h3]
  · first | rfl | (rw [hl]; rfl) | (rw [hs]; rfl)
  refine Eq.trans (fill_at ([p, .int .i64 per, .int .i64 segs] ++ x.cells ++ [.slice none 0 0, e]) (List.replicate 32 (.int .u8 0)) [.int .u64 0, .bool false] (bcells x.sum) ?_ ?_ ?_ ?_) ?_
  · first | rfl | simp [zlg]
  · first | rfl | simp [hl, hs, plLog]
  · first | rfl | rw [h1] | rw [h2] | rw [h3]
  · first | rfl | (rw [hl]; rfl) | (rw [hs]; rfl)
  refine Eq.trans (fill_at ([p, .int .i64 per, .int .i64 segs] ++ x.cells ++ [.slice none 0 0, e] ++ bcells x.sum) [.int .u64 0] [.bool false] [.int .u64 x.next] ?_ ?_ ?_ ?_) ?_
  · first | rfl | simp [zlg]
  · first | rfl | simp [hl, hs, plLog]
  · first | rfl | rw [h1] | rw [h2] | rw [h3]
  · first | rfl | (rw [hl]; rfl) | (rw [hs]; rfl)
  simp [Instr.fill, lgAll]
theorem build_lgx (d g per segs n c : Nat) (x : Sp) (hx : x.In) (en : Int) (w : World) : (Instr.build 77 #[(0, .pointer (some ⟨d, 0, none⟩)), (1, .agg #[.int .i64 per, .int .i64 segs]), (2, .agg x.cells.toArray), (3, .slice (some ⟨g, 0, none⟩) n c), (4, .int .i64 en), (5, .agg (bcells x.sum).toArray), (6, .int .u64 x.next)]).run Tryz.prog w = .ok (.agg (lgAll (.pointer (some ⟨d, 0, none⟩)) per segs x (.slice (some ⟨g, 0, none⟩) n c) (.int .i64 en) x.next).toArray) w := by
  obtain ⟨fields, hu⟩ : ∃ fields, Tryz.prog.underlying 77 = some (.struct fields) := ⟨_, Tryz.underlying77⟩
  have hpl := places_lg w fields hu
  have hz : (zeroValue 77).run Tryz.prog w = .ok (.agg (zlg (.int .i64 0)).toArray) w := by kernel_rfl
  have hf := fill_lg (.pointer (some ⟨d, 0, none⟩)) per segs x hx (.slice (some ⟨g, 0, none⟩) n c) (.int .i64 en) (.int .i64 0) rfl rfl rfl
  unfold Instr.build
  simp only [Sem.run_bind, hz, Result.andThen_ok, run_underlying hu, hpl, Value.cells, hf, Sem.run_pure]
theorem build_rlx (r : Nat) (per segs : Int) (x : Sp) (hx : x.In) (w : World) : (Instr.build 102 #[(0, .pointer (some ⟨r, 0, none⟩)), (1, .agg #[.int .i64 per, .int .i64 segs]), (2, .agg x.cells.toArray), (4, .int .u64 x.en), (5, .agg (bcells x.sum).toArray), (6, .int .u64 x.next)]).run Tryz.prog w = .ok (.agg (lgAll (.pointer (some ⟨r, 0, none⟩)) per segs x (.slice none 0 0) (.int .u64 x.en) x.next).toArray) w := by
  obtain ⟨fields, hu⟩ : ∃ fields, Tryz.prog.underlying 102 = some (.struct fields) := ⟨_, Tryz.underlying102⟩
  have hpl := places_rl w fields hu
  have hz : (zeroValue 102).run Tryz.prog w = .ok (.agg (zlg (.int .u64 0)).toArray) w := by kernel_rfl
  have hf := fill_rl (.pointer (some ⟨r, 0, none⟩)) per segs x hx (.int .u64 x.en) (.int .u64 0) rfl trivial rfl
  unfold Instr.build
  simp only [Sem.run_bind, hz, Result.andThen_ok, run_underlying hu, hpl, Value.cells, hf, Sem.run_pure]
end Go.Proofs.YtnkebhlkhpgghaaGreatDoor
/- seglog.linked. -/
namespace Go.Proofs.YtnkebhlkhpgghaaGreatDoor
open Go Go.RowKit Go.Deep Go.Sort

theorem seen_store {R : World → World → Prop} {J : Act → World → Prop} {o : Oper} {a : Act} {w : World} {Q : Exit → Act → World → Prop} {P : Program} (ty : TypeId) (x y : Operand) (ho : o.op = .store ty x y) (g : Nat) (t : TypeId) (B vs : List Value) (hx : a.eval x = .pointer (some ⟨g, 0, none⟩)) (hy : a.eval y = .agg vs.toArray)
    (hB : Blk w g t B.toArray) (hl : B.length = vs.length) (hi : (P.info? ty).map (·.size) = some vs.length) (h1 : ∀ v ∈ vs, v.oneCell' = true) (hR : ∀ w', R w w')
    (hJ : ∀ w', Blk w' g t vs.toArray → Keep (One g) w w' → J (a.put o.dst undef) w') : o.wp P a w (fun a' w'' => ∃ v, a' = a.put o.dst v ∧ (R w w'' ∧ J a' w'') ∧ ∀ u, (o.dst = none ∨ u = v) → True) Q := by
  refine wp_store_mid ty x y ho g 0 vs.toArray hx hy (by have := Blk.there (A := []) (B := B) (C := []) (by simpa using hB); rw [hl] at this; simpa using this) (by simpa using hi) (all_oneCell_toArray h1) ?_
  refine ⟨undef, rfl, ⟨hR _, hJ _ ?_ ?_⟩, fun _ _ => trivial⟩
  · have := Blk.setCells (w := w) vs w [] B [] (by simpa using hB) hl
    simpa using this
  · exact Keep.setCells (One.self g) vs w w _ (Keep.refl _ _)
/-- The two blocks of linked's last heads, while they are made. -/
structure LkJ (wr : World) (f l : List Value) (L : Nat → Bool) (u v : Value) (w : World) : Prop where
  ext : Ext wr w
  a9 : L 9 = true → ∃ g, u = .pointer (some ⟨g, 0, none⟩) ∧ wr.heap.size ≤ g ∧ Blk w g 70 (if L 11 = true then f else zs34).toArray
  a10 : L 10 = true → ∃ g, v = .pointer (some ⟨g, 0, none⟩) ∧ wr.heap.size ≤ g ∧ Blk w g 70 (if L 12 = true then l else zs34).toArray
  ne : L 9 = true → L 10 = true → u ≠ v
  l11 : L 11 = true → L 9 = true
  l12 : L 12 = true → L 10 = true
theorem LkJ.quiet {wr w : World} {f l : List Value} {L : Nat → Bool} {a : Act} (h : LkJ wr f l L (a.eval (.tmp 9)) (a.eval (.tmp 10)) w) (i d : Nat) (x : Value) (hi : i < 9) (h9 : d ≠ 9) (h10 : d ≠ 10) : LkJ wr f l (upd L i) ((a.put (some d) x).eval (.tmp 9)) ((a.put (some d) x).eval (.tmp 10)) w := by
  rw [put_off x h9, put_off x h10]
  have e : ∀ j, 9 ≤ j → upd L i j = L j := fun j hj => by unfold upd; rw [if_neg (by omega)]
  exact ⟨h.ext, by rw [e 9 (by omega), e 11 (by omega)]; exact h.a9, by rw [e 10 (by omega), e 12 (by omega)]; exact h.a10, by rw [e 9 (by omega), e 10 (by omega)]; exact h.ne, by rw [e 9 (by omega), e 11 (by omega)]; exact h.l11, by rw [e 10 (by omega), e 12 (by omega)]; exact h.l12⟩
theorem LkJ.all9 {wr w : World} {f l : List Value} {L : Nat → Bool} {a : Act} (h : LkJ wr f l L (a.eval (.tmp 9)) (a.eval (.tmp 10)) w) (h9 : L 9 = false) (hs : 10 < a.tmps.size) :
    LkJ wr f l (upd L 9) ((a.put (some 9) (.pointer (some ⟨w.heap.size, 0, none⟩))).eval (.tmp 9)) ((a.put (some 9) (.pointer (some ⟨w.heap.size, 0, none⟩))).eval (.tmp 10)) (w.alloc (.cells zs34.toArray 70)) := by
  rw [put_at (a := a) (d := 9) _ (Nat.lt_trans (show 9 < 10 by decide) hs), put_off (d := 9) (t := 10) _ (by decide)]
  have e9 : upd L 9 9 = true := by simp [upd]
  have e : ∀ j, 10 ≤ j → upd L 9 j = L j := fun j hj => by unfold upd; rw [if_neg (by omega)]
  have h11 : L 11 = false := by
    cases hh : L 11 with
    | false => rfl
    | true => rw [h.l11 hh] at h9; cases h9
  refine ⟨h.ext.alloc _, fun _ => ⟨_, rfl, h.ext.size, ?_⟩, ?_, ?_, fun _ => e9, ?_⟩
  · rw [e 11 (by omega), h11]; exact Blk.new _ _ _
  · rw [e 10 (by omega), e 12 (by omega)]
    intro h10
    obtain ⟨g, h1, h2, h3⟩ := h.a10 h10
    exact ⟨g, h1, h2, h3.alloc _⟩
  · rw [e 10 (by omega)]
    intro _ h10 he
    obtain ⟨g, h1, h2, h3⟩ := h.a10 h10
    rw [h1] at he
    have hl := h3.lt
    injection he with he; injection he with he; injection he with he
    omega
  · rw [e 10 (by omega), e 12 (by omega)]; exact h.l12
theorem LkJ.all10 {wr w : World} {f l : List Value} {L : Nat → Bool} {a : Act} (h : LkJ wr f l L (a.eval (.tmp 9)) (a.eval (.tmp 10)) w) (h10 : L 10 = false) (hs : 10 < a.tmps.size) :
    LkJ wr f l (upd L 10) ((a.put (some 10) (.pointer (some ⟨w.heap.size, 0, none⟩))).eval (.tmp 9)) ((a.put (some 10) (.pointer (some ⟨w.heap.size, 0, none⟩))).eval (.tmp 10)) (w.alloc (.cells zs34.toArray 70)) := by
  rw [put_at (a := a) (d := 10) _ (by omega), put_off (d := 10) (t := 9) _ (by decide)]
  have e10 : upd L 10 10 = true := by simp [upd]
  have e : ∀ j, j ≠ 10 → upd L 10 j = L j := fun j hj => by unfold upd; rw [if_neg hj]
  have h12 : L 12 = false := by
    cases hh : L 12 with
    | false => rfl
    | true => rw [h.l12 hh] at h10; cases h10
  refine ⟨h.ext.alloc _, ?_, fun _ => ⟨_, rfl, h.ext.size, ?_⟩, ?_, ?_, fun _ => e10⟩
  · rw [e 9 (by omega), e 11 (by omega)]
    intro h9
    obtain ⟨g, h1, h2, h3⟩ := h.a9 h9
    exact ⟨g, h1, h2, h3.alloc _⟩
  · rw [e 12 (by omega), h12]; exact Blk.new _ _ _
  · rw [e 9 (by omega)]
    intro h9 _ he
    obtain ⟨g, h1, h2, h3⟩ := h.a9 h9
    rw [h1] at he
    have hl := h3.lt
    injection he with he; injection he with he; injection he with he
    omega
  · rw [e 9 (by omega), e 11 (by omega)]; exact h.l11
theorem LkJ.st11 {wr w w' : World} {f l : List Value} {L : Nat → Bool} {u v : Value} {g : Nat} (h : LkJ wr f l L u v w) (hu : u = .pointer (some ⟨g, 0, none⟩)) (hg : wr.heap.size ≤ g) (h9 : L 9 = true) (hB : Blk w' g 70 f.toArray) (hK : Keep (One g) w w') : LkJ wr f l (upd L 11) u v w' := by
  have e11 : upd L 11 11 = true := by simp [upd]
  have e : ∀ j, j ≠ 11 → upd L 11 j = L j := fun j hj => by unfold upd; rw [if_neg hj]
  refine ⟨h.ext.keep hK (fun i hi => by cases hi; exact hg), fun _ => ⟨g, hu, hg, by rw [e11]; exact hB⟩, ?_, ?_, fun _ => by rw [e 9 (by omega)]; exact h9, ?_⟩
  · rw [e 10 (by omega), e 12 (by omega)]
    intro h10
    obtain ⟨g', h1, h2, h3⟩ := h.a10 h10
    refine ⟨g', h1, h2, h3.keep hK (fun hh => ?_)⟩
    have hh : g' = g := hh
    exact h.ne h9 h10 (by rw [hu, h1, hh])
  · rw [e 9 (by omega), e 10 (by omega)]; exact h.ne
  · rw [e 10 (by omega), e 12 (by omega)]; exact h.l12
theorem LkJ.st12 {wr w w' : World} {f l : List Value} {L : Nat → Bool} {u v : Value} {g : Nat} (h : LkJ wr f l L u v w) (hv : v = .pointer (some ⟨g, 0, none⟩)) (hg : wr.heap.size ≤ g) (h10 : L 10 = true) (hB : Blk w' g 70 l.toArray) (hK : Keep (One g) w w') : LkJ wr f l (upd L 12) u v w' := by
  have e12 : upd L 12 12 = true := by simp [upd]
  have e : ∀ j, j ≠ 12 → upd L 12 j = L j := fun j hj => by unfold upd; rw [if_neg hj]
  refine ⟨h.ext.keep hK (fun i hi => by cases hi; exact hg), ?_, fun _ => ⟨g, hv, hg, by rw [e12]; exact hB⟩, ?_, ?_, fun _ => by rw [e 10 (by omega)]; exact h10⟩
  · rw [e 9 (by omega), e 11 (by omega)]
    intro h9
    obtain ⟨g', h1, h2, h3⟩ := h.a9 h9
    refine ⟨g', h1, h2, h3.keep hK (fun hh => ?_)⟩
    have hh : g' = g := hh
    exact h.ne h9 h10 (by rw [hv, h1, hh])
  · rw [e 9 (by omega), e 10 (by omega)]; exact h.ne
  · rw [e 9 (by omega), e 11 (by omega)]; exact h.l11
section
variable {P : Program} {Q : Exit → Act → World → Prop} {o : Oper} {a : Act} {wr w : World} {f l : List Value} {L : Nat → Bool} {B : Value → Prop}
theorem lnk_put (i d : Nat) (v : Value) (ho : o.dst = some d) (hr : (execOp a.eval o).run P w = .ok (.value v) w) (h : LkJ wr f l L (a.eval (.tmp 9)) (a.eval (.tmp 10)) w) (hi : i < 9) (h9 : d ≠ 9) (h10 : d ≠ 10) (hB : B v) :
    o.wp P a w (fun a' w'' => ∃ v, a' = a.put o.dst v ∧ (True ∧ LkJ wr f l (upd L i) (a'.eval (.tmp 9)) (a'.eval (.tmp 10)) w'') ∧ ∀ u, (o.dst = none ∨ u = v) → B u) Q := by
  unfold Oper.wp
  rw [hr]
  refine ⟨v, rfl, ⟨trivial, ?_⟩, fun u hu => ?_⟩
  · rw [ho]; exact h.quiet i d v hi h9 h10
  · rcases hu with hu | rfl
    · rw [ho] at hu; cases hu
    · exact hB
theorem lnk_all (i : Nat) (ho : o.dst = some i) (hi : i = 9 ∨ i = 10) (hr : (execOp a.eval o).run P w = .ok (.value (.pointer (some ⟨w.heap.size, 0, none⟩))) (w.alloc (.cells zs34.toArray 70))) (h : LkJ wr f l L (a.eval (.tmp 9)) (a.eval (.tmp 10)) w) (hL : L i = false) (hs : 10 < a.tmps.size) :
    o.wp P a w (fun a' w'' => ∃ v, a' = a.put o.dst v ∧ (True ∧ LkJ wr f l (upd L i) (a'.eval (.tmp 9)) (a'.eval (.tmp 10)) w'') ∧ ∀ u, (o.dst = none ∨ u = v) → True) Q := by
  unfold Oper.wp
  rw [hr]
  refine ⟨_, rfl, ⟨trivial, ?_⟩, fun _ _ => trivial⟩
  rw [ho]
  rcases hi with rfl | rfl
  · exact h.all9 hL hs
  · exact h.all10 hL hs
theorem lnk_st (i : Nat) (ho : o.dst = none) (x y : Operand) (hop : o.op = .store 70 x y) (g : Nat) (B0 vs : List Value) (hx : a.eval x = .pointer (some ⟨g, 0, none⟩)) (hy : a.eval y = .agg vs.toArray) (hB : Blk w g 70 B0.toArray) (hl : B0.length = vs.length) (hi : (P.info? 70).map (·.size) = some vs.length) (h1 : ∀ v ∈ vs, v.oneCell' = true)
    (hJ : ∀ w', Blk w' g 70 vs.toArray → Keep (One g) w w' → LkJ wr f l (upd L i) (a.eval (.tmp 9)) (a.eval (.tmp 10)) w') :
    o.wp P a w (fun a' w'' => ∃ v, a' = a.put o.dst v ∧ (True ∧ LkJ wr f l (upd L i) (a'.eval (.tmp 9)) (a'.eval (.tmp 10)) w'') ∧ ∀ u, (o.dst = none ∨ u = v) → True) Q := by
  have hput : ∀ v, a.put o.dst v = a := fun v => by rw [ho]; rfl
  refine Oper.wp_mono ?_ (seen_store (R := fun _ _ => True) (J := fun a' w' => LkJ wr f l (upd L i) (a'.eval (.tmp 9)) (a'.eval (.tmp 10)) w') 70 x y hop g 70 B0 vs hx hy hB hl hi h1 (fun _ => trivial) (fun w' hB' hK' => by rw [hput]; exact hJ w' hB' hK'))
  rintro a' w' ⟨v, h1, h2, h3⟩
  exact ⟨v, h1, h2, fun _ _ => trivial⟩
end
def lnkB (hb ho n c k : Nat) (f l : List Value) : Nat → Value → Prop
  | 0, v => v = .slice (some ⟨hb, ho, none⟩) n c
  | 1, v => v = .pointer (some ⟨hb, ho, none⟩)
  | 2, v => v = .agg f.toArray
  | 3, v => v = .slice (some ⟨hb, ho, none⟩) n c
  | 4, v => v = .slice (some ⟨hb, ho, none⟩) n c
  | 5, v => v = .int .i64 n
  | 6, v => v = .int .i64 k
  | 7, v => v = .pointer (some ⟨hb, ho + k * 34, none⟩)
  | 8, v => v = .agg l.toArray
  | _, _ => True
section
variable {P : Program} {ops : Array Oper} {rest : List Oper} {o : Oper} {a : Act} {w : World} {Q : Exit → Act → World → Prop}
/-- A whole row is read behind a guard that says yes. -/
theorem wpList_load_midG (hw : Region.wanted o (yielded ops a.tmps) = true) (ty : TypeId) (x : Operand) (ho : o.op = .load ty x) (g off : Nat) (hx : a.eval x = .pointer (some ⟨g, off, none⟩)) (B : List Value) (d : TypeDesc) (hB : w.rangeAt g off B) (hu : P.underlying ty = some d) (hd : d.isRow = true) (hi : (P.info? ty).map (·.size) = some B.length)
    (h : wpList P ops Q rest (a.put o.dst (.agg B.toArray)) w) : wpList P ops Q (o :: rest) a w :=
  BigFrame.wpList_want hw fun K hK => wp_load_mid ty x ho g off hx B d hB hu hd hi (hK _ _ h)
/-- A comparison, behind a guard that says yes, or with none. -/
theorem wpList_binG (hw : Region.wanted o (yielded ops a.tmps) = true) (op : BinOp) (t : TypeId) (x y : Operand) (ty : TypeId) (ho : o.op = .binOp op t x y ty) (u v r : Value) (hx : a.eval x = u) (hy : a.eval y = v) (hg : (eqGuard op t x y u v).run P w = .ok () w) (hr : (binOp op t u v).run P w = .ok r w)
    (h : wpList P ops Q rest (a.put o.dst r) w) : wpList P ops Q (o :: rest) a w :=
  BigFrame.wpList_want hw fun K hK => by
    unfold Oper.wp
    simp only [execOp, ho, hx, hy, Sem.run_bind, hg, hr, Result.andThen_ok, Sem.run_pure]
    exact hK _ _ h
end
theorem u64_eql (y q : Int) (b : Bool) (w : World) (h : decide (y = q) = b) : (binOp .eql 34 (.int .u64 y) (.int .u64 q)).run Tryz.prog w = .ok (.bool b) w := by
  subst h
  by_cases h : y = q <;> simp [binOp, Op.equal, Op.maxDepth, Op.equalIn, Op.intCmp, run_underlying Tryz.underlying34, h]
theorem u64_guard (op : BinOp) (x z : Operand) (y q : Int) (w : World) : (eqGuard op 34 x z (.int .u64 y) (.int .u64 q)).run Tryz.prog w = .ok () w := by cases op <;> rfl
theorem linkedShort_any (per segs : Int) (x : Sp) (A : Option Addr) (n c : Nat) (w : World) (hx : x.In) (hn : n ≤ 100) (h : n < 1 ∨ segs < n) :
    Calls Tryz.prog 45 #[.agg #[.int .i64 per, .int .i64 segs], .agg x.cells.toArray, .slice A n c] w (Ret (.bool false) w) := by
  have hE : Ext w ((w.alloc (.cells #[.int .i64 per, .int .i64 segs] 23)).alloc (.cells x.cells.toArray 42)) := ((Ext.refl w).alloc _).alloc _
  have HE := Lib.hid hE
  clear hE
  rcases h with h | h
  · obtain rfl : n = 0 := by omega
    go_enter Tryz.func45, Tryz.ntmps45
    go_wp2_with fail
    go_ret
    exact ⟨rfl, HE.out⟩
  · have hB : Blk ((w.alloc (.cells #[.int .i64 per, .int .i64 segs] 23)).alloc (.cells x.cells.toArray 42)) w.heap.size 23 #[.int .i64 per, .int .i64 segs] := (Blk.new _ _ _).alloc _
    have hc := hB.cell 1
    simp only [List.getElem?_toArray, List.getElem?_cons_succ, List.getElem?_cons_zero] at hc
    by_cases h1 : (n : Int) < 1
    · go_enter Tryz.func45, Tryz.ntmps45
      go_wp2_with fail
      go_ret
      exact ⟨rfl, HE.out⟩
    · clear hB
      go_enter Tryz.func45, Tryz.ntmps45
      go_wp2_with fail
      go_ret
      exact ⟨rfl, HE.out⟩
theorem exec_neq {ev : Operand → Value} {o : Oper} {w : World} (x z : Operand) (ty : TypeId) {y q : Int} (ho : o.op = .binOp .neq 34 x z ty) (hx : ev x = .int .u64 y) (hz : ev z = .int .u64 q) (h : ¬ y = q) : (execOp ev o).run Tryz.prog w = .ok (.value (.bool true)) w := by
  have h1 : (y == q) = false := by simpa using h
  simp [execOp, ho, hx, hz, eqGuard, binOp, Op.equal, Op.maxDepth, Op.equalIn, Op.intCmp, run_underlying Tryz.underlying34, h1, h]
set_option maxRecDepth 8000 in
set_option maxHeartbeats 1600000 in
theorem linked_any (per segs : Int) (x : Sp) (hb ho c : Nat) (hs : List Hd) (w : World) (hx : x.In) (hi : ∀ h ∈ hs, h.In) (h1 : 1 ≤ hs.length) (h2 : (hs.length : Int) ≤ segs) (h3 : hs.length ≤ 100) (hc : hs.length ≤ c) (hc2 : c ≤ 9223372036854775807) (hS : HdS w (some ⟨hb, ho, none⟩) hs) :
    Calls Tryz.prog 45 #[.agg #[.int .i64 per, .int .i64 segs], .agg x.cells.toArray, .slice (some ⟨hb, ho, none⟩) hs.length c] w (Ret (.bool (lnk segs x hs)) w) := by
  obtain ⟨w1, hw1⟩ : ∃ w1, w1 = (w.alloc (.cells #[.int .i64 per, .int .i64 segs] 23)).alloc (.cells x.cells.toArray 42) := ⟨_, rfl⟩
  have HE1 := Lib.hid (show Ext w w1 from by rw [hw1]; exact ((Ext.refl w).alloc _).alloc _)
  have HSH1 := Lib.hid (show Blk w1 w.heap.size 23 #[.int .i64 per, .int .i64 segs] from by rw [hw1]; exact (Blk.new _ _ _).alloc _)
  have HX1 := Lib.hid (show Blk w1 (w.heap.size + 1) 42 x.cells.toArray from by rw [hw1]; exact Blk.new' (by simp))
  have hc1 : w1.cell? ⟨w.heap.size, 1, none⟩ = some (.int .i64 segs) := HSH1.out.cell 1
  have HS1 := Lib.hid (hS.ext HE1.out)
  have HI := Lib.hid hi
  have HX := Lib.hid hx
  have HL := Lib.hid (And.intro h1 (And.intro h2 (And.intro h3 hc)))
  have HXT := Lib.hid (hx.nums x.tail (by simp [Sp.nums]))
  have i1 : ¬ (hs.length : Int) < 1 := by omega
  have i2 : ¬ segs < (hs.length : Int) := by omega
  obtain ⟨n, hn⟩ : ∃ n, n = hs.length := ⟨_, rfl⟩
  rw [← hn] at i1 i2 ⊢
  have HN := Lib.hid hn
  have hn100 : n ≤ 100 := by omega
  have HC2 := Lib.hid hc2
  clear hc2
  clear hn hi hx h1 h2 h3 hc hS
  go_enter Tryz.func45, Tryz.ntmps45
  go_wp2_with (have hg := hc1; rw [← hw1]; clear hw1)
  have HHI := Lib.hid (fun (h : Hd) (hi : h.In) => hd_info hi)
  go_loopw [23] (fun t wr => ∃ i : Nat, t = .int .i64 i ∧ i ≤ n ∧ Ext w1 wr ∧ ∀ (j : Nat) (h : Hd), j < i → hs[j]? = some h → h.id = IntKind.u64.wrap (x.tail + j)) (fun t _ => n - (intOf t).toNat)
  case atStart => exact ⟨0, rfl, by omega, Ext.refl _, fun j h hj => absurd hj (by omega)⟩
  case round =>
    obtain ⟨i, rfl, hin, hE, hall⟩ := hrel
    have HE := Lib.hid hE
    have HALL := Lib.hid hall
    clear hE hall
    by_cases hlt : i < n
    · have i0 : (i : Int) < n := by omega
      obtain ⟨h, hh⟩ : ∃ h, hs[i]? = some h := ⟨_, List.getElem?_eq_getElem (by rw [← HN.out]; exact hlt)⟩
      have HH := Lib.hid hh
      have HHin := Lib.hid (HI.out h (List.mem_of_getElem? hh))
      have HR := Lib.hid ((HS1.out.ext HE.out).range i h hh)
      have HXr := Lib.hid (HX1.out.ext HE.out)
      have hwi : IntKind.u64.wrap (i : Int) = i := IntWalk.u64_in _ (by have := HL.out; have := HN.out; omega)
      obtain ⟨q, hq⟩ : ∃ q, q = IntKind.u64.wrap (x.tail + i) := ⟨_, rfl⟩
      obtain ⟨y, hy⟩ : ∃ y, y = h.id := ⟨_, rfl⟩
      have hq' : IntKind.u64.wrap (x.tail + i) = q := hq.symm
      have HQ := Lib.hid (And.intro hq hy)
      clear hh hq hy
      have HCL := Lib.hid (show h.cells.length = 34 from by simp [Hd.cells, bcells, HHin.out.a])
      have HLW := Lib.hid (show (i : Int) + 1 < 9223372036854775808 from by have := HL.out; have := HN.out; omega)
      have G1 := Lib.hid True.intro
      have G2 := Lib.hid True.intro
      have G3 := Lib.hid True.intro
      by_cases hqy : y = q
      · subst hqy
        go_wp2_with (first | (clear G1; refine wpList_load_mid rfl 70 (.tmp 26) rfl hb (ho + i * 34) rfl h.cells _ HR.out Tryz.underlying70 rfl (HHI.out h HHin.out) ?_) | (clear G2; refine wpList_store_blk rfl 70 (.tmp 8) (.tmp 27) rfl wr.heap.size 70 zs34 h.cells rfl rfl (show Blk _ _ _ zs34.toArray from Blk.new _ _ _) (by rw [HCL.out]; rfl) (HHI.out h HHin.out) (hd_one _) ?_; intro w4 hB4 hK4; have hE4 := ((Ext.refl wr).alloc _).keep hK4 (fun i hi => by cases hi; exact Nat.le_refl _); have HE4 := Lib.hid (HE.out.trans hE4); have hc4 : w4.cell? ⟨wr.heap.size, 0, none⟩ = some (.int .u64 y) := (by rw [HQ.out.2]; exact hB4.cell 0); have hd4 : w4.cell? ⟨w.heap.size + 1, 1, none⟩ = some (.int .u64 x.tail) := (HXr.out.ext hE4).cell 1; clear hB4 hK4 hE4))
        go_roundw
        case rel => exact ⟨i + 1, by go_num, by omega, HE4.out, fun j h' hj hh' => by
          rcases Nat.lt_succ_iff_lt_or_eq.1 hj with hj | rfl
          · exact HALL.out j h' hj hh'
          · obtain rfl : h = h' := Option.some.inj (HH.out.symm.trans hh')
            rw [← HQ.out.2, HQ.out.1]⟩
        case measure => simp [intOf]; omega
      · have HNE := Lib.hid hqy
        clear hqy
        go_wp2_with (first | (clear G1; refine wpList_load_mid rfl 70 (.tmp 26) rfl hb (ho + i * 34) rfl h.cells _ HR.out Tryz.underlying70 rfl (HHI.out h HHin.out) ?_) | (clear G2; refine wpList_store_blk rfl 70 (.tmp 8) (.tmp 27) rfl wr.heap.size 70 zs34 h.cells rfl rfl (show Blk _ _ _ zs34.toArray from Blk.new _ _ _) (by rw [HCL.out]; rfl) (HHI.out h HHin.out) (hd_one _) ?_; intro w4 hB4 hK4; have hE4 := ((Ext.refl wr).alloc _).keep hK4 (fun i hi => by cases hi; exact Nat.le_refl _); have HE4 := Lib.hid (HE.out.trans hE4); have hc4 : w4.cell? ⟨wr.heap.size, 0, none⟩ = some (.int .u64 y) := (by rw [HQ.out.2]; exact hB4.cell 0); have hd4 : w4.cell? ⟨w.heap.size + 1, 1, none⟩ = some (.int .u64 x.tail) := (HXr.out.ext hE4).cell 1; clear hB4 hK4 hE4) | (have hg := HE4; clear G3; (refine Great.wpList_readTo rfl (some 35) rfl (.bool true) (exec_neq (.tmp 29) (.tmp 34) _ rfl rfl rfl HNE.out) ?_); go_step; go_simp; repeat (first | go_skip | go_guarded | go_step | go_upon | go_back | go_in); go_big_cond; repeat (first | go_step | go_back | go_in); go_step; go_step; go_step; go_step; go_step; go_step; go_step; go_step; go_ret; rw [lnk_false (fun hl => HNE.out (by rw [HQ.out.1, HQ.out.2]; exact hl.ids i h HH.out))]; exact ⟨rfl, HE1.out.trans HE4.out⟩))
    · obtain rfl : i = n := by omega
      obtain ⟨k, hk⟩ : ∃ k, i = k + 1 := ⟨i - 1, by omega⟩
      obtain ⟨f, hf⟩ : ∃ f, hs[0]? = some f := ⟨_, List.getElem?_eq_getElem (by rw [← HN.out]; omega)⟩
      obtain ⟨l, hl⟩ : ∃ l, hs[k]? = some l := ⟨_, List.getElem?_eq_getElem (by rw [← HN.out]; omega)⟩
      have HFI := Lib.hid (HI.out f (List.mem_of_getElem? hf))
      have HLI := Lib.hid (HI.out l (List.mem_of_getElem? hl))
      have HFL := Lib.hid (show f.cells.length = 34 from by simp [Hd.cells, bcells, HFI.out.a])
      have HLL := Lib.hid (show l.cells.length = 34 from by simp [Hd.cells, bcells, HLI.out.a])
      have HRF := Lib.hid (fun w' (e : Ext wr w') => (show w'.rangeAt hb ho f.cells from by have h := ((HS1.out.ext HE.out).ext e).range 0 f hf; rw [Nat.zero_mul, Nat.add_zero] at h; exact h))
      have HRL := Lib.hid (fun w' (e : Ext wr w') => ((HS1.out.ext HE.out).ext e).range k l hl)
      have HXr := Lib.hid (HX1.out.ext HE.out)
      have HFL2 := Lib.hid (And.intro hf (And.intro hl hk))
      have hw : IntKind.i64.wrap ((i : Int) - 1) = (k : Int) := by rw [show (i : Int) - 1 = k from by omega]; exact IntWalk.i64_in _ (by omega)
      have k0 : (0 : Int) ≤ k := by omega
      have k1 : (k : Int) < i := by omega
      have k2 : (0 : Int) < i := by omega
      have k3 : ¬ i = 0 := by omega
      clear hf hl hk
      go_wp2_with fail
      refine wp_region_seen (fun _ _ => True) (fun L a w' => LkJ wr f.cells l.cells L (a.eval (.tmp 9)) (a.eval (.tmp 10)) w') ⟨(Ext.refl _).drew, (fun h => by cases h), (fun h => by cases h), (fun h => by cases h), (fun h => by cases h), (fun h => by cases h)⟩ (by kernel_rfl) (by kernel_rfl) (fun i' v _ => lnkB hb ho i c k f.cells l.cells i' v) (fun _ _ _ _ h _ => h) ?_ ?_
      · intro i' o L a w' hi hb' hL hJ hd
        have e2 : a.eval (.tmp 2) = .slice (some ⟨hb, ho, none⟩) i c := hb'.outer 2 (by kernel_rfl)
        rcases i' with _ | _ | _ | _ | _ | _ | _ | _ | _ | _ | _ | _ | _ | i'
        · simp only [List.getElem?_cons_zero, List.getElem?_cons_succ, Option.some.injEq] at hi
          subst hi
          refine lnk_put 0 37 (.slice (some ⟨hb, ho, none⟩) i c) rfl ?_ hJ (by decide) (by decide) (by decide) rfl
          have ec : ∀ v, a.eval (.const v) = v := fun _ => rfl
          generalize a.eval = ρ at *
          simp [go_sem, ec, e2, hw, k0, k1, k2, k3]
        · simp only [List.getElem?_cons_zero, List.getElem?_cons_succ, Option.some.injEq] at hi
          subst hi
          have h37 : a.eval (.tmp 37) = _ := (hd ⟨0, .data⟩ (by simp) rfl).2
          refine lnk_put 1 38 (.pointer (some ⟨hb, ho, none⟩)) rfl ?_ hJ (by decide) (by decide) (by decide) rfl
          have ec : ∀ v, a.eval (.const v) = v := fun _ => rfl
          generalize a.eval = ρ at *
          simp [go_sem, ec, h37, e2, hw, k0, k1, k2, k3]
        · simp only [List.getElem?_cons_zero, List.getElem?_cons_succ, Option.some.injEq] at hi
          subst hi
          have h38 : a.eval (.tmp 38) = _ := (hd ⟨1, .data⟩ (by simp) rfl).2
          refine lnk_put 2 39 (.agg f.cells.toArray) rfl ?_ hJ (by decide) (by decide) (by decide) rfl
          simp only [execOp, Instr.loadAt, h38, Instr.sureAddr, Sem.run_bind, Sem.run_pure, Result.andThen_ok, run_loadVar_mid w' hb ho 70 f.cells _ ((HRF.out w' hJ.ext)) Tryz.underlying70 rfl (HHI.out _ HFI.out)]
        · simp only [List.getElem?_cons_zero, List.getElem?_cons_succ, Option.some.injEq] at hi
          subst hi
          refine lnk_put 3 40 (.slice (some ⟨hb, ho, none⟩) i c) rfl ?_ hJ (by decide) (by decide) (by decide) rfl
          have ec : ∀ v, a.eval (.const v) = v := fun _ => rfl
          generalize a.eval = ρ at *
          simp [go_sem, ec, e2, hw, k0, k1, k2, k3]
        · simp only [List.getElem?_cons_zero, List.getElem?_cons_succ, Option.some.injEq] at hi
          subst hi
          refine lnk_put 4 41 (.slice (some ⟨hb, ho, none⟩) i c) rfl ?_ hJ (by decide) (by decide) (by decide) rfl
          have ec : ∀ v, a.eval (.const v) = v := fun _ => rfl
          generalize a.eval = ρ at *
          simp [go_sem, ec, e2, hw, k0, k1, k2, k3]
        · simp only [List.getElem?_cons_zero, List.getElem?_cons_succ, Option.some.injEq] at hi
          subst hi
          have h41 : a.eval (.tmp 41) = _ := (hd ⟨4, .data⟩ (by simp) rfl).2
          refine lnk_put 5 42 (.int .i64 i) rfl ?_ hJ (by decide) (by decide) (by decide) rfl
          have ec : ∀ v, a.eval (.const v) = v := fun _ => rfl
          generalize a.eval = ρ at *
          simp [go_sem, ec, h41, e2, hw, k0, k1, k2, k3]
        · simp only [List.getElem?_cons_zero, List.getElem?_cons_succ, Option.some.injEq] at hi
          subst hi
          have h42 : a.eval (.tmp 42) = _ := (hd ⟨5, .data⟩ (by simp) rfl).2
          refine lnk_put 6 43 (.int .i64 k) rfl ?_ hJ (by decide) (by decide) (by decide) rfl
          have ec : ∀ v, a.eval (.const v) = v := fun _ => rfl
          generalize a.eval = ρ at *
          simp [go_sem, ec, h42, e2, hw, k0, k1, k2, k3]
        · simp only [List.getElem?_cons_zero, List.getElem?_cons_succ, Option.some.injEq] at hi
          subst hi
          have h40 : a.eval (.tmp 40) = _ := (hd ⟨3, .data⟩ (by simp) rfl).2
          have h43 : a.eval (.tmp 43) = _ := (hd ⟨6, .data⟩ (by simp) rfl).2
          refine lnk_put 7 44 (.pointer (some ⟨hb, ho + k * 34, none⟩)) rfl ?_ hJ (by decide) (by decide) (by decide) rfl
          have ec : ∀ v, a.eval (.const v) = v := fun _ => rfl
          generalize a.eval = ρ at *
          simp [go_sem, ec, h40, h43, e2, hw, k0, k1, k2, k3]
        · simp only [List.getElem?_cons_zero, List.getElem?_cons_succ, Option.some.injEq] at hi
          subst hi
          have h44 : a.eval (.tmp 44) = _ := (hd ⟨7, .data⟩ (by simp) rfl).2
          refine lnk_put 8 45 (.agg l.cells.toArray) rfl ?_ hJ (by decide) (by decide) (by decide) rfl
          simp only [execOp, Instr.loadAt, h44, Instr.sureAddr, Sem.run_bind, Sem.run_pure, Result.andThen_ok, run_loadVar_mid w' hb (ho + k * 34) 70 l.cells _ ((HRL.out w' hJ.ext)) Tryz.underlying70 rfl (HHI.out _ HLI.out)]
        · simp only [List.getElem?_cons_zero, List.getElem?_cons_succ, Option.some.injEq] at hi
          subst hi
          refine lnk_all 9 rfl (by decide) ?_ hJ hL (by rw [hb'.size]; exact (show (10 : Nat) < 65 by decide))
          simp only [execOp, Sem.run_bind, alloc_h34, Result.andThen_ok, Sem.run_pure]
        · simp only [List.getElem?_cons_zero, List.getElem?_cons_succ, Option.some.injEq] at hi
          subst hi
          refine lnk_all 10 rfl (by decide) ?_ hJ hL (by rw [hb'.size]; exact (show (10 : Nat) < 65 by decide))
          simp only [execOp, Sem.run_bind, alloc_h34, Result.andThen_ok, Sem.run_pure]
        · simp only [List.getElem?_cons_zero, List.getElem?_cons_succ, Option.some.injEq] at hi
          subst hi
          have hv : a.eval (.tmp 39) = _ := (hd ⟨2, .data⟩ (by simp) rfl).2
          have hl9 := (hd ⟨9, .data⟩ (by simp) rfl).1
          obtain ⟨g, h1, h2, h3⟩ := hJ.a9 hl9
          refine lnk_st 11 rfl (.tmp 9) (.tmp 39) rfl g (if L 11 = true then f.cells else zs34) f.cells h1 hv h3 (by split; rfl; rw [HFL.out]; rfl) (HHI.out _ HFI.out) (hd_one _) (fun w2 hB2 hK2 => hJ.st11 h1 h2 hl9 hB2 hK2)
        · simp only [List.getElem?_cons_zero, List.getElem?_cons_succ, Option.some.injEq] at hi
          subst hi
          have hv : a.eval (.tmp 45) = _ := (hd ⟨8, .data⟩ (by simp) rfl).2
          have hl9 := (hd ⟨10, .data⟩ (by simp) rfl).1
          obtain ⟨g, h1, h2, h3⟩ := hJ.a10 hl9
          refine lnk_st 12 rfl (.tmp 10) (.tmp 45) rfl g (if L 12 = true then l.cells else zs34) l.cells h1 hv h3 (by split; rfl; rw [HLL.out]; rfl) (HHI.out _ HLI.out) (hd_one _) (fun w2 hB2 hK2 => hJ.st12 h1 h2 hl9 hB2 hK2)
        · simp at hi
      · intro L a w3 hb' hJ hL hA
        obtain ⟨ga, h9, hga, hBa⟩ := hJ.a9 (hL 9 (by decide))
        obtain ⟨gb, h10, hgb, hBb⟩ := hJ.a10 (hL 10 (by decide))
        rw [if_pos (hL 11 (by decide))] at hBa
        rw [if_pos (hL 12 (by decide))] at hBb
        have h4 : a.eval (.tmp 4) = .pointer (some ⟨w.heap.size + 1, 0, none⟩) := hb'.outer 4 (by kernel_rfl)
        have HE3 := Lib.hid (HE.out.trans hJ.ext)
        have hX3 := HXr.out.ext hJ.ext
        have hcl : w3.cell? ⟨gb, 0, none⟩ = some (.int .u64 l.id) := hBb.cell 0
        have hcf : w3.cell? ⟨ga, 1, none⟩ = some (.int .u64 f.first) := hBa.cell 1
        have hcx : w3.cell? ⟨w.heap.size + 1, 35, none⟩ = some (.int .u64 x.id) := (hX3.cell 35).trans (Sp.cells_hi HX.out 0)
        have hcy : w3.cell? ⟨w.heap.size + 1, 2, none⟩ = some (.int .u64 x.first) := hX3.cell 2
        have HR60 := Lib.hid (show w3.rangeAt ga 2 (bcells f.anchor) from Blk.rangeAt (A := [.int .u64 f.id, .int .u64 f.first]) (B := bcells f.anchor) (C := []) (by simpa [Hd.cells] using hBa))
        have HR62 := Lib.hid (show w3.rangeAt (w.heap.size + 1) 3 (bcells x.anchor) from Blk.rangeAt (A := [.int .u64 x.epoch, .int .u64 x.tail, .int .u64 x.first]) (B := bcells x.anchor) (C := [.int .u64 x.id, .int .u64 x.en, .int .u64 x.next] ++ bcells x.sum) (by simpa [Sp.cells] using hX3))
        have HI60 := Lib.hid (show (Tryz.prog.info? 40).map (·.size) = some (bcells f.anchor).length from by rw [bcells_length, HFI.out.a]; kernel_rfl)
        have HI62 := Lib.hid (show (Tryz.prog.info? 40).map (·.size) = some (bcells x.anchor).length from by rw [bcells_length, HX.out.a]; kernel_rfl)
        have HNS := Lib.hid (show hs.length - 1 = k from by rw [← HN.out, HFL2.out.2.2]; rfl)
        rw [act_lit (n := 65) hb'.size, hb'.defers]
        simp only [show List.range 65 = [0, 1, 2, 3, 4, 5, 6, 7, 8, 9, 10, 11, 12, 13, 14, 15, 16, 17, 18, 19, 20, 21, 22, 23, 24, 25, 26, 27, 28, 29, 30, 31, 32, 33, 34, 35, 36, 37, 38, 39, 40, 41, 42, 43, 44, 45, 46, 47, 48, 49, 50, 51, 52, 53, 54, 55, 56, 57, 58, 59, 60, 61, 62, 63, 64] from rfl, List.map_cons, List.map_nil, h4, h9, h10]
        clear hA hL hJ hb' h4 h9 h10 hga hgb hBa hBb hX3
        generalize a.eval = ρ
        have G0 := Lib.hid True.intro
        have G1 := Lib.hid True.intro
        have G2 := Lib.hid True.intro
        have G3 := Lib.hid True.intro
        have G4 := Lib.hid True.intro
        by_cases h50 : l.id = x.id
        · have H50 := Lib.hid (show decide (l.id = x.id) = true from by simp [h50])
          by_cases h56 : f.first = x.first
          · have H56 := Lib.hid (show decide (f.first = x.first) = true from by simp [h56])
            have HQ := Lib.hid (And.intro h50 h56)
            clear h50 h56
            go_wp2_with (first | (clear G0; refine wpList_binG rfl .eql 34 (.tmp 47) (.tmp 49) _ rfl (.int .u64 l.id) (.int .u64 x.id) (.bool true) rfl rfl (u64_guard _ _ _ _ _ _) (u64_eql _ _ _ _ H50.out) ?_) | (clear G1; refine wpList_binG rfl .eql 34 (.tmp 53) (.tmp 55) _ rfl (.int .u64 f.first) (.int .u64 x.first) (.bool true) rfl rfl (u64_guard _ _ _ _ _ _) (u64_eql _ _ _ _ H56.out) ?_) | (clear G2; refine wpList_load_midG rfl 40 (.tmp 59) rfl ga 2 rfl (bcells f.anchor) _ HR60.out Tryz.underlying40 rfl HI60.out ?_) | (clear G3; refine wpList_load_midG rfl 40 (.tmp 61) rfl (w.heap.size + 1) 3 rfl (bcells x.anchor) _ HR62.out Tryz.underlying40 rfl HI62.out ?_) | (clear G4; refine wpList_binG rfl .eql 40 (.tmp 60) (.tmp 62) _ rfl (.agg (bcells f.anchor).toArray) (.agg (bcells x.anchor).toArray) (.bool (decide (f.anchor = x.anchor))) rfl rfl (dig_guard _ _ _ _ _ _) (dig_eql _ _ _ HFI.out.a HX.out.a) ?_))
            go_ret
            refine ⟨?_, HE1.out.trans HE3.out⟩
            by_cases h63 : f.anchor = x.anchor
            · rw [lnk_true ⟨HL.out.1, HL.out.2.1, fun j h hh => HALL.out j h (by rw [HN.out]; exact (List.getElem?_eq_some_iff.1 hh).1) hh, (fun h hh => by rw [HNS.out] at hh; rw [← Option.some.inj (HFL2.out.2.1.symm.trans hh)]; exact HQ.out.1), (fun h hh => by rw [← Option.some.inj (HFL2.out.1.symm.trans hh)]; exact HQ.out.2), (fun h hh => by rw [← Option.some.inj (HFL2.out.1.symm.trans hh)]; exact h63)⟩]
              simp [h63]
            · rw [lnk_false (fun hl => h63 (hl.anchor f HFL2.out.1))]
              simp [h63]
          · have H56 := Lib.hid (show decide (f.first = x.first) = false from by simp [h56])
            have HQ := Lib.hid h56
            clear h50 h56
            go_wp2_with (first | (clear G0; refine wpList_binG rfl .eql 34 (.tmp 47) (.tmp 49) _ rfl (.int .u64 l.id) (.int .u64 x.id) (.bool true) rfl rfl (u64_guard _ _ _ _ _ _) (u64_eql _ _ _ _ H50.out) ?_) | (clear G1; refine wpList_binG rfl .eql 34 (.tmp 53) (.tmp 55) _ rfl (.int .u64 f.first) (.int .u64 x.first) (.bool false) rfl rfl (u64_guard _ _ _ _ _ _) (u64_eql _ _ _ _ H56.out) ?_))
            go_ret
            refine ⟨?_, HE1.out.trans HE3.out⟩
            rw [lnk_false (fun hl => HQ.out (hl.first f HFL2.out.1))]
            rfl
        · have H50 := Lib.hid (show decide (l.id = x.id) = false from by simp [h50])
          have HQ := Lib.hid h50
          clear h50
          go_wp2_with (first | (clear G0; refine wpList_binG rfl .eql 34 (.tmp 47) (.tmp 49) _ rfl (.int .u64 l.id) (.int .u64 x.id) (.bool false) rfl rfl (u64_guard _ _ _ _ _ _) (u64_eql _ _ _ _ H50.out) ?_))
          go_ret
          refine ⟨?_, HE1.out.trans HE3.out⟩
          rw [lnk_false (fun hl => HQ.out (hl.last l (by rw [HNS.out]; exact HFL2.out.2.1)))]
          rfl
end Go.Proofs.YtnkebhlkhpgghaaGreatDoor
/- A log's heads, and two rows of heads compared. -/
namespace Go.Proofs.YtnkebhlkhpgghaaGreatDoor
open Go Go.RowKit Go.Deep Go.Sort

theorem logHeads_any {F : Nat → Prop} {g d : Nat} {m : Lg} (w : World) (h : Log F w g d m) : Calls Tryz.prog 48 #[.pointer (some ⟨g, 0, none⟩)] w fun e w' => ∃ gg c', e = .returned (.slice (some ⟨gg, 0, none⟩) m.heads.length c') ∧ HdS w' (some ⟨gg, 0, none⟩) m.heads ∧ Ext w w' := by
  obtain ⟨hb, ho, hc, h⟩ := h
  have c := h.c73
  have HH := Lib.hid h
  have HS := Lib.hid (show HdS w (some ⟨hb, ho, none⟩) m.heads from fun i x hx => ⟨hb, ho, rfl, h.hd i x hx⟩)
  obtain ⟨n, hn⟩ : ∃ n, n = m.heads.length := ⟨_, rfl⟩
  rw [← hn] at c ⊢
  have HN := Lib.hid hn
  clear h hn
  go_enter Tryz.func48, Tryz.ntmps48
  go_wp2_with (at_builtin; have hq := HN; refine wpList_copyH rfl (.const (.slice none 0 0)) (.tmp 8) rfl rfl hb ho hc n m.heads rfl HN.out HH.out.ok.hds HS.out HH.out.ok.h1 (Nat.le_trans HH.out.ok.h2 (by decide)) ?_; intro g' c' w1 h1 h2 h3 h4 h5 h6; have HR := Lib.hid (And.intro h2 h3); clear h1 h2 h3 h4 h5 h6 HN)
  go_ret
  exact ⟨g', c', rfl, HR.out⟩
theorem hd_same (x : Hd) (w : World) (h : x.In) : (binOp .neq 70 (.agg x.cells.toArray) (.agg x.cells.toArray)).run Tryz.prog w = .ok (.bool false) w := by
  have h1 := hd_neq x x w h h
  simpa using h1
set_option maxRecDepth 8000 in
set_option maxHeartbeats 1600000 in
theorem sameHeads_any (A B : Nat) (a0 b0 c c' : Nat) (hs : List Hd) (w : World) (hi : ∀ h ∈ hs, h.In) (hl : hs.length ≤ 100) (hA : HdS w (some ⟨A, a0, none⟩) hs) (hB : HdS w (some ⟨B, b0, none⟩) hs) :
    Calls Tryz.prog 47 #[.slice (some ⟨A, a0, none⟩) hs.length c, .slice (some ⟨B, b0, none⟩) hs.length c'] w (Ret (.bool true) w) := by
  have HI := Lib.hid hi
  have HA := Lib.hid (And.intro hA hB)
  obtain ⟨n, hn⟩ : ∃ n, n = hs.length := ⟨_, rfl⟩
  rw [← hn] at hl ⊢
  have HN := Lib.hid hn
  clear hn hi hA hB
  go_enter Tryz.func47, Tryz.ntmps47
  go_wp2_with fail
  obtain ⟨w0, hw0⟩ : ∃ w0 : World, w0 = w := ⟨_, rfl⟩
  go_loopw [5] (fun t wr => ∃ i : Nat, t = .int .i64 i ∧ i ≤ n ∧ Ext w wr) (fun t _ => n - (intOf t).toNat)
  case atStart => exact ⟨0, rfl, by omega, Ext.refl _⟩
  case round =>
    obtain ⟨i, rfl, hin, hE⟩ := hrel
    have HE := Lib.hid hE
    clear hE
    by_cases hlt : i < n
    · have i0 : (i : Int) < n := by omega
      obtain ⟨h, hh⟩ : ∃ h, hs[i]? = some h := ⟨_, List.getElem?_eq_getElem (by rw [← HN.out]; exact hlt)⟩
      have HHin := Lib.hid (HI.out h (List.mem_of_getElem? hh))
      have HRA := Lib.hid (fun w' (e : Ext wr w') => ((HA.out.1.ext HE.out).ext e).range i h hh)
      have HRB := Lib.hid (fun w' (e : Ext wr w') => ((HA.out.2.ext HE.out).ext e).range i h hh)
      have HHI := Lib.hid (hd_info HHin.out)
      clear hh
      go_wp2_with fail
      refine wp_region_tail (C := fun w' => ∃ rg : Regrown, w' = grow (redrawn wr rg.d) rg.os) 8 (by kernel_rfl) (by kernel_rfl) (regrown_start wr) ?_
      simp only [List.take_succ_cons, List.take_zero, List.drop_succ_cons, List.drop_zero]
      iterate 3 go_big_quiet_step (fail)
      go_big_quiet_want
      refine q_load_mid 70 (.tmp 19) rfl A (a0 + i * 34) h.cells rfl (fun w' hw' => HRA.out w' (regrown_ext hw')) _ Tryz.underlying70 rfl HHI.out ?_
      simp only [Act.put, List.setIfInBounds_toArray, List.set_cons_zero, List.set_cons_succ]
      go_big_quiet_on
      iterate 3 go_big_quiet_step (fail)
      go_big_quiet_want
      refine q_load_mid 70 (.tmp 23) rfl B (b0 + i * 34) h.cells rfl (fun w' hw' => HRB.out w' (regrown_ext hw')) _ Tryz.underlying70 rfl HHI.out ?_
      simp only [Act.put, List.setIfInBounds_toArray, List.set_cons_zero, List.set_cons_succ]
      go_big_quiet_on
      refine wpQuiet_nil ?_
      intro w3 hw3
      have HE3 := Lib.hid (HE.out.trans (regrown_ext hw3))
      clear hw3
      have G0 := Lib.hid True.intro
      go_wp2_with (clear G0; refine wpList_binG rfl .neq 70 (.tmp 20) (.tmp 24) _ rfl (.agg h.cells.toArray) (.agg h.cells.toArray) (.bool false) rfl rfl (hd_guard _ _ _ _ _ _) (hd_same h _ HHin.out) ?_)
      go_roundw
      case rel => exact ⟨i + 1, by go_num, by omega, HE3.out⟩
      case measure => simp [intOf]; omega
    · obtain rfl : i = n := by omega
      go_wp2_with fail
      go_ret
      exact ⟨rfl, HE.out⟩
end Go.Proofs.YtnkebhlkhpgghaaGreatDoor
/- seglog.Resume: the walk. -/
namespace Go.Proofs.YtnkebhlkhpgghaaGreatDoor
open Go Go.RowKit Go.Deep Go.Sort

theorem linkedA_any (per segs : Int) (x : Sp) (A : Option Addr) (c : Nat) (hs : List Hd) (w : World) (hx : x.In) (hi : ∀ h ∈ hs, h.In) (h3 : hs.length ≤ 100) (hc : hs.length ≤ c) (hc2 : c ≤ 9223372036854775807) (hS : HdS w A hs) :
    Calls Tryz.prog 45 #[.agg #[.int .i64 per, .int .i64 segs], .agg x.cells.toArray, .slice A hs.length c] w (Ret (.bool (lnk segs x hs)) w) := by
  by_cases h : 1 ≤ hs.length ∧ (hs.length : Int) ≤ segs
  · obtain ⟨f, hf⟩ : ∃ f, hs[0]? = some f := ⟨_, List.getElem?_eq_getElem h.1⟩
    obtain ⟨hb, ho, rfl, _⟩ := hS 0 f hf
    exact linked_any per segs x hb ho c hs w hx hi h.1 h.2 h3 hc hc2 hS
  · rw [lnk_false (fun hl => h ⟨hl.l1, hl.l2⟩)]
    exact linkedShort_any per segs x A hs.length c w hx h3 (by omega)
theorem fitA_any {F : Nat → Prop} {d : Nat} {k : Dk} (w : World) (per segs : Int) (hD : Disk F w d k) : Calls Tryz.prog 20 #[.pointer (some ⟨d, 0, none⟩), .agg #[.int .i64 per, .int .i64 segs]] w (Ret (.int .i64 (if fits k per segs then 0 else 1)) w) := by
  by_cases h : 2 ≤ k.many ∧ 256 ≤ k.size
  · exact fitShape_any w per segs hD h.1 h.2
  · have hf : fits k per segs = false := by
      cases hh : fits k per segs with
      | false => rfl
      | true => simp [fits] at hh; omega
    rw [hf]
    exact fitSmall_any w per segs hD (by omega)
/-- Does Resume go well, on a disk that the shape fits? -/
noncomputable def rsm (per segs : Int) (size : Nat) (x : Sp) (hs : List Hd) : Bool := lnk segs x hs && decide (64 ≤ x.en) && decide (x.en ≤ per * size)
set_option maxRecDepth 8000 in
set_option maxHeartbeats 1600000 in
theorem resumeE_any (dv : Value) (per segs e : Int) (x : Sp) (A : Option Addr) (n c : Nat) (w : World) (hx : x.In) (he : e = 1 ∨ e = 5) (hdv : ∃ p, dv = .pointer p) (hF : ∀ w', Ext w w' → Calls Tryz.prog 20 #[dv, .agg #[.int .i64 per, .int .i64 segs]] w' (Ret (.int .i64 e) w')) :
    Calls Tryz.prog 17 #[dv, .agg #[.int .i64 per, .int .i64 segs], .agg x.cells.toArray, .slice A n c] w (Ret (.tuple #[.pointer none, .int .i64 e]) w) := by
  obtain ⟨w1, hw1⟩ : ∃ w1, w1 = (w.alloc (.cells #[.int .i64 per, .int .i64 segs] 23)).alloc (.cells x.cells.toArray 42) := ⟨_, rfl⟩
  have HE1 := Lib.hid (show Ext w w1 from by rw [hw1]; exact ((Ext.refl w).alloc _).alloc _)
  have HS1 := Lib.hid (show Blk w1 w.heap.size 23 #[.int .i64 per, .int .i64 segs] from by rw [hw1]; exact (Blk.new _ _ _).alloc _)
  have HF := Lib.hid hF
  have HI := Lib.hid sh_info
  obtain ⟨dp, rfl⟩ := hdv
  clear hx hF
  rcases he with rfl | rfl
  all_goals
    go_enter Tryz.func17, Tryz.ntmps17
    go_wp2_with (first | (have hg := HS1; rw [← hw1]; clear hw1) | (have hg := HS1; refine wpList_load_blk rfl 23 (.tmp 5) rfl w.heap.size 23 [.int .i64 per, .int .i64 segs] rfl HS1.out _ Tryz.underlying23 rfl HI.out ?_) | (go_at_call 20; refine (HF.out _ HE1.out).mono ?_; rintro e w2 ⟨rfl, hE2⟩; have HE2 := Lib.hid (HE1.out.trans hE2); clear hE2))
    go_ret2
    exact ⟨rfl, HE2.out⟩
theorem resumeNil_any (per segs : Int) (x : Sp) (A : Option Addr) (n c : Nat) (w : World) (hx : x.In) :
    Calls Tryz.prog 17 #[.pointer none, .agg #[.int .i64 per, .int .i64 segs], .agg x.cells.toArray, .slice A n c] w (Ret (.tuple #[.pointer none, .int .i64 5]) w) :=
  resumeE_any _ per segs 5 x A n c w hx (.inr rfl) ⟨_, rfl⟩ (fun w' _ => fitNil_any w' per segs)
theorem resumeNo_any {F : Nat → Prop} {d : Nat} {k : Dk} (per segs : Int) (x : Sp) (A : Option Addr) (n c : Nat) (w : World) (hx : x.In) (hD : Disk F w d k) (hf : fits k per segs = false) :
    Calls Tryz.prog 17 #[.pointer (some ⟨d, 0, none⟩), .agg #[.int .i64 per, .int .i64 segs], .agg x.cells.toArray, .slice A n c] w (Ret (.tuple #[.pointer none, .int .i64 1]) w) :=
  resumeE_any _ per segs 1 x A n c w hx (.inl rfl) ⟨_, rfl⟩ (fun w' e => by have h := fitA_any w' per segs (hD.ext e); rw [hf] at h; exact h)
end Go.Proofs.YtnkebhlkhpgghaaGreatDoor
/- seglog.Resume, on a disk that the shape fits: the walk. -/
namespace Go.Proofs.YtnkebhlkhpgghaaGreatDoor
open Go Go.RowKit Go.Deep Go.Sort

theorem sp_sumrange {x : Sp} (hx : x.In) {w : World} {g : Nat} {t : TypeId} (h : Blk w g t x.cells.toArray) : w.rangeAt g 38 (bcells x.sum) := by
  have h2 := Blk.rangeAt (w := w) (g := g) (t := t) (A := [.int .u64 x.epoch, .int .u64 x.tail, .int .u64 x.first] ++ bcells x.anchor ++ [.int .u64 x.id, .int .u64 x.en, .int .u64 x.next]) (B := bcells x.sum) (C := []) (by simpa [Sp.cells] using h)
  rw [show ([.int .u64 x.epoch, .int .u64 x.tail, .int .u64 x.first] ++ bcells x.anchor ++ [.int .u64 x.id, .int .u64 x.en, .int .u64 x.next] : List Value).length = 38 from by simp [bcells, hx.a]] at h2
  exact h2
set_option maxRecDepth 8000 in
set_option maxHeartbeats 1600000 in
theorem resumeBad_any {F : Nat → Prop} {d : Nat} {k : Dk} (p s : Nat) (x : Sp) (A : Option Addr) (c : Nat) (hs : List Hd) (w : World) (hx : x.In) (hi : ∀ h ∈ hs, h.In) (hl : hs.length ≤ 100) (hc : hs.length ≤ c) (hc2 : c ≤ 9223372036854775807) (hS : HdS w A hs) (hD : Disk F w d k) (hf : fits k p s = true) (hcap : p * k.size ≤ 90000) (hb : rsm p s k.size x hs = false) :
    Calls Tryz.prog 17 #[.pointer (some ⟨d, 0, none⟩), .agg #[.int .i64 p, .int .i64 s], .agg x.cells.toArray, .slice A hs.length c] w (Ret (.tuple #[.pointer none, .int .i64 11]) w) := by
  obtain ⟨w1, hw1⟩ : ∃ w1, w1 = (w.alloc (.cells #[.int .i64 p, .int .i64 s] 23)).alloc (.cells x.cells.toArray 42) := ⟨_, rfl⟩
  have HE1 := Lib.hid (show Ext w w1 from by rw [hw1]; exact ((Ext.refl w).alloc _).alloc _)
  have HS1 := Lib.hid (show Blk w1 w.heap.size 23 #[.int .i64 p, .int .i64 s] from by rw [hw1]; exact (Blk.new _ _ _).alloc _)
  have HX1 := Lib.hid (show Blk w1 (w.heap.size + 1) 42 x.cells.toArray from by rw [hw1]; exact Blk.new' (by simp))
  have HF := Lib.hid (fun w' (e : Ext w w') => (show Calls Tryz.prog 20 #[.pointer (some ⟨d, 0, none⟩), .agg #[.int .i64 p, .int .i64 s]] w' (Ret (.int .i64 0) w') from by have h := fitA_any w' p s (hD.ext e); rw [hf] at h; exact h))
  have HZ := Lib.hid (fun w' (e : Ext w w') => size_any w' (hD.ext e))
  have HLK := Lib.hid (fun w' (e : Ext w w') => linkedA_any p s x A c hs w' hx hi hl hc hc2 (hS.ext e))
  have HI := Lib.hid sh_info
  have HXI := Lib.hid (sp_infoOf hx)
  have HX := Lib.hid hx
  have HD := Lib.hid hD
  have HNF := Lib.hid (fun i (hi : w.heap.size ≤ i) => (show ¬ F i from fun hh => by have := hD.sz i hh; omega))
  have HEN := Lib.hid (hx.nums x.en (by simp [Sp.nums]))
  have hw5 : IntKind.i64.wrap ((p : Int) * (k.size : Int)) = ((p * k.size : Nat) : Int) := by rw [← Int.natCast_mul]; exact IntWalk.i64_in _ (by omega)
  have hw6 : IntKind.u64.wrap ((p * k.size : Nat) : Int) = ((p * k.size : Nat) : Int) := IntWalk.u64_in _ (by omega)
  obtain ⟨q, hq⟩ : ∃ q, q = p * k.size := ⟨_, rfl⟩
  have hb2 : lnk s x hs = true → 64 ≤ x.en → ¬ x.en ≤ ((p * k.size : Nat) : Int) := fun h1 h2 h3 => by
    rw [Int.natCast_mul] at h3
    simp [rsm, h1, h2, h3] at hb
  rw [← hq] at hw5 hw6 hb2
  clear hb hq hD hx hi hl hc hc2 hS hf hcap
  obtain ⟨n, hn⟩ : ∃ n, n = hs.length := ⟨_, rfl⟩
  rw [← hn] at HLK ⊢
  clear hn
  have G0 := Lib.hid True.intro
  have G1 := Lib.hid True.intro
  have G2 := Lib.hid True.intro
  have G3 := Lib.hid True.intro
  have G4 := Lib.hid True.intro
  have G5 := Lib.hid True.intro
  have G6 := Lib.hid True.intro
  have G7 := Lib.hid True.intro
  cases hlk : lnk s x hs with
  | false =>
    rw [hlk] at HLK
    clear hb2 hlk
    go_enter Tryz.func17, Tryz.ntmps17
    go_wp2_with (first | (have hg := HS1; rw [← hw1]; clear hw1) | (have hg := HS1; clear G0; refine wpList_load_blk rfl 23 (.tmp 5) rfl w.heap.size 23 [.int .i64 p, .int .i64 s] rfl HS1.out _ Tryz.underlying23 rfl HI.out ?_) | (go_at_call 20; refine (HF.out _ HE1.out).mono ?_; rintro e w2 ⟨rfl, hE2⟩; have HE2 := Lib.hid (HE1.out.trans hE2); have HS2 := Lib.hid (HS1.out.ext hE2); have HX2 := Lib.hid (HX1.out.ext hE2); clear hE2) | (go_at_call 44; refine (HZ.out _ HE2.out).mono ?_; rintro e w3 ⟨rfl, hE3⟩; have HE3 := Lib.hid (HE2.out.trans hE3); have HS3 := Lib.hid (HS2.out.ext hE3); have HX3 := Lib.hid (HX2.out.ext hE3); clear hE3) | (have hg := HS3; clear G1; refine wpList_load_blk rfl 23 (.tmp 5) rfl w.heap.size 23 [.int .i64 p, .int .i64 s] rfl HS3.out _ Tryz.underlying23 rfl HI.out ?_) | (have hg := HX3; clear G2; refine wpList_load_blk rfl 42 (.tmp 6) rfl (w.heap.size + 1) 42 x.cells rfl HX3.out _ Tryz.underlying42 rfl HXI.out ?_) | (go_at_call 45; refine (HLK.out _ HE3.out).mono ?_; rintro e w4 ⟨rfl, hE4⟩; have HE4 := Lib.hid (HE3.out.trans hE4); have HS4 := Lib.hid (HS3.out.ext hE4); have HX4 := Lib.hid (HX3.out.ext hE4); have c0 : w4.cell? ⟨w.heap.size, 0, none⟩ = some (.int .i64 p) := HS4.out.cell 0; have c36 : w4.cell? ⟨w.heap.size + 1, 36, none⟩ = some (.int .u64 x.en) := (HX4.out.cell 36).trans (Sp.cells_hi HX.out 1); clear hE4))
    go_ret2
    exact ⟨rfl, HE4.out⟩
  | true =>
    rw [hlk] at HLK
    have hb3 := hb2 hlk
    clear hlk hb2
    by_cases h64 : x.en < 64
    · clear hb3
      go_enter Tryz.func17, Tryz.ntmps17
      go_wp2_with (first | (have hg := HS1; rw [← hw1]; clear hw1) | (have hg := HS1; clear G0; refine wpList_load_blk rfl 23 (.tmp 5) rfl w.heap.size 23 [.int .i64 p, .int .i64 s] rfl HS1.out _ Tryz.underlying23 rfl HI.out ?_) | (go_at_call 20; refine (HF.out _ HE1.out).mono ?_; rintro e w2 ⟨rfl, hE2⟩; have HE2 := Lib.hid (HE1.out.trans hE2); have HS2 := Lib.hid (HS1.out.ext hE2); have HX2 := Lib.hid (HX1.out.ext hE2); clear hE2) | (go_at_call 44; refine (HZ.out _ HE2.out).mono ?_; rintro e w3 ⟨rfl, hE3⟩; have HE3 := Lib.hid (HE2.out.trans hE3); have HS3 := Lib.hid (HS2.out.ext hE3); have HX3 := Lib.hid (HX2.out.ext hE3); clear hE3) | (have hg := HS3; clear G1; refine wpList_load_blk rfl 23 (.tmp 5) rfl w.heap.size 23 [.int .i64 p, .int .i64 s] rfl HS3.out _ Tryz.underlying23 rfl HI.out ?_) | (have hg := HX3; clear G2; refine wpList_load_blk rfl 42 (.tmp 6) rfl (w.heap.size + 1) 42 x.cells rfl HX3.out _ Tryz.underlying42 rfl HXI.out ?_) | (go_at_call 45; refine (HLK.out _ HE3.out).mono ?_; rintro e w4 ⟨rfl, hE4⟩; have HE4 := Lib.hid (HE3.out.trans hE4); have HS4 := Lib.hid (HS3.out.ext hE4); have HX4 := Lib.hid (HX3.out.ext hE4); have c0 : w4.cell? ⟨w.heap.size, 0, none⟩ = some (.int .i64 p) := HS4.out.cell 0; have c36 : w4.cell? ⟨w.heap.size + 1, 36, none⟩ = some (.int .u64 x.en) := (HX4.out.cell 36).trans (Sp.cells_hi HX.out 1); clear hE4))
      go_ret2
      exact ⟨rfl, HE4.out⟩
    · have hbig : (q : Int) < x.en := by
        have h1 := hb3 (by omega)
        omega
      clear hb3
      go_enter Tryz.func17, Tryz.ntmps17
      go_wp2_with (first | (have hg := HS1; rw [← hw1]; clear hw1) | (have hg := HS1; clear G0; refine wpList_load_blk rfl 23 (.tmp 5) rfl w.heap.size 23 [.int .i64 p, .int .i64 s] rfl HS1.out _ Tryz.underlying23 rfl HI.out ?_) | (go_at_call 20; refine (HF.out _ HE1.out).mono ?_; rintro e w2 ⟨rfl, hE2⟩; have HE2 := Lib.hid (HE1.out.trans hE2); have HS2 := Lib.hid (HS1.out.ext hE2); have HX2 := Lib.hid (HX1.out.ext hE2); clear hE2) | (go_at_call 44; refine (HZ.out _ HE2.out).mono ?_; rintro e w3 ⟨rfl, hE3⟩; have HE3 := Lib.hid (HE2.out.trans hE3); have HS3 := Lib.hid (HS2.out.ext hE3); have HX3 := Lib.hid (HX2.out.ext hE3); clear hE3) | (have hg := HS3; clear G1; refine wpList_load_blk rfl 23 (.tmp 5) rfl w.heap.size 23 [.int .i64 p, .int .i64 s] rfl HS3.out _ Tryz.underlying23 rfl HI.out ?_) | (have hg := HX3; clear G2; refine wpList_load_blk rfl 42 (.tmp 6) rfl (w.heap.size + 1) 42 x.cells rfl HX3.out _ Tryz.underlying42 rfl HXI.out ?_) | (go_at_call 45; refine (HLK.out _ HE3.out).mono ?_; rintro e w4 ⟨rfl, hE4⟩; have HE4 := Lib.hid (HE3.out.trans hE4); have HS4 := Lib.hid (HS3.out.ext hE4); have HX4 := Lib.hid (HX3.out.ext hE4); have c0 : w4.cell? ⟨w.heap.size, 0, none⟩ = some (.int .i64 p) := HS4.out.cell 0; have c36 : w4.cell? ⟨w.heap.size + 1, 36, none⟩ = some (.int .u64 x.en) := (HX4.out.cell 36).trans (Sp.cells_hi HX.out 1); clear hE4))
      go_ret2
      exact ⟨rfl, HE4.out⟩
set_option maxRecDepth 8000 in
set_option maxHeartbeats 3200000 in
theorem resumeYes_any {F : Nat → Prop} {d : Nat} {k : Dk} (p s : Nat) (x : Sp) (A : Option Addr) (c : Nat) (hs : List Hd) (w : World) (hx : x.In) (hi : ∀ h ∈ hs, h.In) (hl : hs.length ≤ 100) (hc : hs.length ≤ c) (hc2 : c ≤ 9223372036854775807) (hS : HdS w A hs) (hD : Disk F w d k) (hf : fits k p s = true) (hcap : p * k.size ≤ 90000) (hpn : k.pend.length ≤ 90000) (hb : rsm p s k.size x hs = true) :
    Calls Tryz.prog 17 #[.pointer (some ⟨d, 0, none⟩), .agg #[.int .i64 p, .int .i64 s], .agg x.cells.toArray, .slice A hs.length c] w fun e w' => ∃ g, e = .returned (.tuple #[.pointer (some ⟨g, 0, none⟩), .int .i64 0]) ∧ Log F w' g d ⟨k, p, s, x, hs, x.en.toNat, x.sum, x.next⟩ ∧ Ext w w' ∧ w.heap.size ≤ g := by
  obtain ⟨w1, hw1⟩ : ∃ w1, w1 = (w.alloc (.cells #[.int .i64 p, .int .i64 s] 23)).alloc (.cells x.cells.toArray 42) := ⟨_, rfl⟩
  have HE1 := Lib.hid (show Ext w w1 from by rw [hw1]; exact ((Ext.refl w).alloc _).alloc _)
  have HS1 := Lib.hid (show Blk w1 w.heap.size 23 #[.int .i64 p, .int .i64 s] from by rw [hw1]; exact (Blk.new _ _ _).alloc _)
  have HX1 := Lib.hid (show Blk w1 (w.heap.size + 1) 42 x.cells.toArray from by rw [hw1]; exact Blk.new' (by simp))
  have HF := Lib.hid (fun w' (e : Ext w w') => (show Calls Tryz.prog 20 #[.pointer (some ⟨d, 0, none⟩), .agg #[.int .i64 p, .int .i64 s]] w' (Ret (.int .i64 0) w') from by have h := fitA_any w' p s (hD.ext e); rw [hf] at h; exact h))
  have HZ := Lib.hid (fun w' (e : Ext w w') => size_any w' (hD.ext e))
  have HLK := Lib.hid (fun w' (e : Ext w w') => linkedA_any p s x A c hs w' hx hi hl hc hc2 (hS.ext e))
  have HI := Lib.hid sh_info
  have HXI := Lib.hid (sp_infoOf hx)
  have HX := Lib.hid hx
  have HD := Lib.hid hD
  have HNF := Lib.hid (fun i (hi : w.heap.size ≤ i) => (show ¬ F i from fun hh => by have := hD.sz i hh; omega))
  have HEN := Lib.hid (hx.nums x.en (by simp [Sp.nums]))
  have hw5 : IntKind.i64.wrap ((p : Int) * (k.size : Int)) = ((p * k.size : Nat) : Int) := by rw [← Int.natCast_mul]; exact IntWalk.i64_in _ (by omega)
  have hw6 : IntKind.u64.wrap ((p * k.size : Nat) : Int) = ((p * k.size : Nat) : Int) := IntWalk.u64_in _ (by omega)
  obtain ⟨q, hq⟩ : ∃ q, q = p * k.size := ⟨_, rfl⟩
  simp only [rsm, ← Int.natCast_mul, Bool.and_eq_true, decide_eq_true_eq] at hb
  obtain ⟨⟨hlk, h64⟩, hle⟩ := hb
  have hL : Lnk s x hs := by simpa [lnk] using hlk
  obtain ⟨f, hf0⟩ : ∃ f, hs[0]? = some f := ⟨_, List.getElem?_eq_getElem hL.l1⟩
  obtain ⟨hb, ho, rfl, _⟩ := hS 0 f hf0
  have hok : Lg.Ok ⟨k, p, s, x, hs, x.en.toNat, x.sum, x.next⟩ := by
    have h0 := hf
    simp only [fits, shOk, Bool.and_eq_true, decide_eq_true_eq] at h0
    obtain ⟨⟨⟨h1, h2⟩, ⟨⟨h3, h4⟩, h5⟩, h6⟩, h7⟩ := h0
    rw [← Int.natCast_mul] at h7
    have hnn := hx.nums x.next (by simp [Sp.nums])
    have hl2 := hL.l2
    exact ⟨by simp only []; omega, by simp only []; omega, by simp only []; omega, by simp only []; omega, h2, hcap, hx, hi, hL.l1, by simp only []; omega, hx.s, hnn.1, hnn.2, by simp only []; omega, by simp only []; omega, hpn⟩
  rw [hlk] at HLK
  rw [← hq] at hw5 hw6 hle
  have HOK := Lib.hid hok
  have HHS := Lib.hid (And.intro hi hS)
  have HN1 := Lib.hid hL.l1
  have HN2 := Lib.hid hl
  have HDI := Lib.hid (show (Tryz.prog.info? 40).map (·.size) = some (bcells x.sum).length from by rw [bcells_length, hx.s]; kernel_rfl)
  have hwe : IntKind.i64.wrap x.en = x.en := IntWalk.i64_in _ (by omega)
  have HQ := Lib.hid (And.intro h64 (And.intro hle hq))
  have g1 : ¬ x.en < 64 := by omega
  have g2 : ¬ (q : Int) < x.en := by omega
  clear hq hD hx hi hl hc hc2 hS hf hcap hpn hok hL hlk hf0 h64 hle
  obtain ⟨n, hn⟩ : ∃ n, n = hs.length := ⟨_, rfl⟩
  rw [← hn] at HLK ⊢
  have HN := Lib.hid hn
  clear hn
  have G0 := Lib.hid True.intro
  have G1 := Lib.hid True.intro
  have G2 := Lib.hid True.intro
  have G3 := Lib.hid True.intro
  have G4 := Lib.hid True.intro
  have G5 := Lib.hid True.intro
  have G6 := Lib.hid True.intro
  have G7 := Lib.hid True.intro
  go_enter Tryz.func17, Tryz.ntmps17
  go_wp2_with (first | (have hg := HS1; rw [← hw1]; clear hw1) | (have hg := HS1; clear G0; refine wpList_load_blk rfl 23 (.tmp 5) rfl w.heap.size 23 [.int .i64 p, .int .i64 s] rfl HS1.out _ Tryz.underlying23 rfl HI.out ?_) | (go_at_call 20; refine (HF.out _ HE1.out).mono ?_; rintro e w2 ⟨rfl, hE2⟩; have HE2 := Lib.hid (HE1.out.trans hE2); have HS2 := Lib.hid (HS1.out.ext hE2); have HX2 := Lib.hid (HX1.out.ext hE2); clear hE2) | (go_at_call 44; refine (HZ.out _ HE2.out).mono ?_; rintro e w3 ⟨rfl, hE3⟩; have HE3 := Lib.hid (HE2.out.trans hE3); have HS3 := Lib.hid (HS2.out.ext hE3); have HX3 := Lib.hid (HX2.out.ext hE3); clear hE3) | (have hg := HS3; clear G1; refine wpList_load_blk rfl 23 (.tmp 5) rfl w.heap.size 23 [.int .i64 p, .int .i64 s] rfl HS3.out _ Tryz.underlying23 rfl HI.out ?_) | (have hg := HX3; clear G2; refine wpList_load_blk rfl 42 (.tmp 6) rfl (w.heap.size + 1) 42 x.cells rfl HX3.out _ Tryz.underlying42 rfl HXI.out ?_) | (go_at_call 45; refine (HLK.out _ HE3.out).mono ?_; rintro e w4 ⟨rfl, hE4⟩; have HE4 := Lib.hid (HE3.out.trans hE4); have HS4 := Lib.hid (HS3.out.ext hE4); have HX4 := Lib.hid (HX3.out.ext hE4); have c0 : w4.cell? ⟨w.heap.size, 0, none⟩ = some (.int .i64 p) := HS4.out.cell 0; have c36 : w4.cell? ⟨w.heap.size + 1, 36, none⟩ = some (.int .u64 x.en) := (HX4.out.cell 36).trans (Sp.cells_hi HX.out 1); clear hE4) | (at_builtin; have hq := HS4; clear G3; refine wpList_copyH rfl (.const (.slice none 0 0)) (.tmp 45) rfl rfl hb ho c n hs rfl HN.out HHS.out.1 (HHS.out.2.ext HE4.out) HN1.out HN2.out ?_; intro g' c' w5 h1 h2 h3 h4 h5 h6; have HE5 := Lib.hid (HE4.out.trans h3); have HS5 := Lib.hid (HS4.out.ext h3); have HX5 := Lib.hid (HX4.out.ext h3); have HC5 := Lib.hid (And.intro h1 (And.intro h2 (And.intro h4 (And.intro h5 h6)))); have d36 : w5.cell? ⟨w.heap.size + 1, 36, none⟩ = some (.int .u64 x.en) := h3.cell_some c36; have d37 : w5.cell? ⟨w.heap.size + 1, 37, none⟩ = some (.int .u64 x.next) := (HX5.out.cell 37).trans (Sp.cells_hi HX.out 2); have HR5 := Lib.hid (show w5.rangeAt (w.heap.size + 1) 38 (bcells x.sum) from sp_sumrange HX.out HX5.out); clear h1 h2 h3 h4 h5 h6) | (have hg := HS5; clear G4; refine wpList_load_blk rfl 23 (.tmp 5) rfl w.heap.size 23 [.int .i64 p, .int .i64 s] rfl HS5.out _ Tryz.underlying23 rfl HI.out ?_) | (have hg := HX5; clear G5; refine wpList_load_blk rfl 42 (.tmp 6) rfl (w.heap.size + 1) 42 x.cells rfl HX5.out _ Tryz.underlying42 rfl HXI.out ?_) | (have hg := HX5; clear G6; refine wpList_load_mid rfl 40 (.tmp 54) rfl (w.heap.size + 1) 38 rfl (bcells x.sum) _ HR5.out Tryz.underlying40 rfl HDI.out ?_) | (have hg := HX5; clear G7; refine Great.wpList_readTo rfl (some 58) rfl (.agg (lgAll (.pointer (some ⟨d, 0, none⟩)) p s x (.slice (some ⟨g', 0, none⟩) n c') (.int .i64 x.en) x.next).toArray) (by have h9 := build_lgx d g' p s n c' x HX.out x.en w5; unfold execOp; simp only [List.map_toArray, List.map_cons, List.map_nil, Sem.run_bind]; erw [h9]; rfl) ?_))
  go_ret2
  obtain ⟨h1, h2, h4, h5, h6⟩ := HC5.out
  have hB : Blk (w5.alloc (.cells (lgAll (.pointer (some ⟨d, 0, none⟩)) p s x (.slice (some ⟨g', 0, none⟩) n c') (.int .i64 x.en) x.next).toArray 77)) w5.heap.size 77 (lgAll (.pointer (some ⟨d, 0, none⟩)) p s x (.slice (some ⟨g', 0, none⟩) n c') (.int .i64 x.en) x.next).toArray := Blk.new _ _ _
  have hcells : lgAll (.pointer (some ⟨d, 0, none⟩)) p s x (.slice (some ⟨g', 0, none⟩) n c') (.int .i64 x.en) x.next = lgCells d (.slice (some ⟨g', 0, none⟩) hs.length c') ⟨k, p, s, x, hs, x.en.toNat, x.sum, x.next⟩ := by
    have he : ((x.en.toNat : Nat) : Int) = x.en := Int.toNat_of_nonneg (by have := HQ.out.1; omega)
    simp [lgAll, lgCells, lgA, lgE, he, HN.out]
  rw [hcells] at hB ⊢
  have hE : Ext w5 (w5.alloc (.cells (lgCells d (.slice (some ⟨g', 0, none⟩) hs.length c') ⟨k, p, s, x, hs, x.en.toNat, x.sum, x.next⟩).toArray 77)) := (Ext.refl w5).alloc _
  have hw : w.heap.size ≤ g' := Nat.le_trans HE4.out.size h1
  refine ⟨w5.heap.size, by simp, ⟨g', 0, c', HOK.out, hB, HD.out.ext (HE5.out.trans hE), ?_, by rw [HN.out] at h4; exact h4, h5, HNF.out _ (by omega), HNF.out _ hw, by omega⟩, HE5.out.trans hE, by omega⟩
  intro i x' hx' j u hu
  exact (h2.ext hE).range i x' hx' j u hu
end Go.Proofs.YtnkebhlkhpgghaaGreatDoor
