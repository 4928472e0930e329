/- Part of a proof: the walks of the functions, and their plain laws: Log11, Log12, Once, Log13. -/
import Derived.Test.YtnkebhlkhpgghaaGreatDoorPart7
import Derived.Great.BuildSlice
set_option linter.unusedVariables false
set_option linter.unusedSimpArgs false

/- seglog: follow: the walk. -/
namespace Go.Proofs.YtnkebhlkhpgghaaGreatDoor
open Go Go.RowKit Go.Deep Go.Sort

def Lg.nextHead (m : Lg) : Hd := ⟨IntKind.u64.wrap (lastId m.heads + 1), m.next, m.sum⟩
def Lg.follow (m : Lg) : Lg := { m with k := m.k.begin (placeOf m.per m.segs m.nextHead.id) m.per m.nextHead, heads := m.heads ++ [m.nextHead], stop := 64 }
theorem Lg.Ok.nextHead {m : Lg} (h : m.Ok) : m.nextHead.In := ⟨(wrap_in _).1, (wrap_in _).2, h.n0, h.n1, h.sum⟩
theorem aput_same (frm : Nat) : ∀ (f : Nat) (k : Dk) (at_ : Nat) (b : Bytes), (aput frm f k at_ b).many = k.many ∧ (aput frm f k at_ b).size = k.size
  | 0, k, at_, b => ⟨rfl, rfl⟩
  | f + 1, k, at_, b => by
    unfold aput
    split
    · exact ⟨rfl, rfl⟩
    · have := aput_same frm f
      simp only [this, Dk.write_many, Dk.write_size, and_self]
@[simp] theorem put_many (k : Dk) (frm at_ : Nat) (b : Bytes) : (k.put frm at_ b).many = k.many := (aput_same _ _ _ _ _).1
@[simp] theorem put_size (k : Dk) (frm at_ : Nat) (b : Bytes) : (k.put frm at_ b).size = k.size := (aput_same _ _ _ _ _).2
@[simp] theorem begin_many (k : Dk) (frm n : Nat) (h : Hd) : (k.begin frm n h).many = k.many := by simp [Dk.begin]
@[simp] theorem begin_size (k : Dk) (frm n : Nat) (h : Hd) : (k.begin frm n h).size = k.size := by simp [Dk.begin]
@[simp] theorem begin_pend (k : Dk) (frm n : Nat) (h : Hd) : (k.begin frm n h).pend = [] := rfl
theorem Lg.Ok.begun {m : Lg} (h : m.Ok) : Lg.Ok { m with k := m.k.begin (placeOf m.per m.segs m.nextHead.id) m.per m.nextHead } :=
  ⟨h.s1, h.s2, h.p1, by simpa using h.fit, by simpa using h.sz, by simpa using h.cap, h.x, h.hds, h.h1, h.h2, h.sum, h.n0, h.n1, h.e1, by simpa using h.e2, by simp⟩
theorem Lg.Ok.follow {m : Lg} (h : m.Ok) (hl : m.heads.length < m.segs) : m.follow.Ok := by
  have hs := h.sz
  have hp := h.p1
  have h64 : 64 ≤ m.per * m.k.size := Nat.le_trans (by omega : 64 ≤ 1 * m.k.size) (Nat.mul_le_mul_right _ hp)
  refine ⟨h.s1, h.s2, h.p1, by simpa [Lg.follow] using h.fit, by simpa [Lg.follow] using h.sz, by simpa [Lg.follow] using h.cap, h.x, ?_, by simp [Lg.follow], by have := h.s2; simp [Lg.follow]; omega, h.sum, h.n0, h.n1, by simp [Lg.follow], by simpa [Lg.follow] using h64, by simp [Lg.follow]⟩
  intro x hx
  simp only [Lg.follow, List.mem_append, List.mem_singleton] at hx
  rcases hx with hx | rfl
  · exact h.hds x hx
  · exact h.nextHead
theorem places_hd (w : World) : ∀ fields, Tryz.prog.underlying 70 = some (.struct fields) → (fields.mapM fun f => (do pure (f.offset, ← sizeOf f.type) : Sem (Nat × Nat))).run Tryz.prog w = .ok #[(0, 1), (1, 1), (2, 32)] w := by
  intro fields h
  rw [Tryz.underlying70] at h
  injection h with h
  injection h with h
  subst h
  kernel_rfl
theorem build_hd (i f : Int) (p : Bytes) (w : World) (hp : p.length = 32) : (Instr.build 70 #[(0, .int .u64 i), (1, .int .u64 f), (2, .agg (bcells p).toArray)]).run Tryz.prog w = .ok (.agg (Hd.cells ⟨i, f, p⟩).toArray) w := by
  obtain ⟨fields, hu⟩ : ∃ fields, Tryz.prog.underlying 70 = some (.struct fields) := ⟨_, Tryz.underlying70⟩
  have hpl := places_hd w fields hu
  have hz : (zeroValue 70).run Tryz.prog w = .ok (.agg zs34.toArray) w := by kernel_rfl
  have hf : Instr.fill ((#[(0, 1), (1, 1), (2, 32)] : Array (Nat × Nat))[·]?) zs34.toArray [(0, .int .u64 i), (1, .int .u64 f), (2, .agg (bcells p).toArray)] = some (Hd.cells ⟨i, f, p⟩).toArray := by
    rw [fill_seg (off := 0) (size := 1) rfl rfl (by decide), fill_seg (off := 1) (size := 1) rfl rfl (by simp [zs34, Value.cells]), fill_seg (off := 2) (size := 32) rfl (by simp [Value.cells, bcells, hp]) (by simp [zs34, Value.cells])]
    simp [Instr.fill, zs34, Hd.cells, bcells, Value.cells, hp]
  unfold Instr.build
  simp only [Sem.run_bind, hz, Result.andThen_ok, run_underlying hu, hpl, Value.cells, hf, Sem.run_pure]
theorem info_hd : ∃ i : TypeInfo, Tryz.prog.info? 70 = some i ∧ i.zero = some (.agg zs34.toArray) ∧ i.size = 34 ∧ i.bytes = 48 := by
  have h : (Tryz.prog.info? 70).map (fun i => (i.zero, i.size, i.bytes)) = some (some (.agg zs34.toArray), 34, 48) := by kernel_rfl
  obtain ⟨i, hi, hh⟩ := Option.map_eq_some_iff.1 h
  simp only [Prod.mk.injEq] at hh
  exact ⟨i, hi, hh.1, hh.2.1, hh.2.2⟩
theorem slice_hd (h : Hd) (w : World) (hl : h.cells.length = 34) : (Instr.buildSlice 52 1 #[(0, .agg h.cells.toArray)]).run Tryz.prog w = .ok (.slice (some ⟨w.heap.size, 0, none⟩) 1 1) (w.alloc (.cells h.cells.toArray 70)) := by
  obtain ⟨i, hi, hz, hs, _⟩ := info_hd
  refine run_buildSlice w 52 70 1 _ h.cells.toArray i _ Tryz.underlying52 hi hz (by rw [hs]; decide) (by rw [hs]; decide) ?_
  rw [hs]
  rw [show (#[(0, Value.agg h.cells.toArray)] : Array (Nat × Value)).toList = [(0, Value.agg h.cells.toArray)] from rfl, fill_seg (off := 0) (size := 34) rfl (by simp [Value.cells, hl]) (by simp)]
  simp [Instr.fill, Value.cells]
theorem tell_callP {P : Program} {Q : Exit → Act → World → Prop} {o : Oper} {a : Act} {w : World} {B : Value → World → Prop} (f : FuncId) (args : Array Value) (hr : (execOp a.eval o).run P w = .ok (.enter f args) w) (hc : Calls P f args w fun e w' => ∃ v, e = .returned v ∧ Ext w w' ∧ B v w') : o.wp P a w (fun a' w'' => ∃ v, a' = a.put o.dst v ∧ Ext w w'' ∧ B v w'') Q := by
  unfold Oper.wp
  rw [hr]
  refine hc.mono ?_
  rintro e w' ⟨v, rfl, hE, hB⟩
  exact ⟨v, rfl, hE, hB⟩
theorem tell_append {P : Program} {Q : Exit → Act → World → Prop} {o : Oper} {a : Act} {w : World} {B : Value → World → Prop} (s x : Operand) (t : TypeId) (ho : o.op = .call { callee := .builtin .append, args := #[s, x], argTypes := #[t, t] })
    (h : ∃ v w', (Builtin.append_ #[t, t] o.type #[a.eval s, a.eval x]).run P w = .ok v w' ∧ Ext w w' ∧ B v w') : o.wp P a w (fun a' w'' => ∃ v, a' = a.put o.dst v ∧ Ext w w'' ∧ B v w'') Q := by
  obtain ⟨v, w', hr, hE, hB⟩ := h
  unfold Oper.wp execOp
  simp only [ho, resolve, invoke, builtin, Sem.run_bind, Sem.run_pure, Result.andThen_ok, List.map_toArray, List.map_cons, List.map_nil, hr]
  exact ⟨v, rfl, hE, hB⟩
theorem own_base2 {w : World} {base b n : Nat} {e : TypeId} {z : Nat} {v : Value} {xs : List Value} (h : w.ownsRow base e z v n xs) (hb : b ≤ base) : w.ownsRow b e z v n xs := by
  rcases h with ⟨h0, h | ⟨g, cap, cur, hv, hbg, r⟩⟩
  · exact ⟨h0, .inl h⟩
  · exact ⟨h0, .inr ⟨g, cap, cur, hv, Nat.le_trans hb hbg, r⟩⟩
theorem hd_len {h : Hd} (hi : h.In) : h.cells.length = 34 := by simp [Hd.cells, bcells, hi.a]
theorem rows_hd_length : ∀ l : List Hd, (∀ x ∈ l, x.In) → (rows Hd.cells l).length = l.length * 34
  | [], _ => by simp [rows]
  | x :: l, h => by
    have := rows_hd_length l (fun y hy => h y (List.mem_cons_of_mem _ hy))
    have hx := hd_len (h x (by simp))
    simp only [rows, List.map_cons, List.flatten_cons, List.length_append, List.length_cons] at this ⊢
    rw [this, hx, Nat.succ_mul, Nat.add_comm]
theorem rows_hd_get : ∀ (l : List Hd), (∀ x ∈ l, x.In) → ∀ (k : Nat) (u : Value), (rows Hd.cells l)[k]? = some u → ∃ i x j, k = i * 34 + j ∧ l[i]? = some x ∧ x.cells[j]? = some u
  | [], _, k, u, h => by simp [rows] at h
  | y :: l, hi, k, u, h => by
    have hy := hd_len (hi y (by simp))
    simp only [rows, List.map_cons, List.flatten_cons] at h
    by_cases hk : k < 34
    · rw [List.getElem?_append_left (by rw [hy]; exact hk)] at h
      exact ⟨0, y, k, by simp, rfl, h⟩
    · rw [List.getElem?_append_right (by rw [hy]; omega), hy] at h
      obtain ⟨i, x, j, h1, h2, h3⟩ := rows_hd_get l (fun z hz => hi z (List.mem_cons_of_mem _ hz)) (k - 34) u h
      exact ⟨i + 1, x, j, by rw [Nat.succ_mul]; omega, h2, h3⟩
theorem rows_hd_at : ∀ (l : List Hd), (∀ x ∈ l, x.In) → ∀ (i : Nat) (x : Hd) (j : Nat) (u : Value), l[i]? = some x → x.cells[j]? = some u → (rows Hd.cells l)[i * 34 + j]? = some u
  | [], _, i, x, j, u, h, _ => by simp at h
  | y :: l, hi, 0, x, j, u, h, k => by
    simp only [List.getElem?_cons_zero, Option.some.injEq] at h
    subst h
    have := (List.getElem?_eq_some_iff.1 k).1
    simp only [rows, List.map_cons, List.flatten_cons, Nat.zero_mul, Nat.zero_add]
    rw [List.getElem?_append_left this, k]
  | y :: l, hi, i + 1, x, j, u, h, k => by
    have hy := hd_len (hi y (by simp))
    rw [List.getElem?_cons_succ] at h
    have := rows_hd_at l (fun z hz => hi z (List.mem_cons_of_mem _ hz)) i x j u h k
    simp only [rows, List.map_cons, List.flatten_cons] at this ⊢
    rw [List.getElem?_append_right (by rw [hy, Nat.succ_mul]; omega), hy, ← this]
    congr 1
    rw [Nat.succ_mul]
    omega
set_option maxRecDepth 8000 in
theorem append_hd {F : Nat → Prop} {g d hb ho hc : Nat} {m : Lg} {w : World} (h : LogB F w g d m hb ho hc) (hok : m.Ok) (w0 : World) (gg : Nat) (hB : Blk w gg 70 m.nextHead.cells.toArray) (ty : TypeId) :
    ∃ A c w2, (Builtin.append_ #[52, 52] ty #[.slice (some ⟨hb, ho, none⟩) m.heads.length m.heads.length, .slice (some ⟨gg, 0, none⟩) 1 1]).run Tryz.prog w = .ok (.slice (some ⟨A, 0, none⟩) (m.heads.length + 1) c) w2 ∧ w2.ownsRow w.heap.size 70 34 (.slice (some ⟨A, 0, none⟩) (m.heads.length + 1) c) (m.heads.length + 1) (rows Hd.cells (m.heads ++ [m.nextHead])) ∧ Ext w w2 := by
  obtain ⟨i, hi, hz, hs, hby⟩ := info_hd
  have hh2 := hok.h2
  obtain ⟨v', w', hr, hown, hg⟩ := run_append_arg_grows (P := Tryz.prog) w 52 ty 70 i (.agg zs34.toArray) 34 48 Tryz.underlying52 hi hz hs hby (by decide) (by decide) ⟨hb, ho, none⟩ m.heads.length m.heads.length (rows Hd.cells m.heads) (rows_hd_length _ hok.hds)
    (fun j u hu => by
      obtain ⟨i, x, k, rfl, hx, hk⟩ := rows_hd_get _ hok.hds j u hu
      rw [Addr.add_lit, ← h.hd i x hx k u hk]
      congr 2
      omega) ⟨gg, 0, none⟩ 1 1 m.nextHead.cells (by rw [hd_len hok.nextHead]) (fun j u hu => by rw [Addr.add_lit, hB.cell, Nat.zero_add, List.getElem?_toArray]; exact hu) (by omega) (by simp only [maxLen]; omega) (by omega)
  have hrows : rows Hd.cells m.heads ++ m.nextHead.cells = rows Hd.cells (m.heads ++ [m.nextHead]) := by simp [rows]
  rw [hrows] at hown
  have hown2 := hown
  rcases hown2.2 with ⟨_, hx⟩ | ⟨A, cap, cur, rfl, _⟩
  · omega
  · exact ⟨A, cap, w', hr, hown, ((Keep.refl (fun _ => False) w).grown hg (fun k hk => by cases hk)).ext (fun i hi => hi.elim)⟩
theorem wq_load_mid {P : Program} {ops : Array Oper} {C : World → Prop} {Q : Act → Prop} {a : Act} {o : Oper} {rest : List Oper} (hg : o.guard = none) (ty : TypeId) (x : Operand) (ho : o.op = .load ty x) (g off : Nat) (B : List Value) (hx : a.eval x = .pointer (some ⟨g, off, none⟩)) (hB : ∀ w', C w' → w'.rangeAt g off B)
    (d : TypeDesc) (hu : P.underlying ty = some d) (hd : d.isRow = true) (hi : (P.info? ty).map (·.size) = some B.length) (h : wpQuiet P ops C Q rest (a.put o.dst (.agg B.toArray))) : wpQuiet P ops C Q (o :: rest) a := by
  refine wq_run hg (.agg B.toArray) (fun w' hw' => ?_) h
  simp only [execOp, ho, Instr.loadAt, hx, Instr.sureAddr, Sem.run_bind, Sem.run_pure, Result.andThen_ok, run_loadVar_mid w' g off ty B d (hB w' hw') hu hd hi]
/-- What the operations of follow's regions leave. -/
def foB (g hb ho n hc N d : Nat) (q : Int) (m : Lg) : Nat → Value → World → Prop
  | 0, u, _ => u = .pointer (some ⟨g, 0, none⟩)
  | 1, u, _ => u = .int .u64 q
  | 2, u, _ => u = .int .u64 (IntKind.u64.wrap (q + 1))
  | 3, u, _ => u = .pointer (some ⟨g, 0, none⟩)
  | 4, u, _ => u = .pointer (some ⟨g, 0, none⟩)
  | 5, u, _ => u = .pointer (some ⟨g, 107, none⟩)
  | 6, u, _ => u = .int .u64 m.next
  | 7, u, _ => u = .pointer (some ⟨g, 0, none⟩)
  | 8, u, _ => u = .pointer (some ⟨g, 0, none⟩)
  | 9, u, _ => u = .pointer (some ⟨g, 75, none⟩)
  | 10, u, _ => u = .agg (bcells m.sum).toArray
  | 11, u, _ => u = .agg m.nextHead.cells.toArray
  | _, u, w => ∃ gg, u = .pointer (some ⟨gg, 0, none⟩) ∧ Blk w gg 70 zs34.toArray ∧ N ≤ gg
theorem foB_stab (g hb ho n hc N d : Nat) (q : Int) (m : Lg) (i : Nat) (u : Value) (w w' : World) (hB : foB g hb ho n hc N d q m i u w) (e : Ext w w') : foB g hb ho n hc N d q m i u w' := by
  rcases i with _ | _ | _ | _ | _ | _ | _ | _ | _ | _ | _ | _ | i <;> simp only [foB] at hB ⊢ <;> first | exact hB | (obtain ⟨g, h1, h2⟩ := hB; exact ⟨g, h1, h2.1.ext e, h2.2⟩) | (obtain ⟨g, h1, h2⟩ := hB; exact ⟨g, h1, own_ext h2 e⟩)
def fpB (g hb ho n hc N d : Nat) (q : Int) (m : Lg) : Nat → Value → World → Prop
  | 0, u, _ => u = .pointer (some ⟨g, 0, none⟩)
  | 1, u, _ => u = .pointer (some ⟨g, 0, none⟩)
  | 2, u, _ => u = .pointer (some ⟨g, 0, none⟩)
  | 3, u, _ => u = .pointer (some ⟨d, 0, none⟩)
  | 4, u, _ => u = .pointer (some ⟨g, 0, none⟩)
  | 5, u, _ => u = .pointer (some ⟨g, 0, none⟩)
  | 6, u, _ => u = .pointer (some ⟨g, 1, none⟩)
  | 7, u, _ => u = .agg #[.int .i64 m.per, .int .i64 m.segs]
  | _, u, _ => u = .agg m.nextHead.cells.toArray
theorem fpB_stab (g hb ho n hc N d : Nat) (q : Int) (m : Lg) (i : Nat) (u : Value) (w w' : World) (hB : fpB g hb ho n hc N d q m i u w) (e : Ext w w') : fpB g hb ho n hc N d q m i u w' := by
  rcases i with _ | _ | _ | _ | _ | _ | _ | _ | i <;> simp only [fpB] at hB ⊢ <;> first | exact hB | (obtain ⟨g, h1, h2⟩ := hB; exact ⟨g, h1, h2.1.ext e, h2.2⟩) | (obtain ⟨g, h1, h2⟩ := hB; exact ⟨g, h1, own_ext h2 e⟩)
def fqB (g hb ho n hc N d : Nat) (q : Int) (m : Lg) : Nat → Value → World → Prop
  | 0, u, _ => u = .pointer (some ⟨g, 0, none⟩)
  | 1, u, _ => u = .pointer (some ⟨g, 0, none⟩)
  | 2, u, _ => u = .pointer (some ⟨g, 0, none⟩)
  | 3, u, _ => u = .pointer (some ⟨g, 73, none⟩)
  | 4, u, _ => u = .slice (some ⟨hb, ho, none⟩) n hc
  | 5, u, _ => u = .pointer (some ⟨g, 0, none⟩)
  | 6, u, _ => u = .pointer (some ⟨g, 0, none⟩)
  | 7, u, _ => u = .pointer (some ⟨g, 73, none⟩)
  | 8, u, _ => u = .slice (some ⟨hb, ho, none⟩) n hc
  | 9, u, _ => u = .int .i64 n
  | 10, u, _ => u = .pointer (some ⟨g, 0, none⟩)
  | 11, u, _ => u = .pointer (some ⟨g, 0, none⟩)
  | 12, u, _ => u = .pointer (some ⟨g, 73, none⟩)
  | 13, u, _ => u = .slice (some ⟨hb, ho, none⟩) n hc
  | 14, u, _ => u = .int .i64 n
  | 15, u, _ => u = .slice (some ⟨hb, ho, none⟩) n n
  | 16, u, _ => u = .agg m.nextHead.cells.toArray
  | 17, u, w => ∃ gg, u = .slice (some ⟨gg, 0, none⟩) 1 1 ∧ Blk w gg 70 m.nextHead.cells.toArray ∧ N ≤ gg
  | _, u, w => ∃ gg : Nat × Nat, u = .slice (some ⟨gg.1, 0, none⟩) (n + 1) gg.2 ∧ w.ownsRow N 70 34 (.slice (some ⟨gg.1, 0, none⟩) (n + 1) gg.2) (n + 1) (rows Hd.cells (m.heads ++ [m.nextHead]))
theorem fqB_stab (g hb ho n hc N d : Nat) (q : Int) (m : Lg) (i : Nat) (u : Value) (w w' : World) (hB : fqB g hb ho n hc N d q m i u w) (e : Ext w w') : fqB g hb ho n hc N d q m i u w' := by
  rcases i with _ | _ | _ | _ | _ | _ | _ | _ | _ | _ | _ | _ | _ | _ | _ | _ | _ | _ | i <;> simp only [fqB] at hB ⊢ <;> first | exact hB | (obtain ⟨g, h1, h2⟩ := hB; exact ⟨g, h1, h2.1.ext e, h2.2⟩) | (obtain ⟨g, h1, h2⟩ := hB; exact ⟨g, h1, own_ext h2 e⟩)
theorem lg_set74 {d : Nat} {v : Value} {m : Lg} (hx : m.x.cells.length = 70) (n : Nat) : (lgCells d v m).toArray.setIfInBounds 74 (.int .i64 n) = (lgCells d v { m with stop := n }).toArray := by
  unfold lgCells
  simp only [List.setIfInBounds_toArray]
  rw [List.set_append_right _ _ (by simp [lgA, hx])]
  simp [lgA, hx, lgE]
set_option maxRecDepth 8000 in
set_option maxHeartbeats 6400000 in
theorem logFollow_any {F : Nat → Prop} {g d : Nat} {m : Lg} (w : World) (h : Log F w g d m) (hl : m.heads.length < m.segs) : Calls Tryz.prog 66 #[.pointer (some ⟨g, 0, none⟩)] w (DidL F w g d (.int .i64 0) m.follow) := by
  obtain ⟨hb, ho, hc, h⟩ := h
  have HH := Lib.hid h
  have HOK := Lib.hid h.ok
  have HDI := Lib.hid (show (Tryz.prog.info? 40).map (·.size) = some (bcells m.sum).length from by rw [show (bcells m.sum).length = 32 from by simp [bcells, h.ok.sum]]; kernel_rfl)
  have HXL := Lib.hid (Sp.cells_length h.ok.x)
  have HNL := Lib.hid (hd_len h.ok.nextHead)
  have HHI := Lib.hid (hd_info h.ok.nextHead)
  have HSH := Lib.hid sh_info
  have HLT := Lib.hid hl
  have HFO := Lib.hid (h.ok.follow hl)
  clear h hl
  go_enter Tryz.func66, Tryz.ntmps66
  go_wp2_with fail
  generalize hn : m.heads.length = n at *
  refine wp_region_tellT 13 (by kernel_rfl) (by kernel_rfl) (foB g hb ho n hc w.heap.size d (lastId m.heads) m) (foB_stab g hb ho n hc w.heap.size d (lastId m.heads) m) ?_ ?_
  · intro i o a w' hin hi hbs he hd
    have e0 : a.eval (.tmp 0) = .pointer (some ⟨g, 0, none⟩) := hbs.outer 0 (by kernel_rfl)
    have HLr := HH.out.ext he
    have c107 := HLr.c107
    have hsu : w'.rangeAt g 75 (bcells m.sum) := by
      have h1 := HLr.blk
      have h2 := Blk.rangeAt (A := lgA d m ++ m.x.cells ++ [.slice (some ⟨hb, ho, none⟩) m.heads.length hc, .int .i64 m.stop]) (B := bcells m.sum) (C := lgE m) (by simpa [lgCells] using h1)
      have h3 : (lgA d m ++ m.x.cells ++ [Value.slice (some ⟨hb, ho, none⟩) m.heads.length hc, Value.int .i64 m.stop]).length = 75 := by simp [lgA, HXL.out]
      rw [h3] at h2
      exact h2
    rcases i with _ | _ | _ | _ | _ | _ | _ | _ | _ | _ | _ | _ | _ | i
    · obtain rfl := Option.some.inj hi
      refine tell_val (.pointer (some ⟨g, 0, none⟩)) w' ?_ (Ext.refl _) rfl
      have ec : ∀ v, a.eval (.const v) = v := fun _ => rfl
      generalize a.eval = ρ at *
      simp [go_sem, ec, e0]
    · obtain rfl := Option.some.inj hi
      have h5 : a.eval (.tmp 5) = _ := hd ⟨0, .data⟩ (by simp) rfl
      refine tell_callP 67 #[.pointer (some ⟨g, 0, none⟩)] ?_ ((logId_any w' ⟨hb, ho, hc, HLr⟩).mono (fun e w2 h => ⟨_, h.1, h.2, rfl⟩))
      have ec : ∀ v, a.eval (.const v) = v := fun _ => rfl
      have ef : ∀ f, a.eval (.func f) = .func (.func f) #[] #[] := fun _ => rfl
      generalize a.eval = ρ at *
      simp [go_sem, ef, ec, h5]
    · obtain rfl := Option.some.inj hi
      have h6 : a.eval (.tmp 6) = _ := hd ⟨1, .data⟩ (by simp) rfl
      refine tell_val (.int .u64 (IntKind.u64.wrap (lastId m.heads + 1))) w' ?_ (Ext.refl _) rfl
      have ec : ∀ v, a.eval (.const v) = v := fun _ => rfl
      generalize a.eval = ρ at *
      simp [go_sem, h6, ec]
    · obtain rfl := Option.some.inj hi
      refine tell_val (.pointer (some ⟨g, 0, none⟩)) w' ?_ (Ext.refl _) rfl
      have ec : ∀ v, a.eval (.const v) = v := fun _ => rfl
      generalize a.eval = ρ at *
      simp [go_sem, ec, e0]
    · obtain rfl := Option.some.inj hi
      have h8 : a.eval (.tmp 8) = _ := hd ⟨3, .data⟩ (by simp) rfl
      refine tell_val (.pointer (some ⟨g, 0, none⟩)) w' ?_ (Ext.refl _) rfl
      have ec : ∀ v, a.eval (.const v) = v := fun _ => rfl
      generalize a.eval = ρ at *
      simp [go_sem, h8, ec]
    · obtain rfl := Option.some.inj hi
      have h9 : a.eval (.tmp 9) = _ := hd ⟨4, .data⟩ (by simp) rfl
      refine tell_val (.pointer (some ⟨g, 107, none⟩)) w' ?_ (Ext.refl _) rfl
      have ec : ∀ v, a.eval (.const v) = v := fun _ => rfl
      generalize a.eval = ρ at *
      simp [go_sem, h9, ec]
    · obtain rfl := Option.some.inj hi
      have h10 : a.eval (.tmp 10) = _ := hd ⟨5, .data⟩ (by simp) rfl
      refine tell_val (.int .u64 m.next) w' ?_ (Ext.refl _) rfl
      have ec : ∀ v, a.eval (.const v) = v := fun _ => rfl
      generalize a.eval = ρ at *
      simp [go_sem, h10, ec, c107]
    · obtain rfl := Option.some.inj hi
      refine tell_val (.pointer (some ⟨g, 0, none⟩)) w' ?_ (Ext.refl _) rfl
      have ec : ∀ v, a.eval (.const v) = v := fun _ => rfl
      generalize a.eval = ρ at *
      simp [go_sem, ec, e0]
    · obtain rfl := Option.some.inj hi
      have h12 : a.eval (.tmp 12) = _ := hd ⟨7, .data⟩ (by simp) rfl
      refine tell_val (.pointer (some ⟨g, 0, none⟩)) w' ?_ (Ext.refl _) rfl
      have ec : ∀ v, a.eval (.const v) = v := fun _ => rfl
      generalize a.eval = ρ at *
      simp [go_sem, h12, ec]
    · obtain rfl := Option.some.inj hi
      have h13 : a.eval (.tmp 13) = _ := hd ⟨8, .data⟩ (by simp) rfl
      refine tell_val (.pointer (some ⟨g, 75, none⟩)) w' ?_ (Ext.refl _) rfl
      have ec : ∀ v, a.eval (.const v) = v := fun _ => rfl
      generalize a.eval = ρ at *
      simp [go_sem, h13, ec]
    · obtain rfl := Option.some.inj hi
      have h14 : a.eval (.tmp 14) = _ := hd ⟨9, .data⟩ (by simp) rfl
      refine tell_val (.agg (bcells m.sum).toArray) w' ?_ (Ext.refl _) rfl
      simp only [execOp, Instr.loadAt, h14, Instr.sureAddr, Sem.run_bind, Sem.run_pure, Result.andThen_ok, run_loadVar_mid w' g 75 40 (bcells m.sum) _ hsu Tryz.underlying40 rfl HDI.out]
    · obtain rfl := Option.some.inj hi
      have h7 : a.eval (.tmp 7) = _ := hd ⟨2, .data⟩ (by simp) rfl
      have h11 : a.eval (.tmp 11) = _ := hd ⟨6, .data⟩ (by simp) rfl
      have h15 : a.eval (.tmp 15) = _ := hd ⟨10, .data⟩ (by simp) rfl
      refine tell_val (.agg m.nextHead.cells.toArray) w' ?_ (Ext.refl _) rfl
      simp only [execOp, List.map_toArray, List.map_cons, List.map_nil, h7, h11, h15, Sem.run_bind, build_hd _ _ _ w' HOK.out.sum, Result.andThen_ok, Sem.run_pure]
      rfl
    · obtain rfl := Option.some.inj hi
      refine tell_val (.pointer (some ⟨w'.heap.size, 0, none⟩)) (w'.alloc (.cells zs34.toArray 70)) ?_ ((Ext.refl _).alloc _) ⟨w'.heap.size, rfl, Blk.new _ _ _, he.size⟩
      simp only [execOp, Sem.run_bind, alloc_h34, Result.andThen_ok, Sem.run_pure]
    · exact absurd hin (by simp)
  · intro a w2 hbs hE2 hA
    obtain ⟨X, h3, hB3, hN3⟩ := hA 12 (by decide)
    have h3 : a.eval (.tmp 3) = .pointer (some ⟨X, 0, none⟩) := h3
    have h16 : a.eval (.tmp 16) = .agg m.nextHead.cells.toArray := hA 11 (by decide)
    have g0 : a.eval (.tmp 0) = .pointer (some ⟨g, 0, none⟩) := hbs.outer 0 (by kernel_rfl)
    have g2 : a.eval (.tmp 2) = .int .i64 0 := hbs.outer 2 (by kernel_rfl)
    rw [act_lit (n := 54) hbs.size, hbs.defers]
    simp only [show List.range 54 = [0, 1, 2, 3, 4, 5, 6, 7, 8, 9, 10, 11, 12, 13, 14, 15, 16, 17, 18, 19, 20, 21, 22, 23, 24, 25, 26, 27, 28, 29, 30, 31, 32, 33, 34, 35, 36, 37, 38, 39, 40, 41, 42, 43, 44, 45, 46, 47, 48, 49, 50, 51, 52, 53] from rfl, List.map_cons, List.map_nil, List.drop_succ_cons, List.drop_zero, g0, g2, h3, h16]
    have HB3 := Lib.hid (And.intro hB3 hN3)
    have HE2 := Lib.hid hE2
    clear hA h3 h16 g0 g2 hbs hB3 hN3 hE2
    generalize a.eval = ρ
    refine wpList_store_blk rfl 70 (.tmp 3) (.tmp 16) rfl X 70 zs34 m.nextHead.cells rfl rfl HB3.out.1 (by rw [HNL.out]; rfl) HHI.out (hd_one _) ?_
    intro w3 hB4 hK4
    have HBH := Lib.hid hB4
    have HE3 := Lib.hid (HE2.out.keep hK4 (fun i hi => by have h1 := HB3.out.2; have h2 : i = X := hi; omega))
    clear hB4 hK4
    go_wp2_with fail
    have c0 := cell_regrown (show w3.cell? ⟨g, 0, none⟩ = some (.pointer (some ⟨d, 0, none⟩)) from (HH.out.ext HE3.out).c0)
    have hsh : ∀ w', Ext w3 w' → w'.rangeAt g 1 [.int .i64 m.per, .int .i64 m.segs] := fun w' he => Blk.rangeAt (A := [.pointer (some ⟨d, 0, none⟩)]) (B := [.int .i64 m.per, .int .i64 m.segs]) (C := m.x.cells ++ ([.slice (some ⟨hb, ho, none⟩) m.heads.length hc, .int .i64 m.stop] ++ (bcells m.sum ++ lgE m))) (by simpa [lgCells, lgA] using (HH.out.ext (HE3.out.trans he)).blk)
    have HSR := Lib.hid hsh
    clear hsh
    refine wp_region_tail (C := fun w' => ∃ p : Regrown, w' = grow (redrawn w3 p.d) p.os) 9 (by kernel_rfl) (by kernel_rfl) (regrown_start w3) ?_
    simp only [List.take_succ_cons, List.take_zero, List.drop_succ_cons, List.drop_zero]
    quiet_step (fail)
    quiet_step (fail)
    quiet_step (fail)
    quiet_step (fail)
    quiet_step (fail)
    quiet_step (fail)
    quiet_step (fail)
    refine wq_load_mid rfl 23 (.tmp 23) rfl g 1 [.int .i64 m.per, .int .i64 m.segs] rfl (fun w' hw' => HSR.out w' (regrown_ext hw')) _ Tryz.underlying23 rfl HSH.out ?_
    refine wq_load_blk rfl 70 (.tmp 3) rfl X 70 m.nextHead.cells rfl (fun w' hw' => HBH.out.ext (regrown_ext hw')) _ Tryz.underlying70 rfl HHI.out ?_
    simp only [Act.put, List.setIfInBounds_toArray, List.set_cons_zero, List.set_cons_succ]
    refine wpQuiet_nil ?_
    intro w4 hw4
    have hE4 := regrown_ext hw4
    have HE4 := Lib.hid (HE3.out.trans hE4)
    have HBH4 := Lib.hid (HBH.out.ext hE4)
    have HBG := Lib.hid (logBegin_any m.per m.segs m.nextHead w4 (HH.out.disk.ext HE4.out) HOK.out.s1 HOK.out.s2 HOK.out.p1 HOK.out.fit HOK.out.nextHead (by have h1 := HOK.out.pn; have h2 := HOK.out.cap; omega))
    clear hw4 c0 hE4
    go_wp2_with (go_at_call 25; refine HBG.out.mono ?_; rintro e w5 ⟨rfl, F', hD5, hM5⟩; have HD5 := Lib.hid (And.intro hD5 hM5); clear hD5 hM5)
    have hXF : ¬ F X := fun hh => by have h1 := HH.out.disk.sz _ hh; have h2 := HB3.out.2; omega
    have HBH5 := Lib.hid (HBH4.out.keep HD5.out.2.1 hXF)
    have HL5 := Lib.hid ((HH.out.ext HE4.out).dsk HD5.out.1 HD5.out.2 HOK.out.begun)
    have hn64 := HOK.out.h2
    rw [hn] at hn64
    have hnc := HH.out.hc1
    rw [hn] at hnc
    have hcm := HH.out.hc2
    have hq1 : ¬ hc < n := by omega
    clear hXF
    refine wp_region_tellT 19 (by kernel_rfl) (by kernel_rfl) (fqB g hb ho n hc w5.heap.size d (lastId m.heads) m) (fqB_stab g hb ho n hc w5.heap.size d (lastId m.heads) m) ?_ ?_
    · intro i o a w' hin hi hbs he hd
      have e0 : a.eval (.tmp 0) = .pointer (some ⟨g, 0, none⟩) := hbs.outer 0 (by kernel_rfl)
      have e3 : a.eval (.tmp 3) = .pointer (some ⟨X, 0, none⟩) := hbs.outer 3 (by kernel_rfl)
      have HLr := HL5.out.ext he
      have c73 := HLr.c73
      rw [show ({ m with k := m.k.begin (placeOf m.per m.segs m.nextHead.id) m.per m.nextHead } : Lg).heads.length = n from hn] at c73
      rcases i with _ | _ | _ | _ | _ | _ | _ | _ | _ | _ | _ | _ | _ | _ | _ | _ | _ | _ | _ | i
      · obtain rfl := Option.some.inj hi
        refine tell_val (.pointer (some ⟨g, 0, none⟩)) w' ?_ (Ext.refl _) rfl
        have ec : ∀ v, a.eval (.const v) = v := fun _ => rfl
        generalize a.eval = ρ at *
        simp [go_sem, ec, e0]
      · obtain rfl := Option.some.inj hi
        refine tell_val (.pointer (some ⟨g, 0, none⟩)) w' ?_ (Ext.refl _) rfl
        have ec : ∀ v, a.eval (.const v) = v := fun _ => rfl
        generalize a.eval = ρ at *
        simp [go_sem, ec, e0]
      · obtain rfl := Option.some.inj hi
        have h31 : a.eval (.tmp 31) = _ := hd ⟨1, .data⟩ (by simp) rfl
        refine tell_val (.pointer (some ⟨g, 0, none⟩)) w' ?_ (Ext.refl _) rfl
        have ec : ∀ v, a.eval (.const v) = v := fun _ => rfl
        generalize a.eval = ρ at *
        simp [go_sem, h31, ec]
      · obtain rfl := Option.some.inj hi
        have h32 : a.eval (.tmp 32) = _ := hd ⟨2, .data⟩ (by simp) rfl
        refine tell_val (.pointer (some ⟨g, 73, none⟩)) w' ?_ (Ext.refl _) rfl
        have ec : ∀ v, a.eval (.const v) = v := fun _ => rfl
        generalize a.eval = ρ at *
        simp [go_sem, h32, ec]
      · obtain rfl := Option.some.inj hi
        have h33 : a.eval (.tmp 33) = _ := hd ⟨3, .data⟩ (by simp) rfl
        refine tell_val (.slice (some ⟨hb, ho, none⟩) n hc) w' ?_ (Ext.refl _) rfl
        have ec : ∀ v, a.eval (.const v) = v := fun _ => rfl
        generalize a.eval = ρ at *
        simp [go_sem, h33, ec, c73]
      · obtain rfl := Option.some.inj hi
        refine tell_val (.pointer (some ⟨g, 0, none⟩)) w' ?_ (Ext.refl _) rfl
        have ec : ∀ v, a.eval (.const v) = v := fun _ => rfl
        generalize a.eval = ρ at *
        simp [go_sem, ec, e0]
      · obtain rfl := Option.some.inj hi
        have h35 : a.eval (.tmp 35) = _ := hd ⟨5, .data⟩ (by simp) rfl
        refine tell_val (.pointer (some ⟨g, 0, none⟩)) w' ?_ (Ext.refl _) rfl
        have ec : ∀ v, a.eval (.const v) = v := fun _ => rfl
        generalize a.eval = ρ at *
        simp [go_sem, h35, ec]
      · obtain rfl := Option.some.inj hi
        have h36 : a.eval (.tmp 36) = _ := hd ⟨6, .data⟩ (by simp) rfl
        refine tell_val (.pointer (some ⟨g, 73, none⟩)) w' ?_ (Ext.refl _) rfl
        have ec : ∀ v, a.eval (.const v) = v := fun _ => rfl
        generalize a.eval = ρ at *
        simp [go_sem, h36, ec]
      · obtain rfl := Option.some.inj hi
        have h37 : a.eval (.tmp 37) = _ := hd ⟨7, .data⟩ (by simp) rfl
        refine tell_val (.slice (some ⟨hb, ho, none⟩) n hc) w' ?_ (Ext.refl _) rfl
        have ec : ∀ v, a.eval (.const v) = v := fun _ => rfl
        generalize a.eval = ρ at *
        simp [go_sem, h37, ec, c73]
      · obtain rfl := Option.some.inj hi
        have h38 : a.eval (.tmp 38) = _ := hd ⟨8, .data⟩ (by simp) rfl
        refine tell_val (.int .i64 n) w' ?_ (Ext.refl _) rfl
        have ec : ∀ v, a.eval (.const v) = v := fun _ => rfl
        generalize a.eval = ρ at *
        simp [go_sem, h38, ec]
      · obtain rfl := Option.some.inj hi
        refine tell_val (.pointer (some ⟨g, 0, none⟩)) w' ?_ (Ext.refl _) rfl
        have ec : ∀ v, a.eval (.const v) = v := fun _ => rfl
        generalize a.eval = ρ at *
        simp [go_sem, ec, e0]
      · obtain rfl := Option.some.inj hi
        have h40 : a.eval (.tmp 40) = _ := hd ⟨10, .data⟩ (by simp) rfl
        refine tell_val (.pointer (some ⟨g, 0, none⟩)) w' ?_ (Ext.refl _) rfl
        have ec : ∀ v, a.eval (.const v) = v := fun _ => rfl
        generalize a.eval = ρ at *
        simp [go_sem, h40, ec]
      · obtain rfl := Option.some.inj hi
        have h41 : a.eval (.tmp 41) = _ := hd ⟨11, .data⟩ (by simp) rfl
        refine tell_val (.pointer (some ⟨g, 73, none⟩)) w' ?_ (Ext.refl _) rfl
        have ec : ∀ v, a.eval (.const v) = v := fun _ => rfl
        generalize a.eval = ρ at *
        simp [go_sem, h41, ec]
      · obtain rfl := Option.some.inj hi
        have h42 : a.eval (.tmp 42) = _ := hd ⟨12, .data⟩ (by simp) rfl
        refine tell_val (.slice (some ⟨hb, ho, none⟩) n hc) w' ?_ (Ext.refl _) rfl
        have ec : ∀ v, a.eval (.const v) = v := fun _ => rfl
        generalize a.eval = ρ at *
        simp [go_sem, h42, ec, c73]
      · obtain rfl := Option.some.inj hi
        have h43 : a.eval (.tmp 43) = _ := hd ⟨13, .data⟩ (by simp) rfl
        refine tell_val (.int .i64 n) w' ?_ (Ext.refl _) rfl
        have ec : ∀ v, a.eval (.const v) = v := fun _ => rfl
        generalize a.eval = ρ at *
        simp [go_sem, h43, ec]
      · obtain rfl := Option.some.inj hi
        have h34 : a.eval (.tmp 34) = _ := hd ⟨4, .data⟩ (by simp) rfl
        have h39 : a.eval (.tmp 39) = _ := hd ⟨9, .data⟩ (by simp) rfl
        have h44 : a.eval (.tmp 44) = _ := hd ⟨14, .data⟩ (by simp) rfl
        refine tell_val (.slice (some ⟨hb, ho, none⟩) n n) w' ?_ (Ext.refl _) rfl
        have ec : ∀ v, a.eval (.const v) = v := fun _ => rfl
        generalize a.eval = ρ at *
        simp [go_sem, h34, h39, h44, ec, hq1]
      · obtain rfl := Option.some.inj hi
        refine tell_val (.agg m.nextHead.cells.toArray) w' ?_ (Ext.refl _) rfl
        simp only [execOp, Instr.loadAt, e3, Instr.sureAddr, Sem.run_bind, Sem.run_pure, Result.andThen_ok, run_loadVar_blk (HBH5.out.ext he) Tryz.underlying70 rfl HHI.out]
      · obtain rfl := Option.some.inj hi
        have h46 : a.eval (.tmp 46) = _ := hd ⟨16, .data⟩ (by simp) rfl
        refine tell_val (.slice (some ⟨w'.heap.size, 0, none⟩) 1 1) (w'.alloc (.cells m.nextHead.cells.toArray 70)) ?_ ((Ext.refl _).alloc _) ⟨w'.heap.size, rfl, Blk.new _ _ _, he.size⟩
        simp only [execOp, List.map_toArray, List.map_cons, List.map_nil, h46, Sem.run_bind, slice_hd _ w' HNL.out, Result.andThen_ok, Sem.run_pure]
      · obtain rfl := Option.some.inj hi
        have h45 : a.eval (.tmp 45) = _ := hd ⟨15, .data⟩ (by simp) rfl
        obtain ⟨g47, h47, b47⟩ := hd ⟨17, .data⟩ (by simp) rfl
        have h47 : a.eval (.tmp 47) = _ := h47
        refine tell_append (.tmp 45) (.tmp 47) 52 rfl ?_
        have hap := append_hd HLr HLr.ok w' g47 b47.1 52
        simp only [hn] at hap
        obtain ⟨A, c, w2, hrun, hown, hE⟩ := hap
        rw [h45, h47]
        exact ⟨_, w2, hrun, hE, ⟨(A, c), rfl, own_base2 hown he.size⟩⟩
      · exact absurd hin (by simp)
    · intro a w6 hbs hE6 hA
      obtain ⟨⟨A, c⟩, h48, hown⟩ := hA 18 (by decide)
      have h48 : a.eval (.tmp 48) = .slice (some ⟨A, 0, none⟩) (n + 1) c := h48
      have h30 : a.eval (.tmp 30) = .pointer (some ⟨g, 0, none⟩) := hA 0 (by decide)
      have g0 : a.eval (.tmp 0) = .pointer (some ⟨g, 0, none⟩) := hbs.outer 0 (by kernel_rfl)
      have g2 : a.eval (.tmp 2) = .int .i64 0 := hbs.outer 2 (by kernel_rfl)
      rw [act_lit (n := 54) hbs.size, hbs.defers]
      simp only [show List.range 54 = [0, 1, 2, 3, 4, 5, 6, 7, 8, 9, 10, 11, 12, 13, 14, 15, 16, 17, 18, 19, 20, 21, 22, 23, 24, 25, 26, 27, 28, 29, 30, 31, 32, 33, 34, 35, 36, 37, 38, 39, 40, 41, 42, 43, 44, 45, 46, 47, 48, 49, 50, 51, 52, 53] from rfl, List.map_cons, List.map_nil, List.drop_succ_cons, List.drop_zero, g0, g2, h30, h48]
      have HL6 := Lib.hid (HL5.out.ext hE6)
      have HE6 := Lib.hid hE6
      have HOW := Lib.hid hown
      obtain ⟨w7, hw7⟩ : ∃ w7, w7 = w6.setCell ⟨g, 73, none⟩ (.slice (some ⟨A, 0, none⟩) (n + 1) c) := ⟨_, rfl⟩
      obtain ⟨w8, hw8⟩ : ∃ w8, w8 = w7.setCell ⟨g, 74, none⟩ (.int .i64 64) := ⟨_, rfl⟩
      have hB6 := HL6.out.blk
      have hK7 : Keep (One g) w6 w7 := by rw [hw7]; exact (Keep.refl (One g) w6).setIn (g := g) (show One g g from rfl) 73 _
      have hK8 : Keep (One g) w6 w8 := by rw [hw8]; exact hK7.setIn (g := g) (show One g g from rfl) 74 _
      have hB7 := hB6.set 73 (.slice (some ⟨A, 0, none⟩) (n + 1) c)
      rw [← hw7, lg_set73 (Sp.cells_length HL6.out.ok.x)] at hB7
      have hB8 := hB7.set 74 (.int .i64 ((64 : Nat) : Int))
      rw [lg_set74 (Sp.cells_length HL6.out.ok.x), show w7.setCell ⟨g, 74, none⟩ (.int .i64 ((64 : Nat) : Int)) = w8 from hw8.symm] at hB8
      have cs6 := HL6.out.c73
      rw [show ({ m with k := m.k.begin (placeOf m.per m.segs m.nextHead.id) m.per m.nextHead } : Lg).heads.length = n from hn] at cs6
      have cf6 := hB6.frozen 73
      have ce7 : w7.cell? ⟨g, 74, none⟩ = some (.int .i64 m.stop) := by rw [hB7.cell, List.getElem?_toArray, show 74 = 73 + 1 from rfl, lg_at (Sp.cells_length HL6.out.ok.x)]; rfl
      have cf7 := hB7.frozen 74
      have HB8 := Lib.hid hB8
      have HK8 := Lib.hid hK8
      clear hA h48 h30 g0 g2 hbs hE6 hown hB6 hB7 hB8 hK7 hK8
      generalize a.eval = ρ3
      go_wp2_with (first | (have hs := cs6; rw [← hw7]; clear hw7 cs6 cf6) | (rw [← hw8]; clear hw8))
      go_ret
      have hgl := HL5.out.blk.lt
      have hfs := HL5.out.disk.sz
      have hho := HOW.out
      rcases hho.2 with ⟨hx, _⟩ | ⟨A', cap, cur, hv, hAb, _, hca, hcb, _, _⟩
      · cases hx
      simp only [Value.slice.injEq, Option.some.injEq, Addr.mk.injEq] at hv
      obtain ⟨⟨rfl, _, _⟩, _, rfl⟩ := hv
      have hAg : A ≠ g := by omega
      have hlen : m.follow.heads.length = n + 1 := by simp [Lg.follow, hn]
      refine ⟨rfl, F', ⟨A, 0, c, HFO.out, ?_, HL6.out.disk.keep HK8.out (fun i hi hh => HL6.out.fg (by cases hh; exact hi)), ?_, by rw [hlen]; exact hca, by simpa [maxLen] using hcb, HL6.out.fg, fun hh => by have := hfs _ hh; omega, hAg⟩, (((HD5.out.2.pre HE4.out).fg g).ext HE6.out).trans (fg_keep HK8.out)⟩
      · rw [hlen]
        exact HB8.out
      · intro i x hx j u hu
        have hi : ∀ y ∈ m.heads ++ [m.nextHead], y.In := HFO.out.hds
        have h1 := hho.cells (g := A) rfl (i * 34 + j) u (rows_hd_at _ hi i x j u hx hu)
        rw [Addr.add_lit] at h1
        rw [← cell_of_keep HK8.out (show ¬ One g A from hAg) h1]
        congr 2
        omega
def Lg.turn (m : Lg) : Lg := m.keep.dropOne.follow
theorem keep_heads (m : Lg) : m.keep.heads = m.heads := by unfold Lg.keep; split <;> rfl
theorem keep_segs (m : Lg) : m.keep.segs = m.segs := by unfold Lg.keep; split <;> rfl
theorem drop_segs (m : Lg) : m.drop.segs = m.segs := by unfold Lg.drop; split <;> rfl
theorem dropOne_lt {m : Lg} (h : m.Ok) (hl : m.heads.length ≤ m.segs) : m.dropOne.heads.length < m.dropOne.segs := by
  unfold Lg.dropOne
  split
  · assumption
  · rename_i hx
    have hs := h.s1
    rw [drop_segs]
    unfold Lg.drop
    split
    · rename_i he
      rw [he] at hx hl
      simp at hx hl ⊢
      omega
    · rename_i he
      have h1 := h.h1
      have h2 : m.heads.length < 2 := by
        rcases hh : m.heads with _ | ⟨a, _ | ⟨b, r⟩⟩
        · simp
        · simp
        · exact absurd hh (he a b r)
      omega
theorem turn_clo (f : FuncId) (g : Nat) : (Clo.mk f #[.pointer (some ⟨g, 0, none⟩)] #[]).v = .func (.func f) #[.pointer (some ⟨g, 0, none⟩)] #[] := rfl
set_option maxRecDepth 8000 in
set_option maxHeartbeats 800000 in
theorem logTurn_any {F : Nat → Prop} {g d : Nat} {m : Lg} (w : World) (h : Log F w g d m) (hl : m.heads.length ≤ m.segs) : Calls Tryz.prog 36 #[.pointer (some ⟨g, 0, none⟩)] w (DidL F w g d (.int .i64 0) m.turn) := by
  have hgF : ¬ Fg F g w.heap.size := by
    obtain ⟨hb, ho, hc, h⟩ := h
    intro hh
    rcases hh with h2 | h2
    · have := h.disk.sz _ h2; omega
    · have := h.blk.lt; omega
  have HIO := Lib.hid (inOrderL_any (F := F) (g := g) (d := d) w.heap.size 3 [⟨42, #[.pointer (some ⟨g, 0, none⟩)], #[]⟩, ⟨65, #[.pointer (some ⟨g, 0, none⟩)], #[]⟩, ⟨66, #[.pointer (some ⟨g, 0, none⟩)], #[]⟩]
    (fun i => match i with | 0 => m | 1 => m.keep | 2 => m.keep.dropOne | _ => m.turn) (w.alloc (.cells #[.func (.func 42) #[.pointer (some ⟨g, 0, none⟩)] #[], .func (.func 65) #[.pointer (some ⟨g, 0, none⟩)] #[], .func (.func 66) #[.pointer (some ⟨g, 0, none⟩)] #[]] 73))
    (Blk.new _ _ _) hgF (h.ext ((Ext.refl _).alloc _))
    (fun i c F' w' hci hL hM => by
      match i, hci with
      | 0, hci => obtain rfl := Option.some.inj hci; exact logKeep_any w' hL
      | 1, hci => obtain rfl := Option.some.inj hci; exact logDropOne_any w' hL
      | 2, hci => obtain rfl := Option.some.inj hci; exact logFollow_any w' hL (dropOne_lt h.ok.keep (by rw [keep_heads, keep_segs]; exact hl))
      | n + 3, hci => cases hci)
    (fun i c w' hci => by
      match i, hci with
      | 0, hci => obtain rfl := Option.some.inj hci; rfl
      | 1, hci => obtain rfl := Option.some.inj hci; rfl
      | 2, hci => obtain rfl := Option.some.inj hci; rfl
      | n + 3, hci => cases hci)
    (by simp) (by simp) (by decide))
  clear h hl hgF
  go_enter Tryz.func36, Tryz.ntmps36
  go_wp2_with (go_at_call 21; refine HIO.out.mono ?_; rintro e w7 ⟨rfl, F', hL7, hM7⟩; have HL7 := Lib.hid (And.intro hL7 (hM7.pre ((Ext.refl w).alloc _))); clear hL7 hM7)
  go_ret
  exact ⟨rfl, F', HL7.out⟩
end Go.Proofs.YtnkebhlkhpgghaaGreatDoor
/- seglog: Append's parts, Commit: the walks. -/
namespace Go.Proofs.YtnkebhlkhpgghaaGreatDoor
open Go Go.RowKit Go.Deep Go.Sort

def Lg.room (m : Lg) (n : Nat) : Lg := if n ≤ m.per * m.k.size - m.stop then m else m.turn
def Lg.lay (m : Lg) (t : Bytes) : Lg := { m with k := m.k.put (placeOf m.per m.segs (lastId m.heads)) m.stop t }
/-- What the operations of Append$1's region leave. -/
def a1B (g : Nat) (z : ByteArray) (b q s : Int) : Nat → Value → World → Prop
  | 0, u, _ => u = .string z
  | 1, u, _ => u = .int .i64 b
  | 2, u, _ => u = .pointer (some ⟨g, 0, none⟩)
  | 3, u, _ => u = .int .i64 q
  | 4, u, _ => u = .pointer (some ⟨g, 0, none⟩)
  | 5, u, _ => u = .pointer (some ⟨g, 0, none⟩)
  | 6, u, _ => u = .pointer (some ⟨g, 74, none⟩)
  | 7, u, _ => u = .int .i64 s
  | 8, u, _ => u = .int .i64 (q - s)
  | _, u, _ => u = .bool (decide (b ≤ q - s))
theorem a1B_stab (g : Nat) (z : ByteArray) (b q s : Int) (i : Nat) (u : Value) (w w' : World) (hB : a1B g z b q s i u w) (e : Ext w w') : a1B g z b q s i u w' := by
  rcases i with _ | _ | _ | _ | _ | _ | _ | _ | _ | i <;> simp only [a1B] at hB ⊢ <;> exact hB
set_option maxRecDepth 8000 in
set_option maxHeartbeats 1600000 in
theorem append1_any {F : Nat → Prop} {g d bt bl : Nat} {m : Lg} (t : Bytes) (w : World) (h : Log F w g d m) (hl : m.heads.length ≤ m.segs) (ht : t.length ≤ 1000000) (hT : Blk w bt 9 #[.string (bs t)]) (hL : Blk w bl 30 #[.pointer (some ⟨g, 0, none⟩)]) :
    Calls Tryz.prog 35 #[.pointer (some ⟨bt, 0, none⟩), .pointer (some ⟨bl, 0, none⟩)] w (DidL F w g d (.int .i64 0) (m.room t.length)) := by
  have HBY := Lib.hid (fun w' (e : Ext w w') => logBytes_any w' (h.ext e))
  have HTU := Lib.hid (fun w' (e : Ext w w') => logTurn_any w' (h.ext e) hl)
  have HL := Lib.hid h
  have HBT := Lib.hid hT
  have HBL := Lib.hid hL
  have hk : m.room t.length = if t.length ≤ m.per * m.k.size - m.stop then m else m.turn := rfl
  have HK := Lib.hid hk
  have he2 := h.ok.e2
  have hcap := h.ok.cap
  have hz : (bs t).size = t.length := bs_size t
  obtain ⟨hb, ho, hc, h⟩ := h
  have HH := Lib.hid h
  generalize m.per * m.k.size = q at *
  have hqs : IntKind.i64.wrap ((q : Int) - m.stop) = (q : Int) - m.stop := IntWalk.i64_in _ (by omega)
  have hzb : ((bs t).size : Int) = (t.length : Int) := by omega
  generalize bs t = z at *
  clear h hL hT hk hz
  have e0x : w.cell? ⟨bt, 0, none⟩ = some (.string z) := HBT.out.cell 0
  have e1x : w.cell? ⟨bl, 0, none⟩ = some (.pointer (some ⟨g, 0, none⟩)) := HBL.out.cell 0
  have HX := Lib.hid (And.intro e0x e1x)
  clear e0x e1x
  go_enter Tryz.func35, Tryz.ntmps35
  go_wp2_with fail
  refine wp_region_free Ext ((Ext.refl _).drew) Ext.trans (by kernel_rfl) (by kernel_rfl) (a1B g z t.length q m.stop) (a1B_stab g z t.length q m.stop) ?_ ?_
  · intro i o a w' hi hbs he hd
    have e0 : a.eval (.tmp 0) = .pointer (some ⟨bt, 0, none⟩) := hbs.outer 0 (by kernel_rfl)
    have e1 : a.eval (.tmp 1) = .pointer (some ⟨bl, 0, none⟩) := hbs.outer 1 (by kernel_rfl)
    have ct := he.cell_some HX.out.1
    have cl := he.cell_some HX.out.2
    have c74 := (HH.out.ext he).c74
    rcases i with _ | _ | _ | _ | _ | _ | _ | _ | _ | _ | i
    · obtain rfl := Option.some.inj hi
      refine free_val (.string z) w' ?_ (Ext.refl _) rfl (by simp)
      have ec : ∀ v, a.eval (.const v) = v := fun _ => rfl
      generalize a.eval = ρ at *
      simp [go_sem, ec, e0, ct]
    · obtain rfl := Option.some.inj hi
      have h3 : a.eval (.tmp 3) = _ := hd ⟨0, .data⟩ (by simp) rfl
      refine free_val (.int .i64 (t.length : Int)) w' ?_ (Ext.refl _) rfl (by simp)
      have ec : ∀ v, a.eval (.const v) = v := fun _ => rfl
      generalize a.eval = ρ at *
      simp [go_sem, h3, ec, hzb]
    · obtain rfl := Option.some.inj hi
      refine free_val (.pointer (some ⟨g, 0, none⟩)) w' ?_ (Ext.refl _) rfl (by simp)
      have ec : ∀ v, a.eval (.const v) = v := fun _ => rfl
      generalize a.eval = ρ at *
      simp [go_sem, ec, e1, cl]
    · obtain rfl := Option.some.inj hi
      have h5 : a.eval (.tmp 5) = _ := hd ⟨2, .data⟩ (by simp) rfl
      refine free_call 34 #[.pointer (some ⟨g, 0, none⟩)] ?_ ((HBY.out w' he).mono (fun e w2 h => ⟨_, h.1, h.2, rfl⟩)) (by simp)
      have ec : ∀ v, a.eval (.const v) = v := fun _ => rfl
      have ef : ∀ f, a.eval (.func f) = .func (.func f) #[] #[] := fun _ => rfl
      generalize a.eval = ρ at *
      simp [go_sem, ef, ec, h5]
    · obtain rfl := Option.some.inj hi
      refine free_val (.pointer (some ⟨g, 0, none⟩)) w' ?_ (Ext.refl _) rfl (by simp)
      have ec : ∀ v, a.eval (.const v) = v := fun _ => rfl
      generalize a.eval = ρ at *
      simp [go_sem, ec, e1, cl]
    · obtain rfl := Option.some.inj hi
      have h7 : a.eval (.tmp 7) = _ := hd ⟨4, .data⟩ (by simp) rfl
      refine free_val (.pointer (some ⟨g, 0, none⟩)) w' ?_ (Ext.refl _) rfl (by simp)
      have ec : ∀ v, a.eval (.const v) = v := fun _ => rfl
      generalize a.eval = ρ at *
      simp [go_sem, h7, ec]
    · obtain rfl := Option.some.inj hi
      have h8 : a.eval (.tmp 8) = _ := hd ⟨5, .data⟩ (by simp) rfl
      refine free_val (.pointer (some ⟨g, 74, none⟩)) w' ?_ (Ext.refl _) rfl (by simp)
      have ec : ∀ v, a.eval (.const v) = v := fun _ => rfl
      generalize a.eval = ρ at *
      simp [go_sem, h8, ec]
    · obtain rfl := Option.some.inj hi
      have h9 : a.eval (.tmp 9) = _ := hd ⟨6, .data⟩ (by simp) rfl
      refine free_val (.int .i64 (m.stop : Int)) w' ?_ (Ext.refl _) rfl (by simp)
      have ec : ∀ v, a.eval (.const v) = v := fun _ => rfl
      generalize a.eval = ρ at *
      simp [go_sem, h9, ec, c74]
    · obtain rfl := Option.some.inj hi
      have h6 : a.eval (.tmp 6) = _ := hd ⟨3, .data⟩ (by simp) rfl
      have h10 : a.eval (.tmp 10) = _ := hd ⟨7, .data⟩ (by simp) rfl
      refine free_val (.int .i64 ((q : Int) - (m.stop : Int))) w' ?_ (Ext.refl _) rfl (by simp)
      have ec : ∀ v, a.eval (.const v) = v := fun _ => rfl
      generalize a.eval = ρ at *
      simp [go_sem, h6, h10, ec, hqs]
    · obtain rfl := Option.some.inj hi
      have h4 : a.eval (.tmp 4) = _ := hd ⟨1, .data⟩ (by simp) rfl
      have h11 : a.eval (.tmp 11) = _ := hd ⟨8, .data⟩ (by simp) rfl
      refine free_val (.bool (decide ((t.length : Int) ≤ (q : Int) - (m.stop : Int)))) w' ?_ (Ext.refl _) rfl (by simp)
      have ec : ∀ v, a.eval (.const v) = v := fun _ => rfl
      generalize a.eval = ρ at *
      simp [go_sem, h4, h11, ec]
    · cases hi
  · intro a w2 hbs hE2 hA
    have h12 : a.eval (.tmp 12) = .bool (decide ((t.length : Int) ≤ (q : Int) - m.stop)) := hA 9 (by decide)
    have g1 : a.eval (.tmp 1) = .pointer (some ⟨bl, 0, none⟩) := hbs.outer 1 (by kernel_rfl)
    have g2 : a.eval (.tmp 2) = .int .i64 0 := hbs.outer 2 (by kernel_rfl)
    rw [act_lit (n := 15) hbs.size, hbs.defers]
    simp only [show List.range 15 = [0, 1, 2, 3, 4, 5, 6, 7, 8, 9, 10, 11, 12, 13, 14] from rfl, List.map_cons, List.map_nil, g1, g2, h12]
    have HE2 := Lib.hid hE2
    have cl2 := hE2.cell_some HX.out.2
    clear hA g1 g2 h12 hbs hE2
    generalize a.eval = ρ
    by_cases hle : t.length ≤ q - m.stop
    · have hd : decide ((t.length : Int) ≤ (q : Int) - m.stop) = true := decide_eq_true (by omega)
      rw [if_pos hle] at HK
      rw [hd]
      clear hd hle
      go_wp2_with fail
      go_ret
      refine ⟨rfl, F, ?_, Moves.of_ext HE2.out⟩
      rw [HK.out]
      exact HL.out.ext HE2.out
    · have hd : decide ((t.length : Int) ≤ (q : Int) - m.stop) = false := decide_eq_false (by omega)
      rw [if_neg hle] at HK
      rw [hd]
      clear hd hle
      go_wp2_with (go_at_call 36; refine (HTU.out _ HE2.out).mono ?_; rintro e w3 ⟨rfl, F', hL, hM⟩; have HL3 := Lib.hid (And.intro hL (hM.pre HE2.out)); clear hL hM)
      go_ret
      refine ⟨rfl, F', ?_, HL3.out.2⟩
      rw [HK.out]
      exact HL3.out.1
theorem append2_any {F : Nat → Prop} {g d bt bl : Nat} {m : Lg} (t : Bytes) (w : World) (h : Log F w g d m) (ht : m.k.pend.length ≤ m.stop) (hfit : m.stop + t.length ≤ m.per * m.k.size) (hT : Blk w bt 9 #[.string (bs t)]) (hL : Blk w bl 30 #[.pointer (some ⟨g, 0, none⟩)]) :
    Calls Tryz.prog 38 #[.pointer (some ⟨bl, 0, none⟩), .pointer (some ⟨bt, 0, none⟩)] w (DidL F w g d (.int .i64 0) (m.lay t)) := by
  have HLY := Lib.hid (logLay_any t w h ht hfit)
  have e0x : w.cell? ⟨bt, 0, none⟩ = some (.string (bs t)) := hT.cell 0
  have e1x : w.cell? ⟨bl, 0, none⟩ = some (.pointer (some ⟨g, 0, none⟩)) := hL.cell 0
  clear h ht hfit hT hL
  generalize bs t = z at *
  go_enter Tryz.func38, Tryz.ntmps38
  go_wp2_with (go_at_call 39; refine HLY.out.mono ?_; rintro e w3 ⟨rfl, F', hL, hM⟩; have HL3 := Lib.hid (And.intro hL hM); clear hL hM)
  go_ret
  exact ⟨rfl, F', HL3.out⟩
theorem logCommit_any {F : Nat → Prop} {g d : Nat} {m : Lg} (w : World) (h : Log F w g d m) : Calls Tryz.prog 15 #[.pointer (some ⟨g, 0, none⟩)] w (DidL F w g d (.tuple #[.int .u64 m.keep.next, .int .i64 0]) m.keep) := by
  have HS := Lib.hid (shut_any w h)
  have HK := Lib.hid (fun w' (e : Ext w w') => logKeep_any w' (h.ext e))
  have HT := Lib.hid (fun w' => told_any g w')
  clear h
  go_enter Tryz.func15, Tryz.ntmps15
  go_wp2_with (first | (go_at_call 32; refine HS.out.mono ?_; rintro e w1 ⟨rfl, hE1⟩; have HE1 := Lib.hid hE1; clear hE1) | (go_at_call 42; refine (HK.out _ HE1.out).mono ?_; rintro e w2 ⟨rfl, F', hL, hM⟩; have HL2 := Lib.hid (And.intro hL (hM.pre HE1.out)); clear hL hM) | (go_at_call 37; refine (HT.out _).mono ?_; rintro e w3 ⟨rfl, hE3⟩; have HE3 := Lib.hid hE3; obtain ⟨hb, ho, hc, hL3⟩ := HL2.out.1.ext hE3; have c107 := hL3.c107; clear hE3 hL3))
  go_ret2
  exact ⟨rfl, F', HL2.out.1.ext HE3.out, HL2.out.2.ext HE3.out⟩
end Go.Proofs.YtnkebhlkhpgghaaGreatDoor
/- The rule of XFree where one operation turns the world: what holds ahead of it, and behind it. Over any program. -/
namespace Go.Proofs.YtnkebhlkhpgghaaGreatDoor
open Go Go.RowKit

section
variable {P : Program} {ops : Array Oper} {Q : Exit → Act → World → Prop} {a0 : Act} {w0 : World}

theorem wpAny_once {md : Region.Mode} {R : World → World → Prop} (k : Nat) (hk : k < ops.size) (J : Bool → World → Prop) (hpl : freeB md ops a0.tmps.size = true) (A : Nat → Act → World → Prop)
    (stab : ∀ (i : Nat) (a : Act) (w w' : World), A i a w → R w w' → A i a w')
    (loc : ∀ (i j : Nat) (o : Oper) (a : Act) (w : World) (v : Value), ops[j]? = some o → i ≠ j → A i a w → A i (a.put o.dst v) w)
    (step : ∀ (i : Nat) (o : Oper) (a : Act) (w : World), ops[i]? = some o → Beside ops a0 a → (b : Bool) → (i = k → b = false) → J b w → (∀ e ∈ o.after, Region.binds md e = true → A e.on a w) → o.wp P a w (fun a' w' => ∃ v, a' = a.put o.dst v ∧ (R w w' ∧ J (b || decide (i = k)) w') ∧ A i a' w') Q)
    (fin : ∀ (a : Act) (w : World), Beside ops a0 a → J true w → (∀ i, i < ops.size → A i a w) → Q .normal a w) :
    ∀ (f : Nat) (listed : Array Bool) (a : Act) (w : World), listed.size = ops.size → unlisted listed = f → Beside ops a0 a → J (listed.getD k true) w → (∀ i, i < ops.size → listed.getD i true = true → A i a w) → wpAny P md ops Q f listed a w := by
  have hall := List.all_eq_true.1 hpl
  have opOk : ∀ (i : Nat) (o : Oper), ops[i]? = some o → o.guard = none ∧ (∀ e ∈ o.after, Region.binds md e = true → e.on < i) := by
    intro i o hi
    have hlt := (Array.getElem?_eq_some_iff.1 hi).1
    have h := hall i (List.mem_range.2 hlt)
    simp only [hi, Bool.and_eq_true] at h
    obtain ⟨⟨⟨h1, h2⟩, h3⟩, h4⟩ := h
    refine ⟨by simpa using h1, ?_⟩
    intro e he hbe
    have h3' := Array.all_eq_true'.1 h3
    have h4' := h3' e he
    rw [hbe] at h4'
    simpa using h4'
  -- some operation may come up, as long as one is left
  have some_ready : ∀ (listed : Array Bool), listed.size = ops.size → 0 < unlisted listed → Region.ready md ops listed ≠ [] := by
    intro listed hs hu
    have hex : ∃ i, listed.getD i true = false := by
      refine Classical.byContradiction fun hno => ?_
      have h1 : ∀ i, listed.getD i true = true := fun i => by
        cases h : listed.getD i true with
        | true => rfl
        | false => exact absurd ⟨i, h⟩ hno
      have h2 : unlisted listed = 0 := by
        unfold unlisted
        rw [List.length_eq_zero_iff, List.filter_eq_nil_iff]
        intro b hb
        obtain ⟨i, hi, rfl⟩ := List.mem_iff_getElem.1 hb
        have := h1 i
        simp at hi
        simpa [hi] using this
      omega
    have key : ∀ n i, i = n → listed.getD i true = false → ∃ j, j ∈ Region.ready md ops listed := by
      intro n
      induction n using Nat.strongRecOn with
      | _ n ih =>
        intro i hin hi
        subst hin
        have hlt : i < ops.size := by
          rcases Nat.lt_or_ge i ops.size with h | h
          · exact h
          · simp [Array.getElem?_eq_none (by omega : listed.size ≤ i)] at hi
        obtain ⟨o, ho⟩ : ∃ o, ops[i]? = some o := ⟨_, Array.getElem?_eq_getElem hlt⟩
        by_cases hd : ∀ e ∈ o.after, Region.binds md e = true → listed.getD e.on false = true
        · exact ⟨i, mem_ready.2 ⟨hi, o, ho, hd⟩⟩
        · have hd' : ∃ e ∈ o.after, Region.binds md e = true ∧ ¬ listed.getD e.on false = true := by
            refine Classical.byContradiction fun hno => hd fun e he hb => Classical.byContradiction fun hn => hno ⟨e, he, hb, hn⟩
          obtain ⟨e, he, hb, hl⟩ := hd'
          have hlt2 := (opOk i o ho).2 e he hb
          have : listed.getD e.on true = false := by
            have h5 : e.on < listed.size := by omega
            simp [h5] at hl ⊢
            exact hl
          exact ih e.on hlt2 e.on rfl this
    obtain ⟨i, hi⟩ := hex
    obtain ⟨j, hj⟩ := key i i rfl hi
    intro h0
    rw [h0] at hj
    cases hj
  intro f
  induction f with
  | zero =>
    intro listed a w hs hu hb he hA
    refine ⟨?_, fin a w hb (by rw [unlisted_zero hu k] at he; exact he) (fun i hi => hA i hi (unlisted_zero hu i))⟩
    refine List.eq_nil_iff_forall_not_mem.2 fun j hj => ?_
    have h1 := (mem_ready.1 hj).1
    have h2 := unlisted_zero hu j
    rw [h1] at h2
    cases h2
  | succ f ih =>
    intro listed a w hs hu hb he hA
    refine ⟨fun h0 => absurd h0 (some_ready listed hs (by omega)), fun i hi => ?_⟩
    obtain ⟨hun, o, ho, hdep⟩ := mem_ready.1 hi
    have hlt := (Array.getElem?_eq_some_iff.1 ho).1
    have hg := (opOk i o ho).1
    unfold wpOp
    simp only [ho, Region.wanted, hg, if_true]
    left
    refine Oper.wp_mono ?_ (step i o a w ho hb (listed.getD k true) (fun hik => by rw [← hik]; exact hun) he (fun e he' hbd => hA e.on ?_ ?_))
    · rintro a' w' ⟨v, rfl, ⟨hE, hJ⟩, hAi⟩
      refine ih _ _ _ (by simp [hs]) (by have := unlisted_set hun; omega) (hb.put ho v) (by
        by_cases hik : i = k
        · subst hik
          have h1 : (listed.setIfInBounds i true).getD i true = true := by simp [show i < listed.size from by rw [hs]; exact hlt]
          rw [h1]
          simpa using hJ
        · rw [getD_set_ne true hik]
          simpa [hik] using hJ) (fun j hj hl => ?_)
      by_cases hji : j = i
      · subst hji; exact hAi
      · refine loc j i o a w' v ho hji (stab j a w w' (hA j hj ?_) hE)
        rw [getD_set_ne true (fun e => hji e.symm)] at hl
        exact hl
    · have := (opOk i o ho).2 e he' hbd; omega
    · have h1 := hdep e he' hbd
      have h2 : e.on < listed.size := by have := (opOk i o ho).2 e he' hbd; omega
      simp [h2] at h1 ⊢
      exact h1
/-- **The rule.** -/
theorem wp_region_once {id : Nat} {w : World} {l : List Oper} (R : World → World → Prop) (k : Nat) (hk : k < l.length) (J : Bool → World → Prop) (J0 : J false w.drew) (hm : P.follows .mixedOrders = true) (hpl : freeB .any l.toArray a0.tmps.size = true) (B : Nat → Value → World → Prop)
    (stab : ∀ (i : Nat) (v : Value) (w w' : World), B i v w → R w w' → B i v w')
    (step : ∀ (i : Nat) (o : Oper) (a : Act) (w' : World), l[i]? = some o → Beside l.toArray a0 a → (b : Bool) → (i = k → b = false) → J b w' → (∀ e ∈ o.after, Region.binds .any e = true → B e.on (a.eval (.tmp (slotOf l.toArray e.on))) w') → o.wp P a w' (fun a' w'' => ∃ v, a' = a.put o.dst v ∧ (R w' w'' ∧ J (b || decide (i = k)) w'') ∧ ∀ u, (o.dst = none ∨ u = v) → B i u w'') Q)
    (fin : ∀ (a : Act) (w' : World), Beside l.toArray a0 a → J true w' → (∀ i, i < l.length → B i (a.eval (.tmp (slotOf l.toArray i))) w') → Q .normal a w') : (Code.region id l.toArray true).wp P Q a0 w := by
  have hall := List.all_eq_true.1 hpl
  have hsl : ∀ (i : Nat) (o : Oper), l[i]? = some o → slotOf l.toArray i = o.dst.getD 0 := fun i o h => by simp only [slotOf, List.getElem?_toArray, h, Option.bind_some]
  refine wp_region_any hm (wpAny_once (R := R) (k := k) (hk := by simpa using hk) (J := J) hpl (fun i a w => ∀ o, l[i]? = some o → ∀ u, (o.dst = none ∨ u = a.eval (.tmp (slotOf l.toArray i))) → B i u w) (fun i a w w' h e o ho u hu => stab i _ w w' (h o ho u hu) e) ?_ ?_
    (fun a w' hb he h => fin a w' hb he (fun i hi => h i (by simpa using hi) l[i] (by simp [hi]) _ (.inr rfl))) _ _ _ _ (by simp) ?_ ⟨rfl, rfl, fun _ _ => rfl⟩ (by rw [show (Array.replicate l.toArray.size false).getD k true = false from by simp [hk]]; exact J0) ?_)
  · intro i j o a w v hj hij h oi hoi u hu
    refine h oi hoi u ?_
    rcases hu with hu | hu
    · exact .inl hu
    · cases hd : oi.dst with
      | none => exact .inl rfl
      | some d =>
        have hi := (List.getElem?_eq_some_iff.1 hoi).1
        have h1 := hall i (List.mem_range.2 (by simpa using hi))
        simp only [List.getElem?_toArray, hoi, Bool.and_eq_true] at h1
        have h2 := h1.2
        have hjl := (Array.getElem?_eq_some_iff.1 hj).1
        have h3 := List.all_eq_true.1 h2 j (List.mem_range.2 hjl)
        rw [List.getElem?_toArray] at hj
        simp only [List.getElem?_toArray, hj, Bool.or_eq_true, decide_eq_true_eq, hd, Option.isNone_some] at h3
        have hne : o.dst ≠ some d := by
          rcases h3 with h3 | h3 | h3
          · exact absurd h3 hij
          · simpa using h3
          · cases h3
        rw [hsl i oi hoi, hd, Option.getD_some] at hu ⊢
        right
        rw [hu]
        cases ho : o.dst with
        | none => rfl
        | some d' => exact put_off v (fun e => hne (by rw [ho, e]))
  · intro i o a w' hi hb bb hbb he hdep
    have hi' : l[i]? = some o := by simpa using hi
    have hlt := (List.getElem?_eq_some_iff.1 hi').1
    have h1 := hall i (List.mem_range.2 (by simpa using hlt))
    simp only [hi, Bool.and_eq_true] at h1
    have haf := Array.all_eq_true'.1 h1.1.2
    refine Oper.wp_mono ?_ (step i o a w' hi' hb bb hbb he (fun e h2 h3 => hdep e h2 h3 (l[e.on]'(by have := haf e h2; rw [h3] at this; simp at this; omega)) (by simp) _ (.inr rfl)))
    rintro a' w'' ⟨v, rfl, hE, hB⟩
    refine ⟨v, rfl, hE, fun o' ho' u hu => hB u ?_⟩
    obtain rfl : o = o' := Option.some.inj (hi'.symm.trans ho')
    cases hd : o.dst with
    | none => exact .inl rfl
    | some d =>
      right
      have h5 := h1.1.1.2
      rw [hd] at h5
      rw [hsl i o hi', hd, Option.getD_some, put_at v (by rw [hb.size]; simpa using h5)] at hu
      simpa [hd] using hu
  · simp [unlisted]
  · intro i hi hl
    simp at hi
    simp [hi] at hl
/-- A step that yields a value, ahead of the one or behind it. -/
theorem once_val {R : World → World → Prop} {J : Bool → World → Prop} {b : Bool} {i k : Nat} {o : Oper} {a : Act} {w : World} {B : Value → World → Prop} (v : Value) (w' : World) (hr : (execOp a.eval o).run P w = .ok (.value v) w') (hE : R w w') (hJ : J b w') (hik : decide (i = k) = false) (hB : B v w') (hd : o.dst ≠ none) :
    o.wp P a w (fun a' w'' => ∃ v, a' = a.put o.dst v ∧ (R w w'' ∧ J (b || decide (i = k)) w'') ∧ ∀ u, (o.dst = none ∨ u = v) → B u w'') Q := by
  unfold Oper.wp
  rw [hr]
  exact ⟨v, rfl, ⟨hE, by rw [hik]; simpa using hJ⟩, fun u hu => by rcases hu with h | rfl; exact absurd h hd; exact hB⟩
theorem once_call {R : World → World → Prop} {J : Bool → World → Prop} {b : Bool} {i k : Nat} {o : Oper} {a : Act} {w : World} {B : Value → World → Prop} (f : FuncId) (args : Array Value) (hr : (execOp a.eval o).run P w = .ok (.enter f args) w) (hc : Calls P f args w fun e w' => ∃ v, e = .returned v ∧ (R w w' ∧ J (b || decide (i = k)) w') ∧ B v w') (hd : o.dst ≠ none) :
    o.wp P a w (fun a' w'' => ∃ v, a' = a.put o.dst v ∧ (R w w'' ∧ J (b || decide (i = k)) w'') ∧ ∀ u, (o.dst = none ∨ u = v) → B u w'') Q := by
  unfold Oper.wp
  rw [hr]
  refine hc.mono ?_
  rintro e w' ⟨v, rfl, hE, hB⟩
  exact ⟨v, rfl, hE, fun u hu => by rcases hu with h | rfl; exact absurd h hd; exact hB⟩
end
end Go.Proofs.YtnkebhlkhpgghaaGreatDoor
/- seglog: Append: the walk. -/
namespace Go.Proofs.YtnkebhlkhpgghaaGreatDoor
open Go Go.RowKit Go.Deep Go.Sort

def Lg.put (m : Lg) (l : List Ev) (t : Bytes) : Lg := { (m.room t.length).lay t with stop := (m.room t.length).stop + t.length, sum := sha t, next := IntKind.u64.wrap (IntKind.u64.wrap (IntKind.u64.wrap (seqOf l + IntKind.u64.wrap l.length) - 1) + 1) }
def Lg.append (m : Lg) (l : List Ev) : Int × Lg :=
  if btIs (seqOf l) l = false then (1, m) else if seqOf l ≠ m.next then (1, m) else
  if m.per * m.k.size - 64 < (btText (seqOf l) l m.sum).length then (2, m) else (0, m.put l (btText (seqOf l) l m.sum))
theorem Ext.alloc2 {a w : World} (h : Ext a w) (o o' : Obj) : Ext a ((w.alloc o).alloc o') := (h.alloc o).alloc o'
theorem sum_range {F : Nat → Prop} {w : World} {g d : Nat} {m : Lg} {hb ho hc : Nat} (h : LogB F w g d m hb ho hc) : w.rangeAt g 75 (bcells m.sum) := by
  have h1 := h.blk
  have h2 := Blk.rangeAt (A := lgA d m ++ m.x.cells ++ [.slice (some ⟨hb, ho, none⟩) m.heads.length hc, .int .i64 m.stop]) (B := bcells m.sum) (C := lgE m) (by simpa [lgCells] using h1)
  have h3 : (lgA d m ++ m.x.cells ++ [Value.slice (some ⟨hb, ho, none⟩) m.heads.length hc, Value.int .i64 m.stop]).length = 75 := by simp [lgA, Sp.cells_length h.ok.x]
  rw [h3] at h2
  exact h2
set_option maxRecDepth 8000 in
set_option maxHeartbeats 3200000 in
theorem logAppendNo_any {F : Nat → Prop} {g d : Nat} {m : Lg} (v : Value) (l : List Ev) (w : World) (h : Log F w g d m) (hR : Rd w 6 Ev.cells v l) (hl : l.length ≤ 1000000) (hin : ∀ x ∈ l, x.In) (hb : btIs (seqOf l) l = false) :
    Calls Tryz.prog 13 #[.pointer (some ⟨g, 0, none⟩), v] w (DidL F w g d (.int .i64 1) m) := by
  have HS := Lib.hid (fun w' (e : Ext w w') => shut_any w' (h.ext e))
  have HLK := Lib.hid (fun w' (e : Ext w w') => (link_any m.sum v l w' (hR.ext e) hl hin h.ok.sum).mono (fun e w2 hh => by
    obtain ⟨hE, h1 | h1⟩ := hh
    · rw [hb] at h1; cases h1.1
    · exact (show e = .returned (.tuple #[.agg bt0, .string (bs []), .int .i64 1]) ∧ Ext w' w2 from ⟨h1.2, hE⟩)))
  have HL := Lib.hid h
  obtain ⟨hb', ho, hc, h⟩ := h
  have HH := Lib.hid h
  have HDI := Lib.hid (show (Tryz.prog.info? 40).map (·.size) = some (bcells m.sum).length from by rw [show (bcells m.sum).length = 32 from by simp [bcells, h.ok.sum]]; kernel_rfl)
  obtain ⟨A0, c0, hv, _⟩ := hR
  clear h hl hin hb
  obtain ⟨w1, hw1⟩ : ∃ w1, w1 = w.alloc (.cells #[.pointer (some ⟨g, 0, none⟩)] 30) := ⟨_, rfl⟩
  have HE1 := Lib.hid (show Ext w w1 from by rw [hw1]; exact (Ext.refl w).alloc _)
  have HBb := Lib.hid (show Blk w1 w.heap.size 30 #[.pointer (some ⟨g, 0, none⟩)] from by rw [hw1]; exact Blk.new _ _ _)
  have cb1 : w1.cell? ⟨w.heap.size, 0, none⟩ = some (.pointer (some ⟨g, 0, none⟩)) := HBb.out.cell 0
  have HSZ := Lib.hid (show (Tryz.prog.info? 83).map (·.size) = some 34 from by kernel_rfl)
  have hal := fun W => alloc_bt W
  subst hv
  go_enter Tryz.func13, Tryz.ntmps13
  go_wp2_with (first | (have hs := cb1; rw [← hw1]; clear hw1) | (go_at_call 32; refine (HS.out _ HE1.out).mono ?_; rintro e w2 ⟨rfl, hE2⟩; have HE2 := Lib.hid (HE1.out.trans hE2); have cb2 := hE2.cell_some cb1; clear hE2) | (have hg := HE2; refine wpList_load_mid rfl 40 (.tmp 19) rfl g 75 rfl (bcells m.sum) _ (sum_range (HH.out.ext HE2.out)) Tryz.underlying40 rfl HDI.out ?_) | (go_at_call 33; refine (HLK.out _ HE2.out).mono ?_; rintro e w3 ⟨rfl, hE3⟩; have HE3 := Lib.hid (HE2.out.trans hE3); clear hE3) | (have hg := HE3; refine wpList_store_blk rfl 83 (.tmp 6) (.tmp 23) rfl w3.heap.size 83 zc34 zc34 rfl rfl (show Blk _ _ _ zc34.toArray from (Blk.new _ _ _).alloc _) rfl HSZ.out (by decide) ?_; intro w4 hB4 hK4; have HE4 := Lib.hid ((HE3.out.alloc2 _ _).keep hK4 (fun i hi => by have h1 := HE3.out.size; have h2 : i = w3.heap.size := hi; omega)); have hB7 := Blk.keep (Blk.new' (by simp) : Blk ((w3.alloc (.cells bt0 83)).alloc (.cells #[.string (bs [])] 9)) (w3.heap.size + 1) 9 #[.string (bs [])]) hK4 (by simp [One]); have c7 := hB7.cell 0; have cf7 := hB7.frozen 0; simp at c7 cf7; clear hB4 hK4 hB7))
  go_ret
  have hE := HE4.out.setCell (p := ⟨w3.heap.size + 1, 0, none⟩) (show w.heap.size ≤ w3.heap.size + 1 from by have := HE3.out.size; omega) (.string (bs []))
  exact ⟨rfl, F, HL.out.ext hE, Moves.of_ext hE⟩
/-- What the operations of Append's region of the length leave. -/
def a9B (g : Nat) (z : ByteArray) (b q : Int) : Nat → Value → World → Prop
  | 0, u, _ => u = .string z
  | 1, u, _ => u = .int .i64 b
  | 2, u, _ => u = .pointer (some ⟨g, 0, none⟩)
  | 3, u, _ => u = .int .i64 q
  | 4, u, _ => u = .int .i64 (q - 64)
  | _, u, _ => u = .bool (decide (q - 64 < b))
theorem a9B_stab (g : Nat) (z : ByteArray) (b q : Int) (i : Nat) (u : Value) (w w' : World) (hB : a9B g z b q i u w) (e : Ext w w') : a9B g z b q i u w' := by
  rcases i with _ | _ | _ | _ | _ | i <;> simp only [a9B] at hB ⊢ <;> exact hB
set_option maxRecDepth 8000 in
set_option maxHeartbeats 3200000 in
theorem logAppendSeq_any {F : Nat → Prop} {g d : Nat} {m : Lg} (v : Value) (l : List Ev) (w : World) (h : Log F w g d m) (hR : Rd w 6 Ev.cells v l) (hl : l.length ≤ 1000000) (hin : ∀ x ∈ l, x.In) (hb : btIs (seqOf l) l = true) (hn : seqOf l ≠ m.next) :
    Calls Tryz.prog 13 #[.pointer (some ⟨g, 0, none⟩), v] w (DidL F w g d (.int .i64 1) m) := by
  have HS := Lib.hid (fun w' (e : Ext w w') => shut_any w' (h.ext e))
  have HL := Lib.hid h
  obtain ⟨hb', ho, hc, h⟩ := h
  have HH := Lib.hid h
  have hsl := h.ok.sum
  have HLK := Lib.hid (fun w' (e : Ext w w') => (link_any m.sum v l w' (hR.ext e) hl hin hsl).mono (fun e w2 hh => by
    obtain ⟨hE, h1 | h1⟩ := hh
    · exact (show Ext w' w2 ∧ ∃ A c, e = .returned (.tuple #[.agg (btCells (seqOf l) (.slice A l.length c) m.sum).toArray, .string (bs (btText (seqOf l) l m.sum)), .int .i64 0]) from ⟨hE, h1.2⟩)
    · rw [hb] at h1; cases h1.1))
  have HDI := Lib.hid (show (Tryz.prog.info? 40).map (·.size) = some (bcells m.sum).length from by rw [show (bcells m.sum).length = 32 from by simp [bcells, h.ok.sum]]; kernel_rfl)
  have HSU := Lib.hid hsl
  have HBL := Lib.hid (show ∀ f A c, (btCells f (.slice A l.length c) m.sum).length = 34 from fun f A c => btCells_length _ _ hsl)
  obtain ⟨A0, c0, hv, _⟩ := hR
  clear h hin hb hsl
  obtain ⟨w1, hw1⟩ : ∃ w1, w1 = w.alloc (.cells #[.pointer (some ⟨g, 0, none⟩)] 30) := ⟨_, rfl⟩
  have HE1 := Lib.hid (show Ext w w1 from by rw [hw1]; exact (Ext.refl w).alloc _)
  have HBb := Lib.hid (show Blk w1 w.heap.size 30 #[.pointer (some ⟨g, 0, none⟩)] from by rw [hw1]; exact Blk.new _ _ _)
  have cb1 : w1.cell? ⟨w.heap.size, 0, none⟩ = some (.pointer (some ⟨g, 0, none⟩)) := HBb.out.cell 0
  have HSZ := Lib.hid (show (Tryz.prog.info? 83).map (·.size) = some 34 from by kernel_rfl)
  have hal := fun W => alloc_bt W
  subst hv
  have hzb : ((bs (btText (seqOf l) l m.sum)).size : Int) = ((btText (seqOf l) l m.sum).length : Int) := by rw [bs_size]
  generalize hbt : btText (seqOf l) l m.sum = T at *
  generalize hbz : bs T = z at *
  have HBZ := Lib.hid (And.intro hbt hbz)
  clear hbt hbz
  have HSQ := Lib.hid (show seqOf l = seqOf l from rfl)
  generalize hsq : seqOf l = sq at *
  have HSQ2 := Lib.hid hsq
  clear hsq
  go_enter Tryz.func13, Tryz.ntmps13
  go_wp2_with (first | (have hs := cb1; rw [← hw1]; clear hw1) | (go_at_call 32; refine (HS.out _ HE1.out).mono ?_; rintro e w2 ⟨rfl, hE2⟩; have HE2 := Lib.hid (HE1.out.trans hE2); have cb2 := hE2.cell_some cb1; have HBb2 := Lib.hid (HBb.out.ext hE2); clear hE2) | (have hg := HE2; refine wpList_load_mid rfl 40 (.tmp 19) rfl g 75 rfl (bcells m.sum) _ (sum_range (HH.out.ext HE2.out)) Tryz.underlying40 rfl HDI.out ?_) | (go_at_call 33; refine (HLK.out _ HE2.out).mono ?_; rintro e w3 ⟨hE3, A, c, rfl⟩; have HE3 := Lib.hid (HE2.out.trans hE3); have HBb3 := Lib.hid (HBb2.out.ext hE3); clear hE3) | (have hg := HE3; refine wpList_store_blk rfl 83 (.tmp 6) (.tmp 23) rfl w3.heap.size 83 zc34 (btCells sq (.slice A l.length c) m.sum) rfl rfl (show Blk _ _ _ zc34.toArray from (Blk.new _ _ _).alloc _) (HBL.out _ _ _).symm (by rw [HBL.out]; exact HSZ.out) (bt_one _ _ _ rfl) ?_; intro w4 hB4 hK4; have HE4 := Lib.hid ((HE3.out.alloc2 _ _).keep hK4 (fun i hi => by have h1 := HE3.out.size; have h2 : i = w3.heap.size := hi; omega)); have hB7 := Blk.keep (Blk.new' (by simp) : Blk ((w3.alloc (.cells bt0 83)).alloc (.cells #[.string (bs [])] 9)) (w3.heap.size + 1) 9 #[.string (bs [])]) hK4 (by simp [One]); have c7 := hB7.cell 0; have cf7 := hB7.frozen 0; simp at c7 cf7; have HB4 := Lib.hid hB4; have HBb4 := Lib.hid (((HBb3.out.alloc _).alloc _).keep hK4 (by have h1 := HBb3.out.lt; simp [One]; omega)); obtain ⟨w5, hw5⟩ : ∃ w5, w5 = w4.setCell ⟨w3.heap.size + 1, 0, none⟩ (.string z) := ⟨_, rfl⟩; have HT5 := Lib.hid (show Blk w5 (w3.heap.size + 1) 9 #[.string z] from by rw [hw5]; exact hB7.set 0 _); have HB5 := Lib.hid (show Blk w5 w3.heap.size 83 (btCells sq (.slice A l.length c) m.sum).toArray from by rw [hw5]; exact hB4.far (by simp) _); have HBb5 := Lib.hid (show Blk w5 w.heap.size 30 #[.pointer (some ⟨g, 0, none⟩)] from by rw [hw5]; exact HBb4.out.far (by have h1 := HBb3.out.lt; simp; omega) _); have HE5 := Lib.hid (show Ext w w5 from by rw [hw5]; exact HE4.out.setCell (p := ⟨w3.heap.size + 1, 0, none⟩) (show w.heap.size ≤ w3.heap.size + 1 from by have := HE3.out.size; omega) _); have d0 : w5.cell? ⟨w3.heap.size, 0, none⟩ = some (.int .u64 sq) := HB5.out.cell 0; have d7 : w5.cell? ⟨w3.heap.size + 1, 0, none⟩ = some (.string z) := HT5.out.cell 0; have db : w5.cell? ⟨w.heap.size, 0, none⟩ = some (.pointer (some ⟨g, 0, none⟩)) := HBb5.out.cell 0; have d107 := (HH.out.ext HE5.out).c107; clear hB4 hK4 hB7) | (have hg := HT5; rw [← hw5]; clear hw5))
  have hbn : (sq != m.next) = true := by simpa using hn
  clear hn
  go_quiet (fail)
  go_wp2_with fail
  go_ret
  exact ⟨rfl, F, HL.out.ext (HE5.out.drewN _), Moves.of_ext (HE5.out.drewN _)⟩
set_option maxRecDepth 8000 in
set_option maxHeartbeats 3200000 in
theorem logAppendLong_any {F : Nat → Prop} {g d : Nat} {m : Lg} (v : Value) (l : List Ev) (w : World) (h : Log F w g d m) (hR : Rd w 6 Ev.cells v l) (hl : l.length ≤ 1000000) (hin : ∀ x ∈ l, x.In) (hb : btIs (seqOf l) l = true) (hn : seqOf l = m.next) (hlong : m.per * m.k.size - 64 < (btText (seqOf l) l m.sum).length) :
    Calls Tryz.prog 13 #[.pointer (some ⟨g, 0, none⟩), v] w (DidL F w g d (.int .i64 2) m) := by
  have HS := Lib.hid (fun w' (e : Ext w w') => shut_any w' (h.ext e))
  have HBY := Lib.hid (fun w' (e : Ext w w') => logBytes_any w' (h.ext e))
  have HL := Lib.hid h
  have HNN := Lib.hid hn
  have HLG := Lib.hid hlong
  clear hn hlong
  obtain ⟨hb', ho, hc, h⟩ := h
  have HH := Lib.hid h
  have hsl := h.ok.sum
  have HLK := Lib.hid (fun w' (e : Ext w w') => (link_any m.sum v l w' (hR.ext e) hl hin hsl).mono (fun e w2 hh => by
    obtain ⟨hE, h1 | h1⟩ := hh
    · exact (show Ext w' w2 ∧ ∃ A c, e = .returned (.tuple #[.agg (btCells (seqOf l) (.slice A l.length c) m.sum).toArray, .string (bs (btText (seqOf l) l m.sum)), .int .i64 0]) from ⟨hE, h1.2⟩)
    · rw [hb] at h1; cases h1.1))
  have HDI := Lib.hid (show (Tryz.prog.info? 40).map (·.size) = some (bcells m.sum).length from by rw [show (bcells m.sum).length = 32 from by simp [bcells, h.ok.sum]]; kernel_rfl)
  have HSU := Lib.hid hsl
  have HBL := Lib.hid (show ∀ f A c, (btCells f (.slice A l.length c) m.sum).length = 34 from fun f A c => btCells_length _ _ hsl)
  obtain ⟨A0, c0, hv, _⟩ := hR
  clear h hin hb hsl
  obtain ⟨w1, hw1⟩ : ∃ w1, w1 = w.alloc (.cells #[.pointer (some ⟨g, 0, none⟩)] 30) := ⟨_, rfl⟩
  have HE1 := Lib.hid (show Ext w w1 from by rw [hw1]; exact (Ext.refl w).alloc _)
  have HBb := Lib.hid (show Blk w1 w.heap.size 30 #[.pointer (some ⟨g, 0, none⟩)] from by rw [hw1]; exact Blk.new _ _ _)
  have cb1 : w1.cell? ⟨w.heap.size, 0, none⟩ = some (.pointer (some ⟨g, 0, none⟩)) := HBb.out.cell 0
  have HSZ := Lib.hid (show (Tryz.prog.info? 83).map (·.size) = some 34 from by kernel_rfl)
  have hal := fun W => alloc_bt W
  subst hv
  have hzb : ((bs (btText (seqOf l) l m.sum)).size : Int) = ((btText (seqOf l) l m.sum).length : Int) := by rw [bs_size]
  generalize hbt : btText (seqOf l) l m.sum = T at *
  generalize hbz : bs T = z at *
  have HBZ := Lib.hid (And.intro hbt hbz)
  clear hbt hbz
  have HSQ := Lib.hid (show seqOf l = seqOf l from rfl)
  generalize hsq : seqOf l = sq at *
  have HSQ2 := Lib.hid hsq
  clear hsq
  go_enter Tryz.func13, Tryz.ntmps13
  go_wp2_with (first | (have hs := cb1; rw [← hw1]; clear hw1) | (go_at_call 32; refine (HS.out _ HE1.out).mono ?_; rintro e w2 ⟨rfl, hE2⟩; have HE2 := Lib.hid (HE1.out.trans hE2); have cb2 := hE2.cell_some cb1; have HBb2 := Lib.hid (HBb.out.ext hE2); clear hE2) | (have hg := HE2; refine wpList_load_mid rfl 40 (.tmp 19) rfl g 75 rfl (bcells m.sum) _ (sum_range (HH.out.ext HE2.out)) Tryz.underlying40 rfl HDI.out ?_) | (go_at_call 33; refine (HLK.out _ HE2.out).mono ?_; rintro e w3 ⟨hE3, A, c, rfl⟩; have HE3 := Lib.hid (HE2.out.trans hE3); have HBb3 := Lib.hid (HBb2.out.ext hE3); clear hE3) | (have hg := HE3; refine wpList_store_blk rfl 83 (.tmp 6) (.tmp 23) rfl w3.heap.size 83 zc34 (btCells sq (.slice A l.length c) m.sum) rfl rfl (show Blk _ _ _ zc34.toArray from (Blk.new _ _ _).alloc _) (HBL.out _ _ _).symm (by rw [HBL.out]; exact HSZ.out) (bt_one _ _ _ rfl) ?_; intro w4 hB4 hK4; have HE4 := Lib.hid ((HE3.out.alloc2 _ _).keep hK4 (fun i hi => by have h1 := HE3.out.size; have h2 : i = w3.heap.size := hi; omega)); have hB7 := Blk.keep (Blk.new' (by simp) : Blk ((w3.alloc (.cells bt0 83)).alloc (.cells #[.string (bs [])] 9)) (w3.heap.size + 1) 9 #[.string (bs [])]) hK4 (by simp [One]); have c7 := hB7.cell 0; have cf7 := hB7.frozen 0; simp at c7 cf7; have HB4 := Lib.hid hB4; have HBb4 := Lib.hid (((HBb3.out.alloc _).alloc _).keep hK4 (by have h1 := HBb3.out.lt; simp [One]; omega)); obtain ⟨w5, hw5⟩ : ∃ w5, w5 = w4.setCell ⟨w3.heap.size + 1, 0, none⟩ (.string z) := ⟨_, rfl⟩; have HT5 := Lib.hid (show Blk w5 (w3.heap.size + 1) 9 #[.string z] from by rw [hw5]; exact hB7.set 0 _); have HB5 := Lib.hid (show Blk w5 w3.heap.size 83 (btCells sq (.slice A l.length c) m.sum).toArray from by rw [hw5]; exact hB4.far (by simp) _); have HBb5 := Lib.hid (show Blk w5 w.heap.size 30 #[.pointer (some ⟨g, 0, none⟩)] from by rw [hw5]; exact HBb4.out.far (by have h1 := HBb3.out.lt; simp; omega) _); have HE5 := Lib.hid (show Ext w w5 from by rw [hw5]; exact HE4.out.setCell (p := ⟨w3.heap.size + 1, 0, none⟩) (show w.heap.size ≤ w3.heap.size + 1 from by have := HE3.out.size; omega) _); have d0 : w5.cell? ⟨w3.heap.size, 0, none⟩ = some (.int .u64 sq) := HB5.out.cell 0; have d7 : w5.cell? ⟨w3.heap.size + 1, 0, none⟩ = some (.string z) := HT5.out.cell 0; have db : w5.cell? ⟨w.heap.size, 0, none⟩ = some (.pointer (some ⟨g, 0, none⟩)) := HBb5.out.cell 0; have d107 := (HH.out.ext HE5.out).c107; clear hB4 hK4 hB7) | (have hg := HT5; rw [← hw5]; clear hw5))
  have hbn : (sq != m.next) = false := by simp [HNN.out]
  go_quiet (fail)
  go_wp2_with fail
  obtain ⟨w6, hw6⟩ : ∃ w6, w6 = w5.drewN nq := ⟨_, rfl⟩
  have HE6 := Lib.hid (show Ext w w6 from by rw [hw6]; exact HE5.out.drewN _)
  have HT6 := Lib.hid (show Blk w6 (w3.heap.size + 1) 9 #[.string z] from by rw [hw6]; exact HT5.out.drewN _)
  have HB6 := Lib.hid (show Blk w6 w3.heap.size 83 (btCells sq (.slice A l.length c) m.sum).toArray from by rw [hw6]; exact HB5.out.drewN _)
  have HBb6 := Lib.hid (show Blk w6 w.heap.size 30 #[.pointer (some ⟨g, 0, none⟩)] from by rw [hw6]; exact HBb5.out.drewN _)
  rw [← hw6]
  clear hw6 hbn d0 d7 db d107 c7 cf7
  have he2 := HH.out.ok.e2
  have hcap := HH.out.ok.cap
  have HQ := Lib.hid (show m.per * m.k.size = m.per * m.k.size from rfl)
  generalize hq : m.per * m.k.size = q at *
  have HQ2 := Lib.hid hq
  clear hq
  have hq64 : IntKind.i64.wrap ((q : Int) - 64) = (q : Int) - 64 := IntWalk.i64_in _ (by omega)
  refine wp_region_free Ext ((Ext.refl _).drew) Ext.trans (by kernel_rfl) (by kernel_rfl) (a9B g z T.length q) (a9B_stab g z T.length q) ?_ ?_
  · intro i o a w' hi hbs he hd
    have e2 : a.eval (.tmp 2) = .pointer (some ⟨w.heap.size, 0, none⟩) := hbs.outer 2 (by kernel_rfl)
    have e7 : a.eval (.tmp 7) = .pointer (some ⟨w3.heap.size + 1, 0, none⟩) := hbs.outer 7 (by kernel_rfl)
    have cT : w'.cell? ⟨w3.heap.size + 1, 0, none⟩ = some (.string z) := he.cell_some (HT6.out.cell 0)
    have cb : w'.cell? ⟨w.heap.size, 0, none⟩ = some (.pointer (some ⟨g, 0, none⟩)) := he.cell_some (HBb6.out.cell 0)
    rcases i with _ | _ | _ | _ | _ | _ | i
    · obtain rfl := Option.some.inj hi
      refine free_val (.string z) w' ?_ (Ext.refl _) rfl (by simp)
      have ec : ∀ v, a.eval (.const v) = v := fun _ => rfl
      generalize a.eval = ρ at *
      simp [go_sem, ec, e7, cT]
    · obtain rfl := Option.some.inj hi
      have h36 : a.eval (.tmp 36) = _ := hd ⟨0, .data⟩ (by simp) rfl
      refine free_val (.int .i64 (T.length : Int)) w' ?_ (Ext.refl _) rfl (by simp)
      have ec : ∀ v, a.eval (.const v) = v := fun _ => rfl
      generalize a.eval = ρ at *
      simp [go_sem, h36, ec, hzb]
    · obtain rfl := Option.some.inj hi
      refine free_val (.pointer (some ⟨g, 0, none⟩)) w' ?_ (Ext.refl _) rfl (by simp)
      have ec : ∀ v, a.eval (.const v) = v := fun _ => rfl
      generalize a.eval = ρ at *
      simp [go_sem, ec, e2, cb]
    · obtain rfl := Option.some.inj hi
      have h38 : a.eval (.tmp 38) = _ := hd ⟨2, .data⟩ (by simp) rfl
      refine free_call 34 #[.pointer (some ⟨g, 0, none⟩)] ?_ ((HBY.out w' (HE6.out.trans he)).mono (fun e w2 h => ⟨_, h.1, h.2, rfl⟩)) (by simp)
      have ec : ∀ v, a.eval (.const v) = v := fun _ => rfl
      have ef : ∀ f, a.eval (.func f) = .func (.func f) #[] #[] := fun _ => rfl
      generalize a.eval = ρ at *
      simp [go_sem, ef, ec, h38]
    · obtain rfl := Option.some.inj hi
      have h39 : a.eval (.tmp 39) = _ := hd ⟨3, .data⟩ (by simp) rfl
      refine free_val (.int .i64 ((q : Int) - 64)) w' ?_ (Ext.refl _) rfl (by simp)
      have ec : ∀ v, a.eval (.const v) = v := fun _ => rfl
      generalize a.eval = ρ at *
      simp [go_sem, h39, ec, hq64]
    · obtain rfl := Option.some.inj hi
      have h37 : a.eval (.tmp 37) = _ := hd ⟨1, .data⟩ (by simp) rfl
      have h40 : a.eval (.tmp 40) = _ := hd ⟨4, .data⟩ (by simp) rfl
      refine free_val (.bool (decide ((q : Int) - 64 < (T.length : Int)))) w' ?_ (Ext.refl _) rfl (by simp)
      have ec : ∀ v, a.eval (.const v) = v := fun _ => rfl
      generalize a.eval = ρ at *
      simp [go_sem, h37, h40, ec]
    · cases hi
  · intro a w7 hbs hE7 hA
    have h41 : a.eval (.tmp 41) = .bool (decide ((q : Int) - 64 < T.length)) := hA 5 (by decide)
    have g2 : a.eval (.tmp 2) = .pointer (some ⟨w.heap.size, 0, none⟩) := hbs.outer 2 (by kernel_rfl)
    have g4 : a.eval (.tmp 4) = .int .i64 0 := hbs.outer 4 (by kernel_rfl)
    have g6 : a.eval (.tmp 6) = .pointer (some ⟨w3.heap.size, 0, none⟩) := hbs.outer 6 (by kernel_rfl)
    have g7 : a.eval (.tmp 7) = .pointer (some ⟨w3.heap.size + 1, 0, none⟩) := hbs.outer 7 (by kernel_rfl)
    rw [act_lit (n := 72) hbs.size, hbs.defers]
    simp only [show List.range 72 = [0, 1, 2, 3, 4, 5, 6, 7, 8, 9, 10, 11, 12, 13, 14, 15, 16, 17, 18, 19, 20, 21, 22, 23, 24, 25, 26, 27, 28, 29, 30, 31, 32, 33, 34, 35, 36, 37, 38, 39, 40, 41, 42, 43, 44, 45, 46, 47, 48, 49, 50, 51, 52, 53, 54, 55, 56, 57, 58, 59, 60, 61, 62, 63, 64, 65, 66, 67, 68, 69, 70, 71] from rfl, List.map_cons, List.map_nil, g2, g4, g6, g7, h41]
    have HE7 := Lib.hid (HE6.out.trans hE7)
    have HT7 := Lib.hid (HT6.out.ext hE7)
    have HB7 := Lib.hid (HB6.out.ext hE7)
    have HBb7 := Lib.hid (HBb6.out.ext hE7)
    clear hA g2 g4 g6 g7 h41 hbs hE7
    generalize a.eval = ρ
    have hd : decide ((q : Int) - 64 < T.length) = true := decide_eq_true (by have := HLG.out; omega)
    rw [hd]
    clear hd
    go_wp2_with fail
    go_ret
    exact ⟨rfl, F, HL.out.ext HE7.out, Moves.of_ext HE7.out⟩
end Go.Proofs.YtnkebhlkhpgghaaGreatDoor
