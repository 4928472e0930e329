/- Part of a proof: the walks of the functions, and their plain laws: Log7, Log8, Aux, Log9, Log10. -/
import Derived.Test.YtnkebhlkhpgghaaGreatDoorPart6
import Derived.Great.Walk
import Derived.ArgAppend
set_option linter.unusedVariables false
set_option linter.unusedSimpArgs false

/- seglog: inOrder over a log; keep's parts. -/
namespace Go.Proofs.YtnkebhlkhpgghaaGreatDoor
open Go Go.RowKit Go.Deep Go.Sort

/-- Steps that all go well, each of which turns the log. -/
theorem inOrderL_any {F : Nat → Prop} {g d : Nat} (b cap : Nat) (cs : List Clo) (ms : Nat → Lg) (w : World) (hB : Blk w b 73 (cs.map Clo.v).toArray) (hb : ¬ Fg F g b) (hL : Log F w g d (ms 0))
    (hstep : ∀ (i : Nat) (c : Clo) (F' : Nat → Prop) (w' : World), cs[i]? = some c → Log F' w' g d (ms i) → Moves (Fg F g) w (Fg F' g) w' → Calls Tryz.prog c.f (c.bound ++ c.free) w' (DidL F' w' g d (.int .i64 0) (ms (i + 1))))
    (hen : ∀ (i : Nat) (c : Clo) (w : World), cs[i]? = some c → (callFunc c.f (c.bound ++ c.free)).run Tryz.prog w = .ok (.enter c.f (c.bound ++ c.free)) w) (hn : cs.length ≤ 1000) (hc : cs.length ≤ cap) (hc2 : cap ≤ 140737488355328) :
    Calls Tryz.prog 21 #[.slice (some ⟨b, 0, none⟩) cs.length cap] w (DidL F w g d (.int .i64 0) (ms cs.length)) := by
  refine (inOrder_any b 0 cap cs (fun i w' => ∃ F', Log F' w' g d (ms i) ∧ Moves (Fg F g) w (Fg F' g) w') w ?_ ?_ hen ⟨F, hL, Moves.refl _ _⟩ hn hc hc2).mono ?_
  · rintro i w' ⟨F', _, hM⟩ j c hj
    have := (hB.keep hM.1 hb).cell j
    rw [Nat.zero_add, this]
    simp [hj]
  · rintro i w' c ⟨F', hL', hM⟩ hc
    refine (hstep i c F' w' hc hL' hM).mono ?_
    rintro e w2 ⟨rfl, F'', hL2, hM2⟩
    exact ⟨rfl, F'', hL2, hM.trans hM2⟩
  · rintro e w' ⟨rfl, F', hL', hM⟩
    exact ⟨rfl, F', hL', hM⟩

def Lg.flush (m : Lg) : Lg := { m with k := m.k.flush }
theorem Lg.Ok.flush {m : Lg} (h : m.Ok) : m.flush.Ok := ⟨h.s1, h.s2, h.p1, h.fit, h.sz, h.cap, h.x, h.hds, h.h1, h.h2, h.sum, h.n0, h.n1, h.e1, h.e2, by simp [Lg.flush, Dk.flush]⟩
theorem logFlush_any {F : Nat → Prop} {g d : Nat} {m : Lg} (w : World) (h : Log F w g d m) : Calls Tryz.prog 53 #[.pointer (some ⟨d, 0, none⟩)] w (DidL F w g d (.int .i64 0) m.flush) := by
  obtain ⟨hb, ho, hc, h⟩ := h
  refine (flush_any w h.disk (by have := h.ok.pn; omega)).mono ?_
  rintro e w' ⟨rfl, F', hD, hM⟩
  exact ⟨rfl, F', ⟨hb, ho, hc, h.dsk hD hM h.ok.flush⟩, hM.fg g⟩
theorem keep1_any {F : Nat → Prop} {g d b x : Nat} {m : Lg} (y : Sp) (w : World) (h : Log F w g d m) (hy : y.In) (hB : Blk w b 30 #[.pointer (some ⟨g, 0, none⟩)]) (hX : Blk w x 42 y.cells.toArray) :
    Calls Tryz.prog 72 #[.pointer (some ⟨b, 0, none⟩), .pointer (some ⟨x, 0, none⟩)] w (DidL F w g d (.int .i64 0) (m.write y)) := by
  have HW := Lib.hid (logWrite_any y w h hy)
  have HX := Lib.hid hX
  have HI := Lib.hid (sp_infoOf hy)
  have cb : w.cell? ⟨b, 0, none⟩ = some (.pointer (some ⟨g, 0, none⟩)) := hB.cell 0
  clear h hy hB hX
  go_enter Tryz.func72, Tryz.ntmps72
  go_wp2_with (first | (go_at_call 73; refine HW.out.mono ?_; rintro e w1 ⟨rfl, F', hL, hM⟩; have HL := Lib.hid (And.intro hL hM); clear hL hM) | (refine wpList_load_blk rfl 42 (.tmp 1) rfl x 42 y.cells rfl HX.out _ Tryz.underlying42 rfl HI.out ?_))
  go_ret
  exact ⟨rfl, F', HL.out⟩

/-- Block X has turned at most into Y, cell by cell; all else stands. -/
def Rx (X : Nat) (Y : List Value) (w w' : World) : Prop := Keep (One X) w w' ∧ ∀ cs : List Value, Blk w X 42 cs.toArray → ∃ cs' : List Value, Blk w' X 42 cs'.toArray ∧ cs'.length = cs.length ∧ ∀ i : Nat, cs'[i]? = cs[i]? ∨ cs'[i]? = Y[i]?
theorem rx_ext {X : Nat} {Y : List Value} {w w' : World} (e : Ext w w') : Rx X Y w w' := ⟨Keep.of_ext e, fun cs h => ⟨cs, h.ext e, rfl, fun i => .inl rfl⟩⟩
theorem rx_refl (X : Nat) (Y : List Value) (w : World) : Rx X Y w w := rx_ext (Ext.refl w)
theorem rx_trans {X : Nat} {Y : List Value} {a b c : World} (h : Rx X Y a b) (k : Rx X Y b c) : Rx X Y a c := by
  refine ⟨h.1.trans k.1, fun cs hB => ?_⟩
  obtain ⟨c1, b1, l1, e1⟩ := h.2 cs hB
  obtain ⟨c2, b2, l2, e2⟩ := k.2 c1 b1
  refine ⟨c2, b2, by omega, fun i => ?_⟩
  rcases e2 i with h2 | h2
  · rcases e1 i with h1 | h1
    · exact .inl (by rw [h2, h1])
    · exact .inr (by rw [h2, h1])
  · exact .inr h2
/-- Cells lo to hi of block X are Y's. -/
def Sx (w : World) (X : Nat) (Y : List Value) (lo hi : Nat) : Prop := ∃ cs : List Value, Blk w X 42 cs.toArray ∧ ∀ i, lo ≤ i → i < hi → cs[i]? = Y[i]?
theorem Sx.rx {w w' : World} {X : Nat} {Y : List Value} {lo hi : Nat} (h : Sx w X Y lo hi) (e : Rx X Y w w') : Sx w' X Y lo hi := by
  obtain ⟨cs, hB, hc⟩ := h
  obtain ⟨c1, b1, l1, e1⟩ := e.2 cs hB
  refine ⟨c1, b1, fun i h1 h2 => ?_⟩
  rcases e1 i with h | h
  · rw [h, hc i h1 h2]
  · exact h
/-- A stretch of the block is stored. -/
theorem rx_store {w0 w : World} {X : Nat} {Y x0 : List Value} (h0 : Blk w0 X 42 x0.toArray) (hr : Rx X Y w0 w) (off : Nat) (vs : List Value) (hv : ∀ j, j < vs.length → vs[j]? = Y[off + j]?) (hl : off + vs.length ≤ x0.length) :
    w.there X off vs.length ∧ Rx X Y w (w.setCells X off vs) ∧ Sx (w.setCells X off vs) X Y off (off + vs.length) := by
  obtain ⟨cs, hB, hcl, _⟩ := hr.2 x0 h0
  have hsp : cs = cs.take off ++ (cs.drop off).take vs.length ++ cs.drop (off + vs.length) := by
    rw [List.append_assoc, ← List.drop_drop, List.take_append_drop, List.take_append_drop]
  have hB2 := hB
  rw [hsp] at hB2
  have hA : (cs.take off).length = off := by simp; omega
  have hm : ((cs.drop off).take vs.length).length = vs.length := by simp; omega
  have hth := Blk.there hB2
  rw [hA, hm] at hth
  have hB3 := Blk.setCells (w := w) vs w _ _ _ hB2 hm
  rw [hA] at hB3
  have hin : ∀ i, off ≤ i → i < off + vs.length → (cs.take off ++ vs ++ cs.drop (off + vs.length))[i]? = Y[i]? := by
    intro i h1 h2
    rw [List.getElem?_append_left (by simp; omega), List.getElem?_append_right (by omega), hA, hv (i - off) (by omega)]
    congr 1; omega
  refine ⟨hth, ⟨Keep.setCells (One.self X) vs w w off (Keep.refl _ _), fun c2 hc2 => ?_⟩, ⟨_, hB3, hin⟩⟩
  have hcc : c2 = cs := by
    have h1 := hB; have h2 := hc2
    unfold Blk at h1 h2
    rw [h1] at h2
    injection h2 with h2
    injection h2 with h2
    exact (List.toArray_inj h2).symm
  subst hcc
  refine ⟨_, hB3, by simp; omega, fun i => ?_⟩
  by_cases h1 : off ≤ i ∧ i < off + vs.length
  · exact .inr (hin i h1.1 h1.2)
  · left
    rcases Nat.lt_or_ge i off with h2 | h2
    · rw [List.append_assoc, List.getElem?_append_left (by omega), List.getElem?_take_of_lt h2]
    · rw [List.getElem?_append_right (by simp; omega), List.getElem?_drop]
      congr 1
      simp; omega
end Go.Proofs.YtnkebhlkhpgghaaGreatDoor
/- seglog: keep: the walk. -/
namespace Go.Proofs.YtnkebhlkhpgghaaGreatDoor
open Go Go.RowKit Go.Deep Go.Sort

section
variable {w0 w : World} {X : Nat} {Y x0 : List Value} {o : Oper} {a : Act} {Q : Exit → Act → World → Prop}
theorem st_row (off : Nat) (vs : List Value) (ty : TypeId) (x y : Operand) (ho : o.op = .store ty x y) (hx : a.eval x = .pointer (some ⟨X, off, none⟩)) (hy : a.eval y = .agg vs.toArray) (hi : (Tryz.prog.info? ty).map (·.size) = some vs.length) (h1 : ∀ v ∈ vs, v.oneCell' = true)
    (h0 : Blk w0 X 42 x0.toArray) (hr : Rx X Y w0 w) (hv : ∀ j, j < vs.length → vs[j]? = Y[off + j]?) (hl : off + vs.length ≤ x0.length) :
    o.wp Tryz.prog a w (fun a' w'' => ∃ v, a' = a.put o.dst v ∧ Rx X Y w w'' ∧ ∀ u, (o.dst = none ∨ u = v) → Sx w'' X Y off (off + vs.length)) Q := by
  obtain ⟨ht, hR, hS⟩ := rx_store h0 hr off vs hv hl
  exact wp_store_mid ty x y ho X off vs.toArray hx hy (by simpa using ht) (by simpa using hi) (all_oneCell_toArray h1) ⟨undef, rfl, hR, fun _ _ => hS⟩
theorem st_one (off : Nat) (n : Int) (x y : Operand) (ho : o.op = .store 34 x y) (hx : a.eval x = .pointer (some ⟨X, off, none⟩)) (hy : a.eval y = .int .u64 n)
    (h0 : Blk w0 X 42 x0.toArray) (hr : Rx X Y w0 w) (hv : Y[off]? = some (.int .u64 n)) (hl : off + 1 ≤ x0.length) :
    o.wp Tryz.prog a w (fun a' w'' => ∃ v, a' = a.put o.dst v ∧ Rx X Y w w'' ∧ ∀ u, (o.dst = none ∨ u = v) → Sx w'' X Y off (off + 1)) Q := by
  have hvv : ∀ j, j < [Value.int .u64 n].length → [Value.int .u64 n][j]? = Y[off + j]? := by
    intro j hj
    have h9 : j = 0 := by simpa using hj
    subst h9
    rw [Nat.add_zero, hv]
    rfl
  obtain ⟨ht, hR, hS⟩ := rx_store h0 hr off [.int .u64 n] hvv (by simpa using hl)
  obtain ⟨h1, h2⟩ := ht 0 (by simp)
  rw [Nat.add_zero] at h1 h2
  obtain ⟨c, hc⟩ := Option.isSome_iff_exists.1 h1
  have hrun : (execOp a.eval o).run Tryz.prog w = .ok .skip (w.setCells X off [.int .u64 n]) := by
    unfold execOp
    rw [ho]
    simp only [hx, hy]
    simp [go_sem, hc, h2]
    rfl

  unfold Oper.wp
  rw [hrun]
  exact ⟨undef, rfl, hR, fun _ _ => hS⟩
end

/-- What the operations of keep's region leave. -/
def kpB (g X : Nat) (Y : List Value) (q : Int) (m : Lg) : Nat → Value → World → Prop
  | 0, u, _ => u = .pointer (some ⟨g, 0, none⟩)
  | 1, u, _ => u = .int .u64 q
  | 2, u, _ => u = .pointer (some ⟨g, 0, none⟩)
  | 3, u, _ => u = .pointer (some ⟨g, 0, none⟩)
  | 4, u, _ => u = .pointer (some ⟨g, 74, none⟩)
  | 5, u, _ => u = .int .i64 m.stop
  | 6, u, _ => u = .int .u64 m.stop
  | 7, u, _ => u = .pointer (some ⟨g, 0, none⟩)
  | 8, u, _ => u = .pointer (some ⟨g, 0, none⟩)
  | 9, u, _ => u = .pointer (some ⟨g, 107, none⟩)
  | 10, u, _ => u = .int .u64 m.next
  | 11, u, _ => u = .pointer (some ⟨g, 0, none⟩)
  | 12, u, _ => u = .pointer (some ⟨g, 0, none⟩)
  | 13, u, _ => u = .pointer (some ⟨g, 75, none⟩)
  | 14, u, _ => u = .agg (bcells m.sum).toArray
  | 15, u, _ => u = .pointer (some ⟨X, 35, none⟩)
  | 16, _, w => Sx w X Y 35 36
  | 17, u, _ => u = .pointer (some ⟨X, 36, none⟩)
  | 18, _, w => Sx w X Y 36 37
  | 19, u, _ => u = .pointer (some ⟨X, 37, none⟩)
  | 20, _, w => Sx w X Y 37 38
  | 21, u, _ => u = .pointer (some ⟨X, 38, none⟩)
  | _, _, w => Sx w X Y 38 70
theorem kpB_stab (g X : Nat) (Y : List Value) (q : Int) (m : Lg) (i : Nat) (u : Value) (w w' : World) (hB : kpB g X Y q m i u w) (e : Rx X Y w w') : kpB g X Y q m i u w' := by
  rcases i with _ | _ | _ | _ | _ | _ | _ | _ | _ | _ | _ | _ | _ | _ | _ | _ | _ | _ | _ | _ | _ | _ | i <;> simp only [kpB] at hB ⊢ <;> first | exact hB | exact hB.rx e
def kqB (g : Nat) (Y x : Sp) : Nat → Value → World → Prop
  | 0, u, _ => u = .agg Y.cells.toArray
  | 1, u, _ => u = .pointer (some ⟨g, 0, none⟩)
  | 2, u, _ => u = .pointer (some ⟨g, 0, none⟩)
  | 3, u, _ => u = .pointer (some ⟨g, 3, none⟩)
  | 4, u, _ => u = .agg x.cells.toArray
  | _, u, _ => u = .bool (decide (Y = x))
theorem kqB_stab (g : Nat) (Y x : Sp) (i : Nat) (u : Value) (w w' : World) (hB : kqB g Y x i u w) (e : Ext w w') : kqB g Y x i u w' := by
  rcases i with _ | _ | _ | _ | _ | i <;> simp only [kqB] at hB ⊢ <;> first | exact hB | (obtain ⟨g, h1, h2⟩ := hB; exact ⟨g, h1, h2.ext e⟩)
def Lg.asked (m : Lg) : Sp := { m.x with id := lastId m.heads, en := m.stop, next := m.next, sum := m.sum }
def Sp.newer (x : Sp) : Sp := { x with epoch := IntKind.u64.wrap (x.epoch + 1) }
def Lg.keep (m : Lg) : Lg := if m.asked = m.x then m else m.flush.write m.asked.newer
theorem wrap_in (n : Int) : 0 ≤ IntKind.u64.wrap n ∧ IntKind.u64.wrap n < 18446744073709551616 := by
  have h : IntKind.u64.wrap n = n % 18446744073709551616 := by simp [IntKind.wrap, IntKind.signed, IntKind.bits]
  omega
theorem Lg.Ok.asked {m : Lg} (h : m.Ok) : m.asked.In := by
  have h1 := lastId_in h.hds
  have h2 := h.e2
  have h3 := h.cap
  have h4 := h.n0
  have h5 := h.n1
  refine ⟨?_, h.x.a, h.sum⟩
  have := h.x.nums
  simp only [Sp.nums, List.mem_cons, List.mem_nil_iff, or_false, forall_eq_or_imp, forall_eq, Lg.asked] at this ⊢
  obtain ⟨t1, t2, t3, _⟩ := this
  exact ⟨t1, t2, t3, h1, by omega, ⟨h4, h5⟩⟩
theorem Sp.In.newer {x : Sp} (h : x.In) : x.newer.In := by
  refine ⟨?_, h.a, h.s⟩
  have := h.nums
  simp only [Sp.nums, List.mem_cons, List.mem_nil_iff, or_false, forall_eq_or_imp, forall_eq, Sp.newer] at this ⊢
  exact ⟨wrap_in _, this.2⟩
theorem Lg.Ok.keep {m : Lg} (h : m.Ok) : m.keep.Ok := by
  unfold Lg.keep
  split
  · exact h
  · exact h.flush.write h.asked.newer
theorem sp_pre (x : Sp) (m : Lg) (h : m.x = x) (i : Nat) (hi : i < 35) (ha : m.x.anchor.length = 32) : m.asked.cells[i]? = x.cells[i]? := by
  subst h
  simp only [Sp.cells, Lg.asked]
  have hA : i < ([.int .u64 m.x.epoch, .int .u64 m.x.tail, .int .u64 m.x.first] ++ bcells m.x.anchor : List Value).length := by simp [bcells, ha]; omega
  rw [List.getElem?_append_left hA, List.getElem?_append_left hA]
theorem rx_end {w3 w4 : World} {X : Nat} {x0 Y : List Value} (h0 : Blk w3 X 42 x0.toArray) (hr : Rx X Y w3 w4) (h1 : x0.length = 70) (h2 : Y.length = 70) (hp : ∀ i, i < 35 → Y[i]? = x0[i]?)
    (s1 : Sx w4 X Y 35 36) (s2 : Sx w4 X Y 36 37) (s3 : Sx w4 X Y 37 38) (s4 : Sx w4 X Y 38 70) : Blk w4 X 42 Y.toArray := by
  obtain ⟨cs, hB, hl, hc⟩ := hr.2 x0 h0
  have key : ∀ lo hi, Sx w4 X Y lo hi → ∀ i, lo ≤ i → i < hi → cs[i]? = Y[i]? := by
    rintro lo hi ⟨c2, hB2, hc2⟩ i hlo hhi
    have hcc : c2 = cs := by
      have e1 := hB; have e2 := hB2
      unfold Blk at e1 e2
      rw [e1] at e2
      injection e2 with e2
      injection e2 with e2
      exact (List.toArray_inj e2).symm
    subst hcc
    exact hc2 i hlo hhi
  have : cs = Y := by
    apply List.ext_getElem?
    intro i
    by_cases h35 : i < 35
    · rcases hc i with h | h
      · rw [h, hp i h35]
      · exact h
    · by_cases h36 : i < 36
      · exact key _ _ s1 i (by omega) h36
      · by_cases h37 : i < 37
        · exact key _ _ s2 i (by omega) h37
        · by_cases h38 : i < 38
          · exact key _ _ s3 i (by omega) h38
          · by_cases h70 : i < 70
            · exact key _ _ s4 i (by omega) h70
            · rw [List.getElem?_eq_none (by omega), List.getElem?_eq_none (by omega)]
  rw [← this]
  exact hB
set_option maxRecDepth 8000 in
set_option maxHeartbeats 3200000 in
theorem logKeep_any {F : Nat → Prop} {g d : Nat} {m : Lg} (w : World) (h : Log F w g d m) : Calls Tryz.prog 42 #[.pointer (some ⟨g, 0, none⟩)] w (DidL F w g d (.int .i64 0) m.keep) := by
  obtain ⟨hb, ho, hc, h⟩ := h
  have HH := Lib.hid h
  have HOK := Lib.hid h.ok
  have HXL := Lib.hid (Sp.cells_length h.ok.x)
  have HYL := Lib.hid (Sp.cells_length h.ok.asked)
  have HSL := Lib.hid (show (bcells m.sum).length = 32 from by simp [bcells, h.ok.sum])
  have HDI := Lib.hid (show (Tryz.prog.info? 40).map (·.size) = some (bcells m.sum).length from by rw [show (bcells m.sum).length = 32 from by simp [bcells, h.ok.sum]]; kernel_rfl)
  have HXI := Lib.hid (sp_infoOf h.ok.x)
  have haa : m.asked.anchor.length = 32 := h.ok.x.a
  have HY := Lib.hid (show True ∧ m.asked.cells[35]? = some (.int .u64 (lastId m.heads)) ∧ m.asked.cells[36]? = some (.int .u64 m.stop) ∧ m.asked.cells[37]? = some (.int .u64 m.next) ∧ (∀ j, j < (bcells m.sum).length → (bcells m.sum)[j]? = m.asked.cells[38 + j]?) from by
    have k := sp_mid m.asked haa
    simp only [List.getElem?_toArray] at k
    refine ⟨trivial, k 0, k 1, k 2, fun j _ => ?_⟩
    rw [show 38 + j = 35 + (3 + j) from by omega, k (3 + j), List.getElem?_append_right (by simp)]
    simp [Lg.asked])
  have hst : IntKind.u64.wrap (m.stop : Int) = m.stop := IntWalk.u64_in _ (by have := h.ok.e2; have := h.ok.cap; omega)
  obtain ⟨w1, hw1⟩ : ∃ w1, w1 = w.alloc (.cells #[.pointer (some ⟨g, 0, none⟩)] 30) := ⟨_, rfl⟩
  have HE1 := Lib.hid (show Ext w w1 from by rw [hw1]; exact (Ext.refl w).alloc _)
  have HBb := Lib.hid (show Blk w1 w.heap.size 30 #[.pointer (some ⟨g, 0, none⟩)] from by rw [hw1]; exact Blk.new _ _ _)
  have HG1 := Lib.hid ((h.blk.ext HE1.out))
  have cb : w1.cell? ⟨w.heap.size, 0, none⟩ = some (.pointer (some ⟨g, 0, none⟩)) := HBb.out.cell 0
  have hbx : w.heap.size < w1.heap.size := HBb.out.lt
  have hgx : g < w1.heap.size := HG1.out.lt
  have hhx : hb < w1.heap.size := Nat.lt_of_lt_of_le h.lt HE1.out.size
  have hFx : ∀ i, F i → i < w1.heap.size := fun i hi => Nat.lt_of_lt_of_le (h.disk.sz i hi) HE1.out.size
  have HNX := Lib.hid (And.intro hbx (And.intro hgx (And.intro hhx hFx)))
  clear h haa hbx hgx hhx hFx
  go_enter Tryz.func42, Tryz.ntmps42
  go_wp2_with (first | (have hs := cb; rw [← hw1]; clear hw1) | (refine wpList_load_part rfl 42 (.tmp 6) rfl g 77 (lgA d m) m.x.cells (lgC (.slice (some ⟨hb, ho, none⟩) m.heads.length hc) m) rfl HG1.out _ Tryz.underlying42 rfl HXI.out ?_) | (refine wpList_store_blk rfl 42 (.tmp 3) (.tmp 7) rfl w1.heap.size 42 zs70 m.x.cells rfl rfl (by rw [← zc_sp]; exact Blk.new _ _ _) (by rw [HXL.out]; rfl) HXI.out (Sp.cells_one _) ?_; intro w3 hB3 hK3; have HX0 := Lib.hid hB3; have HE3 := Lib.hid (((Ext.refl w1).alloc _).keep hK3 (fun i hi => by cases hi; exact Nat.le_refl _)); clear hB3 hK3))
  have HK0 := Lib.hid (show Keep (One w1.heap.size) w w3 from Keep.of_ext (HE1.out.trans HE3.out))
  have HPRE := Lib.hid (fun i hi => sp_pre m.x m rfl i hi HOK.out.x.a)
  clear cb
  refine wp_region_free (Rx w1.heap.size m.asked.cells) (rx_ext ((Ext.refl _).drew)) rx_trans (by kernel_rfl) (by kernel_rfl) (kpB g w1.heap.size m.asked.cells (lastId m.heads) m) (kpB_stab g w1.heap.size m.asked.cells (lastId m.heads) m) ?_ ?_
  · intro i o a w' hi hbs hr hd
    have e1 : a.eval (.tmp 1) = .pointer (some ⟨w.heap.size, 0, none⟩) := hbs.outer 1 (by kernel_rfl)
    have e3 : a.eval (.tmp 3) = .pointer (some ⟨w1.heap.size, 0, none⟩) := hbs.outer 3 (by kernel_rfl)
    have cb0 : w'.cell? ⟨w.heap.size, 0, none⟩ = some (.pointer (some ⟨g, 0, none⟩)) := cell_of_keep hr.1 (fun hh => by have h1 := HNX.out.1; have h2 : w.heap.size = w1.heap.size := hh; omega) (HE3.out.cell_some (HBb.out.cell 0))
    have HLr := (HH.out.ext (HE1.out.trans HE3.out)).keep hr.1 (fun i hi hh => by have h1 := HNX.out.2.2.2 i hi; have h2 : i = w1.heap.size := hh; omega) (fun hh => by have h1 := HNX.out.2.1; have h2 : g = w1.heap.size := hh; omega) (fun hh => by have h1 := HNX.out.2.2.1; have h2 : hb = w1.heap.size := hh; omega)
    have c74 := HLr.c74
    have c107 := HLr.c107
    have hsu : w'.rangeAt g 75 (bcells m.sum) := by
      have h1 := HLr.blk
      have h2 := Blk.rangeAt (A := lgA d m ++ m.x.cells ++ [.slice (some ⟨hb, ho, none⟩) m.heads.length hc, .int .i64 m.stop]) (B := bcells m.sum) (C := lgE m) (by simpa [lgCells] using h1)
      have h3 : (lgA d m ++ m.x.cells ++ [Value.slice (some ⟨hb, ho, none⟩) m.heads.length hc, Value.int .i64 m.stop]).length = 75 := by simp [lgA, HXL.out]
      rw [h3] at h2
      exact h2
    rcases i with _ | _ | _ | _ | _ | _ | _ | _ | _ | _ | _ | _ | _ | _ | _ | _ | _ | _ | _ | _ | _ | _ | _ | i
    · obtain rfl := Option.some.inj hi
      refine free_val (.pointer (some ⟨g, 0, none⟩)) w' ?_ (rx_refl _ _ _) rfl (by simp)
      have ec : ∀ v, a.eval (.const v) = v := fun _ => rfl
      generalize a.eval = ρ at *
      simp [go_sem, ec, e1, cb0]
    · obtain rfl := Option.some.inj hi
      have h8 : a.eval (.tmp 8) = _ := hd ⟨0, .data⟩ (by simp) rfl
      refine free_call 67 #[.pointer (some ⟨g, 0, none⟩)] ?_ ((logId_any w' ⟨hb, ho, hc, HLr⟩).mono (fun e w2 h => ⟨_, h.1, rx_ext h.2, rfl⟩)) (by simp)
      have ec : ∀ v, a.eval (.const v) = v := fun _ => rfl
      have ef : ∀ f, a.eval (.func f) = .func (.func f) #[] #[] := fun _ => rfl
      generalize a.eval = ρ at *
      simp [go_sem, ef, ec, h8]
    · obtain rfl := Option.some.inj hi
      refine free_val (.pointer (some ⟨g, 0, none⟩)) w' ?_ (rx_refl _ _ _) rfl (by simp)
      have ec : ∀ v, a.eval (.const v) = v := fun _ => rfl
      generalize a.eval = ρ at *
      simp [go_sem, ec, e1, cb0]
    · obtain rfl := Option.some.inj hi
      have h10 : a.eval (.tmp 10) = _ := hd ⟨2, .data⟩ (by simp) rfl
      refine free_val (.pointer (some ⟨g, 0, none⟩)) w' ?_ (rx_refl _ _ _) rfl (by simp)
      have ec : ∀ v, a.eval (.const v) = v := fun _ => rfl
      generalize a.eval = ρ at *
      simp [go_sem, h10, ec]
    · obtain rfl := Option.some.inj hi
      have h11 : a.eval (.tmp 11) = _ := hd ⟨3, .data⟩ (by simp) rfl
      refine free_val (.pointer (some ⟨g, 74, none⟩)) w' ?_ (rx_refl _ _ _) rfl (by simp)
      have ec : ∀ v, a.eval (.const v) = v := fun _ => rfl
      generalize a.eval = ρ at *
      simp [go_sem, h11, ec]
    · obtain rfl := Option.some.inj hi
      have h12 : a.eval (.tmp 12) = _ := hd ⟨4, .data⟩ (by simp) rfl
      refine free_val (.int .i64 m.stop) w' ?_ (rx_refl _ _ _) rfl (by simp)
      have ec : ∀ v, a.eval (.const v) = v := fun _ => rfl
      generalize a.eval = ρ at *
      simp [go_sem, h12, ec, c74]
    · obtain rfl := Option.some.inj hi
      have h13 : a.eval (.tmp 13) = _ := hd ⟨5, .data⟩ (by simp) rfl
      refine free_val (.int .u64 m.stop) w' ?_ (rx_refl _ _ _) rfl (by simp)
      have ec : ∀ v, a.eval (.const v) = v := fun _ => rfl
      generalize a.eval = ρ at *
      simp [go_sem, h13, ec, hst]
    · obtain rfl := Option.some.inj hi
      refine free_val (.pointer (some ⟨g, 0, none⟩)) w' ?_ (rx_refl _ _ _) rfl (by simp)
      have ec : ∀ v, a.eval (.const v) = v := fun _ => rfl
      generalize a.eval = ρ at *
      simp [go_sem, ec, e1, cb0]
    · obtain rfl := Option.some.inj hi
      have h15 : a.eval (.tmp 15) = _ := hd ⟨7, .data⟩ (by simp) rfl
      refine free_val (.pointer (some ⟨g, 0, none⟩)) w' ?_ (rx_refl _ _ _) rfl (by simp)
      have ec : ∀ v, a.eval (.const v) = v := fun _ => rfl
      generalize a.eval = ρ at *
      simp [go_sem, h15, ec]
    · obtain rfl := Option.some.inj hi
      have h16 : a.eval (.tmp 16) = _ := hd ⟨8, .data⟩ (by simp) rfl
      refine free_val (.pointer (some ⟨g, 107, none⟩)) w' ?_ (rx_refl _ _ _) rfl (by simp)
      have ec : ∀ v, a.eval (.const v) = v := fun _ => rfl
      generalize a.eval = ρ at *
      simp [go_sem, h16, ec]
    · obtain rfl := Option.some.inj hi
      have h17 : a.eval (.tmp 17) = _ := hd ⟨9, .data⟩ (by simp) rfl
      refine free_val (.int .u64 m.next) w' ?_ (rx_refl _ _ _) rfl (by simp)
      have ec : ∀ v, a.eval (.const v) = v := fun _ => rfl
      generalize a.eval = ρ at *
      simp [go_sem, h17, ec, c107]
    · obtain rfl := Option.some.inj hi
      refine free_val (.pointer (some ⟨g, 0, none⟩)) w' ?_ (rx_refl _ _ _) rfl (by simp)
      have ec : ∀ v, a.eval (.const v) = v := fun _ => rfl
      generalize a.eval = ρ at *
      simp [go_sem, ec, e1, cb0]
    · obtain rfl := Option.some.inj hi
      have h19 : a.eval (.tmp 19) = _ := hd ⟨11, .data⟩ (by simp) rfl
      refine free_val (.pointer (some ⟨g, 0, none⟩)) w' ?_ (rx_refl _ _ _) rfl (by simp)
      have ec : ∀ v, a.eval (.const v) = v := fun _ => rfl
      generalize a.eval = ρ at *
      simp [go_sem, h19, ec]
    · obtain rfl := Option.some.inj hi
      have h20 : a.eval (.tmp 20) = _ := hd ⟨12, .data⟩ (by simp) rfl
      refine free_val (.pointer (some ⟨g, 75, none⟩)) w' ?_ (rx_refl _ _ _) rfl (by simp)
      have ec : ∀ v, a.eval (.const v) = v := fun _ => rfl
      generalize a.eval = ρ at *
      simp [go_sem, h20, ec]
    · obtain rfl := Option.some.inj hi
      have h21 : a.eval (.tmp 21) = _ := hd ⟨13, .data⟩ (by simp) rfl
      refine free_val (.agg (bcells m.sum).toArray) w' ?_ (rx_refl _ _ _) rfl (by simp)
      simp only [execOp, Instr.loadAt, h21, Instr.sureAddr, Sem.run_bind, Sem.run_pure, Result.andThen_ok, run_loadVar_mid w' g 75 40 (bcells m.sum) _ hsu Tryz.underlying40 rfl HDI.out]
    · obtain rfl := Option.some.inj hi
      refine free_val (.pointer (some ⟨w1.heap.size, 35, none⟩)) w' ?_ (rx_refl _ _ _) rfl (by simp)
      have ec : ∀ v, a.eval (.const v) = v := fun _ => rfl
      generalize a.eval = ρ at *
      simp [go_sem, ec, e3]
    · obtain rfl := Option.some.inj hi
      have h23 : a.eval (.tmp 23) = _ := hd ⟨15, .data⟩ (by simp) rfl
      have h9 : a.eval (.tmp 9) = _ := hd ⟨1, .data⟩ (by simp) rfl
      exact st_one 35 _ _ _ rfl h23 h9 HX0.out hr HY.out.2.1 (by rw [HXL.out]; decide)
    · obtain rfl := Option.some.inj hi
      refine free_val (.pointer (some ⟨w1.heap.size, 36, none⟩)) w' ?_ (rx_refl _ _ _) rfl (by simp)
      have ec : ∀ v, a.eval (.const v) = v := fun _ => rfl
      generalize a.eval = ρ at *
      simp [go_sem, ec, e3]
    · obtain rfl := Option.some.inj hi
      have h24 : a.eval (.tmp 24) = _ := hd ⟨17, .data⟩ (by simp) rfl
      have h14 : a.eval (.tmp 14) = _ := hd ⟨6, .data⟩ (by simp) rfl
      exact st_one 36 _ _ _ rfl h24 h14 HX0.out hr HY.out.2.2.1 (by rw [HXL.out]; decide)
    · obtain rfl := Option.some.inj hi
      refine free_val (.pointer (some ⟨w1.heap.size, 37, none⟩)) w' ?_ (rx_refl _ _ _) rfl (by simp)
      have ec : ∀ v, a.eval (.const v) = v := fun _ => rfl
      generalize a.eval = ρ at *
      simp [go_sem, ec, e3]
    · obtain rfl := Option.some.inj hi
      have h25 : a.eval (.tmp 25) = _ := hd ⟨19, .data⟩ (by simp) rfl
      have h18 : a.eval (.tmp 18) = _ := hd ⟨10, .data⟩ (by simp) rfl
      exact st_one 37 _ _ _ rfl h25 h18 HX0.out hr HY.out.2.2.2.1 (by rw [HXL.out]; decide)
    · obtain rfl := Option.some.inj hi
      refine free_val (.pointer (some ⟨w1.heap.size, 38, none⟩)) w' ?_ (rx_refl _ _ _) rfl (by simp)
      have ec : ∀ v, a.eval (.const v) = v := fun _ => rfl
      generalize a.eval = ρ at *
      simp [go_sem, ec, e3]
    · obtain rfl := Option.some.inj hi
      have h26 : a.eval (.tmp 26) = _ := hd ⟨21, .data⟩ (by simp) rfl
      have h22 : a.eval (.tmp 22) = _ := hd ⟨14, .data⟩ (by simp) rfl
      refine Oper.wp_mono ?_ (st_row 38 (bcells m.sum) 40 _ _ rfl h26 h22 HDI.out (bcells_one _) HX0.out hr HY.out.2.2.2.2 (by rw [HXL.out, HSL.out]; decide))
      rintro a2 w2 ⟨v, h1, h2, h3⟩
      rw [HSL.out] at h3
      exact ⟨v, h1, h2, h3⟩
    · cases hi
  · intro a w4 hbs hR hA
    have h1 : a.eval (.tmp 1) = .pointer (some ⟨w.heap.size, 0, none⟩) := hbs.outer 1 (by kernel_rfl)
    have h2 : a.eval (.tmp 2) = .int .i64 0 := hbs.outer 2 (by kernel_rfl)
    have h3 : a.eval (.tmp 3) = .pointer (some ⟨w1.heap.size, 0, none⟩) := hbs.outer 3 (by kernel_rfl)
    have HB4 := Lib.hid (rx_end HX0.out hR HXL.out HYL.out HPRE.out (hA 16 (by decide)) (hA 18 (by decide)) (hA 20 (by decide)) (hA 22 (by decide)))
    have HE4 := Lib.hid (HE3.out.keep hR.1 (fun i hi => by cases hi; exact Nat.le_refl _))
    rw [act_lit (n := 45) hbs.size, hbs.defers]
    simp only [show List.range 45 = [0, 1, 2, 3, 4, 5, 6, 7, 8, 9, 10, 11, 12, 13, 14, 15, 16, 17, 18, 19, 20, 21, 22, 23, 24, 25, 26, 27, 28, 29, 30, 31, 32, 33, 34, 35, 36, 37, 38, 39, 40, 41, 42, 43, 44] from rfl, List.map_cons, List.map_nil, h1, h2, h3]
    clear hA h1 h2 h3 hbs hR
    generalize a.eval = ρ
    go_wp2_with fail
    refine wp_region_free Ext ((Ext.refl _).drew) Ext.trans (by kernel_rfl) (by kernel_rfl) (kqB g m.asked m.x) (kqB_stab g m.asked m.x) ?_ ?_
    · intro i o a w' hi hbs he hd
      have e1 : a.eval (.tmp 1) = .pointer (some ⟨w.heap.size, 0, none⟩) := hbs.outer 1 (by kernel_rfl)
      have e3 : a.eval (.tmp 3) = .pointer (some ⟨w1.heap.size, 0, none⟩) := hbs.outer 3 (by kernel_rfl)
      have cb0 : w'.cell? ⟨w.heap.size, 0, none⟩ = some (.pointer (some ⟨g, 0, none⟩)) := (HE4.out.trans he).cell_some (HBb.out.cell 0)
      have hxr : w'.rangeAt g 3 m.x.cells := by
        have h1 := HG1.out.ext (HE4.out.trans he)
        have h2 := Blk.rangeAt (A := lgA d m) (B := m.x.cells) (C := lgC (.slice (some ⟨hb, ho, none⟩) m.heads.length hc) m) h1
        exact h2
      rcases i with _ | _ | _ | _ | _ | _ | i
      · obtain rfl := Option.some.inj hi
        refine free_val (.agg m.asked.cells.toArray) w' ?_ (Ext.refl _) rfl (by simp)
        simp only [execOp, Instr.loadAt, e3, Instr.sureAddr, Sem.run_bind, Sem.run_pure, Result.andThen_ok, run_loadVar_blk (HB4.out.ext he) Tryz.underlying42 rfl (sp_infoOf HOK.out.asked)]
      · obtain rfl := Option.some.inj hi
        refine free_val (.pointer (some ⟨g, 0, none⟩)) w' ?_ (Ext.refl _) rfl (by simp)
        have ec : ∀ v, a.eval (.const v) = v := fun _ => rfl
        generalize a.eval = ρ at *
        simp [go_sem, ec, e1, cb0]
      · obtain rfl := Option.some.inj hi
        have h28 : a.eval (.tmp 28) = _ := hd ⟨1, .data⟩ (by simp) rfl
        refine free_val (.pointer (some ⟨g, 0, none⟩)) w' ?_ (Ext.refl _) rfl (by simp)
        have ec : ∀ v, a.eval (.const v) = v := fun _ => rfl
        generalize a.eval = ρ at *
        simp [go_sem, h28, ec]
      · obtain rfl := Option.some.inj hi
        have h29 : a.eval (.tmp 29) = _ := hd ⟨2, .data⟩ (by simp) rfl
        refine free_val (.pointer (some ⟨g, 3, none⟩)) w' ?_ (Ext.refl _) rfl (by simp)
        have ec : ∀ v, a.eval (.const v) = v := fun _ => rfl
        generalize a.eval = ρ at *
        simp [go_sem, h29, ec]
      · obtain rfl := Option.some.inj hi
        have h30 : a.eval (.tmp 30) = _ := hd ⟨3, .data⟩ (by simp) rfl
        refine free_val (.agg m.x.cells.toArray) w' ?_ (Ext.refl _) rfl (by simp)
        simp only [execOp, Instr.loadAt, h30, Instr.sureAddr, Sem.run_bind, Sem.run_pure, Result.andThen_ok, run_loadVar_mid w' g 3 42 m.x.cells _ hxr Tryz.underlying42 rfl (sp_infoOf HOK.out.x)]
      · obtain rfl := Option.some.inj hi
        have h27 : a.eval (.tmp 27) = _ := hd ⟨0, .data⟩ (by simp) rfl
        have h31 : a.eval (.tmp 31) = _ := hd ⟨4, .data⟩ (by simp) rfl
        refine free_val (.bool (decide (m.asked = m.x))) w' ?_ (Ext.refl _) rfl (by simp)
        simp only [execOp, h27, h31, Sem.run_bind, sp_guard, Result.andThen_ok, sp_eql _ _ w' HOK.out.asked HOK.out.x, Sem.run_pure]
      · cases hi
    · intro a w5 hbs hE5 hA
      have h1 : a.eval (.tmp 1) = .pointer (some ⟨w.heap.size, 0, none⟩) := hbs.outer 1 (by kernel_rfl)
      have h2 : a.eval (.tmp 2) = .int .i64 0 := hbs.outer 2 (by kernel_rfl)
      have h3 : a.eval (.tmp 3) = .pointer (some ⟨w1.heap.size, 0, none⟩) := hbs.outer 3 (by kernel_rfl)
      have h32 : a.eval (.tmp 32) = .bool (decide (m.asked = m.x)) := hA 5 (by decide)
      have HB5 := Lib.hid (HB4.out.ext hE5)
      have HE5 := Lib.hid (HE4.out.trans hE5)
      rw [act_lit (n := 45) hbs.size, hbs.defers]
      simp only [show List.range 45 = [0, 1, 2, 3, 4, 5, 6, 7, 8, 9, 10, 11, 12, 13, 14, 15, 16, 17, 18, 19, 20, 21, 22, 23, 24, 25, 26, 27, 28, 29, 30, 31, 32, 33, 34, 35, 36, 37, 38, 39, 40, 41, 42, 43, 44] from rfl, List.map_cons, List.map_nil, h1, h2, h3, h32]
      clear hA h1 h2 h3 h32 hbs hE5
      generalize a.eval = ρ2
      by_cases hq : m.asked = m.x
      · have hk : m.keep = m := by unfold Lg.keep; rw [if_pos hq]
        have HK := Lib.hid hk
        have hdq : decide (m.asked = m.x) = true := decide_eq_true hq
        rw [hdq]
        clear hk hq hdq
        go_wp2_with fail
        go_ret
        refine ⟨rfl, F, ?_, Moves.of_ext (HE1.out.trans HE5.out)⟩
        rw [HK.out]
        exact ⟨hb, ho, hc, HH.out.ext (HE1.out.trans HE5.out)⟩
      · have hk : m.keep = m.flush.write m.asked.newer := by unfold Lg.keep; rw [if_neg hq]
        have HK := Lib.hid hk
        have hdq : decide (m.asked = m.x) = false := decide_eq_false hq
        rw [hdq]
        clear hk hq hdq
        have cx0 : w5.cell? ⟨w1.heap.size, 0, none⟩ = some (.int .u64 m.asked.epoch) := HB5.out.cell 0
        have cf0 : w5.frozen? ⟨w1.heap.size, 0, none⟩ = false := HB5.out.frozen 0
        have cb5 : w5.cell? ⟨w.heap.size, 0, none⟩ = some (.pointer (some ⟨g, 0, none⟩)) := HE5.out.cell_some (HBb.out.cell 0)
        have cg5 : w5.cell? ⟨g, 0, none⟩ = some (.pointer (some ⟨d, 0, none⟩)) := (HH.out.ext (HE1.out.trans HE5.out)).c0
        obtain ⟨w6, hw6⟩ : ∃ w6, w6 = w5.setCell ⟨w1.heap.size, 0, none⟩ (.int .u64 (IntKind.u64.wrap (m.asked.epoch + 1))) := ⟨_, rfl⟩
        have HB6 := Lib.hid (show Blk w6 w1.heap.size 42 m.asked.newer.cells.toArray from by rw [hw6]; exact HB5.out.set 0 _)
        have hE6 : Ext w1 w6 := by rw [hw6]; exact HE5.out.setCell (p := ⟨w1.heap.size, 0, none⟩) (Nat.le_refl _) _
        have HE6 := Lib.hid hE6
        have HBb6 := Lib.hid (HBb.out.ext hE6)
        have cb6 : w6.cell? ⟨w.heap.size, 0, none⟩ = some (.pointer (some ⟨g, 0, none⟩)) := HBb6.out.cell 0
        have HL6 := Lib.hid (HH.out.ext (HE1.out.trans hE6))
        have cg6 : w6.cell? ⟨g, 0, none⟩ = some (.pointer (some ⟨d, 0, none⟩)) := HL6.out.c0
        clear hE6
        have HIO := Lib.hid (inOrderL_any (F := F) (g := g) (d := d) w6.heap.size 2 [⟨53, #[.pointer (some ⟨d, 0, none⟩)], #[]⟩, ⟨72, #[], #[.pointer (some ⟨w.heap.size, 0, none⟩), .pointer (some ⟨w1.heap.size, 0, none⟩)]⟩]
          (fun i => match i with | 0 => m | 1 => m.flush | _ => m.flush.write m.asked.newer) (w6.alloc (.cells #[.func (.func 53) #[.pointer (some ⟨d, 0, none⟩)] #[], .func (.func 72) #[] #[.pointer (some ⟨w.heap.size, 0, none⟩), .pointer (some ⟨w1.heap.size, 0, none⟩)]] 73))
          (Blk.new _ _ _) (fun hh => by
            have h1 := HE6.out.size
            rcases hh with h2 | h2
            · have := HNX.out.2.2.2 _ h2; omega
            · have := HNX.out.2.1; omega)
          ⟨hb, ho, hc, HL6.out.ext ((Ext.refl _).alloc _)⟩
          (fun i c F' w' hci hL hM => by
            match i, hci with
            | 0, hci => obtain rfl := Option.some.inj hci; exact logFlush_any w' hL
            | 1, hci =>
              obtain rfl := Option.some.inj hci
              have hX : ¬ Fg F g w1.heap.size := fun hh => by
                rcases hh with h2 | h2
                · have := HNX.out.2.2.2 _ h2; omega
                · have := HNX.out.2.1; omega
              have hb1 : ¬ Fg F g w.heap.size := fun hh => by
                rcases hh with h2 | h2
                · have := HH.out.disk.sz _ h2; omega
                · have := HH.out.blk.lt; omega
              exact keep1_any m.asked.newer w' hL HOK.out.asked.newer ((HBb6.out.alloc _).keep hM.1 hb1) ((HB6.out.alloc _).keep hM.1 hX)
            | n + 2, hci => cases hci)
          (fun i c w' hci => by
            match i, hci with
            | 0, hci => obtain rfl := Option.some.inj hci; rfl
            | 1, hci => obtain rfl := Option.some.inj hci; rfl
            | n + 2, hci => cases hci)
          (by simp) (by simp) (by decide))
        go_wp2_with (first | (have hs := HB6; rw [← hw6]; clear hw6) | (go_at_call 21; refine HIO.out.mono ?_; rintro e w7 ⟨rfl, F', hL7, hM7⟩; have HL7 := Lib.hid (And.intro hL7 (hM7.pre (HE1.out.trans (HE6.out.alloc _)))); clear hL7 hM7))
        go_ret
        refine ⟨rfl, F', ?_, HL7.out.2⟩
        rw [HK.out]
        exact HL7.out.1
end Go.Proofs.YtnkebhlkhpgghaaGreatDoor
/- The rule of XFree, what an operation leaves told of one slot more (that of one it waits for). Over any program. -/
namespace Go.Proofs.YtnkebhlkhpgghaaGreatDoor
open Go Go.RowKit

section
variable {P : Program} {ops : Array Oper} {Q : Exit → Act → World → Prop} {a0 : Act} {w0 : World}

theorem wpAny_aux {md : Region.Mode} {R : World → World → Prop} (Rt : ∀ {a b c}, R a b → R b c → R a c) (hpl : freeB md ops a0.tmps.size = true) (A : Nat → Act → World → Prop)
    (stab : ∀ (i : Nat) (a : Act) (w w' : World), A i a w → R w w' → A i a w')
    (loc : ∀ (i j : Nat) (o : Oper) (a : Act) (w : World) (v : Value), ops[j]? = some o → i ≠ j → (∀ oi, ops[i]? = some oi → ∀ e ∈ oi.after, Region.binds md e = true → e.on ≠ j) → A i a w → A i (a.put o.dst v) w)
    (step : ∀ (i : Nat) (o : Oper) (a : Act) (w : World), ops[i]? = some o → Beside ops a0 a → R w0 w → (∀ e ∈ o.after, Region.binds md e = true → A e.on a w) → o.wp P a w (fun a' w' => ∃ v, a' = a.put o.dst v ∧ R w w' ∧ A i a' w') Q)
    (fin : ∀ (a : Act) (w : World), Beside ops a0 a → R w0 w → (∀ i, i < ops.size → A i a w) → Q .normal a w) :
    ∀ (f : Nat) (listed : Array Bool) (a : Act) (w : World), listed.size = ops.size → unlisted listed = f → Beside ops a0 a → R w0 w → (∀ i, i < ops.size → listed.getD i true = true → A i a w) → (∀ i oi, ops[i]? = some oi → listed.getD i true = true → ∀ e ∈ oi.after, Region.binds md e = true → listed.getD e.on false = true) → wpAny P md ops Q f listed a w := by
  have hall := List.all_eq_true.1 hpl
  have opOk : ∀ (i : Nat) (o : Oper), ops[i]? = some o → o.guard = none ∧ (∀ e ∈ o.after, Region.binds md e = true → e.on < i) := by
    intro i o hi
    have hlt := (Array.getElem?_eq_some_iff.1 hi).1
    have h := hall i (List.mem_range.2 hlt)
    simp only [hi, Bool.and_eq_true] at h
    obtain ⟨⟨⟨h1, h2⟩, h3⟩, h4⟩ := h
    refine ⟨by simpa using h1, ?_⟩
    intro e he hbe
    have h3' := Array.all_eq_true'.1 h3
    have h4' := h3' e he
    rw [hbe] at h4'
    simpa using h4'
  -- some operation may come up, as long as one is left
  have some_ready : ∀ (listed : Array Bool), listed.size = ops.size → 0 < unlisted listed → Region.ready md ops listed ≠ [] := by
    intro listed hs hu
    have hex : ∃ i, listed.getD i true = false := by
      refine Classical.byContradiction fun hno => ?_
      have h1 : ∀ i, listed.getD i true = true := fun i => by
        cases h : listed.getD i true with
        | true => rfl
        | false => exact absurd ⟨i, h⟩ hno
      have h2 : unlisted listed = 0 := by
        unfold unlisted
        rw [List.length_eq_zero_iff, List.filter_eq_nil_iff]
        intro b hb
        obtain ⟨i, hi, rfl⟩ := List.mem_iff_getElem.1 hb
        have := h1 i
        simp at hi
        simpa [hi] using this
      omega
    have key : ∀ n i, i = n → listed.getD i true = false → ∃ j, j ∈ Region.ready md ops listed := by
      intro n
      induction n using Nat.strongRecOn with
      | _ n ih =>
        intro i hin hi
        subst hin
        have hlt : i < ops.size := by
          rcases Nat.lt_or_ge i ops.size with h | h
          · exact h
          · simp [Array.getElem?_eq_none (by omega : listed.size ≤ i)] at hi
        obtain ⟨o, ho⟩ : ∃ o, ops[i]? = some o := ⟨_, Array.getElem?_eq_getElem hlt⟩
        by_cases hd : ∀ e ∈ o.after, Region.binds md e = true → listed.getD e.on false = true
        · exact ⟨i, mem_ready.2 ⟨hi, o, ho, hd⟩⟩
        · have hd' : ∃ e ∈ o.after, Region.binds md e = true ∧ ¬ listed.getD e.on false = true := by
            refine Classical.byContradiction fun hno => hd fun e he hb => Classical.byContradiction fun hn => hno ⟨e, he, hb, hn⟩
          obtain ⟨e, he, hb, hl⟩ := hd'
          have hlt2 := (opOk i o ho).2 e he hb
          have : listed.getD e.on true = false := by
            have h5 : e.on < listed.size := by omega
            simp [h5] at hl ⊢
            exact hl
          exact ih e.on hlt2 e.on rfl this
    obtain ⟨i, hi⟩ := hex
    obtain ⟨j, hj⟩ := key i i rfl hi
    intro h0
    rw [h0] at hj
    cases hj
  intro f
  induction f with
  | zero =>
    intro listed a w hs hu hb he hA hD
    refine ⟨?_, fin a w hb he (fun i hi => hA i hi (unlisted_zero hu i))⟩
    refine List.eq_nil_iff_forall_not_mem.2 fun j hj => ?_
    have h1 := (mem_ready.1 hj).1
    have h2 := unlisted_zero hu j
    rw [h1] at h2
    cases h2
  | succ f ih =>
    intro listed a w hs hu hb he hA hD
    refine ⟨fun h0 => absurd h0 (some_ready listed hs (by omega)), fun i hi => ?_⟩
    obtain ⟨hun, o, ho, hdep⟩ := mem_ready.1 hi
    have hlt := (Array.getElem?_eq_some_iff.1 ho).1
    have hg := (opOk i o ho).1
    unfold wpOp
    simp only [ho, Region.wanted, hg, if_true]
    left
    refine Oper.wp_mono ?_ (step i o a w ho hb he (fun e he' hbd => hA e.on ?_ ?_))
    · rintro a' w' ⟨v, rfl, hE, hAi⟩
      refine ih _ _ _ (by simp [hs]) (by have := unlisted_set hun; omega) (hb.put ho v) (Rt he hE) (fun j hj hl => ?_) (fun j oj hoj hl e hee hbd => ?_)
      rotate_left
      · have hmono : ∀ k, listed.getD k false = true → (listed.setIfInBounds i true).getD k false = true := fun k hk => getD_set_true hk
        by_cases hji : j = i
        · subst hji
          obtain rfl : oj = o := Option.some.inj (hoj.symm.trans ho)
          exact hmono _ (hdep e hee hbd)
        · rw [getD_set_ne true (fun e => hji e.symm)] at hl
          exact hmono _ (hD j oj hoj hl e hee hbd)
      by_cases hji : j = i
      · subst hji; exact hAi
      · refine loc j i o a w' v ho hji (fun oj hoj e hee hbd hei => ?_) (stab j a w w' (hA j hj ?_) hE)
        · rw [getD_set_ne true (fun e => hji e.symm)] at hl
          have h1 := hD j oj hoj hl e hee hbd
          rw [hei] at h1
          have h2 := getD_both hun
          rw [h1] at h2
          cases h2
        · rw [getD_set_ne true (fun e => hji e.symm)] at hl
          exact hl
    · have := (opOk i o ho).2 e he' hbd; omega
    · have h1 := hdep e he' hbd
      have h2 : e.on < listed.size := by have := (opOk i o ho).2 e he' hbd; omega
      simp [h2] at h1 ⊢
      exact h1
/-- No operation but those that it waits for writes the slot that goes with an operation. -/
def auxB (md : Region.Mode) (ops : Array Oper) (aux : Nat → Tmp) : Bool :=
  (List.range ops.size).all fun i => match ops[i]? with
    | none => true
    | some o => (List.range ops.size).all fun j => decide (i = j) || (match ops[j]? with | none => true | some o' => o'.dst != some (aux i) || o.after.any (fun e => Region.binds md e && decide (e.on = j)))
/-- **The rule.** -/
theorem wp_region_aux {id : Nat} {w : World} {l : List Oper} (aux : Nat → Tmp) (R : World → World → Prop) (Rd : R w w.drew) (Rt : ∀ {a b c}, R a b → R b c → R a c) (hm : P.follows .mixedOrders = true) (hpl : freeB .any l.toArray a0.tmps.size = true) (hax : auxB .any l.toArray aux = true) (B : Nat → Value → Value → World → Prop)
    (stab : ∀ (i : Nat) (v x : Value) (w w' : World), B i v x w → R w w' → B i v x w')
    (step : ∀ (i : Nat) (o : Oper) (a : Act) (w' : World), l[i]? = some o → Beside l.toArray a0 a → R w w' → (∀ e ∈ o.after, Region.binds .any e = true → B e.on (a.eval (.tmp (slotOf l.toArray e.on))) (a.eval (.tmp (aux e.on))) w') → o.wp P a w' (fun a' w'' => ∃ v, a' = a.put o.dst v ∧ R w' w'' ∧ ∀ u x, (o.dst = none ∨ u = v) → (o.dst = some (aux i) ∨ x = a.eval (.tmp (aux i))) → B i u x w'') Q)
    (fin : ∀ (a : Act) (w' : World), Beside l.toArray a0 a → R w w' → (∀ i, i < l.length → B i (a.eval (.tmp (slotOf l.toArray i))) (a.eval (.tmp (aux i))) w') → Q .normal a w') : (Code.region id l.toArray true).wp P Q a0 w := by
  have hall := List.all_eq_true.1 hpl
  have hall2 := List.all_eq_true.1 hax
  have hsl : ∀ (i : Nat) (o : Oper), l[i]? = some o → slotOf l.toArray i = o.dst.getD 0 := fun i o h => by simp only [slotOf, List.getElem?_toArray, h, Option.bind_some]
  refine wp_region_any hm (wpAny_aux (R := R) (w0 := w) Rt hpl (fun i a w => ∀ o, l[i]? = some o → ∀ u, (o.dst = none ∨ u = a.eval (.tmp (slotOf l.toArray i))) → B i u (a.eval (.tmp (aux i))) w) (fun i a w w' h e o ho u hu => stab i _ _ w w' (h o ho u hu) e) ?_ ?_
    (fun a w' hb he h => fin a w' hb he (fun i hi => h i (by simpa using hi) l[i] (by simp [hi]) _ (.inr rfl))) _ _ _ _ (by simp) ?_ ⟨rfl, rfl, fun _ _ => rfl⟩ Rd ?_ ?_)
  · intro i j o a w v hj hij hnd h oi hoi u hu
    have hi := (List.getElem?_eq_some_iff.1 hoi).1
    have hjl := (Array.getElem?_eq_some_iff.1 hj).1
    have hj' : l[j]? = some o := by simpa using hj
    have hxe : (a.put o.dst v).eval (.tmp (aux i)) = a.eval (.tmp (aux i)) := by
      cases ho : o.dst with
      | none => rfl
      | some d' =>
        refine put_off v (fun e => ?_)
        have h1 := hall2 i (List.mem_range.2 (by simpa using hi))
        simp only [List.getElem?_toArray, hoi] at h1
        have h3 := List.all_eq_true.1 h1 j (List.mem_range.2 hjl)
        simp only [List.getElem?_toArray, hj', Bool.or_eq_true, decide_eq_true_eq] at h3
        rcases h3 with h3 | h3 | h3
        · exact hij h3
        · rw [ho, e] at h3; simp at h3
        · obtain ⟨k, hk, h4⟩ := Array.any_eq_true.1 h3
          simp only [Bool.and_eq_true, decide_eq_true_eq] at h4
          exact hnd oi (by simpa using hoi) _ (Array.getElem_mem hk) h4.1 h4.2
    rw [hxe]
    refine h oi hoi u ?_
    rcases hu with hu | hu
    · exact .inl hu
    · cases hd : oi.dst with
      | none => exact .inl rfl
      | some d =>
        have h1 := hall i (List.mem_range.2 (by simpa using hi))
        simp only [List.getElem?_toArray, hoi, Bool.and_eq_true] at h1
        have h2 := h1.2
        have h3 := List.all_eq_true.1 h2 j (List.mem_range.2 hjl)
        simp only [List.getElem?_toArray, hj', Bool.or_eq_true, decide_eq_true_eq, hd, Option.isNone_some] at h3
        have hne : o.dst ≠ some d := by
          rcases h3 with h3 | h3 | h3
          · exact absurd h3 hij
          · simpa using h3
          · cases h3
        rw [hsl i oi hoi, hd, Option.getD_some] at hu ⊢
        right
        rw [hu]
        cases ho : o.dst with
        | none => rfl
        | some d' => exact put_off v (fun e => hne (by rw [ho, e]))
  · intro i o a w' hi hb he hdep
    have hi' : l[i]? = some o := by simpa using hi
    have hlt := (List.getElem?_eq_some_iff.1 hi').1
    have h1 := hall i (List.mem_range.2 (by simpa using hlt))
    simp only [hi, Bool.and_eq_true] at h1
    have haf := Array.all_eq_true'.1 h1.1.2
    refine Oper.wp_mono ?_ (step i o a w' hi' hb he (fun e h2 h3 => hdep e h2 h3 (l[e.on]'(by have := haf e h2; rw [h3] at this; simp at this; omega)) (by simp) _ (.inr rfl)))
    rintro a' w'' ⟨v, rfl, hE, hB⟩
    refine ⟨v, rfl, hE, fun o' ho' u hu => hB u _ ?_ ?_⟩
    · obtain rfl : o = o' := Option.some.inj (hi'.symm.trans ho')
      cases hd : o.dst with
      | none => exact .inl rfl
      | some d =>
        right
        have h5 := h1.1.1.2
        rw [hd] at h5
        rw [hsl i o hi', hd, Option.getD_some, put_at v (by rw [hb.size]; simpa using h5)] at hu
        simpa [hd] using hu
    · cases hd : o.dst with
      | none => exact .inr rfl
      | some d =>
        by_cases hda : d = aux i
        · exact .inl (by rw [hda])
        · exact .inr (put_off v hda)
  · simp [unlisted]
  · intro i hi hl
    simp at hi
    simp [hi] at hl
  · intro i oi hoi hl
    have hi := (Array.getElem?_eq_some_iff.1 hoi).1
    simp at hi
    simp [hi] at hl
end
end Go.Proofs.YtnkebhlkhpgghaaGreatDoor
/- seglog: drop: the walk. -/
namespace Go.Proofs.YtnkebhlkhpgghaaGreatDoor
open Go Go.RowKit Go.Deep Go.Sort

def zs34 : List Value := [.int .u64 0, .int .u64 0] ++ List.replicate 32 (.int .u8 0)
theorem alloc_h34 (W : World) : (Instr.alloc 70 true (.tuple #[])).run Tryz.prog W = .ok (.pointer (some ⟨W.heap.size, 0, none⟩)) (W.alloc (.cells zs34.toArray 70)) := by kernel_rfl
theorem hd_one (h : Hd) : ∀ v ∈ h.cells, v.oneCell' = true := by
  intro v hv
  simp only [Hd.cells, List.mem_cons] at hv
  rcases hv with rfl | rfl | hv
  · rfl
  · rfl
  · exact bcells_one _ v hv
/-- What lies below N stands; a new block keeps what it holds, or gets xs or ys, by its type. -/
def Rn (N : Nat) (xs ys : List Value) (w w' : World) : Prop := Keep (fun i => N ≤ i) w w' ∧ ∀ (t : TypeId) (gg : Nat) (cs : List Value), N ≤ gg → Blk w gg t cs.toArray → Blk w' gg t cs.toArray ∨ (t = 42 ∧ Blk w' gg t xs.toArray) ∨ (t = 70 ∧ Blk w' gg t ys.toArray)
section
variable {N : Nat} {xs ys : List Value} {w w' : World}
theorem rn_ext (e : Ext w w') : Rn N xs ys w w' := ⟨Keep.of_ext e, fun t gg cs _ h => .inl (h.ext e)⟩
theorem rn_refl (N : Nat) (xs ys : List Value) (w : World) : Rn N xs ys w w := rn_ext (Ext.refl w)
theorem rn_alloc (w : World) (o : Obj) : Rn N xs ys w (w.alloc o) := rn_ext ((Ext.refl w).alloc o)
theorem rn_trans {a b c : World} (h : Rn N xs ys a b) (k : Rn N xs ys b c) : Rn N xs ys a c := by
  refine ⟨h.1.trans k.1, fun t gg cs hN hB => ?_⟩
  rcases h.2 t gg cs hN hB with h1 | ⟨ht, h1⟩ | ⟨ht, h1⟩
  · exact k.2 t gg cs hN h1
  · subst ht
    rcases k.2 _ gg xs hN h1 with h2 | h2 | h2
    · exact .inr (.inl ⟨rfl, h2⟩)
    · exact .inr (.inl h2)
    · exact .inr (.inr h2)
  · subst ht
    rcases k.2 _ gg ys hN h1 with h2 | h2 | h2
    · exact .inr (.inr ⟨rfl, h2⟩)
    · exact .inr (.inl h2)
    · exact .inr (.inr h2)
theorem rn_sup {gg : Nat} {cs : List Value} (e : Rn N xs ys w w') (hN : N ≤ gg) (h : Blk w gg 42 cs.toArray) : Blk w' gg 42 cs.toArray ∨ Blk w' gg 42 xs.toArray := by
  rcases e.2 _ gg cs hN h with h1 | ⟨_, h1⟩ | ⟨ht, _⟩
  · exact .inl h1
  · exact .inr h1
  · exact absurd ht (by decide)
theorem rn_hd {gg : Nat} {cs : List Value} (e : Rn N xs ys w w') (hN : N ≤ gg) (h : Blk w gg 70 cs.toArray) : Blk w' gg 70 cs.toArray ∨ Blk w' gg 70 ys.toArray := by
  rcases e.2 _ gg cs hN h with h1 | ⟨ht, _⟩ | ⟨_, h1⟩
  · exact .inl h1
  · exact absurd ht (by decide)
  · exact .inr h1
theorem rn_or1 {gg : Nat} {z : List Value} (e : Rn N xs ys w w') (hN : N ≤ gg) (h : Blk w gg 42 z.toArray ∨ Blk w gg 42 xs.toArray) : Blk w' gg 42 z.toArray ∨ Blk w' gg 42 xs.toArray := by
  rcases h with h | h
  · exact rn_sup e hN h
  · exact .inr ((rn_sup e hN h).elim id id)
theorem rn_or2 {gg : Nat} {z : List Value} (e : Rn N xs ys w w') (hN : N ≤ gg) (h : Blk w gg 70 z.toArray ∨ Blk w gg 70 ys.toArray) : Blk w' gg 70 z.toArray ∨ Blk w' gg 70 ys.toArray := by
  rcases h with h | h
  · exact rn_hd e hN h
  · exact .inr ((rn_hd e hN h).elim id id)
theorem rn_k1 {gg : Nat} (e : Rn N xs ys w w') (hN : N ≤ gg) (h : Blk w gg 42 xs.toArray) : Blk w' gg 42 xs.toArray := (rn_sup e hN h).elim id id
theorem rn_k2 {gg : Nat} (e : Rn N xs ys w w') (hN : N ≤ gg) (h : Blk w gg 70 ys.toArray) : Blk w' gg 70 ys.toArray := (rn_hd e hN h).elim id id
section
variable {o : Oper} {a : Act} {Q : Exit → Act → World → Prop} {s : Tmp}
theorem aux_val {R : World → World → Prop} {B : Value → Value → World → Prop} (v : Value) (w' : World) (hr : (execOp a.eval o).run Tryz.prog w = .ok (.value v) w') (hE : R w w') (hB : ∀ {x}, B v x w') (hd : o.dst ≠ none) :
    o.wp Tryz.prog a w (fun a' w'' => ∃ v, a' = a.put o.dst v ∧ R w w'' ∧ ∀ u x, (o.dst = none ∨ u = v) → (o.dst = some s ∨ x = a.eval (.tmp s)) → B u x w'') Q := by
  unfold Oper.wp
  rw [hr]
  exact ⟨v, rfl, hE, fun u x hu _ => by rcases hu with h | rfl; exact absurd h hd; exact hB⟩
theorem aux_store {B : Value → Value → World → Prop} {gg : Nat} {t : TypeId} {old vs : List Value} (hN : N ≤ gg) (hB : Blk w gg t old.toArray) (hl : old.length = vs.length) (ty : TypeId) (x y : Operand) (ho : o.op = .store ty x y) (hx : a.eval x = .pointer (some ⟨gg, 0, none⟩)) (hy : a.eval y = .agg vs.toArray)
    (hi : (Tryz.prog.info? ty).map (·.size) = some vs.length) (h1 : ∀ v ∈ vs, v.oneCell' = true) (ht : (t = 42 ∧ vs = xs) ∨ (t = 70 ∧ vs = ys)) (hK : ∀ w2, Blk w2 gg t vs.toArray → ∀ u x, x = a.eval (.tmp s) → B u x w2) (hd : o.dst = none) :
    o.wp Tryz.prog a w (fun a' w'' => ∃ v, a' = a.put o.dst v ∧ Rn N xs ys w w'' ∧ ∀ u x, (o.dst = none ∨ u = v) → (o.dst = some s ∨ x = a.eval (.tmp s)) → B u x w'') Q := by
  have hth := Blk.there (A := []) (B := old) (C := []) (by simpa using hB)
  have hS := Blk.setCells (w := w) vs w [] old [] (by simpa using hB) hl
  simp only [List.nil_append, List.append_nil, List.length_nil] at hS hth
  refine wp_store_mid ty x y ho gg 0 vs.toArray hx hy (by rw [hl] at hth; simpa using hth) (by simpa using hi) (all_oneCell_toArray h1) ?_
  refine ⟨undef, rfl, ⟨(Keep.setCells (One.self gg) vs w w 0 (Keep.refl _ _)).mono (fun i _ h => by have h2 : i = gg := h; omega), fun t' g' cs hN' hB' => ?_⟩, fun u x _ hx' => hK _ hS u x (hx'.elim (fun h => by rw [hd] at h; cases h) id)⟩
  by_cases hg : g' = gg
  · subst hg
    have htt : t' = t := Classical.byContradiction fun h => (hB'.ne hB h) rfl
    subst htt
    rcases ht with ⟨h1, h2⟩ | ⟨h1, h2⟩
    · subst h2; exact .inr (.inl ⟨h1, hS⟩)
    · subst h2; exact .inr (.inr ⟨h1, hS⟩)
  · exact .inl (hB'.keep (Keep.setCells (One.self gg) vs w w 0 (Keep.refl _ _)) hg)
end
end
/-- What the operations of drop's region leave. -/
def drB (g hb ho n hc N : Nat) (xs ys : List Value) : Nat → Value → Value → World → Prop
  | 0, u, _, _ => u = .pointer (some ⟨g, 0, none⟩)
  | 1, u, _, _ => u = .pointer (some ⟨g, 0, none⟩)
  | 2, u, _, _ => u = .pointer (some ⟨g, 3, none⟩)
  | 3, u, _, _ => u = .agg xs.toArray
  | 4, u, _, _ => u = .pointer (some ⟨g, 0, none⟩)
  | 5, u, _, _ => u = .pointer (some ⟨g, 0, none⟩)
  | 6, u, _, _ => u = .pointer (some ⟨g, 73, none⟩)
  | 7, u, _, _ => u = .slice (some ⟨hb, ho, none⟩) (n + 2) hc
  | 8, u, _, _ => u = .pointer (some ⟨hb, ho + 34, none⟩)
  | 9, u, _, _ => u = .agg ys.toArray
  | 10, u, _, w => ∃ gg, u = .pointer (some ⟨gg, 0, none⟩) ∧ N ≤ gg ∧ (Blk w gg 42 zs70.toArray ∨ Blk w gg 42 xs.toArray)
  | 11, u, _, w => ∃ gg, u = .pointer (some ⟨gg, 0, none⟩) ∧ N ≤ gg ∧ (Blk w gg 70 zs34.toArray ∨ Blk w gg 70 ys.toArray)
  | 12, _, x, w => ∃ gg, x = .pointer (some ⟨gg, 0, none⟩) ∧ N ≤ gg ∧ Blk w gg 42 xs.toArray
  | _, _, x, w => ∃ gg, x = .pointer (some ⟨gg, 0, none⟩) ∧ N ≤ gg ∧ Blk w gg 70 ys.toArray
theorem drB_stab (g hb ho n hc N : Nat) (xs ys : List Value) (i : Nat) (u x : Value) (w w' : World) (hB : drB g hb ho n hc N xs ys i u x w) (e : Rn N xs ys w w') : drB g hb ho n hc N xs ys i u x w' := by
  rcases i with _ | _ | _ | _ | _ | _ | _ | _ | _ | _ | _ | _ | _ | i <;> simp only [drB] at hB ⊢
  all_goals first | exact hB | (obtain ⟨gg, h1, h2, h3⟩ := hB; exact ⟨gg, h1, h2, by first | exact rn_or1 e h2 h3 | exact rn_or2 e h2 h3⟩) | (obtain ⟨gg, h1, h0, h2⟩ := hB; exact ⟨gg, h1, h0, by first | exact rn_k1 e h0 h2 | exact rn_k2 e h0 h2⟩)
def dsB (X Z : Nat) (Y : List Value) (h : Hd) : Nat → Value → World → Prop
  | 0, u, _ => u = .pointer (some ⟨Z, 1, none⟩)
  | 1, u, _ => u = .int .u64 h.first
  | 2, u, _ => u = .pointer (some ⟨Z, 2, none⟩)
  | 3, u, _ => u = .agg (bcells h.anchor).toArray
  | 4, u, _ => u = .pointer (some ⟨X, 2, none⟩)
  | 5, _, w => Sx w X Y 2 3
  | 6, u, _ => u = .pointer (some ⟨X, 3, none⟩)
  | _, _, w => Sx w X Y 3 35
theorem dsB_stab (X Z : Nat) (Y : List Value) (h : Hd) (i : Nat) (u : Value) (w w' : World) (hB : dsB X Z Y h i u w) (e : Rx X Y w w') : dsB X Z Y h i u w' := by
  rcases i with _ | _ | _ | _ | _ | _ | _ | i <;> simp only [dsB] at hB ⊢ <;> first | exact hB | exact hB.rx e
def Sp.dropped (x : Sp) (h : Hd) : Sp := { x with epoch := IntKind.u64.wrap (x.epoch + 1), tail := IntKind.u64.wrap (x.tail + 1), first := h.first, anchor := h.anchor }
def Lg.drop (m : Lg) : Lg := match m.heads with
  | _ :: h2 :: r => { m.write (m.x.dropped h2) with heads := h2 :: r }
  | _ => m
theorem Sp.In.dropped {x : Sp} (h : x.In) {y : Hd} (hy : y.In) : (x.dropped y).In := by
  refine ⟨?_, hy.a, h.s⟩
  have := h.nums
  simp only [Sp.nums, List.mem_cons, List.mem_nil_iff, or_false, forall_eq_or_imp, forall_eq, Sp.dropped] at this ⊢
  exact ⟨wrap_in _, wrap_in _, ⟨hy.f0, hy.f1⟩, this.2.2.2⟩
theorem Lg.Ok.drop {m : Lg} (h : m.Ok) : m.drop.Ok := by
  unfold Lg.drop
  split
  · rename_i h1 h2 r he
    have hy : h2.In := h.hds h2 (by rw [he]; simp)
    have k := h.write (h.x.dropped hy)
    have l := h.h2
    rw [he] at l
    exact ⟨k.s1, k.s2, k.p1, k.fit, k.sz, k.cap, k.x, fun y hy => h.hds y (by rw [he]; exact List.mem_cons_of_mem _ hy), by simp, by simp at l ⊢; omega, k.sum, k.n0, k.n1, k.e1, k.e2, k.pn⟩
  · exact h
theorem rx_end2 {w3 w4 : World} {X : Nat} {x0 Y : List Value} (h0 : Blk w3 X 42 x0.toArray) (hr : Rx X Y w3 w4) (h1 : x0.length = Y.length) (hp : ∀ i, i < Y.length → Y[i]? = x0[i]? ∨ ∃ lo hi, Sx w4 X Y lo hi ∧ lo ≤ i ∧ i < hi) : Blk w4 X 42 Y.toArray := by
  obtain ⟨cs, hB, hl, hc⟩ := hr.2 x0 h0
  have key : ∀ lo hi, Sx w4 X Y lo hi → ∀ i, lo ≤ i → i < hi → cs[i]? = Y[i]? := by
    rintro lo hi ⟨c2, hB2, hc2⟩ i hlo hhi
    have hcc : c2 = cs := by
      have e1 := hB; have e2 := hB2
      unfold Blk at e1 e2
      rw [e1] at e2
      injection e2 with e2
      injection e2 with e2
      exact (List.toArray_inj e2).symm
    subst hcc
    exact hc2 i hlo hhi
  have : cs = Y := by
    apply List.ext_getElem?
    intro i
    by_cases hi : i < Y.length
    · rcases hp i hi with h | ⟨lo, hh, hs, ha, hb⟩
      · rcases hc i with h' | h'
        · rw [h', h]
        · exact h'
      · exact key lo hh hs i ha hb
    · rw [List.getElem?_eq_none (by omega), List.getElem?_eq_none (by omega)]
  rw [← this]
  exact hB
theorem lg_set73 {d : Nat} {v v' : Value} {m : Lg} (hx : m.x.cells.length = 70) : (lgCells d v m).toArray.setIfInBounds 73 v' = (lgCells d v' m).toArray := by
  unfold lgCells
  simp only [List.setIfInBounds_toArray]
  rw [List.set_append_right _ _ (by simp [lgA, hx])]
  simp [lgA, hx]
theorem logDrop1_any {F : Nat → Prop} {g d : Nat} {m : Lg} (w : World) (h : Log F w g d m) (hl : m.heads.length = 1) : Calls Tryz.prog 62 #[.pointer (some ⟨g, 0, none⟩)] w (DidL F w g d (.int .i64 0) m.drop) := by
  have hk : m.drop = m := by
    unfold Lg.drop
    split
    · rename_i he; rw [he] at hl; simp at hl
    · rfl
  rw [hk]
  have HL := Lib.hid h
  obtain ⟨hb, ho, hc, h⟩ := h
  have c := h.c73
  rw [hl] at c
  clear h hl hk
  go_enter Tryz.func62, Tryz.ntmps62
  go_wp2_with fail
  go_ret
  exact ⟨rfl, F, HL.out, Moves.refl _ _⟩
set_option maxRecDepth 8000 in
set_option maxHeartbeats 3200000 in
theorem logDrop2_any {F : Nat → Prop} {g d : Nat} {m : Lg} (w : World) (h : Log F w g d m) (h1 h2 : Hd) (r : List Hd) (hh : m.heads = h1 :: h2 :: r) : Calls Tryz.prog 62 #[.pointer (some ⟨g, 0, none⟩)] w (DidL F w g d (.int .i64 0) m.drop) := by
  obtain ⟨hb, ho, hc, h⟩ := h
  have hk : m.drop = { m.write (m.x.dropped h2) with heads := h2 :: r } := by unfold Lg.drop; rw [hh]
  have HK := Lib.hid hk
  have hy : h2.In := h.ok.hds h2 (by rw [hh]; simp)
  have HHI := Lib.hid (hd_info hy)
  have HHL := Lib.hid (show h2.cells.length = 34 from by simp [Hd.cells, bcells, hy.a])
  have HXL := Lib.hid (Sp.cells_length h.ok.x)
  have HXI := Lib.hid (sp_infoOf h.ok.x)
  have HOK := Lib.hid h.ok
  have HYI := Lib.hid hy
  have HH := Lib.hid h
  have hlen : m.heads.length = r.length + 2 := by rw [hh]; simp
  have hn2 := h.ok.h2
  have hc1 := h.hc1
  have hc2 := h.hc2
  have c := h.c73
  have HHD := Lib.hid (show m.heads[1]? = some h2 from by rw [hh]; rfl)
  have HH2 := Lib.hid hh
  rw [hlen] at c hn2 hc1
  generalize hr : r.length = n at *
  have HN := Lib.hid (And.intro hlen hr)
  clear h hk hy hlen hh hr
  go_enter Tryz.func62, Tryz.ntmps62
  go_wp2_with fail
  refine wp_region_aux (fun i => match i with | 0 => 12 | 1 => 13 | 2 => 14 | 3 => 15 | 4 => 16 | 5 => 17 | 6 => 18 | 7 => 19 | 8 => 20 | 9 => 21 | 10 => 3 | 11 => 4 | 12 => 3 | _ => 4) (Rn w.heap.size m.x.cells h2.cells) (rn_ext ((Ext.refl _).drew)) rn_trans (by kernel_rfl) (by kernel_rfl) (by kernel_rfl) (drB g hb ho n hc w.heap.size m.x.cells h2.cells) (drB_stab g hb ho n hc w.heap.size m.x.cells h2.cells) ?_ ?_
  · intro i o a w' hi hbs hr hd
    have e0 : a.eval (.tmp 0) = .pointer (some ⟨g, 0, none⟩) := hbs.outer 0 (by kernel_rfl)
    have HLr := HH.out.keep hr.1 (fun i hi hx => by have h1 := HH.out.disk.sz i hi; omega) (fun hx => by have h1 := HH.out.blk.lt; omega) (fun hx => by have h1 := HH.out.lt; omega)
    have c73 := HLr.c73
    rw [HN.out.1] at c73
    have hnn : ¬ ((n : Int) + 2 ≤ 1) := by omega
    have hxr : w'.rangeAt g 3 m.x.cells := Blk.rangeAt (A := lgA d m) (B := m.x.cells) (C := lgC (.slice (some ⟨hb, ho, none⟩) m.heads.length hc) m) HLr.blk
    have hhr : w'.rangeAt hb (ho + 34) h2.cells := fun j v hv => by have := HLr.hd 1 h2 HHD.out j v hv; rw [Nat.one_mul] at this; exact this
    rcases i with _ | _ | _ | _ | _ | _ | _ | _ | _ | _ | _ | _ | _ | _ | i
    · obtain rfl := Option.some.inj hi
      refine aux_val (.pointer (some ⟨g, 0, none⟩)) w' ?_ (rn_refl _ _ _ _) rfl (by simp)
      have ec : ∀ v, a.eval (.const v) = v := fun _ => rfl
      generalize a.eval = ρ at *
      simp [go_sem, ec, e0]
    · obtain rfl := Option.some.inj hi
      have h12 : a.eval (.tmp 12) = _ := hd ⟨0, .data⟩ (by simp) rfl
      refine aux_val (.pointer (some ⟨g, 0, none⟩)) w' ?_ (rn_refl _ _ _ _) rfl (by simp)
      have ec : ∀ v, a.eval (.const v) = v := fun _ => rfl
      generalize a.eval = ρ at *
      simp [go_sem, h12, ec]
    · obtain rfl := Option.some.inj hi
      have h13 : a.eval (.tmp 13) = _ := hd ⟨1, .data⟩ (by simp) rfl
      refine aux_val (.pointer (some ⟨g, 3, none⟩)) w' ?_ (rn_refl _ _ _ _) rfl (by simp)
      have ec : ∀ v, a.eval (.const v) = v := fun _ => rfl
      generalize a.eval = ρ at *
      simp [go_sem, h13, ec]
    · obtain rfl := Option.some.inj hi
      have h14 : a.eval (.tmp 14) = _ := hd ⟨2, .data⟩ (by simp) rfl
      refine aux_val (.agg m.x.cells.toArray) w' ?_ (rn_refl _ _ _ _) rfl (by simp)
      simp only [execOp, Instr.loadAt, h14, Instr.sureAddr, Sem.run_bind, Sem.run_pure, Result.andThen_ok, run_loadVar_mid w' g 3 42 m.x.cells _ hxr Tryz.underlying42 rfl (sp_infoOf HOK.out.x)]
    · obtain rfl := Option.some.inj hi
      refine aux_val (.pointer (some ⟨g, 0, none⟩)) w' ?_ (rn_refl _ _ _ _) rfl (by simp)
      have ec : ∀ v, a.eval (.const v) = v := fun _ => rfl
      generalize a.eval = ρ at *
      simp [go_sem, ec, e0]
    · obtain rfl := Option.some.inj hi
      have h16 : a.eval (.tmp 16) = _ := hd ⟨4, .data⟩ (by simp) rfl
      refine aux_val (.pointer (some ⟨g, 0, none⟩)) w' ?_ (rn_refl _ _ _ _) rfl (by simp)
      have ec : ∀ v, a.eval (.const v) = v := fun _ => rfl
      generalize a.eval = ρ at *
      simp [go_sem, h16, ec]
    · obtain rfl := Option.some.inj hi
      have h17 : a.eval (.tmp 17) = _ := hd ⟨5, .data⟩ (by simp) rfl
      refine aux_val (.pointer (some ⟨g, 73, none⟩)) w' ?_ (rn_refl _ _ _ _) rfl (by simp)
      have ec : ∀ v, a.eval (.const v) = v := fun _ => rfl
      generalize a.eval = ρ at *
      simp [go_sem, h17, ec]
    · obtain rfl := Option.some.inj hi
      have h18 : a.eval (.tmp 18) = _ := hd ⟨6, .data⟩ (by simp) rfl
      refine aux_val (.slice (some ⟨hb, ho, none⟩) (n + 2) hc) w' ?_ (rn_refl _ _ _ _) rfl (by simp)
      have ec : ∀ v, a.eval (.const v) = v := fun _ => rfl
      generalize a.eval = ρ at *
      simp [go_sem, h18, ec, c73]
    · obtain rfl := Option.some.inj hi
      have h19 : a.eval (.tmp 19) = _ := hd ⟨7, .data⟩ (by simp) rfl
      refine aux_val (.pointer (some ⟨hb, ho + 34, none⟩)) w' ?_ (rn_refl _ _ _ _) rfl (by simp)
      have ec : ∀ v, a.eval (.const v) = v := fun _ => rfl
      generalize a.eval = ρ at *
      simp [go_sem, h19, ec, hnn]
    · obtain rfl := Option.some.inj hi
      have h20 : a.eval (.tmp 20) = _ := hd ⟨8, .data⟩ (by simp) rfl
      refine aux_val (.agg h2.cells.toArray) w' ?_ (rn_refl _ _ _ _) rfl (by simp)
      simp only [execOp, Instr.loadAt, h20, Instr.sureAddr, Sem.run_bind, Sem.run_pure, Result.andThen_ok, run_loadVar_mid w' hb (ho + 34) 70 h2.cells _ hhr Tryz.underlying70 rfl HHI.out]
    · obtain rfl := Option.some.inj hi
      refine aux_val (.pointer (some ⟨w'.heap.size, 0, none⟩)) (w'.alloc (.cells Tryz.zeroCells42 42)) ?_ (rn_alloc _ _) ⟨w'.heap.size, rfl, hr.1.size, .inl (by rw [← zc_sp]; exact Blk.new _ _ _)⟩ (by simp)
      have ec : ∀ v, a.eval (.const v) = v := fun _ => rfl
      generalize a.eval = ρ at *
      simp [go_sem, ec]
    · obtain rfl := Option.some.inj hi
      refine aux_val (.pointer (some ⟨w'.heap.size, 0, none⟩)) (w'.alloc (.cells zs34.toArray 70)) ?_ (rn_alloc _ _) ⟨w'.heap.size, rfl, hr.1.size, .inl (Blk.new _ _ _)⟩ (by simp)
      simp only [execOp, Sem.run_bind, alloc_h34, Result.andThen_ok, Sem.run_pure]
    · obtain rfl := Option.some.inj hi
      obtain ⟨g3, h3, b3⟩ := hd ⟨10, .data⟩ (by simp) rfl
      have h3 : a.eval (.tmp 3) = _ := h3
      have h15 : a.eval (.tmp 15) = _ := hd ⟨3, .data⟩ (by simp) rfl
      have hx : a.eval (.tmp 3) = _ := h3
      rcases b3.2 with hB | hB
      · exact aux_store b3.1 hB (HXL.out.trans rfl).symm 42 _ _ rfl hx h15 HXI.out (Sp.cells_one _) (.inl ⟨rfl, rfl⟩) (fun w2 hB2 u x hx2 => ⟨g3, by rw [← hx]; exact hx2, b3.1, hB2⟩) rfl
      · exact aux_store b3.1 hB rfl 42 _ _ rfl hx h15 HXI.out (Sp.cells_one _) (.inl ⟨rfl, rfl⟩) (fun w2 hB2 u x hx2 => ⟨g3, by rw [← hx]; exact hx2, b3.1, hB2⟩) rfl
    · obtain rfl := Option.some.inj hi
      obtain ⟨g4, h4, b4⟩ := hd ⟨11, .data⟩ (by simp) rfl
      have h4 : a.eval (.tmp 4) = _ := h4
      have h21 : a.eval (.tmp 21) = _ := hd ⟨9, .data⟩ (by simp) rfl
      have hx : a.eval (.tmp 4) = _ := h4
      rcases b4.2 with hB | hB
      · exact aux_store b4.1 hB (HHL.out.trans rfl).symm 70 _ _ rfl hx h21 HHI.out (hd_one _) (.inr ⟨rfl, rfl⟩) (fun w2 hB2 u x hx2 => ⟨g4, by rw [← hx]; exact hx2, b4.1, hB2⟩) rfl
      · exact aux_store b4.1 hB rfl 70 _ _ rfl hx h21 HHI.out (hd_one _) (.inr ⟨rfl, rfl⟩) (fun w2 hB2 u x hx2 => ⟨g4, by rw [← hx]; exact hx2, b4.1, hB2⟩) rfl
    · cases hi
  · intro a w4 hbs hR hA
    obtain ⟨X, h3, hXN, hBX⟩ := hA 12 (by decide)
    obtain ⟨Y, h4, hYN, hBY⟩ := hA 13 (by decide)
    have h3 : a.eval (.tmp 3) = .pointer (some ⟨X, 0, none⟩) := h3
    have h4 : a.eval (.tmp 4) = .pointer (some ⟨Y, 0, none⟩) := h4
    have g0 : a.eval (.tmp 0) = .pointer (some ⟨g, 0, none⟩) := hbs.outer 0 (by kernel_rfl)
    have g2 : a.eval (.tmp 2) = .int .i64 0 := hbs.outer 2 (by kernel_rfl)
    have HE4 := Lib.hid (hR.1.ext (fun i hi => hi))
    have HXN := Lib.hid (And.intro hXN hYN)
    have HXZ := Lib.hid (show Y ≠ X from hBY.ne hBX (by decide))
    rw [act_lit (n := 50) hbs.size, hbs.defers]
    simp only [show List.range 50 = [0, 1, 2, 3, 4, 5, 6, 7, 8, 9, 10, 11, 12, 13, 14, 15, 16, 17, 18, 19, 20, 21, 22, 23, 24, 25, 26, 27, 28, 29, 30, 31, 32, 33, 34, 35, 36, 37, 38, 39, 40, 41, 42, 43, 44, 45, 46, 47, 48, 49] from rfl, List.map_cons, List.map_nil, g0, g2, h3, h4]
    obtain ⟨w5, hw5⟩ : ∃ w5, w5 = w4.setCell ⟨X, 0, none⟩ (.int .u64 (IntKind.u64.wrap (m.x.epoch + 1))) := ⟨_, rfl⟩
    obtain ⟨w6, hw6⟩ : ∃ w6, w6 = w5.setCell ⟨X, 1, none⟩ (.int .u64 (IntKind.u64.wrap (m.x.tail + 1))) := ⟨_, rfl⟩
    have hB5 : Blk w5 X 42 m.x.newer.cells.toArray := by rw [hw5]; exact hBX.set 0 _
    have hB6 : Blk w6 X 42 ({ m.x.newer with tail := IntKind.u64.wrap (m.x.tail + 1) } : Sp).cells.toArray := by rw [hw6]; exact hB5.set 1 _
    have hZ6 : Blk w6 Y 70 h2.cells.toArray := by rw [hw6, hw5]; exact (hBY.far HXZ.out _).far HXZ.out _
    have hE6 : Ext w w6 := by rw [hw6, hw5]; exact (HE4.out.setCell (p := ⟨X, 0, none⟩) hXN _).setCell (p := ⟨X, 1, none⟩) hXN _
    have cx0 : w4.cell? ⟨X, 0, none⟩ = some (.int .u64 m.x.epoch) := hBX.cell 0
    have cf0 : w4.frozen? ⟨X, 0, none⟩ = false := hBX.frozen 0
    have cx1 : w5.cell? ⟨X, 1, none⟩ = some (.int .u64 m.x.tail) := hB5.cell 1
    have cf1 : w5.frozen? ⟨X, 1, none⟩ = false := hB5.frozen 1
    have HX6 := Lib.hid hB6
    have HZ6 := Lib.hid hZ6
    have HE6 := Lib.hid hE6
    clear hA h3 h4 g0 g2 hbs hR hBX hBY hB5 hB6 hZ6 hE6 hXN hYN
    generalize a.eval = ρ
    go_wp2_with (first | (have hs := cx0; rw [← hw5]; clear hw5 cx0 cf0) | (rw [← hw6]; clear hw6))
    have HY := Lib.hid (show (m.x.dropped h2).cells[2]? = some (.int .u64 h2.first) ∧ (∀ j, j < (bcells h2.anchor).length → (bcells h2.anchor)[j]? = (m.x.dropped h2).cells[3 + j]?) from by
      refine ⟨rfl, fun j hj => ?_⟩
      simp only [Sp.cells, Sp.dropped]
      rw [List.getElem?_append_left (by simp [bcells] at hj ⊢; omega), List.getElem?_append_right (by simp)]
      simp)
    have HAL := Lib.hid (show (bcells h2.anchor).length = 32 from by simp [bcells, HYI.out.a])
    have HDI := Lib.hid (show (Tryz.prog.info? 40).map (·.size) = some (bcells h2.anchor).length from by rw [HAL.out]; kernel_rfl)
    have HXL6 := Lib.hid (show ({ m.x.newer with tail := IntKind.u64.wrap (m.x.tail + 1) } : Sp).cells.length = 70 from by simp [Sp.cells, Sp.newer, bcells, HOK.out.x.a, HOK.out.x.s])
    have HDL := Lib.hid (Sp.cells_length (HOK.out.x.dropped HYI.out))
    refine wp_region_free (Rx X (m.x.dropped h2).cells) (rx_ext ((Ext.refl _).drew)) rx_trans (by kernel_rfl) (by kernel_rfl) (dsB X Y (m.x.dropped h2).cells h2) (dsB_stab X Y (m.x.dropped h2).cells h2) ?_ ?_
    · intro i o a w' hi hbs hr hd
      have e3 : a.eval (.tmp 3) = .pointer (some ⟨X, 0, none⟩) := hbs.outer 3 (by kernel_rfl)
      have e4 : a.eval (.tmp 4) = .pointer (some ⟨Y, 0, none⟩) := hbs.outer 4 (by kernel_rfl)
      have hz := HZ6.out.keep hr.1 HXZ.out
      have cz1 : w'.cell? ⟨Y, 1, none⟩ = some (.int .u64 h2.first) := hz.cell 1
      have hzr : w'.rangeAt Y 2 (bcells h2.anchor) := Blk.rangeAt (A := [.int .u64 h2.id, .int .u64 h2.first]) (B := bcells h2.anchor) (C := []) (by simpa [Hd.cells] using hz)
      rcases i with _ | _ | _ | _ | _ | _ | _ | _ | i
      · obtain rfl := Option.some.inj hi
        refine free_val (.pointer (some ⟨Y, 1, none⟩)) w' ?_ (rx_refl _ _ _) rfl (by simp)
        have ec : ∀ v, a.eval (.const v) = v := fun _ => rfl
        generalize a.eval = ρ at *
        simp [go_sem, ec, e4]
      · obtain rfl := Option.some.inj hi
        have h30 : a.eval (.tmp 30) = _ := hd ⟨0, .data⟩ (by simp) rfl
        refine free_val (.int .u64 h2.first) w' ?_ (rx_refl _ _ _) rfl (by simp)
        have ec : ∀ v, a.eval (.const v) = v := fun _ => rfl
        generalize a.eval = ρ at *
        simp [go_sem, h30, ec, cz1]
      · obtain rfl := Option.some.inj hi
        refine free_val (.pointer (some ⟨Y, 2, none⟩)) w' ?_ (rx_refl _ _ _) rfl (by simp)
        have ec : ∀ v, a.eval (.const v) = v := fun _ => rfl
        generalize a.eval = ρ at *
        simp [go_sem, ec, e4]
      · obtain rfl := Option.some.inj hi
        have h32 : a.eval (.tmp 32) = _ := hd ⟨2, .data⟩ (by simp) rfl
        refine free_val (.agg (bcells h2.anchor).toArray) w' ?_ (rx_refl _ _ _) rfl (by simp)
        simp only [execOp, Instr.loadAt, h32, Instr.sureAddr, Sem.run_bind, Sem.run_pure, Result.andThen_ok, run_loadVar_mid w' Y 2 40 (bcells h2.anchor) _ hzr Tryz.underlying40 rfl HDI.out]
      · obtain rfl := Option.some.inj hi
        refine free_val (.pointer (some ⟨X, 2, none⟩)) w' ?_ (rx_refl _ _ _) rfl (by simp)
        have ec : ∀ v, a.eval (.const v) = v := fun _ => rfl
        generalize a.eval = ρ at *
        simp [go_sem, ec, e3]
      · obtain rfl := Option.some.inj hi
        have h34 : a.eval (.tmp 34) = _ := hd ⟨4, .data⟩ (by simp) rfl
        have h31 : a.eval (.tmp 31) = _ := hd ⟨1, .data⟩ (by simp) rfl
        exact st_one 2 _ _ _ rfl h34 h31 HX6.out hr HY.out.1 (by rw [HXL6.out]; decide)
      · obtain rfl := Option.some.inj hi
        refine free_val (.pointer (some ⟨X, 3, none⟩)) w' ?_ (rx_refl _ _ _) rfl (by simp)
        have ec : ∀ v, a.eval (.const v) = v := fun _ => rfl
        generalize a.eval = ρ at *
        simp [go_sem, ec, e3]
      · obtain rfl := Option.some.inj hi
        have h35 : a.eval (.tmp 35) = _ := hd ⟨6, .data⟩ (by simp) rfl
        have h33 : a.eval (.tmp 33) = _ := hd ⟨3, .data⟩ (by simp) rfl
        refine Oper.wp_mono ?_ (st_row 3 (bcells h2.anchor) 40 _ _ rfl h35 h33 HDI.out (bcells_one _) HX6.out hr HY.out.2 (by rw [HXL6.out, HAL.out]; decide))
        rintro a2 w2 ⟨v, h1, h2, h3⟩
        rw [HAL.out] at h3
        exact ⟨v, h1, h2, h3⟩
      · cases hi
    · intro a w7 hbs hR hA
      have g0 : a.eval (.tmp 0) = .pointer (some ⟨g, 0, none⟩) := hbs.outer 0 (by kernel_rfl)
      have g2 : a.eval (.tmp 2) = .int .i64 0 := hbs.outer 2 (by kernel_rfl)
      have g3 : a.eval (.tmp 3) = .pointer (some ⟨X, 0, none⟩) := hbs.outer 3 (by kernel_rfl)
      have s1 := hA 5 (by decide)
      have s2 := hA 7 (by decide)
      have HE7 := Lib.hid (HE6.out.keep hR.1 (fun i hi => by cases hi; exact HXN.out.1))
      have HB7 := Lib.hid (rx_end2 HX6.out hR (by rw [HXL6.out, HDL.out]) (fun i hi => by
        rw [HDL.out] at hi
        by_cases i2 : i < 2
        · left
          match i, i2 with
          | 0, _ => rfl
          | 1, _ => rfl
        · by_cases i3 : i < 3
          · exact .inr ⟨2, 3, s1, by omega, i3⟩
          · by_cases i35 : i < 35
            · exact .inr ⟨3, 35, s2, by omega, i35⟩
            · left
              have e1 := sp_mid (m.x.dropped h2) HYI.out.a (i - 35)
              have e2 := sp_mid ({ m.x.newer with tail := IntKind.u64.wrap (m.x.tail + 1) } : Sp) HOK.out.x.a (i - 35)
              rw [List.getElem?_toArray, show 35 + (i - 35) = i from by omega] at e1 e2
              rw [e1, e2]
              rfl))
      have HW := Lib.hid (logWrite_any (m.x.dropped h2) w7 ⟨hb, ho, hc, HH.out.ext HE7.out⟩ (HOK.out.x.dropped HYI.out))
      have HDLI := Lib.hid (sp_infoOf (HOK.out.x.dropped HYI.out))
      rw [act_lit (n := 50) hbs.size, hbs.defers]
      simp only [show List.range 50 = [0, 1, 2, 3, 4, 5, 6, 7, 8, 9, 10, 11, 12, 13, 14, 15, 16, 17, 18, 19, 20, 21, 22, 23, 24, 25, 26, 27, 28, 29, 30, 31, 32, 33, 34, 35, 36, 37, 38, 39, 40, 41, 42, 43, 44, 45, 46, 47, 48, 49] from rfl, List.map_cons, List.map_nil, g0, g2, g3]
      clear hA g0 g2 g3 s1 s2 hbs hR
      generalize a.eval = ρ2
      have hnn : ¬ ((n : Int) + 2 < 1) := by omega
      go_wp2_with (first | (refine wpList_load_blk rfl 42 (.tmp 3) rfl X 42 (m.x.dropped h2).cells rfl HB7.out _ Tryz.underlying42 rfl HDLI.out ?_) | (go_at_call 73; refine HW.out.mono ?_; rintro e w8 ⟨rfl, F', ⟨hb2, ho2, hcc2, hL8⟩, hM8⟩; have c8 := hL8.c73; rw [show (m.write (m.x.dropped h2)).heads.length = n + 2 from HN.out.1] at c8; have cf8 := hL8.blk.frozen 73; have hc81 := hL8.hc1; rw [show (m.write (m.x.dropped h2)).heads.length = n + 2 from HN.out.1] at hc81; have hc82 := hL8.hc2; have HL8 := Lib.hid hL8; have HM8 := Lib.hid (hM8.pre HE7.out); clear hL8 hM8))
      go_ret
      have hr : r.length = n := HN.out.2
      have hKS : Keep (One g) w8 (w8.setCell ⟨g, 73, none⟩ (.slice (some ⟨hb2, ho2 + 34, none⟩) (n + 1) (hcc2 - 1))) := (Keep.refl (One g) w8).setIn (g := g) (show One g g from rfl) 73 _
      refine ⟨rfl, F', ?_, HM8.out.trans (fg_keep hKS)⟩
      rw [HK.out]
      have hok := HOK.out.drop
      rw [HK.out] at hok
      have hBn := HL8.out.blk.set 73 (.slice (some ⟨hb2, ho2 + 34, none⟩) (n + 1) (hcc2 - 1))
      rw [lg_set73 (Sp.cells_length HL8.out.ok.x)] at hBn
      refine ⟨hb2, ho2 + 34, hcc2 - 1, hok, ?_, HL8.out.disk.keep hKS (fun i hi hx => HL8.out.fg (by cases hx; exact hi)), ?_, ?_, by omega, HL8.out.fg, HL8.out.fh, HL8.out.gh⟩
      · have : (h2 :: r).length = n + 1 := by simp [hr]
        rw [this]
        exact hBn
      · intro i x hx j u hu
        have := HL8.out.hd (i + 1) x (by show m.heads[i + 1]? = some x; rw [HH2.out, List.getElem?_cons_succ]; exact hx) j u hu
        have h9 := cell_of_keep hKS (show ¬ One g hb2 from HL8.out.gh) this
        rw [← h9]
        congr 2
        rw [Nat.succ_mul]
        omega
      · show (h2 :: r).length ≤ hcc2 - 1
        simp [hr]; omega
theorem logDrop_any {F : Nat → Prop} {g d : Nat} {m : Lg} (w : World) (h : Log F w g d m) : Calls Tryz.prog 62 #[.pointer (some ⟨g, 0, none⟩)] w (DidL F w g d (.int .i64 0) m.drop) := by
  have hl := h.ok.h1
  rcases hh : m.heads with _ | ⟨h1, _ | ⟨h2, r⟩⟩
  · rw [hh] at hl; simp at hl
  · exact logDrop1_any w h (by rw [hh]; rfl)
  · exact logDrop2_any w h h1 h2 r hh
end Go.Proofs.YtnkebhlkhpgghaaGreatDoor
/- seglog: dropOne, turn; small parts of follow. -/
namespace Go.Proofs.YtnkebhlkhpgghaaGreatDoor
open Go Go.RowKit Go.Deep Go.Sort

def Lg.dropOne (m : Lg) : Lg := if m.heads.length < m.segs then m else m.drop
theorem Lg.Ok.dropOne {m : Lg} (h : m.Ok) : m.dropOne.Ok := by
  unfold Lg.dropOne
  split
  · exact h
  · exact h.drop
set_option maxRecDepth 8000 in
set_option maxHeartbeats 800000 in
theorem logDropOne_any {F : Nat → Prop} {g d : Nat} {m : Lg} (w : World) (h : Log F w g d m) : Calls Tryz.prog 65 #[.pointer (some ⟨g, 0, none⟩)] w (DidL F w g d (.int .i64 0) m.dropOne) := by
  have HD := Lib.hid (fun w' (e : Ext w w') => logDrop_any w' (h.ext e))
  have HL := Lib.hid h
  obtain ⟨hb, ho, hc, h⟩ := h
  have c73 := h.c73
  have c2 := h.c2
  have h2 := h.ok.h2
  have s2 := h.ok.s2
  have hk : m.dropOne = if m.heads.length < m.segs then m else m.drop := rfl
  have HK := Lib.hid hk
  clear h hk
  generalize m.heads.length = n at *
  by_cases hlt : n < m.segs
  · rw [if_pos hlt] at HK
    go_enter Tryz.func65, Tryz.ntmps65
    go_wp2_with fail
    go_quiet (fail)
    go_wp2_with fail
    go_ret
    refine ⟨rfl, F, ?_, Moves.of_ext ((Ext.refl w).drewN _)⟩
    rw [HK.out]
    exact HL.out.ext ((Ext.refl w).drewN _)
  · rw [if_neg hlt] at HK
    go_enter Tryz.func65, Tryz.ntmps65
    go_wp2_with fail
    go_quiet (fail)
    go_wp2_with (go_at_call 62; refine (HD.out _ ((Ext.refl w).drewN _)).mono ?_; rintro e w1 ⟨rfl, F', hL, hM⟩; have HL1 := Lib.hid (And.intro hL (hM.pre ((Ext.refl w).drewN _))); clear hL hM)
    go_ret
    refine ⟨rfl, F', ?_, HL1.out.2⟩
    rw [HK.out]
    exact HL1.out.1
end Go.Proofs.YtnkebhlkhpgghaaGreatDoor
