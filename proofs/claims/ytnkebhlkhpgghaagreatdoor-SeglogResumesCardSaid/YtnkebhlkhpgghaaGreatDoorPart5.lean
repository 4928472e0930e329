/- Part of a proof: the walks of the functions, and their plain laws: Head, Sup, Slots, Slots2, Ownt, Link. -/
import Derived.Test.YtnkebhlkhpgghaaGreatDoorPart4
set_option linter.unusedVariables false
set_option linter.unusedSimpArgs false

/- header.lay, PutHead, PutSuper: the walks. -/
namespace Go.Proofs.YtnkebhlkhpgghaaGreatDoor
open Go Go.RowKit Go.Deep

theorem repeat0 : ∀ c, Lib.repeatL [0] c = zeros c
  | 0 => rfl
  | c + 1 => by simp [Lib.repeatL, repeat0 c, zeros, List.replicate_succ]
theorem repeat_any (c : Nat) (w : World) (hc : c ≤ 140737488355328) : Calls Tryz.prog 77 #[.string (bs [0]), .int .i64 c] w (Ret (.string (bs (zeros c))) w) := by
  have h := Tryz.strings_Repeat (bs [0]) c w (by omega) (by rw [bs_size]; simp; omega)
  refine h.mono ?_
  rintro e w' ⟨rfl, h2⟩
  refine ⟨?_, h2⟩
  rw [show (bs [0]).data.toList = [0] from rfl, repeat0]
  rfl
def u64s (l : List Int) : Array Value := (l.map (Value.int .u64)).toArray
/-- Numbers, eight bytes each. -/
def lays (l : List Int) : Bytes := (l.map fun x => fixedB x 8).flatten
theorem lays_len (l : List Int) : (lays l).length = 8 * l.length := by
  induction l with
  | nil => rfl
  | cons x l ih => simp only [lays, List.map_cons, List.flatten_cons, List.length_append, fixedB_length, List.length_cons] at ih ⊢; omega
theorem alloc_bu (W : World) : (Instr.alloc 166 true (.tuple #[])).run Tryz.prog W = .ok (.pointer (some ⟨W.heap.size, 0, none⟩)) (W.alloc (.cells #[.pointer none, .slice none 0 0] 166)) := by kernel_rfl

set_option maxRecDepth 8000 in
set_option maxHeartbeats 800000 in
theorem hlay_any {g : Nat} (l : List Int) (c : Nat) (w : World) (hB : Blk w g 34 (u64s l)) (hl : l.length ≤ 1000) (hin : ∀ x ∈ l, 0 ≤ x ∧ x < 18446744073709551616) :
    Calls Tryz.prog 85 #[.slice (some ⟨g, 0, none⟩) l.length c] w (Ret (.string (bs (lays l))) w) := by
  have HB := Lib.hid hB
  have HI := Lib.hid hin
  have hal := alloc_bu
  have hgl := hB.lt
  clear hB hin
  go_enter Tryz.func85, Tryz.ntmps85
  go_wp2_with fail
  obtain ⟨w0, rfl⟩ : ∃ w0 : World, w0 = w := ⟨_, rfl⟩
  go_loopw [8] (fun t wr => ∃ (i : Nat), t = .int .i64 i ∧ i ≤ l.length ∧ Bu wr w0.heap.size w0.heap.size (lays (l.take i)) ∧ Ext w0 wr) (fun t _ => l.length - (intOf t).toNat)
  case atStart => exact ⟨0, rfl, by omega, Bu.new w0 _ (Nat.le_refl _), (Ext.refl _).alloc _⟩
  case round =>
    obtain ⟨i, rfl, hi, hU, hE⟩ := hrel
    have HU := Lib.hid hU
    have HE := Lib.hid hE
    clear hU hE
    by_cases hlt : i < l.length
    · have hi1 : (i : Int) < l.length := by omega
      have hx := HI.out (l.getD i 0) (by rw [List.getD_eq_getElem?_getD, List.getElem?_eq_getElem hlt]; simp)
      have hcx : wr.cell? ⟨g, i, none⟩ = some (.int .u64 (l.getD i 0)) := by
        rw [(HB.out.ext HE.out).cell]; simp [u64s, List.getD, hlt]
      have htk : lays (l.take i) ++ fixedB (l.getD i 0) 8 = lays (l.take (i + 1)) := by
        rw [lays, lays, List.take_succ_eq_append_getElem hlt, List.map_append, List.flatten_append, List.getD_eq_getElem?_getD, List.getElem?_eq_getElem hlt]
        simp only [List.map_cons, List.map_nil, List.flatten_cons, List.flatten_nil, List.append_nil, Option.getD_some]
      have htl : (lays (l.take i)).length = 8 * i := by rw [lays_len, List.length_take]; omega
      have HT := Lib.hid (And.intro htk htl)
      clear htk htl
      generalize l.getD i 0 = x at *
      have HF := Lib.hid (fun w => fixed_any x 8 w hx.1 hx.2 (by decide) (by decide))
      have HX := Lib.hid hx
      clear hx
      go_wp2_with (first | (go_at_call 94; refine (HF.out _).mono ?_; rintro e w1 ⟨rfl, hE1⟩; have HE1 := Lib.hid hE1; clear hE1) | (go_at_call 104; refine (writeStr_any (fixedB x 8) _ (HU.out.ext HE1.out) (by rw [HT.out.2, fixedB_length]; omega)).mono ?_; rintro e w2 ⟨rfl, hU2, hK2⟩; have HU2 := Lib.hid hU2; have HE2 := Lib.hid ((HE.out.trans HE1.out).keep hK2 (fun i hi => hi)); clear hU2 hK2))
      go_roundw
      case rel => exact ⟨i + 1, by go_num, by omega, by rw [← HT.out.1]; exact HU2.out, HE2.out⟩
      case measure => simp [intOf]; omega
    · have hi1 : ¬ (i : Int) < l.length := by omega
      obtain rfl : i = l.length := by omega
      go_wp2_with (go_at_call 106; refine (string_any _ HU.out HE.out.size).mono ?_; rintro e w1 ⟨rfl, hK1⟩; have HE1 := Lib.hid (HE.out.keep hK1 (fun i hi => hi)); clear hK1)
      go_ret
      exact ⟨rfl, HE1.out⟩

/-! ### A head -/
structure Hd where
  id : Int
  first : Int
  anchor : Bytes
  deriving DecidableEq
structure Hd.In (h : Hd) : Prop where
  i0 : 0 ≤ h.id
  i1 : h.id < 18446744073709551616
  f0 : 0 ≤ h.first
  f1 : h.first < 18446744073709551616
  a : h.anchor.length = 32
def Hd.cells (h : Hd) : List Value := .int .u64 h.id :: .int .u64 h.first :: bcells h.anchor
def Hd.front (h : Hd) : Bytes := [72] ++ lays [h.id, h.first] ++ h.anchor
def Hd.body (h : Hd) : Bytes := h.front ++ zeros 11
def Hd.text (h : Hd) : Bytes := h.body ++ fixedB (crcOf h.body) 4
theorem Hd.front_length {h : Hd} (hi : h.In) : h.front.length = 49 := by simp [Hd.front, lays_len, hi.a]
theorem Hd.text_length {h : Hd} (hi : h.In) : h.text.length = 64 := by simp [Hd.text, Hd.body, Hd.front_length hi, fixedB_length]
theorem one_string2 (x : UInt8) (w : World) (g : Nat) (h : w.cell? ⟨g, 0, none⟩ = some (.int .u8 x.toNat)) : (Go.convert 62 9 (.slice (some ⟨g, 0, none⟩) 1 1)).run Tryz.prog w = .ok (.string (bs [x])) w := by
  rw [run_convert_bytes_arg w 62 5 Tryz.underlying62 Tryz.underlying5 g 0 1 1 [(x.toNat : Int)] rfl (fun i hi => ?_) 9 Tryz.underlying9]
  · exact congrArg (fun z => Result.ok (Value.string z) w) (nums_bytes [x])
  · obtain rfl : i = 0 := by simp at hi; omega
    exact h
/-- Bytes that lie in a block's midst, as a string. -/
theorem mid_string {w : World} {g o : Nat} {t : TypeId} {cs : Array Value} {l : Bytes} (n c : Nat) (h : Blk w g t cs) (hn : n = l.length) (hc : ∀ i, i < l.length → cs[o + i]? = some (.int .u8 (l.getD i 0).toNat)) : (Go.convert 62 9 (.slice (some ⟨g, o, none⟩) n c)).run Tryz.prog w = .ok (.string (bs l)) w := by
  rw [run_convert_bytes_arg w 62 5 Tryz.underlying62 Tryz.underlying5 g o n c (l.map fun c => (c.toNat : Int)) (by simpa using hn.symm) (fun i hi => ?_) 9 Tryz.underlying9]
  · exact congrArg (fun z => Result.ok (Value.string z) w) (nums_bytes l)
  · have hi' : i < l.length := by omega
    rw [h.cell, hc i hi']
    simp [List.getD, hi']

theorem Hd.cells_mid (h : Hd) : ∀ i, i < h.anchor.length → h.cells.toArray[2 + i]? = some (.int .u8 (h.anchor.getD i 0).toNat) := by
  intro i hi
  simp only [Hd.cells, List.getElem?_toArray]
  rw [show 2 + i = i + 1 + 1 from by omega, List.getElem?_cons_succ, List.getElem?_cons_succ]
  simp [bcells, List.getD, hi]
/-- What the operations of PutHead's first region leave. -/
def phB (G : Nat) (h : Hd) : Nat → Value → World → Prop
  | 0, v, w => ∃ g, v = .slice (some ⟨g, 0, none⟩) 1 1 ∧ Blk w g 5 #[.int .u8 72]
  | 1, v, _ => v = .string (bs [72])
  | 2, v, _ => v = .pointer (some ⟨G, 0, none⟩)
  | 3, v, _ => v = .int .u64 h.id
  | 4, v, _ => v = .pointer (some ⟨G, 1, none⟩)
  | 5, v, _ => v = .int .u64 h.first
  | 6, v, w => ∃ g, v = .slice (some ⟨g, 0, none⟩) 2 2 ∧ Blk w g 34 (u64s [h.id, h.first])
  | 7, v, _ => v = .string (bs (lays [h.id, h.first]))
  | 8, v, _ => v = .string (bs ([72] ++ lays [h.id, h.first]))
  | 9, v, _ => v = .pointer (some ⟨G, 2, none⟩)
  | 10, v, _ => v = .slice (some ⟨G, 2, none⟩) 32 32
  | 11, v, _ => v = .string (bs h.anchor)
  | _, v, _ => v = .string (bs h.front)
theorem phB_stab (G : Nat) (h : Hd) (i : Nat) (v : Value) (w w' : World) (hB : phB G h i v w) (e : Ext w w') : phB G h i v w' := by
  rcases i with _ | _ | _ | _ | _ | _ | _ | _ | _ | _ | _ | _ | i <;> simp only [phB] at hB ⊢ <;> first | exact hB | (obtain ⟨g, h1, h2⟩ := hB; exact ⟨g, h1, h2.ext e⟩)
theorem eqGuard_add (t : TypeId) (x y : Operand) (a b : Value) (w : World) : (eqGuard .add t x y a b).run Tryz.prog w = .ok () w := rfl
theorem str_add (l m : Bytes) (w : World) (t : TypeId) (h : l.length + m.length ≤ 1000000000) : (binOp .add t (.string (bs l)) (.string (bs m))).run Tryz.prog w = .ok (.string (bs (l ++ m))) w := by
  have hc : ¬ 9223372036854775807 < (bs l).size + (bs m).size := by rw [bs_size, bs_size]; omega
  simp only [bs_size] at hc
  rw [← bs_append]
  simp [go_sem, hc]

set_option maxRecDepth 8000 in
set_option maxHeartbeats 1600000 in
theorem putHead_any (h : Hd) (w : World) (hi : h.In) : Calls Tryz.prog 84 #[.agg h.cells.toArray] w (Ret (.string (bs h.text)) w) := by
  have HI := Lib.hid hi
  obtain ⟨w1, hw1⟩ : ∃ w1, w1 = w.alloc (.cells h.cells.toArray 70) := ⟨_, rfl⟩
  have HB := Lib.hid (show Blk w1 w.heap.size 70 h.cells.toArray from by rw [hw1]; exact Blk.new _ _ _)
  have HE1 := Lib.hid (show Ext w w1 from by rw [hw1]; exact (Ext.refl w).alloc _)
  clear hi
  go_enter Tryz.func84, Tryz.ntmps84
  go_wp2_with fail
  rw [← hw1]
  clear hw1
  refine wp_region_tell (by kernel_rfl) (by kernel_rfl) (phB w.heap.size h) (phB_stab w.heap.size h) ?_ ?_
  · intro i o a w' hi hb he hd
    have hG := HB.out.ext he
    have e1 := hb.outer 1 (by kernel_rfl)
    have e1 : a.eval (.tmp 1) = .pointer (some ⟨w.heap.size, 0, none⟩) := e1
    have k0 : h.cells.toArray[0]? = some (.int .u64 h.id) := rfl
    have k1 : h.cells.toArray[1]? = some (.int .u64 h.first) := rfl
    rcases i with _ | _ | _ | _ | _ | _ | _ | _ | _ | _ | _ | _ | _ | _ | i
    · simp only [List.getElem?_cons_zero, List.getElem?_cons_succ, Option.some.injEq] at hi
      subst hi
      refine tell_val (.slice (some ⟨w'.heap.size, 0, none⟩) 1 1) (w'.alloc (.cells #[.int .u8 72] 5)) ?_ ((Ext.refl _).alloc _) ⟨_, rfl, Blk.new _ _ _⟩
      simp [go_sem]
    · simp only [List.getElem?_cons_zero, List.getElem?_cons_succ, Option.some.injEq] at hi
      subst hi
      obtain ⟨g4, h4, b4⟩ := hd ⟨0, .data⟩ (by simp) rfl
      have h4 : a.eval (.tmp 4) = _ := h4
      refine tell_val (.string (bs [72])) w' ?_ (Ext.refl _) rfl
      simp only [execOp, h4, Sem.run_bind, one_string2 72 w' g4 (b4.cell 0), Result.andThen_ok, Sem.run_pure]
    · simp only [List.getElem?_cons_zero, List.getElem?_cons_succ, Option.some.injEq] at hi
      subst hi
      refine tell_val _ w' ?_ (Ext.refl _) rfl
      have ec : ∀ v, a.eval (.const v) = v := fun _ => rfl
      generalize a.eval = ρ at *
      simp [go_sem, ec, e1]
    · simp only [List.getElem?_cons_zero, List.getElem?_cons_succ, Option.some.injEq] at hi
      subst hi
      have h6 : a.eval (.tmp 6) = _ := hd ⟨2, .data⟩ (by simp) rfl
      refine tell_val _ w' ?_ (Ext.refl _) rfl
      have ec : ∀ v, a.eval (.const v) = v := fun _ => rfl
      generalize a.eval = ρ at *
      simp [go_sem, h6, ec, hG.cell 0, k0]
    · simp only [List.getElem?_cons_zero, List.getElem?_cons_succ, Option.some.injEq] at hi
      subst hi
      refine tell_val _ w' ?_ (Ext.refl _) rfl
      have ec : ∀ v, a.eval (.const v) = v := fun _ => rfl
      generalize a.eval = ρ at *
      simp [go_sem, ec, e1]
    · simp only [List.getElem?_cons_zero, List.getElem?_cons_succ, Option.some.injEq] at hi
      subst hi
      have h8 : a.eval (.tmp 8) = _ := hd ⟨4, .data⟩ (by simp) rfl
      refine tell_val _ w' ?_ (Ext.refl _) rfl
      have ec : ∀ v, a.eval (.const v) = v := fun _ => rfl
      generalize a.eval = ρ at *
      simp [go_sem, h8, ec, hG.cell 1, k1]
    · simp only [List.getElem?_cons_zero, List.getElem?_cons_succ, Option.some.injEq] at hi
      subst hi
      have h7 : a.eval (.tmp 7) = _ := hd ⟨3, .data⟩ (by simp) rfl
      have h9 : a.eval (.tmp 9) = _ := hd ⟨5, .data⟩ (by simp) rfl
      refine tell_val (.slice (some ⟨w'.heap.size, 0, none⟩) 2 2) (w'.alloc (.cells (u64s [h.id, h.first]) 34)) ?_ ((Ext.refl _).alloc _) ⟨_, rfl, Blk.new _ _ _⟩
      generalize a.eval = ρ at *
      simp [go_sem, h7, h9, u64s]
    · simp only [List.getElem?_cons_zero, List.getElem?_cons_succ, Option.some.injEq] at hi
      subst hi
      obtain ⟨g10, h10, b10⟩ := hd ⟨6, .data⟩ (by simp) rfl
      have h10 : a.eval (.tmp 10) = _ := h10
      refine tell_call 85 #[.slice (some ⟨g10, 0, none⟩) 2 2] (.string (bs (lays [h.id, h.first]))) ?_ (hlay_any [h.id, h.first] 2 w' b10 (by simp) (by intro x hx; simp at hx; rcases hx with rfl | rfl; exact ⟨HI.out.i0, HI.out.i1⟩; exact ⟨HI.out.f0, HI.out.f1⟩)) (fun _ _ => rfl)
      have ef : ∀ f, a.eval (.func f) = .func (.func f) #[] #[] := fun _ => rfl
      generalize a.eval = ρ at *
      simp [go_sem, h10, ef]
    · simp only [List.getElem?_cons_zero, List.getElem?_cons_succ, Option.some.injEq] at hi
      subst hi
      have h5 : a.eval (.tmp 5) = _ := hd ⟨1, .data⟩ (by simp) rfl
      have h11 : a.eval (.tmp 11) = _ := hd ⟨7, .data⟩ (by simp) rfl
      refine tell_val _ w' ?_ (Ext.refl _) rfl
      have hs := str_add [72] (lays [h.id, h.first]) w' 9 (by rw [lays_len]; simp)
      simp only [execOp, h5, h11, Sem.run_bind, hs, Result.andThen_ok, Sem.run_pure]
      rfl
    · simp only [List.getElem?_cons_zero, List.getElem?_cons_succ, Option.some.injEq] at hi
      subst hi
      refine tell_val _ w' ?_ (Ext.refl _) rfl
      have ec : ∀ v, a.eval (.const v) = v := fun _ => rfl
      generalize a.eval = ρ at *
      simp [go_sem, ec, e1]
    · simp only [List.getElem?_cons_zero, List.getElem?_cons_succ, Option.some.injEq] at hi
      subst hi
      have h13 : a.eval (.tmp 13) = _ := hd ⟨9, .data⟩ (by simp) rfl
      refine tell_val _ w' ?_ (Ext.refl _) rfl
      have ec : ∀ v, a.eval (.const v) = v := fun _ => rfl
      generalize a.eval = ρ at *
      simp [go_sem, h13, ec]
    · simp only [List.getElem?_cons_zero, List.getElem?_cons_succ, Option.some.injEq] at hi
      subst hi
      have h14 : a.eval (.tmp 14) = _ := hd ⟨10, .data⟩ (by simp) rfl
      refine tell_val (.string (bs h.anchor)) w' ?_ (Ext.refl _) rfl
      simp only [execOp, h14, Sem.run_bind, mid_string 32 32 hG HI.out.a.symm (Hd.cells_mid h), Result.andThen_ok, Sem.run_pure]
    · simp only [List.getElem?_cons_zero, List.getElem?_cons_succ, Option.some.injEq] at hi
      subst hi
      have h12 : a.eval (.tmp 12) = _ := hd ⟨8, .data⟩ (by simp) rfl
      have h15 : a.eval (.tmp 15) = _ := hd ⟨11, .data⟩ (by simp) rfl
      refine tell_val _ w' ?_ (Ext.refl _) rfl
      have hs := str_add ([72] ++ lays [h.id, h.first]) h.anchor w' 9 (by rw [List.length_append, lays_len, HI.out.a]; simp)
      simp only [execOp, h12, h15, Sem.run_bind, eqGuard_add, hs, Result.andThen_ok, Sem.run_pure]
      rfl
    · simp only [List.getElem?_cons_zero, List.getElem?_cons_succ, Option.some.injEq] at hi
      subst hi
      have h16 : a.eval (.tmp 16) = _ := hd ⟨12, .data⟩ (by simp) rfl
      refine tell_val _ w' ?_ (Ext.refl _) rfl
      have ec : ∀ v, a.eval (.const v) = v := fun _ => rfl
      generalize a.eval = ρ at *
      simp [go_sem, h16, ec]
    · simp at hi
  · intro a w2 hb hE2 hA
    have h3 : a.eval (.tmp 3) = .string (bs h.front) := hA 13 (by simp)
    rw [act_lit (n := 29) hb.size, hb.defers]
    simp only [show List.range 29 = [0, 1, 2, 3, 4, 5, 6, 7, 8, 9, 10, 11, 12, 13, 14, 15, 16, 17, 18, 19, 20, 21, 22, 23, 24, 25, 26, 27, 28] from rfl, List.map_cons, List.map_nil, h3]
    clear hA h3 hb
    generalize a.eval = ρ
    have hfl := Hd.front_length HI.out
    have hs1 : IntKind.i64.wrap ((60 : Int) - 49) = 11 := by decide
    have HR := Lib.hid (fun w' => repeat_any 11 w' (by decide))
    have hbt : h.body = h.front ++ zeros 11 := rfl
    have htt : h.text = h.body ++ fixedB (crcOf h.body) 4 := rfl
    have hcr := crcOf_range h.body
    have HC := Lib.hid (fun w' => crcOf_any (bs h.body) w' (by rw [bs_size, hbt, List.length_append, hfl, zeros_length]; decide))
    have HF := Lib.hid (fun w' => fixed_any (crcOf h.body) 4 w' hcr.1 (by omega) (by decide) (by decide))
    rw [lb_bs] at HC
    have hwc : IntKind.u64.wrap (crcOf h.body) = crcOf h.body := IntWalk.u64_in _ (by omega)
    have hq1 : (bs h.front).size = 49 := by rw [bs_size, hfl]
    have hq2 : (bs (zeros 11)).size = 11 := by rw [bs_size, zeros_length]
    have hq3 : (bs h.body).size = 60 := by rw [bs_size, hbt, List.length_append, hfl, zeros_length]
    have hq4 : (bs (fixedB (crcOf h.body) (Int.toNat 4))).size = 4 := by rw [bs_size, fixedB_length]; rfl
    have ha1 : bs h.front ++ bs (zeros 11) = bs h.body := bs_append _ _
    have ha2 : bs h.body ++ bs (fixedB (crcOf h.body) (Int.toNat 4)) = bs h.text := bs_append _ _
    generalize bs (fixedB (crcOf h.body) (Int.toNat 4)) = z4 at *
    generalize crcOf h.body = cr at *
    generalize bs h.body = z3 at *
    generalize bs (zeros 11) = z2 at *
    generalize bs h.front = z1 at *
    generalize bs h.text = z5 at *
    clear hfl hbt htt hcr
    have hg1 : ¬ 9223372036854775807 < z1.size + z2.size := by omega
    have hg2 : ¬ 9223372036854775807 < z3.size + z4.size := by omega
    have hz1 : (z1.size : Int) = 49 := by omega
    clear hq1 hq2 hq3 hq4
    go_wp2_with (first | (go_at_call 77; refine (HR.out _).mono ?_; rintro e w3 ⟨rfl, hE3⟩; have HE3 := Lib.hid hE3; clear hE3) | (go_at_call 95; refine (HC.out _).mono ?_; rintro e w4 ⟨rfl, hE4⟩; have HE4 := Lib.hid hE4; clear hE4) | (go_at_call 94; refine (HF.out _).mono ?_; rintro e w5 ⟨rfl, hE5⟩; have HE5 := Lib.hid hE5; clear hE5))
    go_ret
    exact ⟨rfl, (((HE1.out.trans hE2).trans HE3.out).trans HE4.out).trans HE5.out⟩
end Go.Proofs.YtnkebhlkhpgghaaGreatDoor
/- header.PutSuper: the walk. -/
namespace Go.Proofs.YtnkebhlkhpgghaaGreatDoor
open Go Go.RowKit Go.Deep

/-- A super. -/
structure Sp where
  epoch : Int
  tail : Int
  first : Int
  anchor : Bytes
  id : Int
  en : Int
  next : Int
  sum : Bytes
  deriving DecidableEq
def Sp.nums (x : Sp) : List Int := [x.epoch, x.tail, x.first, x.id, x.en, x.next]
structure Sp.In (x : Sp) : Prop where
  nums : ∀ n ∈ x.nums, 0 ≤ n ∧ n < 18446744073709551616
  a : x.anchor.length = 32
  s : x.sum.length = 32
def Sp.cells (x : Sp) : List Value := [.int .u64 x.epoch, .int .u64 x.tail, .int .u64 x.first] ++ bcells x.anchor ++ ([.int .u64 x.id, .int .u64 x.en, .int .u64 x.next] ++ bcells x.sum)
theorem Sp.cells_length {x : Sp} (h : x.In) : x.cells.length = 70 := by simp [Sp.cells, bcells, h.a, h.s]
theorem Sp.cells_one (x : Sp) : ∀ v ∈ x.cells, v.oneCell' = true := by
  intro v hv
  simp only [Sp.cells, List.mem_append, List.mem_cons, List.mem_nil_iff, or_false] at hv
  rcases hv with ((rfl | rfl | rfl) | hv) | ((rfl | rfl | rfl) | hv) <;> first | rfl | exact bcells_one _ _ hv
theorem Sp.cells_hi {x : Sp} (h : x.In) (i : Nat) : x.cells.toArray[35 + i]? = ([.int .u64 x.id, .int .u64 x.en, .int .u64 x.next] ++ bcells x.sum)[i]? := by
  rw [List.getElem?_toArray, Sp.cells, List.getElem?_append_right (by simp [bcells, h.a])]
  congr 1
  simp [bcells, h.a]
theorem Sp.cells_mid {x : Sp} (h : x.In) : ∀ i, i < x.anchor.length → x.cells.toArray[3 + i]? = some (.int .u8 (x.anchor.getD i 0).toNat) := by
  intro i hi
  rw [List.getElem?_toArray, Sp.cells, List.getElem?_append_left (by simp [bcells]; omega), List.getElem?_append_right (by simp)]
  simp [bcells, List.getD, hi]
theorem Sp.cells_end {x : Sp} (h : x.In) : ∀ i, i < x.sum.length → x.cells.toArray[38 + i]? = some (.int .u8 (x.sum.getD i 0).toNat) := by
  intro i hi
  rw [show 38 + i = 35 + (3 + i) from by omega, Sp.cells_hi h, List.getElem?_append_right (by simp)]
  simp [bcells, List.getD, hi]
def Sp.half (x : Sp) : Bytes := [83] ++ lays x.nums ++ (x.anchor ++ x.sum)
def Sp.text (x : Sp) : Bytes := x.half ++ x.half
theorem Sp.half_length {x : Sp} (h : x.In) : x.half.length = 113 := by simp [Sp.half, lays_len, Sp.nums, h.a, h.s]
theorem Sp.text_length {x : Sp} (h : x.In) : x.text.length = 226 := by simp [Sp.text, Sp.half_length h]

/-- What the operations of PutSuper's first region leave. -/
def psB (G : Nat) (x : Sp) : Nat → Value → World → Prop
  | 0, v, w => ∃ g, v = .slice (some ⟨g, 0, none⟩) 1 1 ∧ Blk w g 5 #[.int .u8 83]
  | 1, v, _ => v = .string (bs [83])
  | 2, v, _ => v = .pointer (some ⟨G, 0, none⟩)
  | 3, v, _ => v = .int .u64 x.epoch
  | 4, v, _ => v = .pointer (some ⟨G, 1, none⟩)
  | 5, v, _ => v = .int .u64 x.tail
  | 6, v, _ => v = .pointer (some ⟨G, 2, none⟩)
  | 7, v, _ => v = .int .u64 x.first
  | 8, v, _ => v = .pointer (some ⟨G, 35, none⟩)
  | 9, v, _ => v = .int .u64 x.id
  | 10, v, _ => v = .pointer (some ⟨G, 36, none⟩)
  | 11, v, _ => v = .int .u64 x.en
  | 12, v, _ => v = .pointer (some ⟨G, 37, none⟩)
  | 13, v, _ => v = .int .u64 x.next
  | 14, v, w => ∃ g, v = .slice (some ⟨g, 0, none⟩) 6 6 ∧ Blk w g 34 (u64s x.nums)
  | 15, v, _ => v = .string (bs (lays x.nums))
  | _, v, _ => v = .string (bs ([83] ++ lays x.nums))
theorem psB_stab (G : Nat) (x : Sp) (i : Nat) (v : Value) (w w' : World) (hB : psB G x i v w) (e : Ext w w') : psB G x i v w' := by
  rcases i with _ | _ | _ | _ | _ | _ | _ | _ | _ | _ | _ | _ | _ | _ | _ | _ | i <;> simp only [psB] at hB ⊢ <;> first | exact hB | (obtain ⟨g, h1, h2⟩ := hB; exact ⟨g, h1, h2.ext e⟩)

set_option maxRecDepth 8000 in
set_option maxHeartbeats 1600000 in
theorem putSuper_any (x : Sp) (w : World) (hi : x.In) : Calls Tryz.prog 56 #[.agg x.cells.toArray] w (Ret (.string (bs x.text)) w) := by
  have HI := Lib.hid hi
  obtain ⟨w1, hw1⟩ : ∃ w1, w1 = w.alloc (.cells x.cells.toArray 42) := ⟨_, rfl⟩
  have HB := Lib.hid (show Blk w1 w.heap.size 42 x.cells.toArray from by rw [hw1]; exact Blk.new _ _ _)
  have HE1 := Lib.hid (show Ext w w1 from by rw [hw1]; exact (Ext.refl w).alloc _)
  clear hi
  go_enter Tryz.func56, Tryz.ntmps56
  go_wp2_with fail
  rw [← hw1]
  clear hw1
  refine wp_region_tell (by kernel_rfl) (by kernel_rfl) (psB w.heap.size x) (psB_stab w.heap.size x) ?_ ?_
  · intro i o a w' hi hb he hd
    have hG := HB.out.ext he
    have e1 := hb.outer 1 (by kernel_rfl)
    have e1 : a.eval (.tmp 1) = .pointer (some ⟨w.heap.size, 0, none⟩) := e1
    have k0 : x.cells.toArray[0]? = some (.int .u64 x.epoch) := rfl
    have k1 : x.cells.toArray[1]? = some (.int .u64 x.tail) := rfl
    have k2 : x.cells.toArray[2]? = some (.int .u64 x.first) := rfl
    have k35 : x.cells.toArray[35]? = some (.int .u64 x.id) := Sp.cells_hi HI.out 0
    have k36 : x.cells.toArray[36]? = some (.int .u64 x.en) := Sp.cells_hi HI.out 1
    have k37 : x.cells.toArray[37]? = some (.int .u64 x.next) := Sp.cells_hi HI.out 2
    rcases i with _ | _ | _ | _ | _ | _ | _ | _ | _ | _ | _ | _ | _ | _ | _ | _ | _ | _ | i
    · simp only [List.getElem?_cons_zero, List.getElem?_cons_succ, Option.some.injEq] at hi
      subst hi
      refine tell_val (.slice (some ⟨w'.heap.size, 0, none⟩) 1 1) (w'.alloc (.cells #[.int .u8 83] 5)) ?_ ((Ext.refl _).alloc _) ⟨_, rfl, Blk.new _ _ _⟩
      simp [go_sem]
    · simp only [List.getElem?_cons_zero, List.getElem?_cons_succ, Option.some.injEq] at hi
      subst hi
      obtain ⟨g4, h4, b4⟩ := hd ⟨0, .data⟩ (by simp) rfl
      have h4 : a.eval (.tmp 4) = _ := h4
      refine tell_val (.string (bs [83])) w' ?_ (Ext.refl _) rfl
      simp only [execOp, h4, Sem.run_bind, one_string2 83 w' g4 (b4.cell 0), Result.andThen_ok, Sem.run_pure]
    · simp only [List.getElem?_cons_zero, List.getElem?_cons_succ, Option.some.injEq] at hi
      subst hi
      refine tell_val _ w' ?_ (Ext.refl _) rfl
      have ec : ∀ v, a.eval (.const v) = v := fun _ => rfl
      generalize a.eval = ρ at *
      simp [go_sem, ec, e1]
    · simp only [List.getElem?_cons_zero, List.getElem?_cons_succ, Option.some.injEq] at hi
      subst hi
      have h6 : a.eval (.tmp 6) = _ := hd ⟨2, .data⟩ (by simp) rfl
      refine tell_val _ w' ?_ (Ext.refl _) rfl
      have ec : ∀ v, a.eval (.const v) = v := fun _ => rfl
      generalize a.eval = ρ at *
      simp [go_sem, h6, ec, hG.cell 0, k0]
    · simp only [List.getElem?_cons_zero, List.getElem?_cons_succ, Option.some.injEq] at hi
      subst hi
      refine tell_val _ w' ?_ (Ext.refl _) rfl
      have ec : ∀ v, a.eval (.const v) = v := fun _ => rfl
      generalize a.eval = ρ at *
      simp [go_sem, ec, e1]
    · simp only [List.getElem?_cons_zero, List.getElem?_cons_succ, Option.some.injEq] at hi
      subst hi
      have h8 : a.eval (.tmp 8) = _ := hd ⟨4, .data⟩ (by simp) rfl
      refine tell_val _ w' ?_ (Ext.refl _) rfl
      have ec : ∀ v, a.eval (.const v) = v := fun _ => rfl
      generalize a.eval = ρ at *
      simp [go_sem, h8, ec, hG.cell 1, k1]
    · simp only [List.getElem?_cons_zero, List.getElem?_cons_succ, Option.some.injEq] at hi
      subst hi
      refine tell_val _ w' ?_ (Ext.refl _) rfl
      have ec : ∀ v, a.eval (.const v) = v := fun _ => rfl
      generalize a.eval = ρ at *
      simp [go_sem, ec, e1]
    · simp only [List.getElem?_cons_zero, List.getElem?_cons_succ, Option.some.injEq] at hi
      subst hi
      have h10 : a.eval (.tmp 10) = _ := hd ⟨6, .data⟩ (by simp) rfl
      refine tell_val _ w' ?_ (Ext.refl _) rfl
      have ec : ∀ v, a.eval (.const v) = v := fun _ => rfl
      generalize a.eval = ρ at *
      simp [go_sem, h10, ec, hG.cell 2, k2]
    · simp only [List.getElem?_cons_zero, List.getElem?_cons_succ, Option.some.injEq] at hi
      subst hi
      refine tell_val _ w' ?_ (Ext.refl _) rfl
      have ec : ∀ v, a.eval (.const v) = v := fun _ => rfl
      generalize a.eval = ρ at *
      simp [go_sem, ec, e1]
    · simp only [List.getElem?_cons_zero, List.getElem?_cons_succ, Option.some.injEq] at hi
      subst hi
      have h12 : a.eval (.tmp 12) = _ := hd ⟨8, .data⟩ (by simp) rfl
      refine tell_val _ w' ?_ (Ext.refl _) rfl
      have ec : ∀ v, a.eval (.const v) = v := fun _ => rfl
      generalize a.eval = ρ at *
      simp [go_sem, h12, ec, hG.cell 35, k35]
    · simp only [List.getElem?_cons_zero, List.getElem?_cons_succ, Option.some.injEq] at hi
      subst hi
      refine tell_val _ w' ?_ (Ext.refl _) rfl
      have ec : ∀ v, a.eval (.const v) = v := fun _ => rfl
      generalize a.eval = ρ at *
      simp [go_sem, ec, e1]
    · simp only [List.getElem?_cons_zero, List.getElem?_cons_succ, Option.some.injEq] at hi
      subst hi
      have h14 : a.eval (.tmp 14) = _ := hd ⟨10, .data⟩ (by simp) rfl
      refine tell_val _ w' ?_ (Ext.refl _) rfl
      have ec : ∀ v, a.eval (.const v) = v := fun _ => rfl
      generalize a.eval = ρ at *
      simp [go_sem, h14, ec, hG.cell 36, k36]
    · simp only [List.getElem?_cons_zero, List.getElem?_cons_succ, Option.some.injEq] at hi
      subst hi
      refine tell_val _ w' ?_ (Ext.refl _) rfl
      have ec : ∀ v, a.eval (.const v) = v := fun _ => rfl
      generalize a.eval = ρ at *
      simp [go_sem, ec, e1]
    · simp only [List.getElem?_cons_zero, List.getElem?_cons_succ, Option.some.injEq] at hi
      subst hi
      have h16 : a.eval (.tmp 16) = _ := hd ⟨12, .data⟩ (by simp) rfl
      refine tell_val _ w' ?_ (Ext.refl _) rfl
      have ec : ∀ v, a.eval (.const v) = v := fun _ => rfl
      generalize a.eval = ρ at *
      simp [go_sem, h16, ec, hG.cell 37, k37]
    · simp only [List.getElem?_cons_zero, List.getElem?_cons_succ, Option.some.injEq] at hi
      subst hi
      have h7 : a.eval (.tmp 7) = _ := hd ⟨3, .data⟩ (by simp) rfl
      have h9 : a.eval (.tmp 9) = _ := hd ⟨5, .data⟩ (by simp) rfl
      have h11 : a.eval (.tmp 11) = _ := hd ⟨7, .data⟩ (by simp) rfl
      have h13 : a.eval (.tmp 13) = _ := hd ⟨9, .data⟩ (by simp) rfl
      have h15 : a.eval (.tmp 15) = _ := hd ⟨11, .data⟩ (by simp) rfl
      have h17 : a.eval (.tmp 17) = _ := hd ⟨13, .data⟩ (by simp) rfl
      refine tell_val (.slice (some ⟨w'.heap.size, 0, none⟩) 6 6) (w'.alloc (.cells (u64s x.nums) 34)) ?_ ((Ext.refl _).alloc _) ⟨_, rfl, Blk.new _ _ _⟩
      generalize a.eval = ρ at *
      simp [go_sem, h7, h9, h11, h13, h15, h17, u64s, Sp.nums]
    · simp only [List.getElem?_cons_zero, List.getElem?_cons_succ, Option.some.injEq] at hi
      subst hi
      obtain ⟨g18, h18, b18⟩ := hd ⟨14, .data⟩ (by simp) rfl
      have h18 : a.eval (.tmp 18) = _ := h18
      refine tell_call 85 #[.slice (some ⟨g18, 0, none⟩) 6 6] (.string (bs (lays x.nums))) ?_ (hlay_any x.nums 6 w' b18 (by simp [Sp.nums]) HI.out.nums) (fun _ _ => rfl)
      have ef : ∀ f, a.eval (.func f) = .func (.func f) #[] #[] := fun _ => rfl
      generalize a.eval = ρ at *
      simp [go_sem, h18, ef]
    · simp only [List.getElem?_cons_zero, List.getElem?_cons_succ, Option.some.injEq] at hi
      subst hi
      have h5 : a.eval (.tmp 5) = _ := hd ⟨1, .data⟩ (by simp) rfl
      have h19 : a.eval (.tmp 19) = _ := hd ⟨15, .data⟩ (by simp) rfl
      refine tell_val _ w' ?_ (Ext.refl _) rfl
      have hs := str_add [83] (lays x.nums) w' 9 (by rw [lays_len]; simp [Sp.nums])
      simp only [execOp, h5, h19, Sem.run_bind, eqGuard_add, hs, Result.andThen_ok, Sem.run_pure]
    · simp only [List.getElem?_cons_zero, List.getElem?_cons_succ, Option.some.injEq] at hi
      subst hi
      have h20 : a.eval (.tmp 20) = _ := hd ⟨16, .data⟩ (by simp) rfl
      refine tell_val _ w' ?_ (Ext.refl _) rfl
      have ec : ∀ v, a.eval (.const v) = v := fun _ => rfl
      generalize a.eval = ρ at *
      simp [go_sem, h20, ec]
    · simp at hi
  · intro a w2 hb hE2 hA
    have h3 : a.eval (.tmp 3) = .string (bs ([83] ++ lays x.nums)) := hA 17 (by simp)
    have h1 : a.eval (.tmp 1) = .pointer (some ⟨w.heap.size, 0, none⟩) := hb.outer 1 (by kernel_rfl)
    rw [act_lit (n := 33) hb.size, hb.defers]
    simp only [show List.range 33 = [0, 1, 2, 3, 4, 5, 6, 7, 8, 9, 10, 11, 12, 13, 14, 15, 16, 17, 18, 19, 20, 21, 22, 23, 24, 25, 26, 27, 28, 29, 30, 31, 32] from rfl, List.map_cons, List.map_nil, h3, h1]
    clear hA h3 h1 hb
    generalize a.eval = ρ
    have hB2 := HB.out.ext hE2
    have hc1 := fun n => mid_string 32 32 (hB2.drewN n) HI.out.a.symm (Sp.cells_mid HI.out)
    have hc2 := fun n => mid_string 32 32 (hB2.drewN n) HI.out.s.symm (Sp.cells_end HI.out)
    have hl0 : (bs ([83] ++ lays x.nums)).size = 49 := by rw [bs_size, List.length_append, lays_len]; simp [Sp.nums]
    have hl1 : (bs x.anchor).size = 32 := by rw [bs_size, HI.out.a]
    have hl2 : (bs x.sum).size = 32 := by rw [bs_size, HI.out.s]
    have hl3 : (bs x.half).size = 113 := by rw [bs_size, Sp.half_length HI.out]
    have ha1 : bs ([83] ++ lays x.nums) ++ (bs x.anchor ++ bs x.sum) = bs x.half := by rw [bs_append, bs_append]; rfl
    have ha2 : bs x.half ++ bs x.half = bs x.text := bs_append _ _
    have HE2 := Lib.hid hE2
    clear hB2 hE2
    generalize bs ([83] ++ lays x.nums) = z0 at *
    generalize bs x.half = z3 at *
    generalize bs x.text = z4 at *
    generalize bs x.anchor = z1 at *
    generalize bs x.sum = z2 at *
    have hg1 : ¬ 9223372036854775807 < z1.size + z2.size := by omega
    have hg2 : ¬ 9223372036854775807 < z0.size + (z1.size + z2.size) := by omega
    have hg3 : ¬ 9223372036854775807 < z3.size + z3.size := by omega
    clear hl0 hl1 hl2 hl3
    go_wp2_with fail
    go_quiet (fail)
    go_wp2_with fail
    go_ret
    exact ⟨rfl, (HE1.out.trans HE2.out).drewN _⟩
end Go.Proofs.YtnkebhlkhpgghaaGreatDoor
/- slots (written), segment (written): the walks, where nothing is refused. -/
namespace Go.Proofs.YtnkebhlkhpgghaaGreatDoor
open Go Go.RowKit Go.Deep Go.Sort

/-- A whole block, in the head of a region that draws its order. -/
theorem wq_load_blk {P : Program} {ops : Array Oper} {C : World → Prop} {Q : Act → Prop} {a : Act} {o : Oper} {rest : List Oper} (hg : o.guard = none) (ty : TypeId) (x : Operand) (ho : o.op = .load ty x) (g : Nat) (t : TypeId) (B : List Value) (hx : a.eval x = .pointer (some ⟨g, 0, none⟩)) (hB : ∀ w', C w' → Blk w' g t B.toArray)
    (d : TypeDesc) (hu : P.underlying ty = some d) (hd : d.isRow = true) (hi : (P.info? ty).map (·.size) = some B.length) (h : wpQuiet P ops C Q rest (a.put o.dst (.agg B.toArray))) : wpQuiet P ops C Q (o :: rest) a := by
  refine wq_run hg (.agg B.toArray) (fun w' hw' => ?_) h
  simp only [execOp, ho, Instr.loadAt, hx, Instr.sureAddr, Sem.run_bind, Sem.run_pure, Result.andThen_ok, run_loadVar_blk (hB w' hw') hu hd hi]
theorem slotsFit_any {F : Nat → Prop} {d : Nat} {k : Dk} (w : World) (hD : Disk F w d k) (hm : 2 ≤ k.many) (hz : 256 ≤ k.size) : Calls Tryz.prog 50 #[.pointer (some ⟨d, 0, none⟩)] w (Ret (.int .i64 0) w) := by
  have HS := Lib.hid (size_any w hD)
  have d1 : decide ((k.many : Int) < 2) = false := decide_eq_false (by omega)
  have d2 : decide ((k.size : Int) < 256) = false := decide_eq_false (by omega)
  clear hD hm hz
  go_enter Tryz.func50, Tryz.ntmps50
  go_wp2_with (go_at_call 44; refine HS.out.mono ?_; rintro e w1 ⟨rfl, hE1⟩; have HE1 := Lib.hid hE1; clear hE1)
  go_ret
  exact ⟨rfl, HE1.out⟩

def padTo (b : Bytes) (z : Nat) : Bytes := b ++ zeros (z - b.length)
theorem padTo_length {b : Bytes} {z : Nat} (h : b.length ≤ z) : (padTo b z).length = z := by simp [padTo]; omega
set_option maxRecDepth 8000 in
set_option maxHeartbeats 800000 in
theorem fill_any {F : Nat → Prop} {d : Nat} {k : Dk} (s : Nat) (b : Bytes) (w : World) (hD : Disk F w d k) (hs : s < k.many) (hb : b.length ≤ k.size) (hp : k.pend.length ≤ 1000000) :
    Calls Tryz.prog 52 #[.pointer (some ⟨d, 0, none⟩), .int .i64 s, .string (bs b)] w (Did F w d (.int .i64 0) (k.write s (padTo b k.size))) := by
  have HS := Lib.hid (size_any w hD)
  have hz2 := hD.ok.s2
  have HR := Lib.hid (fun w' => repeat_any (k.size - b.length) w' (by omega))
  have HW := Lib.hid (fun w' (e : Ext w w') => write_any s (padTo b k.size) w' (hD.ext e) hs (padTo_length hb) hp)
  have hw1 : IntKind.i64.wrap ((k.size : Int) - b.length) = ((k.size - b.length : Nat) : Int) := by rw [show (k.size : Int) - b.length = ((k.size - b.length : Nat) : Int) from by omega]; exact IntWalk.i64_in _ (by omega)
  have ha : bs b ++ bs (zeros (k.size - b.length)) = bs (padTo b k.size) := bs_append _ _
  have h1 : (bs b).size = b.length := bs_size b
  have h2 : (bs (zeros (k.size - b.length))).size = k.size - b.length := by rw [bs_size, zeros_length]
  generalize bs (padTo b k.size) = z3 at *
  generalize bs (zeros (k.size - b.length)) = z2 at *
  have HD := Lib.hid hD
  have hb4 : (k.size : Int) - b.length = ((k.size - b.length : Nat) : Int) := by omega
  have hq : k.size - b.length ≤ 1024 := by omega
  clear hD hs hp
  generalize k.size - b.length = q at *
  have hb1 : ((bs b).size : Int) = b.length := by omega
  generalize bs b = z1 at *
  have hg : ¬ 9223372036854775807 < z1.size + z2.size := by omega
  have hb2 : (b.length : Int) ≤ k.size := by omega
  have hb3 : (k.size : Int) ≤ 1024 := by omega
  clear h1 h2 hw1
  go_enter Tryz.func52, Tryz.ntmps52
  go_wp2_with (first | (go_at_call 44; refine HS.out.mono ?_; rintro e w1 ⟨rfl, hE1⟩; have HE1 := Lib.hid hE1; clear hE1) | (go_at_call 77; refine (HR.out _).mono ?_; rintro e w2 ⟨rfl, hE2⟩; have HE2 := Lib.hid (HE1.out.trans hE2); clear hE2) | (go_at_call 76; refine (HW.out _ HE2.out).mono ?_; rintro e w3 ⟨rfl, F', hD3, hM3⟩; have HD3 := Lib.hid (And.intro hD3 (hM3.pre HE2.out)); clear hD3 hM3))
  go_ret
  exact ⟨rfl, F', HD3.out⟩
set_option maxRecDepth 8000 in
set_option maxHeartbeats 800000 in
theorem slotsWrite_any {F : Nat → Prop} {d : Nat} {k : Dk} (x : Sp) (w : World) (hD : Disk F w d k) (hm : 2 ≤ k.many) (hz : 256 ≤ k.size) (hp : k.pend.length ≤ 100000) (hx : x.In) :
    Calls Tryz.prog 27 #[.pointer (some ⟨d, 0, none⟩), .agg x.cells.toArray] w (Did F w d (.int .i64 0) (k.write (x.epoch % 2).toNat (padTo x.text k.size)).flush) := by
  have he := hx.nums x.epoch (by simp [Sp.nums])
  have HF := Lib.hid (fun w' (e : Ext w w') => slotsFit_any w' (hD.ext e) hm hz)
  have HP := Lib.hid (fun w' => putSuper_any x w' hx)
  have HL := Lib.hid (fun w' (e : Ext w w') => (show Calls Tryz.prog 52 #[.pointer (some ⟨d, 0, none⟩), .int .i64 (x.epoch % 2), .string (bs x.text)] w' (Did F w' d (.int .i64 0) (k.write (x.epoch % 2).toNat (padTo x.text k.size))) from by
    have h1 := fill_any (x.epoch % 2).toNat x.text w' (hD.ext e) (by omega) (by rw [Sp.text_length hx]; omega) (by omega)
    rw [show (((x.epoch % 2).toNat : Nat) : Int) = x.epoch % 2 from by omega] at h1
    exact h1))
  have hpd : (k.write (x.epoch % 2).toNat (padTo x.text k.size)).pend.length ≤ 1000000 := by simp [Dk.write]; omega
  have HFL := Lib.hid (fun (F' : Nat → Prop) w' (h : Disk F' w' d (k.write (x.epoch % 2).toNat (padTo x.text k.size))) => flush_any w' h hpd)
  obtain ⟨w1, hw1⟩ : ∃ w1, w1 = w.alloc (.cells x.cells.toArray 42) := ⟨_, rfl⟩
  have HB := Lib.hid (show Blk w1 w.heap.size 42 x.cells.toArray from by rw [hw1]; exact Blk.new _ _ _)
  have HE := Lib.hid (show Ext w w1 from by rw [hw1]; exact (Ext.refl w).alloc _)
  have HW := Lib.hid hw1
  have HI : (Tryz.prog.info? 42).map (·.size) = some x.cells.length := by rw [Sp.cells_length hx]; kernel_rfl
  have HHI := Lib.hid HI
  generalize bs x.text = z at *
  have hr1 : x.epoch.tmod 2 = x.epoch % 2 := Int.tmod_eq_emod_of_nonneg he.1
  have hr2 : IntKind.i64.wrap (x.epoch % 2) = x.epoch % 2 := IntWalk.i64_in _ (by omega)
  clear hD hm hz hp hx hpd hw1 HI
  go_enter Tryz.func27, Tryz.ntmps27
  go_wp2_with (go_at_call 50; rw [← HW.out]; refine (HF.out _ HE.out).mono ?_; rintro e w2 ⟨rfl, hE2⟩; have HE2 := Lib.hid hE2; clear hE2)
  have HB2 := Lib.hid (HB.out.ext HE2.out)
  have c0 := cell_regrown (show w2.cell? ⟨w.heap.size, 0, none⟩ = some (.int .u64 x.epoch) from HB2.out.cell 0)
  refine wp_region_tail (C := fun w' => ∃ p : Regrown, w' = grow (redrawn w2 p.d) p.os) 7 (by kernel_rfl) (by kernel_rfl) (regrown_start w2) ?_
  simp only [List.take_succ_cons, List.take_zero, List.drop_succ_cons, List.drop_zero]
  quiet_step (fail)
  quiet_step (fail)
  quiet_step (fail)
  quiet_step (fail)
  quiet_step (fail)
  refine wq_load_blk rfl 42 (.tmp 3) rfl w.heap.size 42 x.cells rfl (fun w' hw' => HB2.out.ext (regrown_ext hw')) _ Tryz.underlying42 rfl HHI.out ?_
  simp only [Act.put, List.setIfInBounds_toArray, List.set_cons_zero, List.set_cons_succ]
  quiet_step ((go_at_call 56; exact Calls.regrown_of (HP.out _)))
  refine wpQuiet_nil ?_
  intro w3 hw3
  have HE3 := Lib.hid ((HE.out.trans HE2.out).trans (regrown_ext hw3))
  clear hw3 c0
  go_wp2_with (first | (go_at_call 52; refine (HL.out _ HE3.out).mono ?_; rintro e w4 ⟨rfl, F', hD4, hM4⟩; have HD4 := Lib.hid (And.intro hD4 (hM4.pre HE3.out)); clear hD4 hM4) | (go_at_call 53; refine (HFL.out _ _ HD4.out.1).mono ?_; rintro e w5 ⟨rfl, F'', hD5, hM5⟩; have HD5 := Lib.hid (And.intro hD5 (HD4.out.2.trans hM5)); clear hD5 hM5))
  go_ret
  exact ⟨rfl, F'', HD5.out⟩
end Go.Proofs.YtnkebhlkhpgghaaGreatDoor
/- slots.Clear, segment (written): the walks, where nothing is refused. -/
namespace Go.Proofs.YtnkebhlkhpgghaaGreatDoor
open Go Go.RowKit Go.Deep Go.Sort

def Dk.clear (k : Dk) : Dk := ((k.write 0 (padTo [] k.size)).write 1 (padTo [] k.size)).flush
set_option maxRecDepth 8000 in
set_option maxHeartbeats 800000 in
theorem clear_any {F : Nat → Prop} {d : Nat} {k : Dk} (w : World) (hD : Disk F w d k) (hm : 2 ≤ k.many) (hz : 256 ≤ k.size) (hp : k.pend.length ≤ 100000) : Calls Tryz.prog 23 #[.pointer (some ⟨d, 0, none⟩)] w (Did F w d (.int .i64 0) k.clear) := by
  have HF := Lib.hid (slotsFit_any w hD hm hz)
  have H0 := Lib.hid (fun (F' : Nat → Prop) w' (h : Disk F' w' d k) => fill_any 0 [] w' h (by omega) (by simp) (by omega))
  have H1 := Lib.hid (fun (F' : Nat → Prop) w' (h : Disk F' w' d (k.write 0 (padTo [] k.size))) => fill_any 1 [] w' h (by show 1 < k.many; omega) (by simp) (by simp [Dk.write]; omega))
  have H2 := Lib.hid (fun (F' : Nat → Prop) w' (h : Disk F' w' d ((k.write 0 (padTo [] k.size)).write 1 (padTo [] k.size))) => flush_any w' h (by simp [Dk.write]; omega))
  have HD := Lib.hid hD
  have he : bs [] = ByteArray.empty := rfl
  rw [he] at H0 H1
  have e0 : ((0 : Nat) : Int) = 0 := rfl
  have e1 : ((1 : Nat) : Int) = 1 := rfl
  rw [e0] at H0
  rw [e1] at H1
  clear e0 e1
  have i0 : ∀ w, (Instr.index 107 (.agg #[.int .i64 0, .int .i64 1]) (.int .i64 0)).run Tryz.prog w = .ok (.int .i64 0) w := fun _ => by kernel_rfl
  have i1 : ∀ w, (Instr.index 107 (.agg #[.int .i64 0, .int .i64 1]) (.int .i64 1)).run Tryz.prog w = .ok (.int .i64 1) w := fun _ => by kernel_rfl
  clear hD hm hz hp he
  go_enter Tryz.func23, Tryz.ntmps23
  go_wp2_with (go_at_call 50; refine HF.out.mono ?_; rintro e w1 ⟨rfl, hE1⟩; have HE1 := Lib.hid hE1; clear hE1)
  obtain ⟨w0, rfl⟩ : ∃ w0 : World, w0 = w := ⟨_, rfl⟩
  go_loopw [13] (fun t wr => ∃ (i : Int) (F' : Nat → Prop), t = .int .i64 i ∧ Moves F w0 F' wr ∧ ((i = 0 ∧ Disk F' wr d k) ∨ (i = 1 ∧ Disk F' wr d (k.write 0 (padTo [] k.size))) ∨ (i = 2 ∧ Disk F' wr d ((k.write 0 (padTo [] k.size)).write 1 (padTo [] k.size))))) (fun t _ => 2 - (intOf t).toNat)
  case atStart => exact ⟨0, F, rfl, Moves.of_ext HE1.out, .inl ⟨rfl, HD.out.ext HE1.out⟩⟩
  case round =>
    obtain ⟨i, F', rfl, hM, hc⟩ := hrel
    have HM := Lib.hid hM
    clear hM
    rcases hc with ⟨rfl, hD⟩ | ⟨rfl, hD⟩ | ⟨rfl, hD⟩
    · have HD1 := Lib.hid hD
      clear hD
      go_wp2_with (go_at_call 52; go_loud (refine (H0.out _ _ HD1.out).mono ?_; rintro e w2 ⟨rfl, F'', hD2, hM2⟩; have HD2 := Lib.hid (And.intro hD2 (HM.out.trans hM2)); clear hD2 hM2))
      go_roundw
      case rel => exact ⟨1, F'', rfl, HD2.out.2, .inr (.inl ⟨rfl, HD2.out.1⟩)⟩
      case measure => simp [intOf]
    · have HD1 := Lib.hid hD
      clear hD
      go_wp2_with (go_at_call 52; go_loud (refine (H1.out _ _ HD1.out).mono ?_; rintro e w2 ⟨rfl, F'', hD2, hM2⟩; have HD2 := Lib.hid (And.intro hD2 (HM.out.trans hM2)); clear hD2 hM2))
      go_roundw
      case rel => exact ⟨2, F'', rfl, HD2.out.2, .inr (.inr ⟨rfl, HD2.out.1⟩)⟩
      case measure => simp [intOf]
    · have HD1 := Lib.hid hD
      clear hD
      go_wp2_with (go_at_call 53; refine (H2.out _ _ HD1.out).mono ?_; rintro e w2 ⟨rfl, F'', hD2, hM2⟩; have HD2 := Lib.hid (And.intro hD2 (HM.out.trans hM2)); clear hD2 hM2)
      go_ret
      exact ⟨rfl, F'', HD2.out⟩

/-! ### segment -/
theorem segZeros_any (m : Nat) (w : World) (hm : m ≤ 140737488355328) : Calls Tryz.prog 83 #[.int .i64 m] w (Ret (.string (bs (zeros m))) w) := by
  have HR := Lib.hid (fun w' => repeat_any m w' hm)
  clear hm
  go_enter Tryz.func83, Tryz.ntmps83
  go_wp2_with (go_at_call 77; refine (HR.out _).mono ?_; rintro e w1 ⟨rfl, hE1⟩; have HE1 := Lib.hid hE1; clear hE1)
  go_ret
  exact ⟨rfl, HE1.out⟩
theorem put_pend (frm : Nat) : ∀ (f : Nat) (k : Dk) (at_ : Nat) (b : Bytes), 0 < k.size → b.length ≤ f → (k.put frm at_ b).pend.length ≤ k.pend.length + b.length := by
  intro f
  induction f with
  | zero => intro k at_ b _ hl; obtain rfl := List.eq_nil_of_length_eq_zero (by omega : b.length = 0); rw [put_nil]; omega
  | succ f ih =>
    intro k at_ b hz hl
    by_cases hb : b = []
    · subst hb; rw [put_nil]; omega
    · have hbl : 0 < b.length := List.length_pos_iff.2 hb
      have hmod := Nat.mod_lt at_ hz
      rw [put_step k frm at_ b hz hb]
      have := ih (k.write (frm + at_ / k.size) (piece k frm at_ b)) (at_ + min (k.size - at_ % k.size) b.length) (b.drop (min (k.size - at_ % k.size) b.length)) hz (by simp; omega)
      simp only [Dk.write, List.length_append, List.length_singleton, List.length_drop] at this ⊢
      omega
theorem Area.move {F F' : Nat → Prop} {w w' : World} {a d frm n z : Nat} (h : Area w a d frm n z) (hF : ¬ F a) (m : Moves F w F' w') : Area w' a d frm n z ∧ ¬ F' a := ⟨Blk.keep h m.1 hF, m.not hF (Blk.lt h)⟩
set_option maxRecDepth 8000 in
set_option maxHeartbeats 800000 in
theorem segLay_any {F : Nat → Prop} {d a frm n : Nat} {k : Dk} (at_ : Nat) (b : Bytes) (w : World) (hD : Disk F w d k) (hA : Area w a d frm n k.size) (hFa : ¬ F a) (hm : frm + n ≤ k.many) (hfit : at_ + b.length ≤ n * k.size) (hp : k.pend.length + b.length ≤ 1000000) :
    Calls Tryz.prog 82 #[.pointer (some ⟨a, 0, none⟩), .int .i64 at_, .string (bs b)] w (Did F w d (.int .i64 0) (k.put frm at_ b).flush) := by
  have HP := Lib.hid (areaPut_any at_ b w hD hA hFa hm hfit hp)
  have hpp := put_pend frm b.length k at_ b (by have := hD.ok.s1; omega) (Nat.le_refl _)
  have HA := Lib.hid (And.intro hA hFa)
  have HPP := Lib.hid (show (k.put frm at_ b).pend.length ≤ 1000000 from by omega)
  clear hD hA hFa hm hfit hp hpp
  generalize bs b = zb at *
  go_enter Tryz.func82, Tryz.ntmps82
  go_wp2_with (first | (go_at_call 97; refine HP.out.mono ?_; rintro e w1 ⟨rfl, F', hD1, hM1⟩; have HD1 := Lib.hid (And.intro hD1 hM1); clear hD1 hM1) | (go_at_call 107; refine (sync_any _ HD1.out.1 HPP.out (HA.out.1.move HA.out.2 HD1.out.2).1).mono ?_; rintro e w2 ⟨rfl, F'', hD2, hM2⟩; have HD2 := Lib.hid (And.intro hD2 (HD1.out.2.trans hM2)); clear hD2 hM2))
  go_ret
  exact ⟨rfl, F'', HD2.out⟩
theorem segPlace_any {a d frm n z : Nat} (at_ : Nat) (w : World) (hA : Area w a d frm n z) (hz : n * z ≤ 4194304) (hl : at_ ≤ n * z) : Calls Tryz.prog 96 #[.pointer (some ⟨a, 0, none⟩), .int .i64 at_] w (Ret (.int .i64 0) w) := by
  have HL := Lib.hid (areaLen_any w hA hz)
  generalize n * z = q at *
  have d1 : decide ((at_ : Int) < 0) = false := decide_eq_false (by omega)
  have d2 : decide ((q : Int) < at_) = false := decide_eq_false (by omega)
  have b1 : (at_ : Int) ≤ q := by omega
  clear hA hz hl
  go_enter Tryz.func96, Tryz.ntmps96
  go_wp2_with (go_at_call 81; refine HL.out.mono ?_; rintro e w1 ⟨rfl, hE1⟩; have HE1 := Lib.hid hE1; clear hE1)
  go_ret
  exact ⟨rfl, HE1.out⟩
set_option maxRecDepth 8000 in
set_option maxHeartbeats 800000 in
theorem segAppend_any {F : Nat → Prop} {d a frm n : Nat} {k : Dk} (at_ : Nat) (b : Bytes) (w : World) (hD : Disk F w d k) (hA : Area w a d frm n k.size) (hFa : ¬ F a) (hm : frm + n ≤ k.many) (hfit : at_ + b.length ≤ n * k.size) (hp : k.pend.length + b.length ≤ 1000000) :
    Calls Tryz.prog 68 #[.pointer (some ⟨a, 0, none⟩), .int .i64 at_, .string (bs b)] w (Did F w d (.int .i64 0) (k.put frm at_ b)) := by
  have hn : n * k.size ≤ 4096 * 1024 := Nat.mul_le_mul (by have := hD.ok.m2; omega) hD.ok.s2
  have HPL := Lib.hid (segPlace_any at_ w hA (by omega) (by omega))
  have HL := Lib.hid (fun w' (e : Ext w w') => areaLen_any w' (Blk.ext hA e) (by omega))
  have HP := Lib.hid (fun w' (e : Ext w w') => areaPut_any at_ b w' (hD.ext e) (Blk.ext hA e) hFa hm hfit hp)
  have hsz : (bs b).size = b.length := bs_size b
  generalize n * k.size = q at *
  have b1 : ¬ ((q : Int) - at_ < b.length) := by omega
  have b2 : (0 : Int) ≤ at_ := by omega
  have b3 : (at_ : Int) ≤ q := by omega
  have b4 : (q : Int) ≤ 4194304 := by omega
  have hsz2 : ((bs b).size : Int) = b.length := by omega
  clear hD hA hFa hm hfit hp hsz hn
  generalize bs b = zb at *
  go_enter Tryz.func68, Tryz.ntmps68
  go_wp2_with (first | (go_at_call 96; refine HPL.out.mono ?_; rintro e w1 ⟨rfl, hE1⟩; have HE1 := Lib.hid hE1; clear hE1) | (go_at_call 81; refine (HL.out _ HE1.out).mono ?_; rintro e w2 ⟨rfl, hE2⟩; have HE2 := Lib.hid (HE1.out.trans hE2); clear hE2) | (go_at_call 97; refine (HP.out _ HE2.out).mono ?_; rintro e w3 ⟨rfl, F', hD3, hM3⟩; have HD3 := Lib.hid (And.intro hD3 (hM3.pre HE2.out)); clear hD3 hM3))
  go_ret
  exact ⟨rfl, F', HD3.out⟩
def Dk.begin (k : Dk) (frm n : Nat) (h : Hd) : Dk := ((k.put frm 0 (zeros (n * k.size))).flush.put frm 0 h.text).flush
set_option maxRecDepth 8000 in
set_option maxHeartbeats 800000 in
theorem segBegin_any {F : Nat → Prop} {d a frm n : Nat} {k : Dk} (h : Hd) (w : World) (hD : Disk F w d k) (hA : Area w a d frm n k.size) (hFa : ¬ F a) (hm : frm + n ≤ k.many) (h1 : 1 ≤ n) (hi : h.In) (hp : k.pend.length + n * k.size ≤ 1000000) :
    Calls Tryz.prog 55 #[.pointer (some ⟨a, 0, none⟩), .agg h.cells.toArray] w (Did F w d (.int .i64 0) (k.begin frm n h)) := by
  have hn : n * k.size ≤ 4096 * 1024 := Nat.mul_le_mul (by have := hD.ok.m2; omega) hD.ok.s2
  have hn2 : 64 ≤ n * k.size := by have h2 := hD.ok.s1; calc 64 ≤ k.size := h2
    _ = 1 * k.size := (Nat.one_mul _).symm
    _ ≤ n * k.size := Nat.mul_le_mul_right _ h1
  have HL := Lib.hid (fun w' (e : Ext w w') => areaLen_any w' (Blk.ext hA e) (by omega))
  have HZ := Lib.hid (fun w' => segZeros_any (n * k.size) w' (by omega))
  have HY1 := Lib.hid (fun w' (e : Ext w w') => segLay_any 0 (zeros (n * k.size)) w' (hD.ext e) (Blk.ext hA e) hFa hm (by simp) (by simpa using hp))
  have hkk := put_keeps frm n _ k 0 (zeros (n * k.size)) hD.ok hm (by simp) (Nat.le_refl _)
  have HY2 := Lib.hid (fun (F' : Nat → Prop) w' (hD' : Disk F' w' d (k.put frm 0 (zeros (n * k.size))).flush) (hA' : Area w' a d frm n k.size) (hF' : ¬ F' a) => segLay_any (k := (k.put frm 0 (zeros (n * k.size))).flush) 0 h.text w' hD' (by rw [Dk.flush_size, hkk.2.2.1]; exact hA') hF' (by rw [Dk.flush_many, hkk.2.1]; exact hm) (by rw [Dk.flush_size, hkk.2.2.1, Hd.text_length hi]; omega) (by rw [Hd.text_length hi]; simp [Dk.flush]))
  have HP := Lib.hid (fun w' => putHead_any h w' hi)
  have HA := Lib.hid (And.intro hA hFa)
  obtain ⟨w1, hw1⟩ : ∃ w1, w1 = w.alloc (.cells h.cells.toArray 70) := ⟨_, rfl⟩
  have HB := Lib.hid (show Blk w1 w.heap.size 70 h.cells.toArray from by rw [hw1]; exact Blk.new _ _ _)
  have HE := Lib.hid (show Ext w w1 from by rw [hw1]; exact (Ext.refl w).alloc _)
  have HW := Lib.hid hw1
  have hnF : ¬ F w.heap.size := fun hh => by have := hD.sz _ hh; omega
  have HNF := Lib.hid hnF
  have HI : (Tryz.prog.info? 70).map (·.size) = some h.cells.length := by rw [show h.cells.length = 34 from by simp [Hd.cells, bcells, hi.a]]; kernel_rfl
  have HHI := Lib.hid HI
  have hbeg : ((k.put frm 0 (zeros (n * k.size))).flush.put frm 0 h.text).flush = k.begin frm n h := rfl
  have HBE := Lib.hid hbeg
  clear hD hA hFa hm hp hn h1 hi hkk hw1 HI hnF hbeg
  generalize n * k.size = q at *
  have b1 : ¬ ((q : Int) < 64) := by omega
  clear hn2
  generalize bs (zeros q) = z1 at *
  generalize bs h.text = z2 at *
  go_enter Tryz.func55, Tryz.ntmps55
  go_wp2_with (first | (refine wpList_load_blk rfl 70 (.tmp 3) rfl w.heap.size 70 h.cells rfl HB5.out _ Tryz.underlying70 rfl HHI.out ?_) | (have hg := HE2; go_at_call 81; refine (HL.out _ HE2.out).mono ?_; rintro e w3 ⟨rfl, hE3⟩; have HB3 := Lib.hid (HB2.out.ext hE3); have HE3 := Lib.hid (HE2.out.trans hE3); clear hE3 hg) | (go_at_call 81; rw [← HW.out]; refine (HL.out _ HE.out).mono ?_; rintro e w2 ⟨rfl, hE2⟩; have HB2 := Lib.hid (HB.out.ext hE2); have HE2 := Lib.hid (HE.out.trans hE2); clear hE2) | (go_at_call 83; refine (HZ.out _).mono ?_; rintro e w4 ⟨rfl, hE4⟩; have HB4 := Lib.hid (HB3.out.ext hE4); have HE4 := Lib.hid (HE3.out.trans hE4); clear hE4) | (have hg := HD6; go_at_call 82; go_loud (refine (HY2.out _ _ HD6.out.1 HD6.out.2.2.1 HD6.out.2.2.2).mono ?_; rintro e w7 ⟨rfl, F'', hD7, hM7⟩; have HD7 := Lib.hid (And.intro hD7 (HD6.out.2.1.trans hM7)); clear hD7 hM7 hg)) | (go_at_call 82; go_loud (refine (HY1.out _ HE4.out).mono ?_; rintro e w5 ⟨rfl, F', hD5, hM5⟩; have HB5 := Lib.hid (HB4.out.keep hM5.1 HNF.out); have HD5 := Lib.hid (And.intro hD5 (hM5.pre HE4.out)); clear hD5 hM5)) | (go_at_call 84; refine (HP.out _).mono ?_; rintro e w6 ⟨rfl, hE6⟩; have HD6 := Lib.hid (And.intro (HD5.out.1.ext hE6) (And.intro (HD5.out.2.ext hE6) (HA.out.1.move HA.out.2 (HD5.out.2.ext hE6)))); clear hE6))
  go_ret
  refine ⟨rfl, F'', ?_⟩
  rw [← HBE.out]
  exact HD7.out
end Go.Proofs.YtnkebhlkhpgghaaGreatDoor
/- The rule of XOwn, with a tail that is forced: its operations wait for all of the head, and for one another. Over any program. -/
namespace Go.Proofs.YtnkebhlkhpgghaaGreatDoor
open Go Go.RowKit

def headArr (m n : Nat) : Array Bool := ((List.range m).map (fun i => decide (i < n))).toArray
/-- The head's operations have slots of their own, wait for earlier ones alone, and are not guarded; the first of the tail waits for each of them, each other one of the tail for the one ahead. -/
def headB (md : Region.Mode) (ops : Array Oper) (n sz : Nat) : Bool :=
  decide (n < ops.size) &&
  ((List.range n).all fun i => match ops[i]? with
    | none => true
    | some o => o.guard.isNone && (match o.dst with | none => false | some d => decide (d < sz)) && o.after.all (fun e => decide (e.on < i)) &&
      (List.range n).all fun j => decide (i = j) || (match ops[j]? with | none => true | some o' => o'.dst != o.dst)) &&
  ((List.range n).all fun i => Region.waitsFor md ops n i) && Region.chainB md ops n && Region.seqB md ops (ops.size - n) n (headArr ops.size n)
/-- Beside the slots that the head writes all is as it was. -/
structure BesideH (ops : Array Oper) (n : Nat) (a0 a : Act) : Prop where
  size : a.tmps.size = a0.tmps.size
  defers : a.defers = a0.defers
  slot : ∀ t, (∀ (i : Nat) (o : Oper), i < n → ops[i]? = some o → o.dst ≠ some t) → a.tmps.getD t undef = a0.tmps.getD t undef
section
variable {P : Program} {ops : Array Oper} {Q : Exit → Act → World → Prop} {a0 : Act} {w0 : World} {n : Nat}
theorem BesideH.put {a : Act} (h : BesideH ops n a0 a) {i : Nat} {o : Oper} (hn : i < n) (hi : ops[i]? = some o) (v : Value) : BesideH ops n a0 (a.put o.dst v) := by
  cases hd : o.dst with
  | none => exact h
  | some d =>
    refine ⟨by simp [Act.put, h.size], h.defers, fun t ht => ?_⟩
    have hne : d ≠ t := fun e => ht i o hn hi (by rw [hd, e])
    rw [← h.slot t ht]
    simp [Act.put, Array.getElem?_setIfInBounds_ne hne]
theorem BesideH.outer {a : Act} (h : BesideH ops n a0 a) (t : Tmp) (hc : ((ops.toList.take n).all fun o => o.dst != some t) = true) : a.eval (.tmp t) = a0.eval (.tmp t) := by
  have h1 := h.slot t (fun i o hi ho => by
    have hm : o ∈ ops.toList.take n := by
      have : (ops.toList.take n)[i]? = some o := by rw [List.getElem?_take_of_lt hi]; simpa using ho
      exact List.mem_of_getElem? this
    have h2 := List.all_eq_true.1 hc o hm
    simpa using h2)
  exact h1
theorem wpAny_ownT {md : Region.Mode} {R : World → World → Prop} (Rt : ∀ {a b c}, R a b → R b c → R a c) (hpl : headB md ops n a0.tmps.size = true) (B : Nat → Value → World → Prop)
    (stab : ∀ (i : Nat) (v : Value) (w w' : World), B i v w → R w w' → B i v w')
    (step : ∀ (i : Nat) (o : Oper) (a : Act) (w : World), i < n → ops[i]? = some o → BesideH ops n a0 a → R w0 w → (∀ e ∈ o.after, Region.binds md e = true → B e.on (a.eval (.tmp (slotOf ops e.on))) w) → o.wp P a w (fun a' w' => ∃ v, a' = a.put o.dst v ∧ R w w' ∧ B i v w') Q)
    (fin : ∀ (a : Act) (w : World), BesideH ops n a0 a → R w0 w → (∀ i, i < n → B i (a.eval (.tmp (slotOf ops i))) w) → wpList P ops Q (ops.toList.drop n) a w) :
    ∀ (f : Nat) (listed : Array Bool) (a : Act) (w : World), listed.size = ops.size → (∀ t, n ≤ t → t < ops.size → listed.getD t true = false) → unlisted listed = f + (ops.size - n) → BesideH ops n a0 a → R w0 w → (∀ i, i < n → listed.getD i true = true → B i (a.eval (.tmp (slotOf ops i))) w) → wpAny P md ops Q (f + (ops.size - n)) listed a w := by
  simp only [headB, Bool.and_eq_true, decide_eq_true_eq] at hpl
  obtain ⟨⟨⟨⟨hn, hall⟩, hwait⟩, hchain⟩, hseq⟩ := hpl
  have hall := List.all_eq_true.1 hall
  have opOk : ∀ (i : Nat) (o : Oper), i < n → ops[i]? = some o → o.guard = none ∧ (∃ d, o.dst = some d ∧ d < a0.tmps.size) ∧ (∀ e ∈ o.after, e.on < i) ∧ (∀ (j : Nat) (o' : Oper), j < n → i ≠ j → ops[j]? = some o' → o'.dst ≠ o.dst) := by
    intro i o hin hi
    have h := hall i (List.mem_range.2 hin)
    simp only [hi, Bool.and_eq_true] at h
    obtain ⟨⟨⟨h1, h2⟩, h3⟩, h4⟩ := h
    refine ⟨by simpa using h1, ?_, ?_, ?_⟩
    · cases hd : o.dst with
      | none => rw [hd] at h2; simp at h2
      | some d => rw [hd] at h2; exact ⟨d, rfl, by simpa using h2⟩
    · intro e he
      have h3' := Array.all_eq_true'.1 h3
      simpa using h3' e he
    · intro j o' hj hij ho'
      have h5 := List.all_eq_true.1 h4 j (List.mem_range.2 hj)
      simp only [ho', Bool.or_eq_true, decide_eq_true_eq] at h5
      rcases h5 with h5 | h5
      · exact absurd h5 hij
      · simpa using h5
  -- as long as one of the head is left, one of the head may come up, and none of the tail
  have head_ready : ∀ (listed : Array Bool), listed.size = ops.size → (∃ i, i < n ∧ listed.getD i true = false) → Region.ready md ops listed ≠ [] := by
    intro listed hs hex
    have key : ∀ m i, i = m → i < n → listed.getD i true = false → ∃ j, j ∈ Region.ready md ops listed := by
      intro m
      induction m using Nat.strongRecOn with
      | _ m ih =>
        intro i hin hi' hi
        subst hin
        have hlt : i < ops.size := by omega
        obtain ⟨o, ho⟩ : ∃ o, ops[i]? = some o := ⟨_, Array.getElem?_eq_getElem hlt⟩
        by_cases hd : ∀ e ∈ o.after, Region.binds md e = true → listed.getD e.on false = true
        · exact ⟨i, mem_ready.2 ⟨hi, o, ho, hd⟩⟩
        · have hd' : ∃ e ∈ o.after, Region.binds md e = true ∧ ¬ listed.getD e.on false = true := by
            refine Classical.byContradiction fun hno => hd fun e he hb => Classical.byContradiction fun hn => hno ⟨e, he, hb, hn⟩
          obtain ⟨e, he, hb, hl⟩ := hd'
          have hlt2 := (opOk i o hi' ho).2.2.1 e he
          have : listed.getD e.on true = false := by
            have h5 : e.on < listed.size := by omega
            simp [h5] at hl ⊢
            exact hl
          exact ih e.on hlt2 e.on rfl (by omega) this
    obtain ⟨i, hi1, hi2⟩ := hex
    obtain ⟨j, hj⟩ := key i i rfl hi1 hi2
    intro h0
    rw [h0] at hj
    cases hj
  have no_tail : ∀ (listed : Array Bool), listed.size = ops.size → (∀ t, n ≤ t → t < ops.size → listed.getD t true = false) → (∃ i, i < n ∧ listed.getD i true = false) → ∀ j ∈ Region.ready md ops listed, j < n := by
    intro listed hs ht hex j hj
    refine Classical.byContradiction fun hge => ?_
    obtain ⟨hun, oj, hoj, hdep⟩ := mem_ready.1 hj
    have hlt := (Array.getElem?_eq_some_iff.1 hoj).1
    by_cases hjn : j = n
    · subst hjn
      obtain ⟨i, hi1, hi2⟩ := hex
      have h1 := List.all_eq_true.1 hwait i (List.mem_range.2 hi1)
      obtain ⟨o', ho', e, he, hb, hon⟩ := Region.waitsFor_spec h1
      have : o' = oj := Option.some.inj (ho'.symm.trans hoj)
      subst this
      have h2 := hdep e he hb
      rw [hon, getD_both hi2] at h2
      cases h2
    · have h1 := List.all_eq_true.1 hchain j (List.mem_range.2 hlt)
      simp only [Bool.or_eq_true, decide_eq_true_eq] at h1
      rcases h1 with h1 | h1
      · omega
      · obtain ⟨o', ho', e, he, hb, hon⟩ := Region.waitsFor_spec h1
        have : o' = oj := Option.some.inj (ho'.symm.trans hoj)
        subst this
        have h2 := hdep e he hb
        rw [hon, getD_both (ht (j - 1) (by omega) (by omega))] at h2
        cases h2
  have cnt : ∀ (m : Nat) (l : List Bool), (l.drop m).all (fun b => !b) = true → m ≤ l.length → (l.filter (fun b => !b)).length = ((l.take m).filter (fun b => !b)).length + (l.length - m) := by
    intro m l h hm
    have h1 : l.filter (fun b => !b) = (l.take m).filter (fun b => !b) ++ (l.drop m).filter (fun b => !b) := by rw [← List.filter_append, List.take_append_drop]
    have h2 : (l.drop m).filter (fun b => !b) = l.drop m := List.filter_eq_self.2 (fun b hb => List.all_eq_true.1 h b hb)
    rw [h1, h2, List.length_append, List.length_drop]
  have heads : ∀ (listed : Array Bool), listed.size = ops.size → (∀ t, n ≤ t → t < ops.size → listed.getD t true = false) → unlisted listed = ((listed.toList.take n).filter (fun b => !b)).length + (ops.size - n) := by
    intro listed hs ht
    have h1 := cnt n listed.toList (by
      rw [List.all_eq_true]
      intro b hb
      obtain ⟨i, hi, rfl⟩ := List.mem_iff_getElem.1 hb
      rw [List.getElem_drop]
      simp only [List.length_drop, Array.length_toList] at hi
      have := ht (n + i) (by omega) (by omega)
      have h6 : n + i < listed.size := by omega
      simp [h6] at this
      simpa using this) (by simp; omega)
    have h8 : listed.toList.length = ops.size := by simp [hs]
    unfold unlisted
    rw [h1, h8]
  intro f
  induction f with
  | zero =>
    intro listed a w hs ht hu hb he hA
    have hh := heads listed hs ht
    have h0 : (listed.toList.take n).filter (fun b => !b) = [] := List.eq_nil_of_length_eq_zero (by omega)
    have hl : ∀ i, i < n → listed.getD i true = true := by
      intro i hi
      have h6 : i < listed.size := by omega
      have hm : listed[i] ∈ listed.toList.take n := by
        have h7 : (listed.toList.take n)[i]? = some listed[i] := by rw [List.getElem?_take_of_lt hi]; simp [h6]
        exact List.mem_of_getElem? h7
      have := List.filter_eq_nil_iff.1 h0 _ hm
      simpa [h6] using this
    have hla : listed = headArr ops.size n := by
      apply Array.ext
      · simp [headArr, hs]
      · intro i h1 h2
        simp only [headArr, List.getElem_toArray, List.getElem_map, List.getElem_range]
        by_cases hi : i < n
        · have := hl i hi
          simp [h1] at this
          simp [this, hi]
        · have := ht i (by omega) (by omega)
          simp [h1] at this
          simp [this, hi]
    rw [Nat.zero_add]
    have hdl : (ops.toList.drop n).length = ops.size - n := by simp
    have := wpAny_of_seq (P := P) (md := md) (ops := ops) (Q' := Q) (ops.toList.drop n) n listed a w (fun j => by simp [List.getElem?_drop]) (by rw [hdl, hla]; exact hseq) (fin a w hb he (fun i hi => hA i hi (hl i hi)))
    rwa [hdl] at this
  | succ f ih =>
    intro listed a w hs ht hu hb he hA
    have hh := heads listed hs ht
    have hex : ∃ i, i < n ∧ listed.getD i true = false := by
      refine Classical.byContradiction fun hno => ?_
      have h0 : (listed.toList.take n).filter (fun b => !b) = [] := by
        rw [List.filter_eq_nil_iff]
        intro b hb2
        obtain ⟨i, hi, rfl⟩ := List.mem_iff_getElem.1 hb2
        simp only [List.length_take, Array.length_toList] at hi
        have h7 : ¬ listed.getD i true = false := fun h => hno ⟨i, by omega, h⟩
        have h6 : i < listed.size := by omega
        simp [h6] at h7
        simpa using h7
      rw [h0] at hh
      simp at hh
      omega
    rw [show f + 1 + (ops.size - n) = (f + (ops.size - n)) + 1 by omega]
    refine ⟨fun h0 => absurd h0 (head_ready listed hs hex), fun i hi => ?_⟩
    have hin := no_tail listed hs ht hex i hi
    obtain ⟨hun, o, ho, hdep⟩ := mem_ready.1 hi
    have hok := opOk i o hin ho
    unfold wpOp
    simp only [ho, Region.wanted, hok.1, if_true]
    left
    have hslot : ∀ (j : Nat) (oj : Oper), ops[j]? = some oj → slotOf ops j = oj.dst.getD 0 := fun j oj h => by simp only [slotOf, h, Option.bind_some]
    refine Oper.wp_mono ?_ (step i o a w hin ho hb he (fun e he' hbd => hA e.on ?_ ?_))
    · rintro a' w' ⟨v, rfl, hE, hBi⟩
      refine ih _ _ _ (by simp [hs]) (fun t h1 h2 => by rw [getD_set_ne true (by omega)]; exact ht t h1 h2) (by have := unlisted_set hun; omega) (hb.put hin ho v) (Rt he hE) (fun j hj hl => ?_)
      obtain ⟨d, hd, hds⟩ := hok.2.1
      by_cases hji : j = i
      · subst hji
        rw [hslot j o ho, hd, Option.getD_some, put_at v (by rw [hb.size]; exact hds)]
        exact hBi
      · rw [getD_set_ne true (fun e => hji e.symm)] at hl
        obtain ⟨oj, hoj⟩ : ∃ oj, ops[j]? = some oj := ⟨_, Array.getElem?_eq_getElem (by omega)⟩
        obtain ⟨dj, hdj, _⟩ := (opOk j oj hj hoj).2.1
        have hne := (opOk j oj hj hoj).2.2.2 i o hin hji ho
        have h9 := stab j _ w w' (hA j hj hl) hE
        rw [hslot j oj hoj, hdj, Option.getD_some] at h9 ⊢
        rw [hd, put_off v (fun e => hne (by rw [hd, hdj, e]))]
        exact h9
    · have := hok.2.2.1 e he'; omega
    · have h1 := hdep e he' hbd
      have h2 : e.on < listed.size := by have := hok.2.2.1 e he'; omega
      simp [h2] at h1 ⊢
      exact h1
/-- **The rule**, over any preorder of worlds: the head tells what each of its operations leaves; the tail is walked. -/
theorem wp_region_tellR {id : Nat} {w : World} {l : List Oper} (R : World → World → Prop) (Rd : R w w.drew) (Rt : ∀ {a b c}, R a b → R b c → R a c) (n : Nat) (hm : P.follows .mixedOrders = true) (hpl : headB .any l.toArray n a0.tmps.size = true) (B : Nat → Value → World → Prop)
    (stab : ∀ (i : Nat) (v : Value) (w w' : World), B i v w → R w w' → B i v w')
    (step : ∀ (i : Nat) (o : Oper) (a : Act) (w' : World), i < n → l[i]? = some o → BesideH l.toArray n a0 a → R w w' → (∀ e ∈ o.after, Region.binds .any e = true → B e.on (a.eval (.tmp (slotOf l.toArray e.on))) w') → o.wp P a w' (fun a' w'' => ∃ v, a' = a.put o.dst v ∧ R w' w'' ∧ B i v w'') Q)
    (fin : ∀ (a : Act) (w' : World), BesideH l.toArray n a0 a → R w w' → (∀ i, i < n → B i (a.eval (.tmp (slotOf l.toArray i))) w') → wpList P l.toArray Q (l.drop n) a w') : (Code.region id l.toArray true).wp P Q a0 w := by
  have hn : n < l.toArray.size := by simp only [headB, Bool.and_eq_true, decide_eq_true_eq] at hpl; exact hpl.1.1.1.1
  refine wp_region_any hm ?_
  have h := wpAny_ownT (P := P) (Q := Q) (w0 := w) (R := R) Rt hpl B stab (fun i o a w' hi ho => step i o a w' hi (by simpa using ho)) (fun a w' h1 h2 h3 => by simpa using fin a w' h1 h2 h3) n (Array.replicate l.toArray.size false) a0 w.drew (by simp) (fun t h1 h2 => by simp at h2; simp [h2]) (by simp [unlisted]; simp at hn; omega) ⟨rfl, rfl, fun _ _ => rfl⟩ Rd (fun i hi hl => by simp at hn; simp [show i < l.length by omega] at hl)
  rw [show n + (l.toArray.size - n) = l.toArray.size by omega] at h
  exact h
/-- **The rule**: the head tells what each of its operations leaves; the tail is walked. -/
theorem wp_region_tellT {id : Nat} {w : World} {l : List Oper} (n : Nat) (hm : P.follows .mixedOrders = true) (hpl : headB .any l.toArray n a0.tmps.size = true) (B : Nat → Value → World → Prop)
    (stab : ∀ (i : Nat) (v : Value) (w w' : World), B i v w → Ext w w' → B i v w')
    (step : ∀ (i : Nat) (o : Oper) (a : Act) (w' : World), i < n → l[i]? = some o → BesideH l.toArray n a0 a → Ext w w' → (∀ e ∈ o.after, Region.binds .any e = true → B e.on (a.eval (.tmp (slotOf l.toArray e.on))) w') → o.wp P a w' (fun a' w'' => ∃ v, a' = a.put o.dst v ∧ Ext w' w'' ∧ B i v w'') Q)
    (fin : ∀ (a : Act) (w' : World), BesideH l.toArray n a0 a → Ext w w' → (∀ i, i < n → B i (a.eval (.tmp (slotOf l.toArray i))) w') → wpList P l.toArray Q (l.drop n) a w') : (Code.region id l.toArray true).wp P Q a0 w :=
  wp_region_tellR Ext ((Ext.refl w).drew) Ext.trans n hm hpl B stab step fin
theorem tellR_val {R : World → World → Prop} {o : Oper} {a : Act} {w : World} {B : Value → World → Prop} (v : Value) (w' : World) (hr : (execOp a.eval o).run P w = .ok (.value v) w') (hE : R w w') (hB : B v w') : o.wp P a w (fun a' w'' => ∃ v, a' = a.put o.dst v ∧ R w w'' ∧ B v w'') Q := by
  unfold Oper.wp
  rw [hr]
  exact ⟨v, rfl, hE, hB⟩
end
end Go.Proofs.YtnkebhlkhpgghaaGreatDoor
/- slices.Clone of events, chain.Link: the walks. -/
namespace Go.Proofs.YtnkebhlkhpgghaaGreatDoor
open Go Go.RowKit Go.Deep

/-- 'append(v, x...)' onto a row of the call's own, the source in a block that is told cell by cell. -/
theorem wpList_appendR {P : Program} {ops : Array Oper} {rest : List Oper} {o : Oper} {a : Act} {Q : Exit → Act → World → Prop} {W : World} (base : Nat) (hgd : o.guard = none) (s x : Operand) (t e : TypeId) (z : Value) (size bytes : Nat)
    (ho : o.op = .call { callee := .builtin .append, args := #[s, x], argTypes := #[t, t] })
    (ht : P.underlying t = some (.slice e)) (hinfo : (P.info? e).map (fun i => (i.zero, i.size, i.bytes)) = some (some z, size, bytes)) (hz : z.cells.size = size) (hs0 : 0 < size) (hb0 : 0 < bytes)
    (v : Value) (n : Nat) (xs : List Value) (hs : a.eval s = v) (HO : W.ownsRow base e size v n xs) (hbase : base ≤ W.heap.size)
    (ad : Addr) (k c : Nat) (news : List Value) (hx : a.eval x = .slice (some ad) k c) (hk : news.length = k * size) (hnews : ∀ j u, news[j]? = some u → W.cell? (ad.add j) = some u) (h1 : ∀ u ∈ news, u.oneCell' = true) (hl : (n + k) * bytes ≤ 140737488355328)
    (h : ∀ A c' w1, w1.ownsRow base e size (.slice A (n + k) c') (n + k) (xs ++ news) → Keep (Of v) W w1 → wpList P ops Q rest (a.put o.dst (.slice A (n + k) c')) w1) :
    wpList P ops Q (o :: rest) a W := by
  obtain ⟨i0, hi, hzz⟩ := Option.map_eq_some_iff.1 hinfo
  simp only [Prod.mk.injEq] at hzz
  obtain ⟨hz0, hz1, hz2⟩ := hzz
  have hlen : n + k ≤ 140737488355328 := Nat.le_trans (Nat.le_mul_of_pos_right _ hb0) hl
  refine wpList_append_own_at W hgd s x t ho base e i0 z size bytes ht hi hz0 hz1 hz2 hz hs0 v n xs hs HO ad k c news hx hk hnews h1 (by simp only [maxLen]; omega) hl hbase ?_
  intro v1 w1 hown hg _ _
  obtain ⟨A, c', rfl⟩ := own_slice hown
  exact h A c' w1 hown ((Keep.refl _ _).grown hg (fun k hk => Or.inl hk))

/-- The cells of a list, sz an element. -/
def rows {α : Type} (enc : α → List Value) (l : List α) : List Value := (l.map enc).flatten
theorem rows_length {α : Type} {enc : α → List Value} {sz : Nat} (he : ∀ x, (enc x).length = sz) : ∀ l : List α, (rows enc l).length = l.length * sz
  | [] => by simp [rows]
  | x :: l => by
    have := rows_length he l
    simp only [rows, List.map_cons, List.flatten_cons, List.length_append, List.length_cons] at this ⊢
    rw [this, he, Nat.succ_mul, Nat.add_comm]
theorem rows_get {α : Type} {enc : α → List Value} {sz : Nat} (he : ∀ x, (enc x).length = sz) : ∀ (l : List α) (i : Nat) (x : α) (j : Nat) (u : Value), l[i]? = some x → (enc x)[j]? = some u → (rows enc l)[i * sz + j]? = some u
  | [], i, x, j, u, h, _ => by simp at h
  | y :: l, 0, x, j, u, h, k => by
    simp only [List.getElem?_cons_zero, Option.some.injEq] at h
    subst h
    have := (List.getElem?_eq_some_iff.1 k).1
    simp only [rows, List.map_cons, List.flatten_cons, Nat.zero_mul, Nat.zero_add]
    rw [List.getElem?_append_left this, k]
  | y :: l, i + 1, x, j, u, h, k => by
    rw [List.getElem?_cons_succ] at h
    have := rows_get he l i x j u h k
    simp only [rows, List.map_cons, List.flatten_cons] at this ⊢
    rw [List.getElem?_append_right (by rw [he, Nat.succ_mul]; omega), he, ← this]
    congr 1
    rw [Nat.succ_mul]
    omega
theorem rows_get' {α : Type} {enc : α → List Value} {sz : Nat} (he : ∀ x, (enc x).length = sz) : ∀ (l : List α) (k : Nat) (u : Value), (rows enc l)[k]? = some u → ∃ i x j, k = i * sz + j ∧ l[i]? = some x ∧ (enc x)[j]? = some u
  | [], k, u, h => by simp [rows] at h
  | y :: l, k, u, h => by
    simp only [rows, List.map_cons, List.flatten_cons] at h
    by_cases hk : k < sz
    · rw [List.getElem?_append_left (by rw [he]; exact hk)] at h
      exact ⟨0, y, k, by simp, rfl, h⟩
    · rw [List.getElem?_append_right (by rw [he]; omega), he] at h
      obtain ⟨i, x, j, h1, h2, h3⟩ := rows_get' he l (k - sz) u h
      exact ⟨i + 1, x, j, by rw [Nat.succ_mul]; omega, h2, h3⟩
theorem rd_of_own {α : Type} {enc : α → List Value} {sz : Nat} (he : ∀ x, (enc x).length = sz) {w : World} {base : Nat} {e : TypeId} {v : Value} {n : Nat} {l : List α} (h : w.ownsRow base e sz v n (rows enc l)) (hn : n = l.length) (hs : 0 < sz) : Rd w sz enc v l := by
  subst hn
  have h0 := h
  rcases h.2 with ⟨rfl, hl⟩ | ⟨g, cap, cur, rfl, hb, hg, hc, hm, hcs, ht⟩
  · obtain rfl := List.eq_nil_of_length_eq_zero hl
    exact Rd.none _ _ _
  · refine ⟨some ⟨g, 0, none⟩, cap, rfl, hc, by simpa [maxLen] using hm, fun hl => ⟨g, 0, rfl, (Array.getElem?_eq_some_iff.1 hg).1, fun i x hx j u hu => ?_⟩⟩
    have := h0.cells (g := g) rfl (i * sz + j) u (rows_get he l i x j u hx hu)
    rw [Addr.add_lit] at this
    rw [← this]; congr 2; omega
theorem ev_six (x : Ev) : x.cells.length = 6 := rfl
theorem own_zero {w : World} {base n : Nat} {e : TypeId} {z : Nat} {v : Value} {xs : List Value} (h : w.ownsRow base e z v n xs) : w.ownsRow 0 e z v n xs := by
  rcases h with ⟨h0, h | ⟨g, cap, cur, hv, hb, r⟩⟩
  · exact ⟨h0, .inl h⟩
  · exact ⟨h0, .inr ⟨g, cap, cur, hv, Nat.zero_le _, r⟩⟩
theorem rows_one (l : List Ev) : ∀ u ∈ rows Ev.cells l, u.oneCell' = true := by
  intro u hu
  simp only [rows, List.mem_flatten, List.mem_map] at hu
  obtain ⟨_, ⟨x, _, rfl⟩, hu⟩ := hu
  exact x.cells_one u hu
theorem info_ev : (Tryz.prog.info? 91).map (fun i => (i.zero, i.size, i.bytes)) = some (some (.agg #[.int .u64 0, .int .i64 0, .int .i64 0, .int .i64 0, .int .i64 0, .int .i64 0]), 6, 48) := by kernel_rfl


set_option maxRecDepth 8000 in
set_option maxHeartbeats 800000 in
theorem cloneEv_any (v : Value) (l : List Ev) (w : World) (h : Rd w 6 Ev.cells v l) (hl : l.length ≤ 1000000) : Calls Tryz.prog 63 #[v] w fun e w' => ∃ A c, e = .returned (.slice A l.length c) ∧ w'.ownsRow 0 91 6 (.slice A l.length c) l.length (rows Ev.cells l) ∧ Ext w w' := by
  obtain ⟨A, c, rfl, hc, hc2, hA⟩ := h
  rcases A with _ | ad
  · have hl0 : l.length = 0 := by
      rcases Nat.eq_zero_or_pos l.length with h | h
      · exact h
      · obtain ⟨b, off, hh, _⟩ := hA h; cases hh
    obtain rfl := List.eq_nil_of_length_eq_zero hl0
    have hn := Lib.run_eql_slice_nil (P := Tryz.prog) (w := w)
    clear hA hc hc2 hl0
    simp only [List.length_nil] at *
    go_enter Tryz.func63, Tryz.ntmps63
    go_wp2_with fail
    go_ret
    exact ⟨none, 0, rfl, own_none _ _ _ _, Ext.refl _⟩
  · have hn := Lib.run_eql_slice_nil (P := Tryz.prog) (w := w) 47 91 (some ad) l.length c 0 0 Tryz.underlying47
    have hnews : ∀ j u, (rows Ev.cells l)[j]? = some u → w.cell? (ad.add j) = some u := by
      intro j u hu
      obtain ⟨i, x, k, rfl, hx, hk⟩ := rows_get' ev_six l j u hu
      have hpos : 0 < l.length := by have := (List.getElem?_eq_some_iff.1 hx).1; omega
      obtain ⟨b, off, hab, _, hcell⟩ := hA hpos
      simp only [Option.some.injEq] at hab
      subst hab
      rw [Addr.add_lit, ← hcell i x hx k u hk]
      congr 2
      omega
    have HN := Lib.hid hnews
    have HL := Lib.hid hl
    clear hA hnews hc hc2 hl
    generalize hm : l.length = m at *
    have HM := Lib.hid hm
    clear hm
    have ho : (w.alloc (.cells #[] 91)).ownsRow w.heap.size 91 6 (.slice (some ⟨w.heap.size, 0, none⟩) 0 0) 0 [] :=
      ⟨by simp, .inr ⟨w.heap.size, 0, #[], rfl, Nat.le_refl _, heap_alloc_new w _, by simp, by simp [maxLen], by simp, by simp⟩⟩
    have HO := Lib.hid ho
    clear ho
    go_enter Tryz.func63, Tryz.ntmps63
    go_wp2_with (at_builtin; go_loud (refine wpList_appendR w.heap.size rfl (.tmp 5) (.tmp 6) 47 91 _ 6 48 rfl Tryz.underlying47 info_ev rfl (by decide) (by decide) (.slice (some ⟨w.heap.size, 0, none⟩) 0 0) 0 [] rfl HO.out (by simp) ad m c (rows Ev.cells l) rfl (by rw [rows_length ev_six, HM.out]) (fun j u hu => ((Ext.refl w).alloc _).cell_some (HN.out j u hu)) ?_ (by have := HL.out; omega) ?_; exact rows_one l; intro A2 c2 w2 hO2 hK2; have HR := Lib.hid (And.intro hO2 hK2); clear hO2 hK2))
    go_ret
    have hO := HR.out.1
    simp only [Nat.zero_add, List.nil_append] at hO
    refine ⟨A2, c2, by simp, ?_, ((Ext.refl w).alloc _).keep HR.out.2 (fun i hi => by simp [Of, Value.ownBlock] at hi; omega)⟩
    exact own_zero hO
end Go.Proofs.YtnkebhlkhpgghaaGreatDoor
