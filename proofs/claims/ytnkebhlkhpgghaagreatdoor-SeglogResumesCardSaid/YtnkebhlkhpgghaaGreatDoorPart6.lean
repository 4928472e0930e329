/- Part of a proof: the walks of the functions, and their plain laws: Link2, Order, Log, Log2, Log3, Free, Log4, Log5, Log6, Eq. -/
import Derived.Test.YtnkebhlkhpgghaaGreatDoorPart5
import Derived.Great.Walk
import Derived.Laws.StructEq
import Derived.Stop.BytesEq
set_option linter.unusedVariables false
set_option linter.unusedSimpArgs false

/- chain.Link: the walk. -/
namespace Go.Proofs.YtnkebhlkhpgghaaGreatDoor
open Go Go.RowKit Go.Deep

def seqOf : List Ev → Int
  | [] => 0
  | x :: _ => x.seq
def zc34 : List Value := btCells 0 (.slice none 0 0) (List.replicate 32 0)
def bt0 : Array Value := zc34.toArray
theorem alloc_bt (W : World) : (Instr.alloc 83 true (.tuple #[])).run Tryz.prog W = .ok (.pointer (some ⟨W.heap.size, 0, none⟩)) (W.alloc (.cells bt0 83)) := by kernel_rfl
theorem zero_bt : (Tryz.prog.info? 83).bind (·.zero) = some (.agg bt0) := by kernel_rfl

/-- 'fill' by whole segments. -/
theorem foldl_seg : ∀ (vs : List Value) (off k : Nat) (cs : Array Value), off + k + vs.length ≤ cs.size → ((vs.zipIdx k).foldl (fun cs (x : Value × Nat) => cs.setIfInBounds (off + x.2) x.1) cs) = (cs.toList.take (off + k) ++ vs ++ cs.toList.drop (off + k + vs.length)).toArray
  | [], off, k, cs, _ => by simp
  | v :: vs, off, k, cs, h => by
    rw [List.zipIdx_cons, List.foldl_cons, foldl_seg vs off (k + 1) _ (by simp at h ⊢; omega)]
    simp only [List.length_cons] at h ⊢
    simp only [Array.toList_setIfInBounds]
    have hlt : off + k < cs.toList.length := by simp; omega
    have e : cs.toList.set (off + k) v = cs.toList.take (off + k) ++ v :: cs.toList.drop (off + k + 1) := by
      rw [List.set_eq_take_append_cons_drop, if_pos hlt]
    have hA : (cs.toList.take (off + k)).length = off + k := by simp; omega
    generalize cs.toList.take (off + k) = A at *
    have e1 : (A ++ v :: cs.toList.drop (off + k + 1)).take (off + (k + 1)) = A ++ [v] := by
      rw [List.take_append, List.take_of_length_le (by omega), show off + (k + 1) - A.length = 1 from by omega]; rfl
    have e2 : (A ++ v :: cs.toList.drop (off + k + 1)).drop (off + (k + 1) + vs.length) = cs.toList.drop (off + k + (vs.length + 1)) := by
      rw [List.drop_append, List.drop_of_length_le (by omega), show off + (k + 1) + vs.length - A.length = vs.length + 1 from by omega, List.nil_append, List.drop_succ_cons, List.drop_drop]
      congr 1
      omega
    rw [e, e1, e2]
    simp
theorem fill_seg {place : Nat → Option (Nat × Nat)} {cs : Array Value} {i off size : Nat} {v : Value} {rest : List (Nat × Value)} (hp : place i = some (off, size)) (hv : v.cells.size = size) (hs : off + size ≤ cs.size) :
    Instr.fill place cs ((i, v) :: rest) = Instr.fill place (cs.toList.take off ++ v.cells.toList ++ cs.toList.drop (off + size)).toArray rest := by
  have h1 : (v.cells.zipIdx.foldl (fun cs (x : Value × Nat) => cs.setIfInBounds (off + x.2) x.1) cs) = (cs.toList.take off ++ v.cells.toList ++ cs.toList.drop (off + size)).toArray := by
    rw [← Array.foldl_toList]
    have h2 := foldl_seg v.cells.toList off 0 cs (by simp; omega)
    simp only [Nat.add_zero, Array.length_toList, hv] at h2
    rw [← h2]
    congr 1
    simp
  simp only [Instr.fill, hp]
  rw [if_neg (by simp; omega)]
  rw [← h1]
theorem places_bt (w : World) : ∀ fields, Tryz.prog.underlying 83 = some (.struct fields) → (fields.mapM fun f => (do pure (f.offset, ← sizeOf f.type) : Sem (Nat × Nat))).run Tryz.prog w = .ok #[(0, 1), (1, 1), (2, 32)] w := by
  intro fields h
  rw [Tryz.underlying83] at h
  injection h with h
  injection h with h
  subst h
  kernel_rfl
theorem build_bt (p : Bytes) (w : World) (hp : p.length = 32) {A : Option Addr} {n c : Nat} : (Instr.build 83 #[(1, .slice A n c), (2, .agg (bcells p).toArray)]).run Tryz.prog w = .ok (.agg (btCells 0 (.slice A n c) p).toArray) w := by
  obtain ⟨fields, hu⟩ : ∃ fields, Tryz.prog.underlying 83 = some (.struct fields) := ⟨_, Tryz.underlying83⟩
  have hpl := places_bt w fields hu
  have hz : (zeroValue 83).run Tryz.prog w = .ok (.agg bt0) w := by kernel_rfl
  have hf : Instr.fill ((#[(0, 1), (1, 1), (2, 32)] : Array (Nat × Nat))[·]?) bt0 [(1, .slice A n c), (2, .agg (bcells p).toArray)] = some (btCells 0 (.slice A n c) p).toArray := by
    rw [fill_seg (off := 1) (size := 1) rfl rfl (by decide), fill_seg (off := 2) (size := 32) rfl (by simp [Value.cells, bcells, hp]) (by simp [bt0, zc34, btCells, bcells, Value.cells])]
    simp [Instr.fill, bt0, zc34, btCells, bcells, Value.cells, hp]
  unfold Instr.build
  simp only [Sem.run_bind, hz, Result.andThen_ok, run_underlying hu, hpl, Value.cells, hf, Sem.run_pure]

theorem bt_one (f : Int) (v : Value) (p : Bytes) (hv : v.oneCell' = true) : ∀ u ∈ btCells f v p, u.oneCell' = true := by
  intro u hu
  simp only [btCells, List.mem_cons] at hu
  rcases hu with rfl | rfl | hu
  · rfl
  · exact hv
  · exact bcells_one _ _ hu
/-- What the head of Link's region leaves. -/
def lkB (v : Value) (p : Bytes) (l : List Ev) (S : Nat) : Nat → Value → World → Prop
  | 0, u, _ => u = v
  | 1, u, w => ∃ A c, u = .slice A l.length c ∧ w.ownsRow 0 91 6 (.slice A l.length c) l.length (rows Ev.cells l)
  | 2, u, _ => u = .agg (bcells p).toArray
  | 3, u, w => ∃ A c, u = .agg (btCells 0 (.slice A l.length c) p).toArray ∧ w.ownsRow 0 91 6 (.slice A l.length c) l.length (rows Ev.cells l)
  | _, u, w => ∃ g, u = .pointer (some ⟨g, 0, none⟩) ∧ Blk w g 83 bt0 ∧ S ≤ g
theorem lkB_stab (v : Value) (p : Bytes) (l : List Ev) (S : Nat) (i : Nat) (u : Value) (w w' : World) (h : lkB v p l S i u w) (e : Ext w w') : lkB v p l S i u w' := by
  rcases i with _ | _ | _ | _ | i <;> simp only [lkB] at h ⊢
  · exact h
  · obtain ⟨A, c, h1, h2⟩ := h; exact ⟨A, c, h1, own_ext h2 e⟩
  · exact h
  · obtain ⟨A, c, h1, h2⟩ := h; exact ⟨A, c, h1, own_ext h2 e⟩
  · obtain ⟨g, h1, h2, h3⟩ := h; exact ⟨g, h1, h2.ext e, h3⟩

set_option maxRecDepth 8000 in
set_option maxHeartbeats 1600000 in
theorem link_any (p : Bytes) (v : Value) (l : List Ev) (w : World) (h : Rd w 6 Ev.cells v l) (hl : l.length ≤ 1000000) (hin : ∀ x ∈ l, x.In) (hp : p.length = 32) :
    Calls Tryz.prog 33 #[.agg (bcells p).toArray, v] w fun e w' => Ext w w' ∧ ((btIs (seqOf l) l = true ∧ ∃ A c, e = .returned (.tuple #[.agg (btCells (seqOf l) (.slice A l.length c) p).toArray, .string (bs (btText (seqOf l) l p)), .int .i64 0])) ∨
      (btIs (seqOf l) l = false ∧ e = .returned (.tuple #[.agg bt0, .string (bs []), .int .i64 1]))) := by
  have HR := Lib.hid h
  have HL := Lib.hid (And.intro hl hp)
  have HIN := Lib.hid hin
  have hid : (Tryz.prog.info? 40).map (·.size) = some (bcells p).length := by rw [bcells_length, hp]; kernel_rfl
  have HID := Lib.hid hid
  obtain ⟨w1, hw1⟩ : ∃ w1, w1 = (w.alloc (.cells (bcells p).toArray 40)).alloc (.cells bt0 83) := ⟨_, rfl⟩
  have HE1 := Lib.hid (show Ext w w1 from by rw [hw1]; exact ((Ext.refl w).alloc _).alloc _)
  have HP1 := Lib.hid (show Blk w1 w.heap.size 40 (bcells p).toArray from by rw [hw1]; exact (Blk.new _ _ _).alloc _)
  have HB1 := Lib.hid (show Blk w1 (w.heap.size + 1) 83 bt0 from by rw [hw1]; exact Blk.new' (by simp))
  have hal := fun W => alloc_bt W
  clear h hl hin hp hid
  go_enter Tryz.func33, Tryz.ntmps33
  go_wp2_with fail
  change Code.wp _ _ _ _ ((w.alloc (.cells (bcells p).toArray 40)).alloc (.cells bt0 83))
  rw [← hw1]
  clear hw1
  refine wp_region_tellT 5 (by kernel_rfl) (by kernel_rfl) (lkB v p l w1.heap.size) (lkB_stab v p l w1.heap.size) ?_ ?_
  · intro i o a w' hin hi hb he hd
    have hG := HP1.out.ext he
    have e1 : a.eval (.tmp 1) = v := hb.outer 1 (by kernel_rfl)
    have e2 : a.eval (.tmp 2) = .pointer (some ⟨w.heap.size, 0, none⟩) := hb.outer 2 (by kernel_rfl)
    rcases i with _ | _ | _ | _ | _ | i
    · simp only [List.getElem?_cons_zero, List.getElem?_cons_succ, Option.some.injEq] at hi
      subst hi
      refine tell_val _ w' ?_ (Ext.refl _) rfl
      have ec : ∀ v, a.eval (.const v) = v := fun _ => rfl
      generalize a.eval = ρ at *
      simp [go_sem, ec, e1]
    · simp only [List.getElem?_cons_zero, List.getElem?_cons_succ, Option.some.injEq] at hi
      subst hi
      have h10 : a.eval (.tmp 10) = _ := hd ⟨0, .data⟩ (by simp) rfl
      unfold Oper.wp
      have ef : ∀ f, a.eval (.func f) = .func (.func f) #[] #[] := fun _ => rfl
      rw [show (execOp a.eval { dst := some 11, op := .call { callee := .value (.func 63), args := #[.tmp 10], argTypes := #[47] }, type := 47, pos := "chain.go:13", after := #[{ on := 0, ground := .data }], guard := none }).run Tryz.prog w' = .ok (.enter 63 #[v]) w' from by
        generalize a.eval = ρ at *
        simp [go_sem, h10, ef]]
      refine (cloneEv_any v l w' (HR.out.ext (HE1.out.trans he)) HL.out.1).mono ?_
      rintro e w2 ⟨A, c, rfl, hR, hE⟩
      exact ⟨_, rfl, hE, A, c, rfl, hR⟩
    · simp only [List.getElem?_cons_zero, List.getElem?_cons_succ, Option.some.injEq] at hi
      subst hi
      refine tell_val (.agg (bcells p).toArray) w' ?_ (Ext.refl _) rfl
      simp only [execOp, Instr.loadAt, e2, Instr.sureAddr, Sem.run_bind, Sem.run_pure, Result.andThen_ok, run_loadVar_blk hG Tryz.underlying40 rfl HID.out]
    · simp only [List.getElem?_cons_zero, List.getElem?_cons_succ, Option.some.injEq] at hi
      subst hi
      obtain ⟨A11, c11, h11, b11⟩ := hd ⟨1, .data⟩ (by simp) rfl
      have h11 : a.eval (.tmp 11) = _ := h11
      have h12 : a.eval (.tmp 12) = _ := hd ⟨2, .data⟩ (by simp) rfl
      refine tell_val (.agg (btCells 0 (.slice A11 l.length c11) p).toArray) w' ?_ (Ext.refl _) ⟨A11, c11, rfl, b11⟩
      simp only [execOp, List.map_toArray, List.map_cons, List.map_nil, h11, h12, Sem.run_bind, build_bt _ _ HL.out.2, Result.andThen_ok, Sem.run_pure]
    · simp only [List.getElem?_cons_zero, List.getElem?_cons_succ, Option.some.injEq] at hi
      subst hi
      refine tell_val (.pointer (some ⟨w'.heap.size, 0, none⟩)) (w'.alloc (.cells bt0 83)) ?_ ((Ext.refl _).alloc _) ⟨_, rfl, Blk.new _ _ _, he.size⟩
      simp only [execOp, Sem.run_bind, alloc_bt, Result.andThen_ok, Sem.run_pure]
    · exact absurd hin (by simp)
  · intro a w2 hb hE2 hA
    obtain ⟨A, c, h13, hR13⟩ := hA 3 (by decide)
    obtain ⟨g, h7, hB7, hg7⟩ := hA 4 (by decide)
    have h13 : a.eval (.tmp 13) = .agg (btCells 0 (.slice A l.length c) p).toArray := h13
    have h7 : a.eval (.tmp 7) = .pointer (some ⟨g, 0, none⟩) := h7
    have h0 : a.eval (.tmp 0) = .agg (bcells p).toArray := hb.outer 0 (by kernel_rfl)
    have h1 : a.eval (.tmp 1) = v := hb.outer 1 (by kernel_rfl)
    have h4 : a.eval (.tmp 4) = .pointer (some ⟨w.heap.size + 1, 0, none⟩) := hb.outer 4 (by kernel_rfl)
    have h5 : a.eval (.tmp 5) = .string ByteArray.empty := hb.outer 5 (by kernel_rfl)
    have h6 : a.eval (.tmp 6) = .int .i64 0 := hb.outer 6 (by kernel_rfl)
    rw [act_lit (n := 33) hb.size, hb.defers]
    simp only [show List.range 33 = [0, 1, 2, 3, 4, 5, 6, 7, 8, 9, 10, 11, 12, 13, 14, 15, 16, 17, 18, 19, 20, 21, 22, 23, 24, 25, 26, 27, 28, 29, 30, 31, 32] from rfl, List.map_cons, List.map_nil, h0, h1, h4, h5, h6, h7, h13, List.drop_succ_cons, List.drop_zero]
    have HE2 := Lib.hid hE2
    have HR13 := Lib.hid hR13
    have HB7 := Lib.hid (And.intro hB7 hg7)
    clear hA h0 h1 h4 h5 h6 h7 h13 hb hR13 hB7 hg7
    generalize a.eval = ρ
    have hsz : (Tryz.prog.info? 83).map (·.size) = some 34 := by kernel_rfl
    have HSZ := Lib.hid hsz
    have HBL := Lib.hid (show ∀ f, (btCells f (.slice A l.length c) p).length = 34 from fun f => btCells_length _ _ HL.out.2)
    have HB0 := Lib.hid (show zc34.length = 34 from by decide)
    have HON := Lib.hid (bt_one 0 (.slice A l.length c) p rfl)
    clear hsz
    refine wpList_store_blk rfl 83 (.tmp 7) (.tmp 13) rfl g 83 zc34 (btCells 0 (.slice A l.length c) p) rfl rfl HB7.out.1 (by rw [HB0.out, HBL.out]) (by rw [HBL.out]; exact HSZ.out) HON.out ?_
    intro w3 hB3 hK3
    have HB3 := Lib.hid hB3
    have HE3 := Lib.hid (HE2.out.keep hK3 (fun i hi => by have h1 := HB7.out.2; have h2 : i = g := hi; omega))
    have HR3 := Lib.hid (HR.out.ext (HE1.out.trans HE3.out))
    have HB13 := Lib.hid (HB1.out.ext HE3.out)
    have hK3' := hK3
    clear hB3 hK3
    have HO3 := Lib.hid (own_keep HR13.out hK3' (fun b hb hh => own_other HR13.out HB7.out.1 (by decide) b hb hh))
    clear hK3'
    have HI0 : (Tryz.prog.info? 83).map (fun i => i.zero) = some (some (.agg bt0)) := by kernel_rfl
    have HB0' := Lib.hid HI0
    obtain ⟨A0, c0, rfl, _⟩ := HR.out
    clear HI0
    cases l with
    | nil =>
      have HPUT := Lib.hid (batchPut_any 0 (.slice A 0 c) p [] w3 (rd_of_own ev_six HO3.out rfl (by decide)) (by simp) (by simp) HL.out.2 (by decide) (by decide))
      rw [if_neg (show ¬ btIs 0 [] = true from by decide)] at HPUT
      go_wp2_with (first | (refine wpList_load_blk rfl 83 (.tmp 7) rfl g 83 (btCells 0 (.slice A 0 c) p) rfl HB3.out _ Tryz.underlying83 rfl (by rw [show (btCells 0 (.slice A 0 c) p).length = 34 from HBL.out _]; exact HSZ.out) ?_) | (go_at_call 64; refine HPUT.out.mono ?_; rintro e w4 ⟨rfl, hE4⟩; have HE4 := Lib.hid (HE3.out.trans hE4); have HB14 := Lib.hid (HB13.out.ext hE4); have HB34 := Lib.hid (HB3.out.ext hE4); clear hE4) | (have hg := HB14; refine Great.wpList_readTo rfl (some 29) rfl (.agg bt0) (by kernel_rfl) ?_; refine Great.wpList_readTo rfl (some 30) rfl (.int .i64 1) (by kernel_rfl) ?_; go_loud (refine wpList_store_blk rfl 83 (.tmp 4) (.tmp 29) rfl (w.heap.size + 1) 83 zc34 zc34 rfl rfl HB14.out rfl HSZ.out (by decide) ?_); intro w5 hB5 hK5; have HB5 := Lib.hid hB5; have HE5 := Lib.hid ((HE1.out.trans HE4.out).keep hK5 (fun i hi => by have h2 : i = w.heap.size + 1 := hi; omega)); clear hB5 hK5))
      exact bodyPost_ret (results_blk_tmp2 rfl _ (w.heap.size + 1) rfl HB5.out Tryz.underlying83 rfl HSZ.out) rfl ⟨HE5.out, .inr ⟨rfl, rfl⟩⟩
    | cons x l' =>
      have HS0 := Lib.hid (show 0 ≤ x.seq ∧ x.seq < 18446744073709551616 from (HIN.out x (by simp)).1)
      obtain ⟨A1, c1, hv1, _, _, hA1⟩ := HR3.out
      have hv2 := hv1
      simp only [Value.slice.injEq] at hv2
      obtain ⟨e1, _, e2⟩ := hv2
      subst e1 e2
      obtain ⟨b, off, rfl, hbs, hcell⟩ := hA1 (by simp)
      have cx : w3.cell? ⟨b, off, none⟩ = some (.int .u64 x.seq) := by have := hcell 0 x rfl 0 _ rfl; simpa using this
      clear hcell hA1 hv1
      have HRD := Lib.hid (rd_of_own ev_six HO3.out rfl (by decide))
      have HLE := Lib.hid HL.out.1
      have hgw : g < w3.heap.size := World.block_lt_of_cell? w3 ⟨g, 0, none⟩ (HB3.out.cell 0)
      have cb0 : w3.cell? ⟨g, 0, none⟩ = some (.int .u64 0) := HB3.out.cell 0
      have cf0 : w3.frozen? ⟨g, 0, none⟩ = false := HB3.out.frozen 0
      have HSQ := Lib.hid (show seqOf (x :: l') = x.seq from rfl)
      have hbp := batchPut_any x.seq (.slice A (x :: l').length c) p (x :: l')
      have HBP := Lib.hid hbp
      clear hbp
      generalize x.seq = q at *
      have HHH := Lib.hid hgw
      simp only [List.length_cons] at *
      generalize hk : l'.length = k at *
      have HKL := Lib.hid (show k + 1 = (x :: l').length from by rw [List.length_cons, hk])
      clear hk
      obtain ⟨wq, hwq⟩ : ∃ wq, wq = w3.setCell ⟨g, 0, none⟩ (.int .u64 q) := ⟨_, rfl⟩
      have HBQ := Lib.hid (show Blk wq g 83 (btCells q (.slice A (k + 1) c) p).toArray from by rw [hwq]; exact HB3.out.set 0 _)
      have hKQ : Keep (One g) w3 wq := by rw [hwq]; exact (Keep.refl (One g) w3).setIn (g := g) (show One g g from rfl) 0 _
      have HB15 := Lib.hid (show Blk wq (w.heap.size + 1) 83 bt0 from by rw [hwq]; exact HB13.out.far (by have := HB7.out.2; have := HB1.out.lt; show w.heap.size + 1 ≠ g; omega) _)
      have HEQ := Lib.hid (HE3.out.keep hKQ (fun i hi => by have h1 := HB7.out.2; have h2 : i = g := hi; omega))
      have HPUT := Lib.hid (HBP.out wq (rd_of_own ev_six (own_keep HO3.out hKQ (fun b hb hh => own_other HO3.out HB3.out (by decide) b hb hh)) HKL.out (by decide)) HLE.out HIN.out HL.out.2 HS0.out.1 HS0.out.2)
      clear hKQ
      have hd : decide ((0 : Int) < (k : Int) + 1) = true := decide_eq_true (by omega)
      rcases hbi : btIs q (x :: l') with _ | _
      · rw [if_neg (by rw [hbi]; decide)] at HPUT
        have HBI := Lib.hid hbi
        clear hbi
        go_wp2_with (first | (have hs := HPUT; rw [← hwq]; clear hwq) | (refine wpList_load_blk rfl 83 (.tmp 7) rfl g 83 (btCells q (.slice A (k + 1) c) p) rfl HBQ.out _ Tryz.underlying83 rfl (by rw [show (btCells q (.slice A (k + 1) c) p).length = 34 from HBL.out _]; exact HSZ.out) ?_) | (go_at_call 64; refine HPUT.out.mono ?_; rintro e w4 ⟨rfl, hE4⟩; have HE4 := Lib.hid (HEQ.out.trans hE4); have HB14 := Lib.hid (HB15.out.ext hE4); have HB34 := Lib.hid (HBQ.out.ext hE4); clear hE4) | (have hg := HB14; refine Great.wpList_readTo rfl (some 29) rfl (.agg bt0) (by kernel_rfl) ?_; refine Great.wpList_readTo rfl (some 30) rfl (.int .i64 1) (by kernel_rfl) ?_; go_loud (refine wpList_store_blk rfl 83 (.tmp 4) (.tmp 29) rfl (w.heap.size + 1) 83 zc34 zc34 rfl rfl HB14.out rfl HSZ.out (by decide) ?_); intro w5 hB5 hK5; have HB5 := Lib.hid hB5; have HE5 := Lib.hid ((HE1.out.trans HE4.out).keep hK5 (fun i hi => by have h2 : i = w.heap.size + 1 := hi; omega)); clear hB5 hK5))
        exact bodyPost_ret (results_blk_tmp2 rfl _ (w.heap.size + 1) rfl HB5.out Tryz.underlying83 rfl HSZ.out) rfl ⟨HE5.out, .inr ⟨by rw [HSQ.out]; exact HBI.out, rfl⟩⟩
      · rw [if_pos hbi] at HPUT
        have HBI := Lib.hid hbi
        clear hbi
        go_wp2_with (first | (have hs := HPUT; rw [← hwq]; clear hwq) | (have hg := HB14; refine wpList_load_blk rfl 83 (.tmp 7) rfl g 83 (btCells q (.slice A (k + 1) c) p) rfl HB34.out _ Tryz.underlying83 rfl (by rw [show (btCells q (.slice A (k + 1) c) p).length = 34 from HBL.out _]; exact HSZ.out) ?_; refine Great.wpList_readTo rfl (some 32) rfl (.string (bs (btText q (x :: l') p))) rfl ?_; go_loud (refine wpList_store_blk rfl 83 (.tmp 4) (.tmp 31) rfl (w.heap.size + 1) 83 zc34 (btCells q (.slice A (k + 1) c) p) rfl rfl HB14.out (HBL.out _).symm (by rw [show (btCells q (.slice A (k + 1) c) p).length = 34 from HBL.out _]; exact HSZ.out) (bt_one q (.slice A (k + 1) c) p rfl) ?_); intro w5 hB5 hK5; have HB5 := Lib.hid hB5; have HE5 := Lib.hid ((HE1.out.trans HE4.out).keep hK5 (fun i hi => by have h2 : i = w.heap.size + 1 := hi; omega)); clear hB5 hK5) | (refine wpList_load_blk rfl 83 (.tmp 7) rfl g 83 (btCells q (.slice A (k + 1) c) p) rfl HBQ.out _ Tryz.underlying83 rfl (by rw [show (btCells q (.slice A (k + 1) c) p).length = 34 from HBL.out _]; exact HSZ.out) ?_) | (go_at_call 64; refine HPUT.out.mono ?_; rintro e w4 ⟨rfl, hE4⟩; have HE4 := Lib.hid (HEQ.out.trans hE4); have HB14 := Lib.hid (HB15.out.ext hE4); have HB34 := Lib.hid (HBQ.out.ext hE4); clear hE4))
        exact bodyPost_ret (results_blk_tmp2 rfl _ (w.heap.size + 1) rfl HB5.out Tryz.underlying83 rfl (by rw [show (btCells q (.slice A (k + 1) c) p).length = 34 from HBL.out _]; exact HSZ.out)) rfl ⟨HE5.out, .inl ⟨by rw [HSQ.out]; exact HBI.out, A, c, by rw [HSQ.out, ← HKL.out]; rfl⟩⟩
end Go.Proofs.YtnkebhlkhpgghaaGreatDoor
/- seglog.inOrder: the walk, over any steps that all go well. -/
namespace Go.Proofs.YtnkebhlkhpgghaaGreatDoor
open Go Go.RowKit Go.Deep Go.Sort

/-- A function value. -/
structure Clo where
  f : FuncId
  bound : Array Value
  free : Array Value
def Clo.v (c : Clo) : Value := .func (.func c.f) c.bound c.free

set_option maxRecDepth 8000 in
set_option maxHeartbeats 800000 in
theorem inOrder_any (b off cap : Nat) (cs : List Clo) (I : Nat → World → Prop) (w : World) (hcell : ∀ i w, I i w → ∀ j c, cs[j]? = some c → w.cell? ⟨b, off + j, none⟩ = some c.v)
    (hstep : ∀ i w c, I i w → cs[i]? = some c → Calls Tryz.prog c.f (c.bound ++ c.free) w fun e w' => e = .returned (.int .i64 0) ∧ I (i + 1) w')
    (hen : ∀ (i : Nat) (c : Clo) (w : World), cs[i]? = some c → (callFunc c.f (c.bound ++ c.free)).run Tryz.prog w = .ok (.enter c.f (c.bound ++ c.free)) w) (h0 : I 0 w) (hn : cs.length ≤ 1000) (hc : cs.length ≤ cap) (hc2 : cap ≤ 140737488355328) :
    Calls Tryz.prog 21 #[.slice (some ⟨b, off, none⟩) cs.length cap] w fun e w' => e = .returned (.int .i64 0) ∧ I cs.length w' := by
  have HC := Lib.hid hcell
  have HS := Lib.hid hstep
  have H0 := Lib.hid h0
  have HN := Lib.hid (And.intro hn (And.intro hc hc2))
  have HEN := Lib.hid hen
  clear hcell hstep hen h0 hn hc hc2
  generalize hm : cs.length = m at *
  have HM := Lib.hid hm
  clear hm
  go_enter Tryz.func21, Tryz.ntmps21
  go_wp2_with fail
  obtain ⟨w0, rfl⟩ : ∃ w0 : World, w0 = w := ⟨_, rfl⟩
  go_loopw [8] (fun t wr => ∃ i : Nat, t = .int .i64 i ∧ i ≤ m ∧ I i wr) (fun t _ => m - (intOf t).toNat)
  case atStart => exact ⟨0, rfl, Nat.zero_le _, H0.out⟩
  case round =>
    obtain ⟨i, rfl, hi, hI⟩ := hrel
    by_cases hlt : i < m
    · obtain ⟨c, hci⟩ : ∃ c, cs[i]? = some c := ⟨cs[i]'(by rw [HM.out]; exact hlt), List.getElem?_eq_getElem _⟩
      have hcv := HC.out i wr hI i c hci
      have hd : decide ((i : Int) < m) = true := decide_eq_true (by omega)
      have hST := Lib.hid (HS.out i wr c hI hci)
      have HCI := Lib.hid hci
      have hcf := HEN.out i c wr hci
      have h1 := HN.out.1
      have h2 : IntKind.i64.wrap ((i : Int) + 1) = ((i + 1 : Nat) : Int) := by rw [show (i : Int) + 1 = ((i + 1 : Nat) : Int) from by omega]; exact IntWalk.i64_in _ (by omega)
      clear hci hI
      obtain ⟨f, bd, fr⟩ := c
      simp only [Clo.v] at *
      go_wp2_with (refine hST.out.mono ?_; rintro e w2 ⟨rfl, hI2⟩; have HI2 := Lib.hid hI2; clear hI2)
      go_roundw
      case rel => exact ⟨i + 1, rfl, hlt, HI2.out⟩
      case measure => simp [intOf]; omega
    · obtain rfl : i = m := by omega
      go_wp2_with fail
      go_ret
      exact ⟨rfl, hI⟩
end Go.Proofs.YtnkebhlkhpgghaaGreatDoor
/- A log in memory. -/
namespace Go.Proofs.YtnkebhlkhpgghaaGreatDoor
open Go Go.RowKit Go.Deep Go.Sort

structure Lg where
  k : Dk
  per : Nat
  segs : Nat
  x : Sp
  heads : List Hd
  stop : Nat
  sum : Bytes
  next : Int
structure Lg.Ok (m : Lg) : Prop where
  s1 : 2 ≤ m.segs
  s2 : m.segs ≤ 64
  p1 : 1 ≤ m.per
  fit : 2 + m.per * m.segs ≤ m.k.many
  sz : 256 ≤ m.k.size
  cap : m.per * m.k.size ≤ 90000
  x : m.x.In
  hds : ∀ h ∈ m.heads, h.In
  h1 : 1 ≤ m.heads.length
  h2 : m.heads.length ≤ 64
  sum : m.sum.length = 32
  n0 : 0 ≤ m.next
  n1 : m.next < 18446744073709551616
  e1 : 64 ≤ m.stop
  e2 : m.stop ≤ m.per * m.k.size
  pn : m.k.pend.length ≤ 90000
def lgA (d : Nat) (m : Lg) : List Value := [.pointer (some ⟨d, 0, none⟩), .int .i64 m.per, .int .i64 m.segs]
def lgE (m : Lg) : List Value := [.int .u64 m.next, .bool false]
def lgCells (d : Nat) (v : Value) (m : Lg) : List Value := lgA d m ++ m.x.cells ++ ([v, .int .i64 m.stop] ++ (bcells m.sum ++ lgE m))

structure LogB (F : Nat → Prop) (w : World) (g d : Nat) (m : Lg) (hb ho hc : Nat) : Prop where
  ok : m.Ok
  blk : Blk w g 77 (lgCells d (.slice (some ⟨hb, ho, none⟩) m.heads.length hc) m).toArray
  disk : Disk F w d m.k
  hd : ∀ (i : Nat) (x : Hd), m.heads[i]? = some x → ∀ (j : Nat) (u : Value), x.cells[j]? = some u → w.cell? ⟨hb, ho + i * 34 + j, none⟩ = some u
  hc1 : m.heads.length ≤ hc
  hc2 : hc ≤ 9223372036854775807
  fg : ¬ F g
  fh : ¬ F hb
  gh : hb ≠ g
def Log (F : Nat → Prop) (w : World) (g d : Nat) (m : Lg) : Prop := ∃ hb ho hc, LogB F w g d m hb ho hc
def Fg (F : Nat → Prop) (g : Nat) : Nat → Prop := fun i => F i ∨ i = g
def DidL (F : Nat → Prop) (w : World) (g d : Nat) (v : Value) (m : Lg) : Ending → World → Prop := fun e w' => e = .returned v ∧ ∃ F', Log F' w' g d m ∧ Moves (Fg F g) w (Fg F' g) w'
section
variable {F F' S : Nat → Prop} {w w' : World} {g d : Nat} {m : Lg} {hb ho hc : Nat}
theorem LogB.lt (h : LogB F w g d m hb ho hc) : hb < w.heap.size := by
  obtain ⟨x, hx⟩ : ∃ x, m.heads[0]? = some x := ⟨_, List.getElem?_eq_getElem (by have := h.ok.h1; omega)⟩
  exact World.block_lt_of_cell? w ⟨hb, ho + 0 * 34 + 0, none⟩ (h.hd 0 x hx 0 _ rfl)
theorem cell_of_keep (k : Keep S w w') {a : Addr} {u : Value} (hs : ¬ S a.block) (h : w.cell? a = some u) : w'.cell? a = some u := by
  have hl : a.block < w.heap.size := World.block_lt_of_cell? w a h
  rw [← h]
  simp only [World.cell?, k.block _ hl hs]
theorem LogB.ext (h : LogB F w g d m hb ho hc) (e : Ext w w') : LogB F w' g d m hb ho hc :=
  ⟨h.ok, h.blk.ext e, h.disk.ext e, fun i x hi j u hu => e.cell_some (h.hd i x hi j u hu), h.hc1, h.hc2, h.fg, h.fh, h.gh⟩
theorem LogB.keep (h : LogB F w g d m hb ho hc) (e : Keep S w w') (hs : ∀ i, F i → ¬ S i) (hg : ¬ S g) (hh : ¬ S hb) : LogB F w' g d m hb ho hc :=
  ⟨h.ok, h.blk.keep e hg, h.disk.keep e hs, fun i x hi j u hu => cell_of_keep e hh (h.hd i x hi j u hu), h.hc1, h.hc2, h.fg, h.fh, h.gh⟩
theorem Log.ext (h : Log F w g d m) (e : Ext w w') : Log F w' g d m := by obtain ⟨hb, ho, hc, h⟩ := h; exact ⟨hb, ho, hc, h.ext e⟩
theorem Log.ok (h : Log F w g d m) : m.Ok := by obtain ⟨hb, ho, hc, h⟩ := h; exact h.ok
/-- The disk has turned. -/
theorem LogB.dsk {k' : Dk} (h : LogB F w g d m hb ho hc) (hD : Disk F' w' d k') (hM : Moves F w F' w') (ho' : Lg.Ok { m with k := k' }) : LogB F' w' g d { m with k := k' } hb ho hc :=
  ⟨ho', h.blk.keep hM.1 h.fg, hD, fun i x hi j u hu => cell_of_keep hM.1 h.fh (h.hd i x hi j u hu), h.hc1, h.hc2, hM.not h.fg h.blk.lt, hM.not h.fh h.lt, h.gh⟩
theorem Moves.fg {w w' : World} (h : Moves F w F' w') (g : Nat) : Moves (Fg F g) w (Fg F' g) w' :=
  ⟨h.1.mono (fun i _ hi => .inl hi), fun i hi => hi.elim (fun h' => (h.2 i h').elim (fun h => .inl (.inl h)) .inr) (fun h' => .inl (.inr h'))⟩
theorem fg_keep (h : Keep (One g) w w') : Moves (Fg F g) w (Fg F g) w' := ⟨h.mono (fun i _ hi => .inr hi), fun i hi => .inl hi⟩
/-- The log's own block has turned. -/
theorem LogB.var {m' : Lg} (h : LogB F w g d m hb ho hc) (e : Keep (One g) w w') (hB : Blk w' g 77 (lgCells d (.slice (some ⟨hb, ho, none⟩) m.heads.length hc) m').toArray) (hh : m'.heads = m.heads) (hk : m'.k = m.k) (ok : m'.Ok) : LogB F w' g d m' hb ho hc :=
  ⟨ok, by rw [hh]; exact hB, by rw [hk]; exact h.disk.keep e (fun i hi hh => h.fg (by cases hh; exact hi)), fun i x hi j u hu => cell_of_keep e (fun hh => h.gh hh) (h.hd i x (by rw [← hh]; exact hi) j u hu), by rw [hh]; exact h.hc1, h.hc2, h.fg, h.fh, h.gh⟩
theorem lgCells_length {v : Value} (h : m.Ok) : (lgCells d v m).length = 109 := by simp [lgCells, lgA, lgE, Sp.cells_length h.x, bcells, h.sum]
theorem LogB.c0 (h : LogB F w g d m hb ho hc) : w.cell? ⟨g, 0, none⟩ = some (.pointer (some ⟨d, 0, none⟩)) := by rw [h.blk.cell]; simp [lgCells, lgA]
theorem LogB.c1 (h : LogB F w g d m hb ho hc) : w.cell? ⟨g, 1, none⟩ = some (.int .i64 m.per) := by rw [h.blk.cell]; simp [lgCells, lgA]
theorem LogB.c2 (h : LogB F w g d m hb ho hc) : w.cell? ⟨g, 2, none⟩ = some (.int .i64 m.segs) := by rw [h.blk.cell]; simp [lgCells, lgA]
theorem lg_at (hx : m.x.cells.length = 70) (v : Value) (i : Nat) : (lgCells d v m)[73 + i]? = ([v, .int .i64 m.stop] ++ (bcells m.sum ++ lgE m))[i]? := by
  unfold lgCells
  rw [List.getElem?_append_right (by simp [lgA, hx])]
  simp [lgA, hx]
theorem LogB.c73 (h : LogB F w g d m hb ho hc) : w.cell? ⟨g, 73, none⟩ = some (.slice (some ⟨hb, ho, none⟩) m.heads.length hc) := by
  rw [h.blk.cell, List.getElem?_toArray, show 73 = 73 + 0 from rfl, lg_at (Sp.cells_length h.ok.x)]; rfl
theorem LogB.c74 (h : LogB F w g d m hb ho hc) : w.cell? ⟨g, 74, none⟩ = some (.int .i64 m.stop) := by
  rw [h.blk.cell, List.getElem?_toArray, show 74 = 73 + 1 from rfl, lg_at (Sp.cells_length h.ok.x)]; rfl
theorem LogB.c107 (h : LogB F w g d m hb ho hc) : w.cell? ⟨g, 107, none⟩ = some (.int .u64 m.next) := by
  rw [h.blk.cell, List.getElem?_toArray, show 107 = 73 + 34 from rfl, lg_at (Sp.cells_length h.ok.x)]; simp [bcells, h.ok.sum, lgE]
theorem LogB.c108 (h : LogB F w g d m hb ho hc) : w.cell? ⟨g, 108, none⟩ = some (.bool false) := by
  rw [h.blk.cell, List.getElem?_toArray, show 108 = 73 + 35 from rfl, lg_at (Sp.cells_length h.ok.x)]; simp [bcells, h.ok.sum, lgE]
theorem LogB.one (h : LogB F w g d m hb ho hc) : ∀ u ∈ lgCells d (.slice (some ⟨hb, ho, none⟩) m.heads.length hc) m, u.oneCell' = true := by
  intro u hu
  simp only [lgCells, lgA, lgE, List.mem_append, List.mem_cons, List.mem_nil_iff, or_false] at hu
  rcases hu with ((rfl | rfl | rfl) | hu) | (rfl | rfl) | hu | rfl | rfl
  all_goals first | rfl | exact Sp.cells_one _ u hu | exact bcells_one _ u hu
end

/-! ### Small walks -/
theorem shut_any {F : Nat → Prop} {g d : Nat} {m : Lg} (w : World) (h : Log F w g d m) : Calls Tryz.prog 32 #[.pointer (some ⟨g, 0, none⟩)] w (Ret (.int .i64 0) w) := by
  obtain ⟨hb, ho, hc, h⟩ := h
  have c := h.c108
  clear h
  go_enter Tryz.func32, Tryz.ntmps32
  go_wp2_with fail
  go_ret
  exact ⟨rfl, Ext.refl _⟩
theorem shutNil_any (w : World) : Calls Tryz.prog 32 #[.pointer none] w (Ret (.int .i64 5) w) := by
  go_enter Tryz.func32, Tryz.ntmps32
  go_wp2_with fail
  go_ret
  exact ⟨rfl, Ext.refl _⟩
theorem told_any (g : Nat) (w : World) : Calls Tryz.prog 37 #[.pointer (some ⟨g, 0, none⟩), .int .i64 0] w (Ret (.int .i64 0) w) := by
  go_enter Tryz.func37, Tryz.ntmps37
  go_wp2_with fail
  go_ret
  exact ⟨rfl, Ext.refl _⟩
theorem logNext_any {F : Nat → Prop} {g d : Nat} {m : Lg} (w : World) (h : Log F w g d m) : Calls Tryz.prog 9 #[.pointer (some ⟨g, 0, none⟩)] w (Ret (.int .u64 m.next) w) := by
  obtain ⟨hb, ho, hc, h⟩ := h
  have c := h.c107
  clear h
  go_enter Tryz.func9, Tryz.ntmps9
  go_wp2_with fail
  go_ret
  exact ⟨rfl, Ext.refl _⟩
theorem logDown_any {F : Nat → Prop} {g d : Nat} {m : Lg} (w : World) (h : Log F w g d m) : Calls Tryz.prog 31 #[.pointer (some ⟨g, 0, none⟩)] w (Ret (.bool false) w) := by
  obtain ⟨hb, ho, hc, h⟩ := h
  have c := h.c108
  clear h
  go_enter Tryz.func31, Tryz.ntmps31
  go_wp2_with fail
  go_ret
  exact ⟨rfl, Ext.refl _⟩
theorem logBytes_any {F : Nat → Prop} {g d : Nat} {m : Lg} (w : World) (h : Log F w g d m) : Calls Tryz.prog 34 #[.pointer (some ⟨g, 0, none⟩)] w (Ret (.int .i64 ((m.per * m.k.size : Nat) : Int)) w) := by
  obtain ⟨hb, ho, hc, h⟩ := h
  have c0 := h.c0
  have HS := Lib.hid (fun w' (e : Ext w w') => (h.ext e).c1)
  have HZ := Lib.hid (size_any w h.disk)
  have hc := h.ok.cap
  have hw : IntKind.i64.wrap ((m.per : Int) * m.k.size) = ((m.per * m.k.size : Nat) : Int) := by rw [← Int.natCast_mul]; exact IntWalk.i64_in _ (by omega)
  clear h hc
  generalize m.per * m.k.size = q at *
  go_enter Tryz.func34, Tryz.ntmps34
  go_wp2_with (go_at_call 44; refine HZ.out.mono ?_; rintro e w1 ⟨rfl, hE1⟩; have c1 := HS.out _ hE1; have HE1 := Lib.hid hE1; clear hE1)
  go_ret
  exact ⟨rfl, HE1.out⟩
end Go.Proofs.YtnkebhlkhpgghaaGreatDoor
/- seglog: shaped, Place, id, Super: the walks. -/
namespace Go.Proofs.YtnkebhlkhpgghaaGreatDoor
open Go Go.RowKit Go.Deep Go.Sort

def shOk (per segs : Int) : Bool := decide (2 ≤ segs) && decide (segs ≤ 64) && decide (1 ≤ per) && decide (per ≤ 4096)
set_option maxRecDepth 8000 in
theorem shaped_any (per segs : Int) (w : World) : Calls Tryz.prog 51 #[.agg #[.int .i64 per, .int .i64 segs]] w (Ret (.bool (shOk per segs)) w) := by
  have hs : shOk per segs = (decide (2 ≤ segs) && decide (segs ≤ 64) && decide (1 ≤ per) && decide (per ≤ 4096)) := rfl
  rw [hs]
  clear hs
  by_cases h1 : 2 ≤ segs
  · have d1 : decide (2 ≤ segs) = true := decide_eq_true h1
    by_cases h2 : segs ≤ 64
    · have d2 : decide (segs ≤ 64) = true := decide_eq_true h2
      by_cases h3 : 1 ≤ per
      · have d3 : decide (1 ≤ per) = true := decide_eq_true h3
        rcases h4 : decide (per ≤ 4096) with _ | _
        all_goals (
          rw [d1, d2, d3]
          clear h1 h2 h3
          go_enter Tryz.func51, Tryz.ntmps51
          go_wp2_with fail
          go_ret
          exact ⟨rfl, (Ext.refl w).alloc _⟩)
      · have d3 : decide (1 ≤ per) = false := decide_eq_false h3
        rw [d1, d2, d3]
        clear h1 h2 h3
        go_enter Tryz.func51, Tryz.ntmps51
        go_wp2_with fail
        go_ret
        exact ⟨rfl, (Ext.refl w).alloc _⟩
    · have d2 : decide (segs ≤ 64) = false := decide_eq_false h2
      rw [d1, d2]
      clear h1 h2
      go_enter Tryz.func51, Tryz.ntmps51
      go_wp2_with fail
      go_ret
      exact ⟨rfl, (Ext.refl w).alloc _⟩
  · have d1 : decide (2 ≤ segs) = false := decide_eq_false h1
    rw [d1]
    clear h1
    go_enter Tryz.func51, Tryz.ntmps51
    go_wp2_with fail
    go_ret
    exact ⟨rfl, (Ext.refl w).alloc _⟩
def placeOf (per segs : Nat) (id : Int) : Nat := 2 + per * (id.toNat % segs)
set_option maxRecDepth 8000 in
set_option maxHeartbeats 800000 in
theorem place_any (per segs : Nat) (id : Int) (w : World) (s1 : 2 ≤ segs) (s2 : segs ≤ 64) (p1 : 1 ≤ per) (p2 : per ≤ 4096) (i0 : 0 ≤ id) (i1 : id < 18446744073709551616) :
    Calls Tryz.prog 29 #[.agg #[.int .i64 per, .int .i64 segs], .int .u64 id] w (Ret (.int .i64 (placeOf per segs id : Nat)) w) := by
  have hsh : shOk per segs = true := by simp [shOk]; omega
  have HS := Lib.hid (fun w' => shaped_any per segs w')
  rw [hsh] at HS
  obtain ⟨n, rfl⟩ : ∃ n : Nat, id = n := ⟨id.toNat, by omega⟩
  have hr : (n : Int).tmod segs = ((n % segs : Nat) : Int) := by rw [Int.tmod_eq_emod_of_nonneg (by omega), ← Int.natCast_emod]
  have hrs : n % segs < segs := Nat.mod_lt n (by omega)
  have hp : placeOf per segs n = 2 + per * (n % segs) := rfl
  rw [hp]
  generalize n % segs = r at *
  have hm : per * r ≤ 4096 * 64 := Nat.mul_le_mul p2 (by omega)
  have hw1 : IntKind.i64.wrap ((per : Int) * r) = ((per * r : Nat) : Int) := by rw [← Int.natCast_mul]; exact IntWalk.i64_in _ (by omega)
  have hw2 : IntKind.u64.wrap (segs : Int) = segs := IntWalk.u64_in _ (by omega)
  have hw3 : IntKind.i64.wrap (r : Int) = r := IntWalk.i64_in _ (by omega)
  generalize per * r = q at *
  have hz : ¬ (segs : Int) = 0 := by omega
  have hz1 : ¬ segs = 0 := by omega
  have b1 : (q : Int) ≤ 262144 := by omega
  have b2 : (0 : Int) ≤ q := by omega
  have HI : (Tryz.prog.info? 23).map (·.size) = some 2 := by kernel_rfl
  have HHI := Lib.hid HI
  clear hsh hp hm HI s1 s2 p1 p2 i0 i1 hrs
  obtain ⟨w1, hw⟩ : ∃ w1, w1 = w.alloc (.cells #[.int .i64 per, .int .i64 segs] 23) := ⟨_, rfl⟩
  have HB := Lib.hid (show Blk w1 w.heap.size 23 #[.int .i64 per, .int .i64 segs] from by rw [hw]; exact Blk.new _ _ _)
  have HE := Lib.hid (show Ext w w1 from by rw [hw]; exact (Ext.refl w).alloc _)
  go_enter Tryz.func29, Tryz.ntmps29
  go_wp2_with (first | (have hs := HHI; rw [← hw]; clear hw) | (refine wpList_load_blk rfl 23 (.tmp 2) rfl w.heap.size 23 [.int .i64 per, .int .i64 segs] rfl HB.out _ Tryz.underlying23 rfl HHI.out ?_) | (go_at_call 51; refine (HS.out _).mono ?_; rintro e w2 ⟨rfl, hE⟩; have HE2 := Lib.hid (HE.out.trans hE); have HB2 := Lib.hid (HB.out.ext hE); clear hE))
  have c0 : w2.cell? ⟨w.heap.size, 0, none⟩ = some (.int .i64 per) := HB2.out.cell 0
  have c1 : w2.cell? ⟨w.heap.size, 1, none⟩ = some (.int .i64 segs) := HB2.out.cell 1
  go_quiet (fail)
  go_wp2_with fail
  go_ret
  exact ⟨rfl, HE2.out.drewN _⟩
def lastId (l : List Hd) : Int := (l.getLast?.map Hd.id).getD 0
set_option maxRecDepth 8000 in
set_option maxHeartbeats 800000 in
theorem logId_any {F : Nat → Prop} {g d : Nat} {m : Lg} (w : World) (h : Log F w g d m) : Calls Tryz.prog 67 #[.pointer (some ⟨g, 0, none⟩)] w (Ret (.int .u64 (lastId m.heads)) w) := by
  obtain ⟨hb, ho, hc, h⟩ := h
  have c := h.c73
  have h1 := h.ok.h1
  have h2 := h.ok.h2
  have h3 := h.hc1
  have h4 := h.hc2
  have hl : m.heads[m.heads.length - 1]? = m.heads.getLast? := by rw [List.getLast?_eq_getElem?]
  obtain ⟨y, hy⟩ : ∃ y, m.heads[m.heads.length - 1]? = some y := ⟨_, List.getElem?_eq_getElem (by omega)⟩
  have hid : lastId m.heads = y.id := by unfold lastId; rw [← hl, hy]; rfl
  have cy := h.hd _ y hy 0 _ rfl
  rw [hid]
  clear h hl hy hid
  generalize y.id = q at *
  obtain ⟨n, hn⟩ : ∃ n, m.heads.length = n + 1 := ⟨m.heads.length - 1, by omega⟩
  rw [hn] at c cy h2 h3
  have e1 : n + 1 - 1 = n := by omega
  rw [e1, Nat.add_zero] at cy
  clear hn h1 e1
  have e2 : ho + n * 34 = ho + 34 * n := by omega
  have b0 : ¬ ((n : Int) + 1 = 0) := by omega
  clear e2
  go_enter Tryz.func67, Tryz.ntmps67
  go_wp2_with fail
  go_quiet (fail)
  go_wp2_with fail
  go_ret
  exact ⟨rfl, (Ext.refl w).drewN _⟩
end Go.Proofs.YtnkebhlkhpgghaaGreatDoor
/- seglog: Super, begin, lay, write: the walks. -/
namespace Go.Proofs.YtnkebhlkhpgghaaGreatDoor
open Go Go.RowKit Go.Deep Go.Sort

def zs70 : List Value := [.int .u64 0, .int .u64 0, .int .u64 0] ++ List.replicate 32 (.int .u8 0) ++ ([.int .u64 0, .int .u64 0, .int .u64 0] ++ List.replicate 32 (.int .u8 0))
theorem zc_sp : Tryz.zeroCells42 = zs70.toArray := by kernel_rfl
theorem sp_info : (Tryz.prog.info? 42).map (·.size) = some 70 := by kernel_rfl
theorem sp_infoOf {x : Sp} (h : x.In) : (Tryz.prog.info? 42).map (·.size) = some x.cells.length := by rw [Sp.cells_length h]; exact sp_info
set_option maxRecDepth 8000 in
set_option maxHeartbeats 800000 in
theorem logSuper_any {F : Nat → Prop} {g d : Nat} {m : Lg} (w : World) (h : Log F w g d m) : Calls Tryz.prog 10 #[.pointer (some ⟨g, 0, none⟩)] w (Ret (.agg m.x.cells.toArray) w) := by
  obtain ⟨hb, ho, hc, h⟩ := h
  have HX := Lib.hid (sp_infoOf h.ok.x)
  have HL := Lib.hid (Sp.cells_length h.ok.x)
  have HB := Lib.hid h.blk
  clear h
  obtain ⟨w1, hw⟩ : ∃ w1, w1 = w.alloc (.cells Tryz.zeroCells42 42) := ⟨_, rfl⟩
  have HE := Lib.hid (show Ext w w1 from by rw [hw]; exact (Ext.refl w).alloc _)
  have HZ := Lib.hid (show Blk w1 w.heap.size 42 zs70.toArray from by rw [hw, ← zc_sp]; exact Blk.new _ _ _)
  go_enter Tryz.func10, Tryz.ntmps10
  go_wp2_with (first | (have hs := HZ; rw [← hw]; clear hw) | (have hg := HZ; go_loud (refine wpList_load_part rfl 42 (.tmp 8) rfl g 77 (lgA d m) m.x.cells ([.slice (some ⟨hb, ho, none⟩) m.heads.length hc, .int .i64 m.stop] ++ (bcells m.sum ++ lgE m)) rfl (HB.out.ext HE.out) _ Tryz.underlying42 rfl HX.out ?_); go_loud (refine wpList_store_blk rfl 42 (.tmp 2) (.tmp 9) rfl w.heap.size 42 zs70 m.x.cells rfl rfl HZ.out (by rw [HL.out]; rfl) HX.out (Sp.cells_one _) ?_); intro w2 hB2 hK2; have HB2 := Lib.hid hB2; have HE2 := Lib.hid (HE.out.keep hK2 (fun i hi => by cases hi; exact Nat.le_refl _)); clear hB2 hK2))
  exact bodyPost_ret (results_blk (t := 0) rfl _ w.heap.size rfl HB2.out Tryz.underlying42 rfl HX.out) rfl ⟨rfl, HE2.out⟩
end Go.Proofs.YtnkebhlkhpgghaaGreatDoor
/- The rule of XOwn for any relation between worlds in place of 'what was there stands': stores are let, as long as what is told stands. Over any program. -/
namespace Go.Proofs.YtnkebhlkhpgghaaGreatDoor
open Go Go.RowKit

/-- Each operation that has a slot has one of its own, waits for earlier ones alone, and is not guarded. -/
def freeB (md : Region.Mode) (ops : Array Oper) (n : Nat) : Bool :=
  (List.range ops.size).all fun i => match ops[i]? with
    | none => true
    | some o => o.guard.isNone && (match o.dst with | none => true | some d => decide (d < n)) && o.after.all (fun e => !Region.binds md e || decide (e.on < i)) &&
      (List.range ops.size).all fun j => decide (i = j) || (match ops[j]? with | none => true | some o' => o'.dst != o.dst || o.dst.isNone)
section
variable {P : Program} {ops : Array Oper} {Q : Exit → Act → World → Prop} {a0 : Act} {w0 : World}

theorem wpAny_free {md : Region.Mode} {R : World → World → Prop} (Rt : ∀ {a b c}, R a b → R b c → R a c) (hpl : freeB md ops a0.tmps.size = true) (A : Nat → Act → World → Prop)
    (stab : ∀ (i : Nat) (a : Act) (w w' : World), A i a w → R w w' → A i a w')
    (loc : ∀ (i j : Nat) (o : Oper) (a : Act) (w : World) (v : Value), ops[j]? = some o → i ≠ j → A i a w → A i (a.put o.dst v) w)
    (step : ∀ (i : Nat) (o : Oper) (a : Act) (w : World), ops[i]? = some o → Beside ops a0 a → R w0 w → (∀ e ∈ o.after, Region.binds md e = true → A e.on a w) → o.wp P a w (fun a' w' => ∃ v, a' = a.put o.dst v ∧ R w w' ∧ A i a' w') Q)
    (fin : ∀ (a : Act) (w : World), Beside ops a0 a → R w0 w → (∀ i, i < ops.size → A i a w) → Q .normal a w) :
    ∀ (f : Nat) (listed : Array Bool) (a : Act) (w : World), listed.size = ops.size → unlisted listed = f → Beside ops a0 a → R w0 w → (∀ i, i < ops.size → listed.getD i true = true → A i a w) → wpAny P md ops Q f listed a w := by
  have hall := List.all_eq_true.1 hpl
  have opOk : ∀ (i : Nat) (o : Oper), ops[i]? = some o → o.guard = none ∧ (∀ e ∈ o.after, Region.binds md e = true → e.on < i) := by
    intro i o hi
    have hlt := (Array.getElem?_eq_some_iff.1 hi).1
    have h := hall i (List.mem_range.2 hlt)
    simp only [hi, Bool.and_eq_true] at h
    obtain ⟨⟨⟨h1, h2⟩, h3⟩, h4⟩ := h
    refine ⟨by simpa using h1, ?_⟩
    intro e he hbe
    have h3' := Array.all_eq_true'.1 h3
    have h4' := h3' e he
    rw [hbe] at h4'
    simpa using h4'
  -- some operation may come up, as long as one is left
  have some_ready : ∀ (listed : Array Bool), listed.size = ops.size → 0 < unlisted listed → Region.ready md ops listed ≠ [] := by
    intro listed hs hu
    have hex : ∃ i, listed.getD i true = false := by
      refine Classical.byContradiction fun hno => ?_
      have h1 : ∀ i, listed.getD i true = true := fun i => by
        cases h : listed.getD i true with
        | true => rfl
        | false => exact absurd ⟨i, h⟩ hno
      have h2 : unlisted listed = 0 := by
        unfold unlisted
        rw [List.length_eq_zero_iff, List.filter_eq_nil_iff]
        intro b hb
        obtain ⟨i, hi, rfl⟩ := List.mem_iff_getElem.1 hb
        have := h1 i
        simp at hi
        simpa [hi] using this
      omega
    have key : ∀ n i, i = n → listed.getD i true = false → ∃ j, j ∈ Region.ready md ops listed := by
      intro n
      induction n using Nat.strongRecOn with
      | _ n ih =>
        intro i hin hi
        subst hin
        have hlt : i < ops.size := by
          rcases Nat.lt_or_ge i ops.size with h | h
          · exact h
          · simp [Array.getElem?_eq_none (by omega : listed.size ≤ i)] at hi
        obtain ⟨o, ho⟩ : ∃ o, ops[i]? = some o := ⟨_, Array.getElem?_eq_getElem hlt⟩
        by_cases hd : ∀ e ∈ o.after, Region.binds md e = true → listed.getD e.on false = true
        · exact ⟨i, mem_ready.2 ⟨hi, o, ho, hd⟩⟩
        · have hd' : ∃ e ∈ o.after, Region.binds md e = true ∧ ¬ listed.getD e.on false = true := by
            refine Classical.byContradiction fun hno => hd fun e he hb => Classical.byContradiction fun hn => hno ⟨e, he, hb, hn⟩
          obtain ⟨e, he, hb, hl⟩ := hd'
          have hlt2 := (opOk i o ho).2 e he hb
          have : listed.getD e.on true = false := by
            have h5 : e.on < listed.size := by omega
            simp [h5] at hl ⊢
            exact hl
          exact ih e.on hlt2 e.on rfl this
    obtain ⟨i, hi⟩ := hex
    obtain ⟨j, hj⟩ := key i i rfl hi
    intro h0
    rw [h0] at hj
    cases hj
  intro f
  induction f with
  | zero =>
    intro listed a w hs hu hb he hA
    refine ⟨?_, fin a w hb he (fun i hi => hA i hi (unlisted_zero hu i))⟩
    refine List.eq_nil_iff_forall_not_mem.2 fun j hj => ?_
    have h1 := (mem_ready.1 hj).1
    have h2 := unlisted_zero hu j
    rw [h1] at h2
    cases h2
  | succ f ih =>
    intro listed a w hs hu hb he hA
    refine ⟨fun h0 => absurd h0 (some_ready listed hs (by omega)), fun i hi => ?_⟩
    obtain ⟨hun, o, ho, hdep⟩ := mem_ready.1 hi
    have hlt := (Array.getElem?_eq_some_iff.1 ho).1
    have hg := (opOk i o ho).1
    unfold wpOp
    simp only [ho, Region.wanted, hg, if_true]
    left
    refine Oper.wp_mono ?_ (step i o a w ho hb he (fun e he' hbd => hA e.on ?_ ?_))
    · rintro a' w' ⟨v, rfl, hE, hAi⟩
      refine ih _ _ _ (by simp [hs]) (by have := unlisted_set hun; omega) (hb.put ho v) (Rt he hE) (fun j hj hl => ?_)
      by_cases hji : j = i
      · subst hji; exact hAi
      · refine loc j i o a w' v ho hji (stab j a w w' (hA j hj ?_) hE)
        rw [getD_set_ne true (fun e => hji e.symm)] at hl
        exact hl
    · have := (opOk i o ho).2 e he' hbd; omega
    · have h1 := hdep e he' hbd
      have h2 : e.on < listed.size := by have := (opOk i o ho).2 e he' hbd; omega
      simp [h2] at h1 ⊢
      exact h1
/-- **The rule.** -/
theorem wp_region_free {id : Nat} {w : World} {l : List Oper} (R : World → World → Prop) (Rd : R w w.drew) (Rt : ∀ {a b c}, R a b → R b c → R a c) (hm : P.follows .mixedOrders = true) (hpl : freeB .any l.toArray a0.tmps.size = true) (B : Nat → Value → World → Prop)
    (stab : ∀ (i : Nat) (v : Value) (w w' : World), B i v w → R w w' → B i v w')
    (step : ∀ (i : Nat) (o : Oper) (a : Act) (w' : World), l[i]? = some o → Beside l.toArray a0 a → R w w' → (∀ e ∈ o.after, Region.binds .any e = true → B e.on (a.eval (.tmp (slotOf l.toArray e.on))) w') → o.wp P a w' (fun a' w'' => ∃ v, a' = a.put o.dst v ∧ R w' w'' ∧ ∀ u, (o.dst = none ∨ u = v) → B i u w'') Q)
    (fin : ∀ (a : Act) (w' : World), Beside l.toArray a0 a → R w w' → (∀ i, i < l.length → B i (a.eval (.tmp (slotOf l.toArray i))) w') → Q .normal a w') : (Code.region id l.toArray true).wp P Q a0 w := by
  have hall := List.all_eq_true.1 hpl
  have hsl : ∀ (i : Nat) (o : Oper), l[i]? = some o → slotOf l.toArray i = o.dst.getD 0 := fun i o h => by simp only [slotOf, List.getElem?_toArray, h, Option.bind_some]
  refine wp_region_any hm (wpAny_free (R := R) (w0 := w) Rt hpl (fun i a w => ∀ o, l[i]? = some o → ∀ u, (o.dst = none ∨ u = a.eval (.tmp (slotOf l.toArray i))) → B i u w) (fun i a w w' h e o ho u hu => stab i _ w w' (h o ho u hu) e) ?_ ?_
    (fun a w' hb he h => fin a w' hb he (fun i hi => h i (by simpa using hi) l[i] (by simp [hi]) _ (.inr rfl))) _ _ _ _ (by simp) ?_ ⟨rfl, rfl, fun _ _ => rfl⟩ Rd ?_)
  · intro i j o a w v hj hij h oi hoi u hu
    refine h oi hoi u ?_
    rcases hu with hu | hu
    · exact .inl hu
    · cases hd : oi.dst with
      | none => exact .inl rfl
      | some d =>
        have hi := (List.getElem?_eq_some_iff.1 hoi).1
        have h1 := hall i (List.mem_range.2 (by simpa using hi))
        simp only [List.getElem?_toArray, hoi, Bool.and_eq_true] at h1
        have h2 := h1.2
        have hjl := (Array.getElem?_eq_some_iff.1 hj).1
        have h3 := List.all_eq_true.1 h2 j (List.mem_range.2 hjl)
        rw [List.getElem?_toArray] at hj
        simp only [List.getElem?_toArray, hj, Bool.or_eq_true, decide_eq_true_eq, hd, Option.isNone_some] at h3
        have hne : o.dst ≠ some d := by
          rcases h3 with h3 | h3 | h3
          · exact absurd h3 hij
          · simpa using h3
          · cases h3
        rw [hsl i oi hoi, hd, Option.getD_some] at hu ⊢
        right
        rw [hu]
        cases ho : o.dst with
        | none => rfl
        | some d' => exact put_off v (fun e => hne (by rw [ho, e]))
  · intro i o a w' hi hb he hdep
    have hi' : l[i]? = some o := by simpa using hi
    have hlt := (List.getElem?_eq_some_iff.1 hi').1
    have h1 := hall i (List.mem_range.2 (by simpa using hlt))
    simp only [hi, Bool.and_eq_true] at h1
    have haf := Array.all_eq_true'.1 h1.1.2
    refine Oper.wp_mono ?_ (step i o a w' hi' hb he (fun e h2 h3 => hdep e h2 h3 (l[e.on]'(by have := haf e h2; rw [h3] at this; simp at this; omega)) (by simp) _ (.inr rfl)))
    rintro a' w'' ⟨v, rfl, hE, hB⟩
    refine ⟨v, rfl, hE, fun o' ho' u hu => hB u ?_⟩
    obtain rfl : o = o' := Option.some.inj (hi'.symm.trans ho')
    cases hd : o.dst with
    | none => exact .inl rfl
    | some d =>
      right
      have h5 := h1.1.1.2
      rw [hd] at h5
      rw [hsl i o hi', hd, Option.getD_some, put_at v (by rw [hb.size]; simpa using h5)] at hu
      simpa [hd] using hu
  · simp [unlisted]
  · intro i hi hl
    simp at hi
    simp [hi] at hl
/-- A step that yields a value. -/
theorem free_val {R : World → World → Prop} {o : Oper} {a : Act} {w : World} {B : Value → World → Prop} (v : Value) (w' : World) (hr : (execOp a.eval o).run P w = .ok (.value v) w') (hE : R w w') (hB : B v w') (hd : o.dst ≠ none) : o.wp P a w (fun a' w'' => ∃ v, a' = a.put o.dst v ∧ R w w'' ∧ ∀ u, (o.dst = none ∨ u = v) → B u w'') Q := by
  unfold Oper.wp
  rw [hr]
  exact ⟨v, rfl, hE, fun u hu => by rcases hu with h | rfl; exact absurd h hd; exact hB⟩
/-- A call. -/
theorem free_call {R : World → World → Prop} {o : Oper} {a : Act} {w : World} {B : Value → World → Prop} (f : FuncId) (args : Array Value) (hr : (execOp a.eval o).run P w = .ok (.enter f args) w) (hc : Calls P f args w fun e w' => ∃ v, e = .returned v ∧ R w w' ∧ B v w') (hd : o.dst ≠ none) : o.wp P a w (fun a' w'' => ∃ v, a' = a.put o.dst v ∧ R w w'' ∧ ∀ u, (o.dst = none ∨ u = v) → B u w'') Q := by
  unfold Oper.wp
  rw [hr]
  refine hc.mono ?_
  rintro e w' ⟨v, rfl, hE, hB⟩
  exact ⟨v, rfl, hE, fun u hu => by rcases hu with h | rfl; exact absurd h hd; exact hB⟩
end
end Go.Proofs.YtnkebhlkhpgghaaGreatDoor
/- seglog: begin, lay, write: the walks. -/
namespace Go.Proofs.YtnkebhlkhpgghaaGreatDoor
open Go Go.RowKit Go.Deep Go.Sort

theorem sh_info : (Tryz.prog.info? 23).map (·.size) = some 2 := by kernel_rfl
theorem hd_info {h : Hd} (hi : h.In) : (Tryz.prog.info? 70).map (·.size) = some h.cells.length := by rw [show h.cells.length = 34 from by simp [Hd.cells, bcells, hi.a]]; kernel_rfl
theorem place_fit {per segs many : Nat} (id : Int) (s1 : 2 ≤ segs) (hf : 2 + per * segs ≤ many) : placeOf per segs id + per ≤ many := by
  unfold placeOf
  have h1 : id.toNat % segs < segs := Nat.mod_lt _ (by omega)
  have h2 : per * (id.toNat % segs) + per ≤ per * segs := by
    have := Nat.mul_le_mul_left per (show id.toNat % segs + 1 ≤ segs from h1)
    rw [Nat.mul_add, Nat.mul_one] at this
    exact this
  omega
/-- What the operations of begin's region leave. -/
def bgB (d G S N : Nat) (per segs pl z : Nat) (h : Hd) : Nat → Value → World → Prop
  | 0, u, _ => u = .pointer (some ⟨d, 0, none⟩)
  | 1, u, _ => u = .agg #[.int .i64 per, .int .i64 segs]
  | 2, u, _ => u = .pointer (some ⟨G, 0, none⟩)
  | 3, u, _ => u = .int .u64 h.id
  | 4, u, _ => u = .int .i64 pl
  | 5, u, _ => u = .pointer (some ⟨S, 0, none⟩)
  | 6, u, _ => u = .int .i64 per
  | 7, u, w => ∃ a, u = .tuple #[.pointer (some ⟨a, 0, none⟩), .int .i64 0] ∧ Area w a d pl per z ∧ N ≤ a
  | 8, u, w => ∃ a, u = .tuple #[.pointer (some ⟨a, 0, none⟩), .int .i64 0] ∧ Area w a d pl per z ∧ N ≤ a
  | 9, u, w => ∃ a, u = .pointer (some ⟨a, 0, none⟩) ∧ Area w a d pl per z ∧ N ≤ a
  | 10, u, _ => u = .int .i64 0
  | 11, u, w => ∃ a, u = .pointer (some ⟨a, 0, none⟩) ∧ Area w a d pl per z ∧ N ≤ a
  | _, u, _ => u = .int .i64 0
theorem bgB_stab (d G S N : Nat) (per segs pl z : Nat) (h : Hd) (i : Nat) (u : Value) (w w' : World) (hB : bgB d G S N per segs pl z h i u w) (e : Ext w w') : bgB d G S N per segs pl z h i u w' := by
  rcases i with _ | _ | _ | _ | _ | _ | _ | _ | _ | _ | _ | _ | i <;> simp only [bgB] at hB ⊢ <;> first | exact hB | (obtain ⟨g, h1, h2⟩ := hB; exact ⟨g, h1, Blk.ext h2.1 e, h2.2⟩)
set_option maxRecDepth 8000 in
set_option maxHeartbeats 1600000 in
theorem logBegin_any {F : Nat → Prop} {d : Nat} {k : Dk} (per segs : Nat) (h : Hd) (w : World) (hD : Disk F w d k) (s1 : 2 ≤ segs) (s2 : segs ≤ 64) (p1 : 1 ≤ per) (hf : 2 + per * segs ≤ k.many) (hi : h.In) (hp : k.pend.length + per * k.size ≤ 1000000) :
    Calls Tryz.prog 25 #[.pointer (some ⟨d, 0, none⟩), .agg #[.int .i64 per, .int .i64 segs], .agg h.cells.toArray] w (Did F w d (.int .i64 0) (k.begin (placeOf per segs h.id) per h)) := by
  have hpf := place_fit h.id s1 hf
  have hper : per ≤ 4096 := by have := hD.ok.m2; omega
  have HPL := Lib.hid (fun w' => place_any per segs h.id w' s1 s2 p1 hper hi.i0 hi.i1)
  have HNW := Lib.hid (fun w' (e : Ext w w') => areaNew_any (placeOf per segs h.id) per w' (hD.ext e) p1 hpf)
  have HBG := Lib.hid (fun a w' (e : Ext w w') (hA : Area w' a d (placeOf per segs h.id) per k.size) (hFa : ¬ F a) => segBegin_any h w' (hD.ext e) hA hFa hpf p1 hi hp)
  have HD := Lib.hid hD
  have HH := Lib.hid (hd_info hi)
  have HSH := Lib.hid sh_info
  generalize placeOf per segs h.id = pl at *
  obtain ⟨w1, hw1⟩ : ∃ w1, w1 = (w.alloc (.cells #[.int .i64 per, .int .i64 segs] 23)).alloc (.cells h.cells.toArray 70) := ⟨_, rfl⟩
  have HE := Lib.hid (show Ext w w1 from by rw [hw1]; exact ((Ext.refl w).alloc _).alloc _)
  have HBS := Lib.hid (show Blk w1 w.heap.size 23 #[.int .i64 per, .int .i64 segs] from by rw [hw1]; exact (Blk.new _ _ _).alloc _)
  have HBH := Lib.hid (show Blk w1 (w.heap.size + 1) 70 h.cells.toArray from by rw [hw1]; exact Blk.new' (by simp))
  clear hD s1 s2 p1 hf hi hp hpf hper
  go_enter Tryz.func25, Tryz.ntmps25
  go_wp2_with fail
  change Code.wp _ _ _ _ ((w.alloc (.cells #[.int .i64 per, .int .i64 segs] 23)).alloc (.cells h.cells.toArray 70))
  rw [← hw1]
  clear hw1
  refine wp_region_free Ext ((Ext.refl _).drew) Ext.trans (by kernel_rfl) (by kernel_rfl) (bgB d (w.heap.size + 1) w.heap.size w1.heap.size per segs pl k.size h) (bgB_stab d (w.heap.size + 1) w.heap.size w1.heap.size per segs pl k.size h) ?_ ?_
  · intro i o a w' hi hb he hd
    have HS' := HBS.out.ext he
    have e0 : a.eval (.tmp 0) = .pointer (some ⟨d, 0, none⟩) := hb.outer 0 (by kernel_rfl)
    have e4 : a.eval (.tmp 4) = .pointer (some ⟨w.heap.size, 0, none⟩) := hb.outer 4 (by kernel_rfl)
    have e5 : a.eval (.tmp 5) = .pointer (some ⟨w.heap.size + 1, 0, none⟩) := hb.outer 5 (by kernel_rfl)
    have c0 : w'.cell? ⟨w.heap.size, 0, none⟩ = some (.int .i64 per) := HS'.cell 0
    have c2 : w'.cell? ⟨w.heap.size + 1, 0, none⟩ = some (.int .u64 h.id) := (HBH.out.ext he).cell 0
    rcases i with _ | _ | _ | _ | _ | _ | _ | _ | _ | _ | _ | _ | _ | i
    · simp only [List.getElem?_cons_zero, List.getElem?_cons_succ, Option.some.injEq] at hi
      subst hi
      refine free_val (.pointer (some ⟨d, 0, none⟩)) w' ?_ (Ext.refl _) rfl (by simp)
      have ec : ∀ v, a.eval (.const v) = v := fun _ => rfl
      generalize a.eval = ρ at *
      simp [go_sem, ec, e0]
    · simp only [List.getElem?_cons_zero, List.getElem?_cons_succ, Option.some.injEq] at hi
      subst hi
      refine free_val (.agg #[.int .i64 per, .int .i64 segs]) w' ?_ (Ext.refl _) rfl (by simp)
      simp only [execOp, Instr.loadAt, e4, Instr.sureAddr, Sem.run_bind, Sem.run_pure, Result.andThen_ok, run_loadVar_blk (B := [.int .i64 per, .int .i64 segs]) HS' Tryz.underlying23 rfl HSH.out]
    · simp only [List.getElem?_cons_zero, List.getElem?_cons_succ, Option.some.injEq] at hi
      subst hi
      refine free_val (.pointer (some ⟨w.heap.size + 1, 0, none⟩)) w' ?_ (Ext.refl _) rfl (by simp)
      have ec : ∀ v, a.eval (.const v) = v := fun _ => rfl
      generalize a.eval = ρ at *
      simp [go_sem, ec, e5]
    · simp only [List.getElem?_cons_zero, List.getElem?_cons_succ, Option.some.injEq] at hi
      subst hi
      have h12 : a.eval (.tmp 12) = _ := hd ⟨2, .data⟩ (by simp) rfl
      refine free_val (.int .u64 h.id) w' ?_ (Ext.refl _) rfl (by simp)
      have ec : ∀ v, a.eval (.const v) = v := fun _ => rfl
      generalize a.eval = ρ at *
      simp [go_sem, h12, ec, c2]
    · simp only [List.getElem?_cons_zero, List.getElem?_cons_succ, Option.some.injEq] at hi
      subst hi
      have h11 : a.eval (.tmp 11) = _ := hd ⟨1, .data⟩ (by simp) rfl
      have h13 : a.eval (.tmp 13) = _ := hd ⟨3, .data⟩ (by simp) rfl
      refine free_call 29 #[.agg #[.int .i64 per, .int .i64 segs], .int .u64 h.id] ?_ ((HPL.out w').mono (fun e w2 h => ⟨_, h.1, h.2, rfl⟩)) (by simp)
      have ec : ∀ v, a.eval (.const v) = v := fun _ => rfl
      have ef : ∀ f, a.eval (.func f) = .func (.func f) #[] #[] := fun _ => rfl
      generalize a.eval = ρ at *
      simp [go_sem, ef, ec, h11, h13]
    · simp only [List.getElem?_cons_zero, List.getElem?_cons_succ, Option.some.injEq] at hi
      subst hi
      refine free_val (.pointer (some ⟨w.heap.size, 0, none⟩)) w' ?_ (Ext.refl _) rfl (by simp)
      have ec : ∀ v, a.eval (.const v) = v := fun _ => rfl
      generalize a.eval = ρ at *
      simp [go_sem, ec, e4]
    · simp only [List.getElem?_cons_zero, List.getElem?_cons_succ, Option.some.injEq] at hi
      subst hi
      have h15 : a.eval (.tmp 15) = _ := hd ⟨5, .data⟩ (by simp) rfl
      refine free_val (.int .i64 per) w' ?_ (Ext.refl _) rfl (by simp)
      have ec : ∀ v, a.eval (.const v) = v := fun _ => rfl
      generalize a.eval = ρ at *
      simp [go_sem, h15, ec, c0]
    · simp only [List.getElem?_cons_zero, List.getElem?_cons_succ, Option.some.injEq] at hi
      subst hi
      have h10 : a.eval (.tmp 10) = _ := hd ⟨0, .data⟩ (by simp) rfl
      have h14 : a.eval (.tmp 14) = _ := hd ⟨4, .data⟩ (by simp) rfl
      have h16 : a.eval (.tmp 16) = _ := hd ⟨6, .data⟩ (by simp) rfl
      refine free_call 54 #[.pointer (some ⟨d, 0, none⟩), .int .i64 pl, .int .i64 per] ?_ ((HNW.out w' (HE.out.trans he)).mono (fun e w2 h => by obtain ⟨a, h1, h2, h3, h4, _⟩ := h; exact ⟨_, h1, h3, a, rfl, h2, Nat.le_trans he.size h4⟩)) (by simp)
      have ec : ∀ v, a.eval (.const v) = v := fun _ => rfl
      have ef : ∀ f, a.eval (.func f) = .func (.func f) #[] #[] := fun _ => rfl
      generalize a.eval = ρ at *
      simp [go_sem, ef, ec, h10, h14, h16]
    · simp only [List.getElem?_cons_zero, List.getElem?_cons_succ, Option.some.injEq] at hi
      subst hi
      obtain ⟨g17, h17, b17⟩ := hd ⟨7, .data⟩ (by simp) rfl
      have h17 : a.eval (.tmp 17) = _ := h17
      refine free_val (.tuple #[.pointer (some ⟨g17, 0, none⟩), .int .i64 0]) w' ?_ (Ext.refl _) ⟨g17, rfl, b17⟩ (by simp)
      have ec : ∀ v, a.eval (.const v) = v := fun _ => rfl
      generalize a.eval = ρ at *
      simp [go_sem, h17, ec]
    · simp only [List.getElem?_cons_zero, List.getElem?_cons_succ, Option.some.injEq] at hi
      subst hi
      obtain ⟨g9, h9, b9⟩ := hd ⟨8, .data⟩ (by simp) rfl
      have h9 : a.eval (.tmp 9) = _ := h9
      refine free_val (.pointer (some ⟨g9, 0, none⟩)) w' ?_ (Ext.refl _) ⟨g9, rfl, b9⟩ (by simp)
      have ec : ∀ v, a.eval (.const v) = v := fun _ => rfl
      generalize a.eval = ρ at *
      simp [go_sem, h9, ec]
    · simp only [List.getElem?_cons_zero, List.getElem?_cons_succ, Option.some.injEq] at hi
      subst hi
      obtain ⟨g9, h9, b9⟩ := hd ⟨8, .data⟩ (by simp) rfl
      have h9 : a.eval (.tmp 9) = _ := h9
      refine free_val (.int .i64 0) w' ?_ (Ext.refl _) rfl (by simp)
      have ec : ∀ v, a.eval (.const v) = v := fun _ => rfl
      generalize a.eval = ρ at *
      simp [go_sem, h9, ec]
    · simp only [List.getElem?_cons_zero, List.getElem?_cons_succ, Option.some.injEq] at hi
      subst hi
      obtain ⟨g18, h18, b18⟩ := hd ⟨9, .data⟩ (by simp) rfl
      have h18 : a.eval (.tmp 18) = _ := h18
      refine free_val (.pointer (some ⟨g18, 0, none⟩)) w' ?_ (Ext.refl _) ⟨g18, rfl, b18⟩ (by simp)
      have ec : ∀ v, a.eval (.const v) = v := fun _ => rfl
      generalize a.eval = ρ at *
      simp [go_sem, h18, ec]
    · simp only [List.getElem?_cons_zero, List.getElem?_cons_succ, Option.some.injEq] at hi
      subst hi
      have h19 : a.eval (.tmp 19) = _ := hd ⟨10, .data⟩ (by simp) rfl
      refine free_val (.int .i64 0) w' ?_ (Ext.refl _) rfl (by simp)
      have ec : ∀ v, a.eval (.const v) = v := fun _ => rfl
      generalize a.eval = ρ at *
      simp [go_sem, h19, ec]
    · simp at hi
  · intro a w3 hb hE3 hA
    obtain ⟨g, h7, hA7, hN⟩ := hA 11 (by decide)
    have h7 : a.eval (.tmp 7) = .pointer (some ⟨g, 0, none⟩) := h7
    have h8 : a.eval (.tmp 8) = .int .i64 0 := hA 12 (by decide)
    have h5 : a.eval (.tmp 5) = .pointer (some ⟨w.heap.size + 1, 0, none⟩) := hb.outer 5 (by kernel_rfl)
    rw [act_lit (n := 26) hb.size, hb.defers]
    simp only [show List.range 26 = [0, 1, 2, 3, 4, 5, 6, 7, 8, 9, 10, 11, 12, 13, 14, 15, 16, 17, 18, 19, 20, 21, 22, 23, 24, 25] from rfl, List.map_cons, List.map_nil, h5, h7, h8]
    have HE4 := Lib.hid (HE.out.trans hE3)
    have HA := Lib.hid (And.intro hA7 (show ¬ F g from fun hh => by have h1 := HD.out.sz g hh; have h2 := HE.out.size; omega))
    have HBH4 := Lib.hid (HBH.out.ext hE3)
    clear hA h5 h7 h8 hb hA7 hN hE3
    generalize a.eval = ρ
    go_wp2_with (first | (refine wpList_load_blk rfl 70 (.tmp 5) rfl (w.heap.size + 1) 70 h.cells rfl HBH4.out _ Tryz.underlying70 rfl HH.out ?_) | (go_at_call 55; refine (HBG.out _ _ HE4.out HA.out.1 HA.out.2).mono ?_; rintro e w5 ⟨rfl, F', hD5, hM5⟩; have HD5 := Lib.hid (And.intro hD5 (hM5.pre HE4.out)); clear hD5 hM5))
    go_ret
    exact ⟨rfl, F', HD5.out⟩
end Go.Proofs.YtnkebhlkhpgghaaGreatDoor
/- seglog: lay: the walk. -/
namespace Go.Proofs.YtnkebhlkhpgghaaGreatDoor
open Go Go.RowKit Go.Deep Go.Sort

/-- What the operations of lay's region leave. -/
def lyB (d g N : Nat) (per segs pl z : Nat) (q : Int) : Nat → Value → World → Prop
  | 0, u, _ => u = .pointer (some ⟨g, 0, none⟩)
  | 1, u, _ => u = .pointer (some ⟨g, 0, none⟩)
  | 2, u, _ => u = .pointer (some ⟨g, 0, none⟩)
  | 3, u, _ => u = .pointer (some ⟨d, 0, none⟩)
  | 4, u, _ => u = .pointer (some ⟨g, 0, none⟩)
  | 5, u, _ => u = .pointer (some ⟨g, 0, none⟩)
  | 6, u, _ => u = .pointer (some ⟨g, 1, none⟩)
  | 7, u, _ => u = .agg #[.int .i64 per, .int .i64 segs]
  | 8, u, _ => u = .pointer (some ⟨g, 0, none⟩)
  | 9, u, _ => u = .int .u64 q
  | 10, u, _ => u = .int .i64 pl
  | 11, u, _ => u = .pointer (some ⟨g, 0, none⟩)
  | 12, u, _ => u = .pointer (some ⟨g, 0, none⟩)
  | 13, u, _ => u = .pointer (some ⟨g, 1, none⟩)
  | 14, u, _ => u = .pointer (some ⟨g, 1, none⟩)
  | 15, u, _ => u = .int .i64 per
  | 16, u, w => ∃ a, u = .tuple #[.pointer (some ⟨a, 0, none⟩), .int .i64 0] ∧ Area w a d pl per z ∧ N ≤ a
  | 17, u, w => ∃ a, u = .tuple #[.pointer (some ⟨a, 0, none⟩), .int .i64 0] ∧ Area w a d pl per z ∧ N ≤ a
  | 18, u, w => ∃ a, u = .pointer (some ⟨a, 0, none⟩) ∧ Area w a d pl per z ∧ N ≤ a
  | 19, u, _ => u = .int .i64 0
  | 20, u, w => ∃ a, u = .pointer (some ⟨a, 0, none⟩) ∧ Area w a d pl per z ∧ N ≤ a
  | _, u, _ => u = .int .i64 0
theorem lyB_stab (d g N : Nat) (per segs pl z : Nat) (q : Int) (i : Nat) (u : Value) (w w' : World) (hB : lyB d g N per segs pl z q i u w) (e : Ext w w') : lyB d g N per segs pl z q i u w' := by
  rcases i with _ | _ | _ | _ | _ | _ | _ | _ | _ | _ | _ | _ | _ | _ | _ | _ | _ | _ | _ | _ | _ | i <;> simp only [lyB] at hB ⊢ <;> first | exact hB | (obtain ⟨g, h1, h2⟩ := hB; exact ⟨g, h1, Blk.ext h2.1 e, h2.2⟩)
theorem lastId_in {l : List Hd} (h : ∀ x ∈ l, x.In) : 0 ≤ lastId l ∧ lastId l < 18446744073709551616 := by
  unfold lastId
  cases hl : l.getLast? with
  | none => simp
  | some x => have := h x (List.mem_of_getLast? hl); exact ⟨this.i0, this.i1⟩
set_option maxRecDepth 8000 in
set_option maxHeartbeats 1600000 in
theorem logLay_any {F : Nat → Prop} {g d : Nat} {m : Lg} (b : Bytes) (w : World) (h : Log F w g d m) (ht : m.k.pend.length ≤ m.stop) (hfit : m.stop + b.length ≤ m.per * m.k.size) :
    Calls Tryz.prog 39 #[.pointer (some ⟨g, 0, none⟩), .string (bs b)] w (DidL F w g d (.int .i64 0) { m with k := m.k.put (placeOf m.per m.segs (lastId m.heads)) m.stop b }) := by
  obtain ⟨hb, ho, hc, h⟩ := h
  have hpf := place_fit (lastId m.heads) h.ok.s1 h.ok.fit
  have hper : m.per ≤ 4096 := by have := h.disk.ok.m2; have := h.ok.fit; have := h.ok.s1; have := Nat.mul_le_mul_left m.per h.ok.s1; omega
  have hcap := h.ok.cap
  have hli := lastId_in h.ok.hds
  have HPL := Lib.hid (fun w' => place_any m.per m.segs (lastId m.heads) w' h.ok.s1 h.ok.s2 h.ok.p1 hper hli.1 hli.2)
  have HID := Lib.hid (fun w' (e : Ext w w') => logId_any w' (Log.ext ⟨hb, ho, hc, h⟩ e))
  have HNW := Lib.hid (fun w' (e : Ext w w') => areaNew_any (placeOf m.per m.segs (lastId m.heads)) m.per w' (h.disk.ext e) h.ok.p1 hpf)
  have HAP := Lib.hid (fun a w' (e : Ext w w') (hA : Area w' a d (placeOf m.per m.segs (lastId m.heads)) m.per m.k.size) (hFa : ¬ F a) => segAppend_any m.stop b w' (h.disk.ext e) hA hFa hpf hfit (by omega))
  have HOK := Lib.hid (show Lg.Ok { m with k := m.k.put (placeOf m.per m.segs (lastId m.heads)) m.stop b } from by
    have hk := put_keeps (placeOf m.per m.segs (lastId m.heads)) m.per _ m.k m.stop b h.disk.ok hpf hfit (Nat.le_refl _)
    have hpp := put_pend (placeOf m.per m.segs (lastId m.heads)) _ m.k m.stop b (by have := h.disk.ok.s1; omega) (Nat.le_refl _)
    exact ⟨h.ok.s1, h.ok.s2, h.ok.p1, by rw [hk.2.1]; exact h.ok.fit, by rw [hk.2.2.1]; exact h.ok.sz, by rw [hk.2.2.1]; exact h.ok.cap, h.ok.x, h.ok.hds, h.ok.h1, h.ok.h2, h.ok.sum, h.ok.n0, h.ok.n1, h.ok.e1, by rw [hk.2.2.1]; exact h.ok.e2, by show (m.k.put (placeOf m.per m.segs (lastId m.heads)) m.stop b).pend.length ≤ 90000; omega⟩)
  have HH := Lib.hid h
  have HSH := Lib.hid sh_info
  have HR := Lib.hid (fun w' (e : Ext w w') => by
    have h1 := h.blk.ext e
    unfold lgCells lgA at h1
    have h2 := Blk.rangeAt (A := [.pointer (some ⟨d, 0, none⟩)]) (B := [.int .i64 m.per, .int .i64 m.segs]) (C := m.x.cells ++ ([.slice (some ⟨hb, ho, none⟩) m.heads.length hc, .int .i64 m.stop] ++ (bcells m.sum ++ lgE m))) (by simpa using h1)
    exact h2)
  generalize placeOf m.per m.segs (lastId m.heads) = pl at *
  generalize lastId m.heads = q at *
  clear hpf hper hcap hli ht hfit h
  generalize bs b = zb at *
  go_enter Tryz.func39, Tryz.ntmps39
  go_wp2_with fail
  refine wp_region_free Ext ((Ext.refl _).drew) Ext.trans (by kernel_rfl) (by kernel_rfl) (lyB d g w.heap.size m.per m.segs pl m.k.size q) (lyB_stab d g w.heap.size m.per m.segs pl m.k.size q) ?_ ?_
  · intro i o a w' hi hbs he hd
    have e0 : a.eval (.tmp 0) = .pointer (some ⟨g, 0, none⟩) := hbs.outer 0 (by kernel_rfl)
    have c0 : w'.cell? ⟨g, 0, none⟩ = some (.pointer (some ⟨d, 0, none⟩)) := (HH.out.ext he).c0
    have c1 : w'.cell? ⟨g, 1, none⟩ = some (.int .i64 m.per) := (HH.out.ext he).c1
    rcases i with _ | _ | _ | _ | _ | _ | _ | _ | _ | _ | _ | _ | _ | _ | _ | _ | _ | _ | _ | _ | _ | _ | i
    · obtain rfl := Option.some.inj hi
      refine free_val (.pointer (some ⟨g, 0, none⟩)) w' ?_ (Ext.refl _) rfl (by simp)
      have ec : ∀ v, a.eval (.const v) = v := fun _ => rfl
      generalize a.eval = ρ at *
      simp [go_sem, ec, e0]
    · obtain rfl := Option.some.inj hi
      have h8 : a.eval (.tmp 8) = _ := hd ⟨0, .data⟩ (by simp) rfl
      refine free_val (.pointer (some ⟨g, 0, none⟩)) w' ?_ (Ext.refl _) rfl (by simp)
      have ec : ∀ v, a.eval (.const v) = v := fun _ => rfl
      generalize a.eval = ρ at *
      simp [go_sem, h8, ec]
    · obtain rfl := Option.some.inj hi
      have h9 : a.eval (.tmp 9) = _ := hd ⟨1, .data⟩ (by simp) rfl
      refine free_val (.pointer (some ⟨g, 0, none⟩)) w' ?_ (Ext.refl _) rfl (by simp)
      have ec : ∀ v, a.eval (.const v) = v := fun _ => rfl
      generalize a.eval = ρ at *
      simp [go_sem, h9, ec]
    · obtain rfl := Option.some.inj hi
      have h10 : a.eval (.tmp 10) = _ := hd ⟨2, .data⟩ (by simp) rfl
      refine free_val (.pointer (some ⟨d, 0, none⟩)) w' ?_ (Ext.refl _) rfl (by simp)
      have ec : ∀ v, a.eval (.const v) = v := fun _ => rfl
      generalize a.eval = ρ at *
      simp [go_sem, h10, ec, c0]
    · obtain rfl := Option.some.inj hi
      refine free_val (.pointer (some ⟨g, 0, none⟩)) w' ?_ (Ext.refl _) rfl (by simp)
      have ec : ∀ v, a.eval (.const v) = v := fun _ => rfl
      generalize a.eval = ρ at *
      simp [go_sem, ec, e0]
    · obtain rfl := Option.some.inj hi
      have h12 : a.eval (.tmp 12) = _ := hd ⟨4, .data⟩ (by simp) rfl
      refine free_val (.pointer (some ⟨g, 0, none⟩)) w' ?_ (Ext.refl _) rfl (by simp)
      have ec : ∀ v, a.eval (.const v) = v := fun _ => rfl
      generalize a.eval = ρ at *
      simp [go_sem, h12, ec]
    · obtain rfl := Option.some.inj hi
      have h13 : a.eval (.tmp 13) = _ := hd ⟨5, .data⟩ (by simp) rfl
      refine free_val (.pointer (some ⟨g, 1, none⟩)) w' ?_ (Ext.refl _) rfl (by simp)
      have ec : ∀ v, a.eval (.const v) = v := fun _ => rfl
      generalize a.eval = ρ at *
      simp [go_sem, h13, ec]
    · obtain rfl := Option.some.inj hi
      have h14 : a.eval (.tmp 14) = _ := hd ⟨6, .data⟩ (by simp) rfl
      refine free_val (.agg #[.int .i64 m.per, .int .i64 m.segs]) w' ?_ (Ext.refl _) rfl (by simp)
      simp only [execOp, Instr.loadAt, h14, Instr.sureAddr, Sem.run_bind, Sem.run_pure, Result.andThen_ok, run_loadVar_mid w' g 1 23 [.int .i64 m.per, .int .i64 m.segs] _ (HR.out w' he) Tryz.underlying23 rfl HSH.out]
    · obtain rfl := Option.some.inj hi
      refine free_val (.pointer (some ⟨g, 0, none⟩)) w' ?_ (Ext.refl _) rfl (by simp)
      have ec : ∀ v, a.eval (.const v) = v := fun _ => rfl
      generalize a.eval = ρ at *
      simp [go_sem, ec, e0]
    · obtain rfl := Option.some.inj hi
      have h16 : a.eval (.tmp 16) = _ := hd ⟨8, .data⟩ (by simp) rfl
      refine free_call 67 #[.pointer (some ⟨g, 0, none⟩)] ?_ ((HID.out w' he).mono (fun e w2 h => ⟨_, h.1, h.2, rfl⟩)) (by simp)
      have ec : ∀ v, a.eval (.const v) = v := fun _ => rfl
      have ef : ∀ f, a.eval (.func f) = .func (.func f) #[] #[] := fun _ => rfl
      generalize a.eval = ρ at *
      simp [go_sem, ef, ec, h16]
    · obtain rfl := Option.some.inj hi
      have h15 : a.eval (.tmp 15) = _ := hd ⟨7, .data⟩ (by simp) rfl
      have h17 : a.eval (.tmp 17) = _ := hd ⟨9, .data⟩ (by simp) rfl
      refine free_call 29 #[.agg #[.int .i64 m.per, .int .i64 m.segs], .int .u64 q] ?_ ((HPL.out w').mono (fun e w2 h => ⟨_, h.1, h.2, rfl⟩)) (by simp)
      have ec : ∀ v, a.eval (.const v) = v := fun _ => rfl
      have ef : ∀ f, a.eval (.func f) = .func (.func f) #[] #[] := fun _ => rfl
      generalize a.eval = ρ at *
      simp [go_sem, ef, ec, h15, h17]
    · obtain rfl := Option.some.inj hi
      refine free_val (.pointer (some ⟨g, 0, none⟩)) w' ?_ (Ext.refl _) rfl (by simp)
      have ec : ∀ v, a.eval (.const v) = v := fun _ => rfl
      generalize a.eval = ρ at *
      simp [go_sem, ec, e0]
    · obtain rfl := Option.some.inj hi
      have h19 : a.eval (.tmp 19) = _ := hd ⟨11, .data⟩ (by simp) rfl
      refine free_val (.pointer (some ⟨g, 0, none⟩)) w' ?_ (Ext.refl _) rfl (by simp)
      have ec : ∀ v, a.eval (.const v) = v := fun _ => rfl
      generalize a.eval = ρ at *
      simp [go_sem, h19, ec]
    · obtain rfl := Option.some.inj hi
      have h20 : a.eval (.tmp 20) = _ := hd ⟨12, .data⟩ (by simp) rfl
      refine free_val (.pointer (some ⟨g, 1, none⟩)) w' ?_ (Ext.refl _) rfl (by simp)
      have ec : ∀ v, a.eval (.const v) = v := fun _ => rfl
      generalize a.eval = ρ at *
      simp [go_sem, h20, ec]
    · obtain rfl := Option.some.inj hi
      have h21 : a.eval (.tmp 21) = _ := hd ⟨13, .data⟩ (by simp) rfl
      refine free_val (.pointer (some ⟨g, 1, none⟩)) w' ?_ (Ext.refl _) rfl (by simp)
      have ec : ∀ v, a.eval (.const v) = v := fun _ => rfl
      generalize a.eval = ρ at *
      simp [go_sem, h21, ec]
    · obtain rfl := Option.some.inj hi
      have h22 : a.eval (.tmp 22) = _ := hd ⟨14, .data⟩ (by simp) rfl
      refine free_val (.int .i64 m.per) w' ?_ (Ext.refl _) rfl (by simp)
      have ec : ∀ v, a.eval (.const v) = v := fun _ => rfl
      generalize a.eval = ρ at *
      simp [go_sem, h22, ec, c1]
    · obtain rfl := Option.some.inj hi
      have h11 : a.eval (.tmp 11) = _ := hd ⟨3, .data⟩ (by simp) rfl
      have h18 : a.eval (.tmp 18) = _ := hd ⟨10, .data⟩ (by simp) rfl
      have h23 : a.eval (.tmp 23) = _ := hd ⟨15, .data⟩ (by simp) rfl
      refine free_call 54 #[.pointer (some ⟨d, 0, none⟩), .int .i64 pl, .int .i64 m.per] ?_ ((HNW.out w' he).mono (fun e w2 h => by obtain ⟨a, h1, h2, h3, h4, _⟩ := h; exact ⟨_, h1, h3, a, rfl, h2, Nat.le_trans he.size h4⟩)) (by simp)
      have ec : ∀ v, a.eval (.const v) = v := fun _ => rfl
      have ef : ∀ f, a.eval (.func f) = .func (.func f) #[] #[] := fun _ => rfl
      generalize a.eval = ρ at *
      simp [go_sem, ef, ec, h11, h18, h23]
    · obtain rfl := Option.some.inj hi
      obtain ⟨g24, h24, b24⟩ := hd ⟨16, .data⟩ (by simp) rfl
      have h24 : a.eval (.tmp 24) = _ := h24
      refine free_val (.tuple #[.pointer (some ⟨g24, 0, none⟩), .int .i64 0]) w' ?_ (Ext.refl _) ⟨g24, rfl, b24⟩ (by simp)
      have ec : ∀ v, a.eval (.const v) = v := fun _ => rfl
      generalize a.eval = ρ at *
      simp [go_sem, h24, ec]
    · obtain rfl := Option.some.inj hi
      obtain ⟨g7, h7, b7⟩ := hd ⟨17, .data⟩ (by simp) rfl
      have h7 : a.eval (.tmp 7) = _ := h7
      refine free_val (.pointer (some ⟨g7, 0, none⟩)) w' ?_ (Ext.refl _) ⟨g7, rfl, b7⟩ (by simp)
      have ec : ∀ v, a.eval (.const v) = v := fun _ => rfl
      generalize a.eval = ρ at *
      simp [go_sem, h7, ec]
    · obtain rfl := Option.some.inj hi
      obtain ⟨g7, h7, b7⟩ := hd ⟨17, .data⟩ (by simp) rfl
      have h7 : a.eval (.tmp 7) = _ := h7
      refine free_val (.int .i64 0) w' ?_ (Ext.refl _) rfl (by simp)
      have ec : ∀ v, a.eval (.const v) = v := fun _ => rfl
      generalize a.eval = ρ at *
      simp [go_sem, h7, ec]
    · obtain rfl := Option.some.inj hi
      obtain ⟨g25, h25, b25⟩ := hd ⟨18, .data⟩ (by simp) rfl
      have h25 : a.eval (.tmp 25) = _ := h25
      refine free_val (.pointer (some ⟨g25, 0, none⟩)) w' ?_ (Ext.refl _) ⟨g25, rfl, b25⟩ (by simp)
      have ec : ∀ v, a.eval (.const v) = v := fun _ => rfl
      generalize a.eval = ρ at *
      simp [go_sem, h25, ec]
    · obtain rfl := Option.some.inj hi
      have h26 : a.eval (.tmp 26) = _ := hd ⟨19, .data⟩ (by simp) rfl
      refine free_val (.int .i64 0) w' ?_ (Ext.refl _) rfl (by simp)
      have ec : ∀ v, a.eval (.const v) = v := fun _ => rfl
      generalize a.eval = ρ at *
      simp [go_sem, h26, ec]
    · cases hi
  · intro a w3 hbs hE3 hA
    obtain ⟨r, h7, hA7, hN⟩ := hA 20 (by decide)
    have h7 : a.eval (.tmp 5) = .pointer (some ⟨r, 0, none⟩) := h7
    have h8 : a.eval (.tmp 6) = .int .i64 0 := hA 21 (by decide)
    have h0 : a.eval (.tmp 0) = .pointer (some ⟨g, 0, none⟩) := hbs.outer 0 (by kernel_rfl)
    have h1 : a.eval (.tmp 1) = .string zb := hbs.outer 1 (by kernel_rfl)
    rw [act_lit (n := 37) hbs.size, hbs.defers]
    simp only [show List.range 37 = [0, 1, 2, 3, 4, 5, 6, 7, 8, 9, 10, 11, 12, 13, 14, 15, 16, 17, 18, 19, 20, 21, 22, 23, 24, 25, 26, 27, 28, 29, 30, 31, 32, 33, 34, 35, 36] from rfl, List.map_cons, List.map_nil, h0, h1, h7, h8]
    have HE4 := Lib.hid hE3
    have HA := Lib.hid (And.intro hA7 (show ¬ F r from fun hh => by have h1 := HH.out.disk.sz r hh; omega))
    have c74 := (HH.out.ext hE3).c74
    clear hA h7 h8 h0 h1 hbs hA7 hN hE3
    generalize a.eval = ρ
    go_wp2_with (go_at_call 68; refine (HAP.out _ _ HE4.out HA.out.1 HA.out.2).mono ?_; rintro e w5 ⟨rfl, F', hD5, hM5⟩; have HD5 := Lib.hid (And.intro hD5 (hM5.pre HE4.out)); clear hD5 hM5)
    go_ret
    exact ⟨rfl, F', ⟨hb, ho, hc, HH.out.dsk HD5.out.1 HD5.out.2 HOK.out⟩, HD5.out.2.fg g⟩
end Go.Proofs.YtnkebhlkhpgghaaGreatDoor
/- seglog: write: the walk. -/
namespace Go.Proofs.YtnkebhlkhpgghaaGreatDoor
open Go Go.RowKit Go.Deep Go.Sort

def Dk.super (k : Dk) (x : Sp) : Dk := (k.write (x.epoch % 2).toNat (padTo x.text k.size)).flush
def Lg.write (m : Lg) (x : Sp) : Lg := { m with k := m.k.super x, x := x }
@[simp] theorem Dk.super_many (k : Dk) (x : Sp) : (k.super x).many = k.many := rfl
@[simp] theorem Dk.super_size (k : Dk) (x : Sp) : (k.super x).size = k.size := rfl
@[simp] theorem Dk.super_pend (k : Dk) (x : Sp) : (k.super x).pend = [] := rfl
theorem Lg.Ok.super {m : Lg} (h : m.Ok) (x : Sp) : Lg.Ok { m with k := m.k.super x } := ⟨h.s1, h.s2, h.p1, h.fit, h.sz, h.cap, h.x, h.hds, h.h1, h.h2, h.sum, h.n0, h.n1, h.e1, h.e2, by simp⟩
theorem Lg.Ok.write {m : Lg} (h : m.Ok) {x : Sp} (hx : x.In) : (m.write x).Ok := ⟨h.s1, h.s2, h.p1, h.fit, h.sz, h.cap, hx, h.hds, h.h1, h.h2, h.sum, h.n0, h.n1, h.e1, h.e2, by simp [Lg.write]⟩
theorem lgA_len (d : Nat) (m : Lg) : (lgA d m).length = 3 := rfl
def lgC (v : Value) (m : Lg) : List Value := [v, .int .i64 m.stop] ++ (bcells m.sum ++ lgE m)
set_option maxRecDepth 8000 in
set_option maxHeartbeats 1600000 in
theorem logWrite_any {F : Nat → Prop} {g d : Nat} {m : Lg} (x : Sp) (w : World) (h : Log F w g d m) (hx : x.In) :
    Calls Tryz.prog 73 #[.pointer (some ⟨g, 0, none⟩), .agg x.cells.toArray] w (DidL F w g d (.int .i64 0) (m.write x)) := by
  obtain ⟨hb, ho, hc, h⟩ := h
  have hfit := h.ok.fit
  have hmul := Nat.mul_le_mul_left m.per h.ok.s1
  have HW := Lib.hid (fun w' (e : Ext w w') => slotsWrite_any x w' (h.disk.ext e) (by omega) h.ok.sz (by have := h.ok.pn; omega) hx)
  have HH := Lib.hid h
  have HX := Lib.hid hx
  have HXI := Lib.hid (sp_infoOf hx)
  obtain ⟨w1, hw1⟩ : ∃ w1, w1 = w.alloc (.cells x.cells.toArray 42) := ⟨_, rfl⟩
  have HB := Lib.hid (show Blk w1 w.heap.size 42 x.cells.toArray from by rw [hw1]; exact Blk.new _ _ _)
  have HE := Lib.hid (show Ext w w1 from by rw [hw1]; exact (Ext.refl w).alloc _)
  have hnF : ¬ F w.heap.size := fun hh => by have := h.disk.sz _ hh; omega
  have HNF := Lib.hid hnF
  have hng : w.heap.size ≠ g := by have := h.blk.lt; omega
  have HNG := Lib.hid hng
  clear h hx hfit hmul hnF hng
  go_enter Tryz.func73, Tryz.ntmps73
  go_wp2_with fail
  change Code.wp _ _ _ _ (w.alloc (.cells x.cells.toArray 42))
  rw [← hw1]
  clear hw1
  have c0 := cell_regrown (show w1.cell? ⟨g, 0, none⟩ = some (.pointer (some ⟨d, 0, none⟩)) from (HH.out.ext HE.out).c0)
  refine wp_region_tail (C := fun w' => ∃ p : Regrown, w' = grow (redrawn w1 p.d) p.os) 5 (by kernel_rfl) (by kernel_rfl) (regrown_start w1) ?_
  simp only [List.take_succ_cons, List.take_zero, List.drop_succ_cons, List.drop_zero]
  quiet_step (fail)
  quiet_step (fail)
  quiet_step (fail)
  quiet_step (fail)
  refine wq_load_blk rfl 42 (.tmp 3) rfl w.heap.size 42 x.cells rfl (fun w' hw' => HB.out.ext (regrown_ext hw')) _ Tryz.underlying42 rfl HXI.out ?_
  simp only [Act.put, List.setIfInBounds_toArray, List.set_cons_zero, List.set_cons_succ]
  refine wpQuiet_nil ?_
  intro w2 hw2
  have HE2 := Lib.hid (HE.out.trans (regrown_ext hw2))
  have HB2 := Lib.hid (HB.out.ext (regrown_ext hw2))
  clear hw2 c0
  go_wp2_with (first | (go_at_call 27; refine (HW.out _ HE2.out).mono ?_; rintro e w3 ⟨rfl, F', hD3, hM3⟩; have HB3 := Lib.hid (HB2.out.keep hM3.1 HNF.out); have HD3 := Lib.hid (And.intro hD3 (hM3.pre HE2.out)); clear hD3 hM3) | (have hg := HB3; go_loud (refine wpList_load_blk rfl 42 (.tmp 3) rfl w.heap.size 42 x.cells rfl HB3.out _ Tryz.underlying42 rfl HXI.out ?_; refine Great.wpList_readTo rfl (some 17) rfl (.pointer (some ⟨g, 0, none⟩)) rfl ?_; refine Great.wpList_readTo rfl (some 18) rfl (.pointer (some ⟨g, 3, none⟩)) (by kernel_rfl) ?_; have HL3 := Lib.hid (HH.out.dsk HD3.out.1 HD3.out.2 (HH.out.ok.super x)); go_loud (refine wpList_store_part rfl 42 (.tmp 18) (.tmp 16) rfl g 77 (lgA d m) m.x.cells (lgC (.slice (some ⟨hb, ho, none⟩) m.heads.length hc) m) x.cells rfl rfl HL3.out.blk (by rw [Sp.cells_length HX.out, Sp.cells_length HH.out.ok.x]) HXI.out (Sp.cells_one x) ?_); intro w4 hB4 hK4; have HL4 := Lib.hid (HL3.out.var (m' := m.write x) hK4 hB4 rfl rfl (HH.out.ok.write HX.out)); have HM4 := Lib.hid ((HD3.out.2.fg g).trans (fg_keep hK4)); clear hB4 hK4)))
  go_ret
  exact ⟨rfl, F', ⟨hb, ho, hc, HL4.out⟩, HM4.out⟩
end Go.Proofs.YtnkebhlkhpgghaaGreatDoor
/- Two supers, or two heads, are compared. -/
namespace Go.Proofs.YtnkebhlkhpgghaaGreatDoor
open Go Go.RowKit Go.Deep

section
variable {P : Program} {w : World} {xs ys : Array Value} {d : Nat}
theorem eqFields_int (f : Field) (fs : List Field) (k : IntKind) (a b : Int) (hn : f.name ≠ "_") (hu : P.underlying f.type = some (.int k)) (hx : xs[f.offset]? = some (.int k a)) (hy : ys[f.offset]? = some (.int k b)) :
    (Op.eqFields (d + 1) xs ys (f :: fs)).run P w = if a = b then (Op.eqFields (d + 1) xs ys fs).run P w else .ok false w := by
  have px : (part f.type xs f.offset).run P w = .ok (.int k a) w := by simp [part, isAgg, run_underlying hu, hx]
  have py : (part f.type ys f.offset).run P w = .ok (.int k b) w := by simp [part, isAgg, run_underlying hu, hy]
  simp only [Op.eqFields, hn, ne_eq, not_false_eq_true, if_true, Sem.run_bind, px, py, Result.andThen_ok, run_equalIn_int w d f.type k k a b hu]
  by_cases h : a = b
  · subst h; simp
  · have : (a == b) = false := by simpa using h
    simp [this, h]
theorem eqFields_arr (f : Field) (fs : List Field) (e : TypeId) (n : Nat) (p q : Bytes) (hn : f.name ≠ "_") (hu : P.underlying f.type = some (.array n e)) (he : P.underlying e = some (.int .u8)) (hsz : ∀ w, (sizeOf e).run P w = .ok 1 w) (hsz2 : ∀ w, (sizeOf f.type).run P w = .ok n w)
    (hp : p.length = n) (hq : q.length = n) (hx : xs.extract f.offset (f.offset + n) = (bcells p).toArray) (hy : ys.extract f.offset (f.offset + n) = (bcells q).toArray) :
    (Op.eqFields (d + 2) xs ys (f :: fs)).run P w = if p = q then (Op.eqFields (d + 2) xs ys fs).run P w else .ok false w := by
  have px : (part f.type xs f.offset).run P w = .ok (.agg (bcells p).toArray) w := by simp [part, isAgg, run_underlying hu, hsz2, hx]
  have py : (part f.type ys f.offset).run P w = .ok (.agg (bcells q).toArray) w := by simp [part, isAgg, run_underlying hu, hsz2, hy]
  have hc : ∀ l : Bytes, (bcells l).toArray = (l.map Extern.Stop.cell).toArray := fun l => rfl
  simp only [Op.eqFields, hn, ne_eq, not_false_eq_true, if_true, Sem.run_bind, px, py, Result.andThen_ok, hc, run_equalIn_bytes w d f.type e n hu he hsz p q hp hq]
  by_cases h : p = q
  · subst h; simp
  · have : (p == q) = false := by simpa using h
    simp [this, h]
end
theorem u8_size (w : World) : (sizeOf 5).run Tryz.prog w = .ok 1 w := by kernel_rfl
theorem dig_size (w : World) : (sizeOf 40).run Tryz.prog w = .ok 32 w := by kernel_rfl
theorem sp_mid (z : Sp) (h1 : z.anchor.length = 32) (i : Nat) : z.cells.toArray[35 + i]? = ([.int .u64 z.id, .int .u64 z.en, .int .u64 z.next] ++ bcells z.sum)[i]? := by
  simp only [Sp.cells, List.getElem?_toArray]
  rw [List.getElem?_append_right (by simp [bcells, h1])]
  simp [bcells, h1]
theorem sp_end (z : Sp) (h1 : z.anchor.length = 32) (h2 : z.sum.length = 32) : z.cells.toArray.extract 38 (38 + 32) = (bcells z.sum).toArray := by
  have h3 : z.cells = ([.int .u64 z.epoch, .int .u64 z.tail, .int .u64 z.first] ++ bcells z.anchor ++ [.int .u64 z.id, .int .u64 z.en, .int .u64 z.next]) ++ bcells z.sum := by simp [Sp.cells]
  rw [h3]
  generalize hA : ([.int .u64 z.epoch, .int .u64 z.tail, .int .u64 z.first] ++ bcells z.anchor ++ [.int .u64 z.id, .int .u64 z.en, .int .u64 z.next] : List Value) = A
  have hl : A.length = 38 := by rw [← hA]; simp [bcells, h1]
  have hB : (bcells z.sum).length = 32 := by simp [bcells, h2]
  simp only [List.extract_toArray, List.extract_eq_take_drop]
  rw [List.drop_append, List.drop_of_length_le (by omega), hl, Nat.sub_self, List.drop_zero, List.nil_append, List.take_of_length_le (by omega)]
set_option maxRecDepth 16000 in
set_option maxHeartbeats 1600000 in
theorem sp_eq (x y : Sp) (w : World) (hx : x.In) (hy : y.In) : (Op.equalIn 10000 42 (.agg x.cells.toArray) (.agg y.cells.toArray)).run Tryz.prog w = .ok (decide (x = y)) w := by
  rw [run_equalIn_struct w 9999 42 _ _ (by kernel_rfl) (by kernel_rfl)]
  simp only [Program.fieldsOf, Tryz.underlying42]
  have ax : x.anchor.length = 32 := hx.a
  have ay : y.anchor.length = 32 := hy.a
  have sx : x.sum.length = 32 := hx.s
  have sy : y.sum.length = 32 := hy.s
  have g : ∀ (z : Sp), z.anchor.length = 32 → z.sum.length = 32 → z.cells.toArray[0]? = some (.int .u64 z.epoch) ∧ z.cells.toArray[1]? = some (.int .u64 z.tail) ∧ z.cells.toArray[2]? = some (.int .u64 z.first) ∧ z.cells.toArray.extract 3 (3 + 32) = (bcells z.anchor).toArray ∧
      z.cells.toArray[35]? = some (.int .u64 z.id) ∧ z.cells.toArray[36]? = some (.int .u64 z.en) ∧ z.cells.toArray[37]? = some (.int .u64 z.next) ∧ z.cells.toArray.extract 38 (38 + 32) = (bcells z.sum).toArray := by
    intro z h1 h2
    refine ⟨by simp [Sp.cells], by simp [Sp.cells], by simp [Sp.cells], by simp [Sp.cells, bcells, h1, h2, List.take_append], sp_mid z h1 0, sp_mid z h1 1, sp_mid z h1 2, sp_end z h1 h2⟩
  obtain ⟨a0, a1, a2, a3, a4, a5, a6, a7⟩ := g x ax sx
  obtain ⟨b0, b1, b2, b3, b4, b5, b6, b7⟩ := g y ay sy
  rw [eqFields_int _ _ .u64 _ _ (by decide) Tryz.underlying34 a0 b0, eqFields_int _ _ .u64 _ _ (by decide) Tryz.underlying34 a1 b1, eqFields_int _ _ .u64 _ _ (by decide) Tryz.underlying34 a2 b2,
    eqFields_arr _ _ 5 32 _ _ (by decide) Tryz.underlying40 Tryz.underlying5 u8_size dig_size ax ay a3 b3,
    eqFields_int _ _ .u64 _ _ (by decide) Tryz.underlying34 a4 b4, eqFields_int _ _ .u64 _ _ (by decide) Tryz.underlying34 a5 b5, eqFields_int _ _ .u64 _ _ (by decide) Tryz.underlying34 a6 b6,
    eqFields_arr _ _ 5 32 _ _ (by decide) Tryz.underlying40 Tryz.underlying5 u8_size dig_size sx sy a7 b7]
  obtain ⟨x1, x2, x3, x4, x5, x6, x7, x8⟩ := x
  obtain ⟨y1, y2, y3, y4, y5, y6, y7, y8⟩ := y
  simp only [Op.eqFields, Sem.run_pure, Sp.mk.injEq]
  by_cases h1 : x1 = y1 <;> by_cases h2 : x2 = y2 <;> by_cases h3 : x3 = y3 <;> by_cases h4 : x4 = y4 <;> simp only [h1, h2, h3, h4, if_true, if_false, false_and, and_false, true_and, decide_false]
  by_cases h5 : x5 = y5 <;> by_cases h6 : x6 = y6 <;> by_cases h7 : x7 = y7 <;> by_cases h8 : x8 = y8 <;> simp [h5, h6, h7, h8]
theorem sp_guard (op : BinOp) (u v : Operand) (x y : List Value) (w : World) : (eqGuard op 42 u v (.agg x.toArray) (.agg y.toArray)).run Tryz.prog w = .ok () w := run_eqGuard_agg w op 42 u v _ _ (by kernel_rfl)
theorem sp_eql (x y : Sp) (w : World) (hx : x.In) (hy : y.In) : (binOp .eql 42 (.agg x.cells.toArray) (.agg y.cells.toArray)).run Tryz.prog w = .ok (.bool (decide (x = y))) w := by
  rw [run_eql_struct, sp_eq x y w hx hy]; rfl
theorem sp_neq (x y : Sp) (w : World) (hx : x.In) (hy : y.In) : (binOp .neq 42 (.agg x.cells.toArray) (.agg y.cells.toArray)).run Tryz.prog w = .ok (.bool (!decide (x = y))) w := by
  rw [run_neq_struct, sp_eq x y w hx hy]; rfl
end Go.Proofs.YtnkebhlkhpgghaaGreatDoor
