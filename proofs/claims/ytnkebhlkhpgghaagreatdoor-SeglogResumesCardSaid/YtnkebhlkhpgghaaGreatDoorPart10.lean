/- Part of a proof: the walks of the functions, and their plain laws: Gets2, Gets3, Qg, Read, Read2, Law2, Logged. -/
import Derived.Test.YtnkebhlkhpgghaaGreatDoorPart9
import Derived.Great.Walk
import Derived.BigQuiet
set_option linter.unusedVariables false
set_option linter.unusedSimpArgs false

/- header, read: digest: the walk. -/
namespace Go.Proofs.YtnkebhlkhpgghaaGreatDoor
open Go Go.RowKit Go.Deep Go.Sort

theorem putC_all {cur : Array Value} {b : Bytes} (h : b.length = cur.size) : putC cur 0 b = (bcells b).toArray := by
  simp only [putC, List.take_zero, List.nil_append, Nat.zero_add]
  rw [List.drop_of_length_le (by simp [h]), List.append_nil]
def zs32 : List Value := List.replicate 32 (.int .u8 0)
theorem dg_info : (Tryz.prog.info? 40).map (·.size) = some 32 := by kernel_rfl
/-- 'copy' of a string that is longer than the row. -/
theorem run_copy_long {P : Program} (w : World) (dT sT ty elem : TypeId) (g o dLen dCap : Nat) (s : ByteArray) (cur : Array Value) (t : TypeId)
    (hu : P.underlying dT = some (.slice elem)) (hs : (P.info? elem).map (·.size) = some 1) (hg : Blk w g t cur) (hle : dLen ≤ s.size) (hfit : o + dLen ≤ cur.size) :
    (Builtin.copy_ #[dT, sT] ty #[.slice (some ⟨g, o, none⟩) dLen dCap, .string s]).run P w = .ok (goInt dLen) (w.setRow g (putC cur o ((lb s).take dLen))) := by
  have hl : ((lb s).take dLen).length = dLen := by rw [List.length_take, lb_length]; omega
  have hlen : (bcells ((lb s).take dLen)).length = dLen := by rw [bcells_length, hl]
  have hst := run_storeCells_at P g o t (bcells ((lb s).take dLen)) 0 cur w hg (by rw [hlen]; simpa using hfit) (bcells_one _)
  have hmin : Nat.min s.size dLen = dLen := Nat.min_eq_right hle
  have htk : List.take dLen (List.map (fun b : UInt8 => Value.int IntKind.u8 (b.toNat : Int)) s.data.toList) = bcells ((lb s).take dLen) := by
    simp [bcells, lb, List.map_take]
  rw [hlen] at hst
  simp only [Nat.add_zero] at hst
  have hpc : putC cur o ((lb s).take dLen) = (cur.toList.take o ++ bcells ((lb s).take dLen) ++ cur.toList.drop (o + dLen)).toArray := by simp only [putC, hl]
  rw [hpc]
  cases hq : P.info? elem with
  | none => simp [hq] at hs
  | some i =>
    simp [Builtin.copy_, run_underlying hu, Builtin.lenOf, Builtin.firstCells, sizeOf, typeInfo, hq, hmin]
    rw [htk, hst]
    simp [Result.andThen]
/-- How worlds turn while a digest is read: the row of the digest alone. -/
def DgR (D : Nat) (b : Bytes) (w w' : World) : Prop := Keep (One D) w w' ∧ (Blk w D 40 (bcells b).toArray → Blk w' D 40 (bcells b).toArray) ∧ ∀ cs, Blk w D 40 cs → cs.size = 32 → ∃ cs', Blk w' D 40 cs' ∧ cs'.size = 32
theorem DgR.refl (D : Nat) (b : Bytes) (w : World) : DgR D b w w := ⟨Keep.refl _ _, id, fun cs h1 h2 => ⟨cs, h1, h2⟩⟩
theorem DgR.trans {D : Nat} {b : Bytes} {w w' w'' : World} (h : DgR D b w w') (k : DgR D b w' w'') : DgR D b w w'' :=
  ⟨h.1.trans k.1, fun x => k.2.1 (h.2.1 x), fun cs h1 h2 => by obtain ⟨c1, h3, h4⟩ := h.2.2 cs h1 h2; exact k.2.2 c1 h3 h4⟩
def dgB (r D : Nat) (s : ByteArray) : Nat → Value → World → Prop
  | 4, v, _ => v = .string s
  | 5, v, _ => v = .slice (some ⟨D, 0, none⟩) 32 32
  | 9, v, _ => v = .string s
  | 10, v, w => v = .int .i64 32 ∧ Blk w D 40 (bcells ((lb s).take 32)).toArray
  | 11, v, _ => v = .string (bs ((lb s).drop 32))
  | _, v, _ => v = .pointer (some ⟨r, 0, none⟩)
theorem dgB_stab (r D : Nat) (s : ByteArray) (i : Nat) (v : Value) (w w' : World) (hB : dgB r D s i v w) (e : DgR D ((lb s).take 32) w w') : dgB r D s i v w' := by
  rcases i with _ | _ | _ | _ | _ | _ | _ | _ | _ | _ | _ | _ | i <;> simp only [dgB] at hB ⊢ <;> first | exact hB | exact ⟨hB.1, e.2.1 hB.2⟩
set_option maxRecDepth 8000 in
set_option maxHeartbeats 1600000 in
theorem readDigest_any (r : Nat) (s : ByteArray) (w : World) (hB : Blk w r 146 #[.string s]) (h8 : 32 ≤ s.size) (hs : s.size ≤ 140737488355328) :
    Calls Tryz.prog 89 #[.pointer (some ⟨r, 0, none⟩)] w fun e w' => e = .returned (.agg (bcells ((lb s).take 32)).toArray) ∧ Blk w' r 146 #[.string (bs ((lb s).drop 32))] ∧ Keep (One r) w w' := by
  have hrw := hB.lt
  have HL := Lib.hid (show ((lb s).take 32).length = 32 from by rw [List.length_take, lb_length]; omega)
  have HLc := Lib.hid (show (bcells ((lb s).take 32)).length = 32 from by rw [bcells_length, HL.out])
  have HI := Lib.hid dg_info
  have H8 := Lib.hid h8
  have HS := Lib.hid hs
  have HX := Lib.hid (show bs ((lb s).drop 32) = s.extract 32 s.size from by rw [← bs_lb (s.extract 32 s.size), lb_extract, List.take_of_length_le (by rw [List.length_drop, lb_length]; exact Nat.le_refl _)])
  obtain ⟨w2, hw2⟩ : ∃ w2, w2 = (w.alloc (.cells zs32.toArray 40)).alloc (.cells zs32.toArray 40) := ⟨_, rfl⟩
  have HB := Lib.hid (show Blk w2 r 146 #[.string s] from by rw [hw2]; exact (hB.alloc _).alloc _)
  have HD := Lib.hid (show Blk w2 (w.heap.size + 1) 40 zs32.toArray from by rw [hw2]; exact Blk.new' (by simp))
  have HR := Lib.hid (show Blk w2 w.heap.size 40 zs32.toArray from by rw [hw2]; exact (Blk.new _ _ _).alloc _)
  have HE := Lib.hid (show Ext w w2 from by rw [hw2]; exact ((Ext.refl w).alloc _).alloc _)
  have HNE := Lib.hid (And.intro (show r ≠ w.heap.size + 1 from by omega) (show r ≠ w.heap.size from by omega))
  clear hB h8 hs
  go_enter Tryz.func89, Tryz.ntmps89
  go_wp2_with fail
  have hw3 : w2 = (w.alloc (.cells #[.int .u8 0, .int .u8 0, .int .u8 0, .int .u8 0, .int .u8 0, .int .u8 0, .int .u8 0, .int .u8 0, .int .u8 0, .int .u8 0, .int .u8 0, .int .u8 0, .int .u8 0, .int .u8 0, .int .u8 0, .int .u8 0, .int .u8 0, .int .u8 0, .int .u8 0, .int .u8 0, .int .u8 0, .int .u8 0, .int .u8 0, .int .u8 0, .int .u8 0, .int .u8 0, .int .u8 0, .int .u8 0, .int .u8 0, .int .u8 0, .int .u8 0, .int .u8 0] 40)).alloc (.cells #[.int .u8 0, .int .u8 0, .int .u8 0, .int .u8 0, .int .u8 0, .int .u8 0, .int .u8 0, .int .u8 0, .int .u8 0, .int .u8 0, .int .u8 0, .int .u8 0, .int .u8 0, .int .u8 0, .int .u8 0, .int .u8 0, .int .u8 0, .int .u8 0, .int .u8 0, .int .u8 0, .int .u8 0, .int .u8 0, .int .u8 0, .int .u8 0, .int .u8 0, .int .u8 0, .int .u8 0, .int .u8 0, .int .u8 0, .int .u8 0, .int .u8 0, .int .u8 0] 40) := hw2
  rw [← hw3]
  clear hw2 hw3
  refine wp_region_tellR (DgR (w.heap.size + 1) ((lb s).take 32)) ⟨(Keep.refl _ _).drew, id, fun cs h1 h2 => ⟨cs, h1, h2⟩⟩ DgR.trans 12 (by kernel_rfl) (by kernel_rfl) (dgB r (w.heap.size + 1) s) (dgB_stab r (w.heap.size + 1) s) ?_ ?_
  · intro i o a w' hlt hi hb he hd
    have e0 : a.eval (.tmp 0) = .pointer (some ⟨r, 0, none⟩) := hb.outer 0 (by kernel_rfl)
    have e3 : a.eval (.tmp 3) = .pointer (some ⟨w.heap.size + 1, 0, none⟩) := hb.outer 3 (by kernel_rfl)
    have hc : w'.cell? ⟨r, 0, none⟩ = some (.string s) := (HB.out.keep he.1 HNE.out.1).cell 0
    rcases i with _ | _ | _ | _ | _ | _ | _ | _ | _ | _ | _ | _ | i
    · obtain rfl := Option.some.inj hi
      refine tellR_val (.pointer (some ⟨r, 0, none⟩)) w' ?_ (DgR.refl _ _ _) rfl
      have ec : ∀ v, a.eval (.const v) = v := fun _ => rfl
      generalize a.eval = ρ at *
      simp [go_sem, ec, e0]
    · obtain rfl := Option.some.inj hi
      refine tellR_val (.pointer (some ⟨r, 0, none⟩)) w' ?_ (DgR.refl _ _ _) rfl
      have ec : ∀ v, a.eval (.const v) = v := fun _ => rfl
      generalize a.eval = ρ at *
      simp [go_sem, ec, e0]
    · obtain rfl := Option.some.inj hi
      have h5 : a.eval (.tmp 5) = _ := hd ⟨1, .data⟩ (by simp) rfl
      refine tellR_val (.pointer (some ⟨r, 0, none⟩)) w' ?_ (DgR.refl _ _ _) rfl
      have ec : ∀ v, a.eval (.const v) = v := fun _ => rfl
      generalize a.eval = ρ at *
      simp [go_sem, ec, h5]
    · obtain rfl := Option.some.inj hi
      have h6 : a.eval (.tmp 6) = _ := hd ⟨2, .data⟩ (by simp) rfl
      refine tellR_val (.pointer (some ⟨r, 0, none⟩)) w' ?_ (DgR.refl _ _ _) rfl
      have ec : ∀ v, a.eval (.const v) = v := fun _ => rfl
      generalize a.eval = ρ at *
      simp [go_sem, ec, h6]
    · obtain rfl := Option.some.inj hi
      have h7 : a.eval (.tmp 7) = _ := hd ⟨3, .data⟩ (by simp) rfl
      refine tellR_val (.string s) w' ?_ (DgR.refl _ _ _) rfl
      have ec : ∀ v, a.eval (.const v) = v := fun _ => rfl
      generalize a.eval = ρ at *
      simp [go_sem, ec, h7, hc]
    · obtain rfl := Option.some.inj hi
      refine tellR_val (.slice (some ⟨w.heap.size + 1, 0, none⟩) 32 32) w' ?_ (DgR.refl _ _ _) rfl
      have ec : ∀ v, a.eval (.const v) = v := fun _ => rfl
      generalize a.eval = ρ at *
      simp [go_sem, ec, e3]
    · obtain rfl := Option.some.inj hi
      refine tellR_val (.pointer (some ⟨r, 0, none⟩)) w' ?_ (DgR.refl _ _ _) rfl
      have ec : ∀ v, a.eval (.const v) = v := fun _ => rfl
      generalize a.eval = ρ at *
      simp [go_sem, ec, e0]
    · obtain rfl := Option.some.inj hi
      have h10 : a.eval (.tmp 10) = _ := hd ⟨6, .data⟩ (by simp) rfl
      refine tellR_val (.pointer (some ⟨r, 0, none⟩)) w' ?_ (DgR.refl _ _ _) rfl
      have ec : ∀ v, a.eval (.const v) = v := fun _ => rfl
      generalize a.eval = ρ at *
      simp [go_sem, ec, h10]
    · obtain rfl := Option.some.inj hi
      have h11 : a.eval (.tmp 11) = _ := hd ⟨7, .data⟩ (by simp) rfl
      refine tellR_val (.pointer (some ⟨r, 0, none⟩)) w' ?_ (DgR.refl _ _ _) rfl
      have ec : ∀ v, a.eval (.const v) = v := fun _ => rfl
      generalize a.eval = ρ at *
      simp [go_sem, ec, h11]
    · obtain rfl := Option.some.inj hi
      have h12 : a.eval (.tmp 12) = _ := hd ⟨8, .data⟩ (by simp) rfl
      refine tellR_val (.string s) w' ?_ (DgR.refl _ _ _) rfl
      have ec : ∀ v, a.eval (.const v) = v := fun _ => rfl
      generalize a.eval = ρ at *
      simp [go_sem, ec, h12, hc]
    · obtain rfl := Option.some.inj hi
      have h9 : a.eval (.tmp 9) = _ := hd ⟨5, .data⟩ (by simp) rfl
      have h13 : a.eval (.tmp 13) = _ := hd ⟨9, .data⟩ (by simp) rfl
      obtain ⟨cs, hcs, hsz⟩ := he.2.2 zs32.toArray HD.out rfl
      have hrun := run_copy_long (P := Tryz.prog) w' 62 9 3 5 (w.heap.size + 1) 0 32 32 s cs 40 Tryz.underlying62 (by kernel_rfl) hcs H8.out (by omega)
      have hpc : putC cs 0 ((lb s).take 32) = (bcells ((lb s).take 32)).toArray := putC_all (by rw [HL.out, hsz])
      rw [hpc] at hrun
      have hB' : Blk (w'.setRow (w.heap.size + 1) (bcells ((lb s).take 32)).toArray) (w.heap.size + 1) 40 (bcells ((lb s).take 32)).toArray := setRow_heap w' _ _ _ _ _ hcs
      refine tellR_val (.int .i64 32) _ ?_ ⟨keep_setRow _ _ _, fun _ => hB', fun _ _ _ => ⟨_, hB', by simp [HLc.out]⟩⟩ ⟨rfl, hB'⟩
      simp only [execOp, resolve, invoke, builtin, Sem.run_bind, Sem.run_pure, Result.andThen_ok, List.map_toArray, List.map_cons, List.map_nil, h9, h13, hrun]
      rfl
    · obtain rfl := Option.some.inj hi
      have h8 : a.eval (.tmp 8) = _ := hd ⟨4, .data⟩ (by simp) rfl
      have h14 : a.eval (.tmp 14) = _ := (hd ⟨10, .data⟩ (by simp) rfl).1
      refine tellR_val (.string (s.extract 32 s.size)) w' ?_ (DgR.refl _ _ _) (congrArg Value.string HX.out.symm)
      have hb1 : (32 : Int) ≤ s.size := by have := H8.out; omega
      have ec : ∀ v, a.eval (.const v) = v := fun _ => rfl
      generalize a.eval = ρ at *
      simp [go_sem, ec, h8, h14, hb1, H8.out]
    · omega
  · intro a w3 hb he hA
    have h4 : a.eval (.tmp 4) = .pointer (some ⟨r, 0, none⟩) := hA 0 (by decide)
    have h15 : a.eval (.tmp 15) = .string (bs ((lb s).drop 32)) := hA 11 (by decide)
    have hD3 : Blk w3 (w.heap.size + 1) 40 (bcells ((lb s).take 32)).toArray := (hA 10 (by decide)).2
    have h0 : a.eval (.tmp 0) = .pointer (some ⟨r, 0, none⟩) := hb.outer 0 (by kernel_rfl)
    have h2 : a.eval (.tmp 2) = .pointer (some ⟨w.heap.size, 0, none⟩) := hb.outer 2 (by kernel_rfl)
    have h3 : a.eval (.tmp 3) = .pointer (some ⟨w.heap.size + 1, 0, none⟩) := hb.outer 3 (by kernel_rfl)
    rw [act_lit (n := 19) hb.size, hb.defers]
    simp only [show List.range 19 = [0, 1, 2, 3, 4, 5, 6, 7, 8, 9, 10, 11, 12, 13, 14, 15, 16, 17, 18] from rfl, List.map_cons, List.map_nil, h0, h2, h3, h4, h15, List.drop_succ_cons, List.drop_zero]
    have HB3 := Lib.hid (HB.out.keep he.1 HNE.out.1)
    have HR3 := Lib.hid (HR.out.keep he.1 (by simp [One]))
    have HD3 := Lib.hid hD3
    have HE3 := Lib.hid (HE.out.keep he.1 (fun i hi => by cases hi; exact Nat.le_succ _))
    have hc : w3.cell? ⟨r, 0, none⟩ = some (.string s) := HB3.out.cell 0
    have hf : w3.frozen? ⟨r, 0, none⟩ = false := HB3.out.frozen 0
    clear hA h0 h2 h3 h4 h15 hb he hD3
    generalize a.eval = ρ
    generalize hz : bs ((lb s).drop 32) = z at *
    have HZ := Lib.hid hz
    clear hz
    obtain ⟨w4, hw4⟩ : ∃ w4, w4 = w3.setCell ⟨r, 0, none⟩ (.string z) := ⟨_, rfl⟩
    have HB4 := Lib.hid (show Blk w4 r 146 #[.string z] from by rw [hw4]; exact HB3.out.set 0 _)
    have HR4 := Lib.hid (show Blk w4 w.heap.size 40 zs32.toArray from by rw [hw4]; exact HR3.out.far (by have := HNE.out.2; simp; omega) _)
    have HD4 := Lib.hid (show Blk w4 (w.heap.size + 1) 40 (bcells ((lb s).take 32)).toArray from by rw [hw4]; exact HD3.out.far (by have := HNE.out.1; simp; omega) _)
    have HK4 := Lib.hid (show Keep (One r) w w4 from by rw [hw4]; exact (Keep.of_ext HE3.out).setIn (One.self r) 0 _)
    go_wp2_with (first | (have hg := HB4; rw [← hw4]; clear hw4) | (have hg := HB4; refine wpList_load_blk rfl 40 (.tmp 3) rfl (w.heap.size + 1) 40 (bcells ((lb s).take 32)) rfl HD4.out _ Tryz.underlying40 rfl (by rw [HLc.out]; exact HI.out) ?_; go_loud (refine wpList_store_blk rfl 40 (.tmp 2) (.tmp 18) rfl w.heap.size 40 zs32 (bcells ((lb s).take 32)) rfl rfl HR4.out (by rw [HLc.out]; rfl) (by rw [HLc.out]; exact HI.out) (bcells_one _) ?_); intro w5 hB5 hK5; have HB5 := Lib.hid (And.intro hB5 (And.intro (HB4.out.keep hK5 (by have := HNE.out.2; simp [One]; omega)) (HK4.out.then hK5 (fun i hi => by cases hi; exact Or.inr (Nat.le_refl _))))); clear hB5 hK5))
    exact bodyPost_ret (results_blk (t := 0) rfl _ w.heap.size rfl HB5.out.1 Tryz.underlying40 rfl (by rw [HLc.out]; exact HI.out)) rfl ⟨rfl, by rw [HZ.out]; exact HB5.out.2⟩
end Go.Proofs.YtnkebhlkhpgghaaGreatDoor
/- header.GetSuper: the walk. -/
namespace Go.Proofs.YtnkebhlkhpgghaaGreatDoor
open Go Go.RowKit Go.Deep Go.Sort

def sp0 : Sp := ⟨0, 0, 0, List.replicate 32 0, 0, 0, 0, List.replicate 32 0⟩
theorem sp0_cells : sp0.cells = zs70 := rfl
def spOf (l : Bytes) : Sp := ⟨be 0 (l.take 8), be 0 ((l.drop 8).take 8), be 0 ((l.drop 16).take 8), (l.drop 48).take 32, be 0 ((l.drop 24).take 8), be 0 ((l.drop 32).take 8), be 0 ((l.drop 40).take 8), (l.drop 80).take 32⟩
def rd1 (l : Bytes) : Bytes := (l.drop 1).take 112
def getSuper (l : Bytes) : Sp × Int :=
  if l.length < 226 then (sp0, 4) else if l.headD 0 ≠ 83 then (sp0, 3) else if l.take 113 ≠ (l.drop 113).take 113 then (sp0, 10) else (spOf (rd1 l), 0)

set_option maxRecDepth 8000 in
set_option maxHeartbeats 800000 in
theorem getSuperShort_any (s : ByteArray) (w : World) (h : s.size < 226) : Calls Tryz.prog 59 #[.string s] w (Ret (.tuple #[.agg zs70.toArray, .int .i64 4]) w) := by
  have HX := Lib.hid sp_info
  obtain ⟨w1, hw⟩ : ∃ w1, w1 = w.alloc (.cells Tryz.zeroCells42 42) := ⟨_, rfl⟩
  have HE := Lib.hid (show Ext w w1 from by rw [hw]; exact (Ext.refl w).alloc _)
  have HZ := Lib.hid (show Blk w1 w.heap.size 42 zs70.toArray from by rw [hw, ← zc_sp]; exact Blk.new _ _ _)
  go_enter Tryz.func59, Tryz.ntmps59
  go_wp2_with (first | (have hg := HZ; rw [← hw]; clear hw) | (have hg := HZ; refine Great.wpList_readTo rfl (some 9) rfl (.agg zs70.toArray) (by kernel_rfl) ?_; refine wpList_store_blk rfl 42 (.tmp 2) (.tmp 9) rfl w.heap.size 42 zs70 zs70 rfl rfl HZ.out rfl HX.out (by decide) ?_; intro w2 hB2 hK2; have HB2 := Lib.hid hB2; have HE2 := Lib.hid (HE.out.keep hK2 (fun i hi => by cases hi; exact Nat.le_refl _)); clear hB2 hK2))
  exact bodyPost_ret (results_blk_tmp rfl _ w.heap.size rfl HB2.out Tryz.underlying42 rfl HX.out) rfl ⟨rfl, HE2.out⟩
set_option maxRecDepth 8000 in
set_option maxHeartbeats 800000 in
theorem getSuperMark_any (s : ByteArray) (w : World) (h : ¬ s.size < 226) (h2 : s.size ≤ 140737488355328) (h0 : ((((s[0]'(by omega)).toNat : Int)) != 83) = true) : Calls Tryz.prog 59 #[.string s] w (Ret (.tuple #[.agg zs70.toArray, .int .i64 3]) w) := by
  have HX := Lib.hid sp_info
  obtain ⟨w1, hw⟩ : ∃ w1, w1 = w.alloc (.cells Tryz.zeroCells42 42) := ⟨_, rfl⟩
  have HE := Lib.hid (show Ext w w1 from by rw [hw]; exact (Ext.refl w).alloc _)
  have HZ := Lib.hid (show Blk w1 w.heap.size 42 zs70.toArray from by rw [hw, ← zc_sp]; exact Blk.new _ _ _)
  have h1 : 0 < s.size := by omega
  go_enter Tryz.func59, Tryz.ntmps59
  go_wp2_with (first | (have hg := HZ; rw [← hw]; clear hw) | (have hg := HZ; refine Great.wpList_readTo rfl (some 13) rfl (.agg zs70.toArray) (by kernel_rfl) ?_; refine wpList_store_blk rfl 42 (.tmp 2) (.tmp 13) rfl w.heap.size 42 zs70 zs70 rfl rfl HZ.out rfl HX.out (by decide) ?_; intro w2 hB2 hK2; have HB2 := Lib.hid hB2; have HE2 := Lib.hid (HE.out.keep hK2 (fun i hi => by cases hi; exact Nat.le_refl _)); clear hB2 hK2))
  exact bodyPost_ret (results_blk_tmp rfl _ w.heap.size rfl HB2.out Tryz.underlying42 rfl HX.out) rfl ⟨rfl, HE2.out⟩
set_option maxRecDepth 8000 in
set_option maxHeartbeats 800000 in
theorem getSuperSum_any (s : ByteArray) (w : World) (h : ¬ s.size < 226) (h2 : s.size ≤ 140737488355328) (h0 : ((((s[0]'(by omega)).toNat : Int)) != 83) = false) (h3 : ((s.extract 0 113).toList == (s.extract 113 226).toList) = false) : Calls Tryz.prog 59 #[.string s] w (Ret (.tuple #[.agg zs70.toArray, .int .i64 10]) w) := by
  have HX := Lib.hid sp_info
  obtain ⟨w1, hw⟩ : ∃ w1, w1 = w.alloc (.cells Tryz.zeroCells42 42) := ⟨_, rfl⟩
  have HE := Lib.hid (show Ext w w1 from by rw [hw]; exact (Ext.refl w).alloc _)
  have HZ := Lib.hid (show Blk w1 w.heap.size 42 zs70.toArray from by rw [hw, ← zc_sp]; exact Blk.new _ _ _)
  have h1 : 0 < s.size := by omega
  have b1 : (226 : Int) ≤ s.size := by omega
  go_enter Tryz.func59, Tryz.ntmps59
  go_wp2_with (first | (have hg := HZ; rw [← hw]; clear hw))
  go_quiet (fail)
  go_wp2_with (first | (have hg := HZ; refine Great.wpList_readTo rfl (some 19) rfl (.agg zs70.toArray) (by kernel_rfl) ?_; refine wpList_store_blk rfl 42 (.tmp 2) (.tmp 19) rfl w.heap.size 42 zs70 zs70 rfl rfl (HZ.out.drewN _) rfl HX.out (by decide) ?_; intro w2 hB2 hK2; have HB2 := Lib.hid hB2; have HE2 := Lib.hid ((HE.out.drewN _).keep hK2 (fun i hi => by cases hi; exact Nat.le_refl _)); clear hB2 hK2))
  exact bodyPost_ret (results_blk_tmp rfl _ w.heap.size rfl HB2.out Tryz.underlying42 rfl HX.out) rfl ⟨rfl, HE2.out⟩

def r32 : List Value := List.replicate 32 (.int .u8 0)
def spA (l : Bytes) : List Value := [.int .u64 (be 0 (l.take 8)), .int .u64 (be 0 ((l.drop 8).take 8)), .int .u64 (be 0 ((l.drop 16).take 8))]
def spB (l : Bytes) : List Value := [.int .u64 (be 0 ((l.drop 24).take 8)), .int .u64 (be 0 ((l.drop 32).take 8)), .int .u64 (be 0 ((l.drop 40).take 8))]
theorem eachC_sp (l : Bytes) : eachC zs70.toArray [0, 1, 2, 35, 36, 37] l = (spA l ++ r32 ++ (spB l ++ r32)).toArray := by
  simp only [eachC, List.drop_drop]
  rfl
theorem spOf_cells (l : Bytes) : (spOf l).cells = spA l ++ bcells ((l.drop 48).take 32) ++ (spB l ++ bcells ((l.drop 80).take 32)) := rfl
set_option maxRecDepth 8000 in
set_option maxHeartbeats 1600000 in
theorem getSuperYes_any (s : ByteArray) (w : World) (h : ¬ s.size < 226) (h2 : s.size ≤ 140737488355328) (h0 : ((((s[0]'(by omega)).toNat : Int)) != 83) = false) (h3 : ((s.extract 0 113).toList == (s.extract 113 226).toList) = true) : Calls Tryz.prog 59 #[.string s] w (Ret (.tuple #[.agg (spOf (rd1 (lb s))).cells.toArray, .int .i64 0]) w) := by
  have HX := Lib.hid sp_info
  have HDI := Lib.hid dg_info
  obtain ⟨w1, hw⟩ : ∃ w1, w1 = w.alloc (.cells Tryz.zeroCells42 42) := ⟨_, rfl⟩
  have HE := Lib.hid (show Ext w w1 from by rw [hw]; exact (Ext.refl w).alloc _)
  have HZ := Lib.hid (show Blk w1 w.heap.size 42 zs70.toArray from by rw [hw, ← zc_sp]; exact Blk.new _ _ _)
  have h1 : 0 < s.size := by omega
  have b1 : (226 : Int) ≤ s.size := by omega
  have HL := Lib.hid (show lb (s.extract 1 113) = rd1 (lb s) from by rw [lb_extract]; rfl)
  have HSZ := Lib.hid (show (s.extract 1 113).size = 112 from by simp; omega)
  go_enter Tryz.func59, Tryz.ntmps59
  go_wp2_with (first | (have hg := HZ; rw [← hw]; clear hw))
  go_quiet (fail)
  go_wp2_with fail
  generalize s.extract 1 113 = s1 at *
  have HL0 := Lib.hid (show (lb s1).length = 112 from by have := HSZ.out; rw [lb_length]; omega)
  have HA := Lib.hid (show (bcells ((lb s1).drop 48 |>.take 32)).length = 32 from by rw [bcells_length, List.length_take, List.length_drop, HL0.out]; rfl)
  have HC := Lib.hid (show (bcells ((lb s1).drop 80 |>.take 32)).length = 32 from by rw [bcells_length, List.length_take, List.length_drop, HL0.out]; rfl)
  have HSL := Lib.hid (show (spOf (lb s1)).cells.length = 70 from by rw [spOf_cells]; simp only [List.length_append, HA.out, HC.out]; rfl)
  have hk1 := HE.out.size
  have hk2 : w.heap.size < w1.heap.size := HZ.out.lt
  go_wp2_with (first
    | (go_at_call 87; (refine (each_any (w1.heap.size + 1) w1.heap.size (w1.heap.size + 1 + 1) 42 [0, 1, 2, 35, 36, 37] zs70.toArray s1 _ ((Blk.new' (by simp)).alloc _) (by rw [← zc_sp]; exact ((Blk.new' (by simp)).alloc _).alloc _) (Blk.new' (by simp)) (by omega) (by omega) (by omega) (by decide) (by have := HSZ.out; simp; omega) (by have := HSZ.out; omega)).mono ?_; rintro e w3 ⟨rfl, hR3, hX3, hK3⟩; rw [eachC_sp] at hX3; have HR3 := Lib.hid hR3; have HX3 := Lib.hid hX3; have hE3 := ((((Ext.refl w1).drewN nq).alloc (.cells Tryz.zeroCells42 42)).alloc (.cells #[.string s1] 146)).alloc (.cells #[.pointer (some ⟨w1.heap.size, 0, none⟩), .pointer (some ⟨w1.heap.size, 1, none⟩), .pointer (some ⟨w1.heap.size, 2, none⟩), .pointer (some ⟨w1.heap.size, 35, none⟩), .pointer (some ⟨w1.heap.size, 36, none⟩), .pointer (some ⟨w1.heap.size, 37, none⟩)] 149); have HE3 := Lib.hid (hE3.keep hK3 (fun i hi => by rcases hi with rfl | rfl <;> omega)); clear hR3 hX3 hK3 hE3))
    | (have hg := HX7; refine wpList_load_blk rfl 42 (.tmp 4) rfl w1.heap.size 42 (spOf (lb s1)).cells rfl HX7.out _ Tryz.underlying42 rfl (by rw [HSL.out]; exact HX.out) ?_; (refine wpList_store_blk rfl 42 (.tmp 2) (.tmp 39) rfl w.heap.size 42 zs70 (spOf (lb s1)).cells rfl rfl (HZ.out.ext HE7.out) (by rw [HSL.out]; rfl) (by rw [HSL.out]; exact HX.out) (Sp.cells_one _) ?_; intro w8 hB8 hK8; have HB8 := Lib.hid hB8; have HE8 := Lib.hid ((HE.out.trans HE7.out).keep hK8 (fun i hi => by cases hi; exact Nat.le_refl _)); clear hB8 hK8))
    | (have hg := HX6; (refine wpList_store_part rfl 40 (.tmp 38) (.tmp 37) rfl w1.heap.size 42 (spA (lb s1) ++ bcells ((lb s1).drop 48 |>.take 32) ++ spB (lb s1)) r32 [] (bcells ((lb s1).drop 80 |>.take 32)) (by rw [show (spA (lb s1) ++ bcells ((lb s1).drop 48 |>.take 32) ++ spB (lb s1)).length = 38 from by simp only [List.length_append, HA.out]; rfl]; rfl) rfl (by simpa using HX6.out) (by rw [HC.out]; rfl) (by rw [HC.out]; exact HDI.out) (bcells_one _) ?_; intro w7 hX7 hK7; have HX7 := Lib.hid (show Blk w7 w1.heap.size 42 (spOf (lb s1)).cells.toArray from by rw [spOf_cells]; simpa using hX7); have HE7 := Lib.hid (HE6.out.keep hK7 (fun i hi => by cases hi; exact Nat.le_refl _)); clear hX7 hK7))
    | (have hg := HX5; go_at_call 89; (refine (readDigest_any (w1.heap.size + 1) _ _ HR5.out (by rw [bs_size, List.length_drop, HL0.out]; omega) (by rw [bs_size, List.length_drop, HL0.out]; omega)).mono ?_; rintro e w6 ⟨rfl, hR6, hK6⟩; rw [lb_bs]; have HX6 := Lib.hid (HX5.out.keep hK6 (by simp [One])); have HE6 := Lib.hid (HE5.out.keep hK6 (fun i hi => by cases hi; omega)); clear hR6 hK6))
    | (have hg := HX4; (refine wpList_store_part rfl 40 (.tmp 35) (.tmp 34) rfl w1.heap.size 42 (spA (lb s1)) r32 (spB (lb s1) ++ r32) (bcells ((lb s1).drop 48 |>.take 32)) rfl rfl HX4.out (by rw [HA.out]; rfl) (by rw [HA.out]; exact HDI.out) (bcells_one _) ?_; intro w5 hX5 hK5; have HX5 := Lib.hid hX5; have HR5 := Lib.hid (HR4.out.keep hK5 (by simp [One])); have HE5 := Lib.hid (HE4.out.keep hK5 (fun i hi => by cases hi; exact Nat.le_refl _)); clear hX5 hK5))
    | (go_at_call 89; (refine (readDigest_any (w1.heap.size + 1) _ _ HR3.out (by rw [bs_size, List.length_drop, HL0.out]; decide) (by rw [bs_size, List.length_drop, HL0.out]; decide)).mono ?_; rintro e w4 ⟨rfl, hR4, hK4⟩; rw [lb_bs] at hR4 ⊢; rw [List.drop_drop] at hR4; have HR4 := Lib.hid (show Blk w4 (w1.heap.size + 1) 146 #[.string (bs ((lb s1).drop 80))] from hR4); have HX4 := Lib.hid (HX3.out.keep hK4 (by simp [One])); have HE4 := Lib.hid (HE3.out.keep hK4 (fun i hi => by cases hi; omega)); clear hR4 hK4))
    )
  rw [← HL.out]
  exact bodyPost_ret (results_blk_tmp rfl _ w.heap.size rfl HB8.out Tryz.underlying42 rfl (by rw [HSL.out]; exact HX.out)) rfl ⟨rfl, HE8.out⟩
theorem lb_head {s : ByteArray} (h : 0 < s.size) : (lb s).headD 0 = s[0] := by
  rw [List.headD_eq_head?_getD, List.head?_eq_getElem?]
  have h1 : 0 < (lb s).length := by rw [lb_length]; exact h
  rw [List.getElem?_eq_getElem h1]
  rfl
theorem getSuper_any (s : ByteArray) (w : World) (hs : s.size ≤ 140737488355328) : Calls Tryz.prog 59 #[.string s] w (Ret (.tuple #[.agg (getSuper (lb s)).1.cells.toArray, .int .i64 (getSuper (lb s)).2]) w) := by
  unfold getSuper
  by_cases h : s.size < 226
  · rw [if_pos (by rw [lb_length]; exact h)]
    exact getSuperShort_any s w h
  · rw [if_neg (by rw [lb_length]; exact h), lb_head (by omega)]
    by_cases h0 : ((((s[0]'(by omega)).toNat : Int)) != 83) = true
    · rw [if_pos (by intro hh; rw [hh] at h0; exact absurd h0 (by decide))]
      exact getSuperMark_any s w h hs h0
    · have h0' : ((((s[0]'(by omega)).toNat : Int)) != 83) = false := by simpa using h0
      have h83 : s[0]'(by omega) = 83 := by
        apply UInt8.toNat_inj.1
        have := by simpa using h0
        show _ = 83
        omega
      rw [if_neg (by rw [h83]; simp)]
      have he : (lb s).take 113 = (s.extract 0 113).toList ∧ ((lb s).drop 113).take 113 = (s.extract 113 226).toList := by
        constructor
        · rw [Lib.extract_toList]; rfl
        · rw [Lib.extract_toList]; rfl
      rw [he.1, he.2]
      by_cases h3 : (s.extract 0 113).toList = (s.extract 113 226).toList
      · rw [if_neg (by simpa using h3)]
        exact getSuperYes_any s w h hs h0' (by simpa using h3)
      · rw [if_pos h3]
        exact getSuperSum_any s w h hs h0' (by simpa using h3)
end Go.Proofs.YtnkebhlkhpgghaaGreatDoor
/- The steps of a quiet walk that the kit's step does not do by itself: whole rows, struct comparisons. Over any program. -/
namespace Go.Proofs.YtnkebhlkhpgghaaGreatDoor
open Go Go.RowKit Go.Sort
section
variable {P : Program} {C : World → Prop} {K : Act → Prop} {a : Act} {o : Oper}
theorem q_run (v : Value) (hr : ∀ w', C w' → (execOp a.eval o).run P w' = .ok (.value v) w') (hk : K (a.put o.dst v)) : o.quiet P a C K :=
  ⟨v, fun w' hw' => by unfold Oper.quietAt; rw [hr w' hw']; exact ⟨rfl, rfl⟩, hk⟩
theorem q_load_mid (ty : TypeId) (x : Operand) (ho : o.op = .load ty x) (g off : Nat) (B : List Value) (hx : a.eval x = .pointer (some ⟨g, off, none⟩)) (hB : ∀ w', C w' → w'.rangeAt g off B)
    (d : TypeDesc) (hu : P.underlying ty = some d) (hd : d.isRow = true) (hi : (P.info? ty).map (·.size) = some B.length) (hk : K (a.put o.dst (.agg B.toArray))) : o.quiet P a C K := by
  refine q_run (.agg B.toArray) (fun w' hw' => ?_) hk
  simp only [execOp, ho, Instr.loadAt, hx, Instr.sureAddr, Sem.run_bind, Sem.run_pure, Result.andThen_ok, run_loadVar_mid w' g off ty B d (hB w' hw') hu hd hi]
theorem q_load_blk (ty : TypeId) (x : Operand) (ho : o.op = .load ty x) (g : Nat) (t : TypeId) (B : List Value) (hx : a.eval x = .pointer (some ⟨g, 0, none⟩)) (hB : ∀ w', C w' → Blk w' g t B.toArray)
    (d : TypeDesc) (hu : P.underlying ty = some d) (hd : d.isRow = true) (hi : (P.info? ty).map (·.size) = some B.length) (hk : K (a.put o.dst (.agg B.toArray))) : o.quiet P a C K :=
  q_load_mid ty x ho g 0 B hx (fun w' hw' => Blk.rangeAt (A := []) (B := B) (C := []) (by simpa using hB w' hw')) d hu hd hi hk
/-- A comparison. -/
theorem q_bin (op : BinOp) (t : TypeId) (x y : Operand) (ty : TypeId) (ho : o.op = .binOp op t x y ty) (u v r : Value) (hx : a.eval x = u) (hy : a.eval y = v) (hg : ∀ w', (eqGuard op t x y u v).run P w' = .ok () w') (hr : ∀ w', (binOp op t u v).run P w' = .ok r w') (hk : K (a.put o.dst r)) : o.quiet P a C K := by
  refine q_run r (fun w' hw' => ?_) hk
  simp only [execOp, ho, hx, hy, Sem.run_bind, hg, hr, Result.andThen_ok, Sem.run_pure]
theorem q_field (ty : TypeId) (x : Operand) (i : Nat) (ho : o.op = .field ty x i) (u v : Value) (hx : a.eval x = u) (hr : ∀ w', (Instr.field ty u i).run P w' = .ok v w') (hk : K (a.put o.dst v)) : o.quiet P a C K := by
  refine q_run v (fun w' hw' => ?_) hk
  simp only [execOp, ho, hx, Sem.run_bind, hr, Result.andThen_ok, Sem.run_pure]
end
end Go.Proofs.YtnkebhlkhpgghaaGreatDoor
/- slots: choice, Read: the walks. -/
namespace Go.Proofs.YtnkebhlkhpgghaaGreatDoor
open Go Go.RowKit Go.Deep Go.Sort

set_option maxRecDepth 8000 in
set_option maxHeartbeats 800000 in
theorem newer_any (x y : Sp) (w : World) : Calls Tryz.prog 58 #[.agg x.cells.toArray, .agg y.cells.toArray] w (Ret (.bool (decide (y.epoch < x.epoch))) w) := by
  obtain ⟨w1, hw⟩ : ∃ w1, w1 = (w.alloc (.cells x.cells.toArray 42)).alloc (.cells y.cells.toArray 42) := ⟨_, rfl⟩
  have HE := Lib.hid (show Ext w w1 from by rw [hw]; exact ((Ext.refl w).alloc _).alloc _)
  have c0 : w1.cell? ⟨w.heap.size, 0, none⟩ = some (.int .u64 x.epoch) := by rw [hw]; exact ((Blk.new _ _ _).alloc _).cell 0
  have c1 : w1.cell? ⟨w.heap.size + 1, 0, none⟩ = some (.int .u64 y.epoch) := by rw [hw]; exact (Blk.new' (n := w.heap.size + 1) (by simp)).cell 0
  generalize x.cells = xs at *
  generalize y.cells = ys at *
  go_enter Tryz.func58, Tryz.ntmps58
  go_wp2_with (first | (have hg := c0; rw [← hw]; clear hw))
  go_ret
  exact ⟨rfl, HE.out⟩
def chCells (b : Sp) (k : Bool) : List Value := [.func (.func 58) #[] #[]] ++ b.cells ++ [.bool k]
def better (x b : Sp) (k : Bool) : Bool := !k || decide (b.epoch < x.epoch)
def chAfter (b x : Sp) (k : Bool) : List Value := chCells (if better x b k then x else b) (k || better x b k)
theorem ch_some {b : Sp} (h : b.cells.length = 70) (k : Bool) : (chCells b k).toArray[71]? = some (.bool k) := by
  rw [List.getElem?_toArray, chCells, List.getElem?_append_right (by simp [h])]
  simp [h]
theorem ch_set {b : Sp} (h : b.cells.length = 70) (k k' : Bool) : (chCells b k).toArray.setIfInBounds 71 (.bool k') = (chCells b k').toArray := by
  simp only [chCells, List.setIfInBounds_toArray]
  rw [List.set_append_right _ _ (by simp [h])]
  simp [h]
set_option maxRecDepth 8000 in
set_option maxHeartbeats 1600000 in
theorem offer_any (c : Nat) (b x : Sp) (k : Bool) (w : World) (hb : b.In) (hx : x.In) (hB : Blk w c 120 (chCells b k).toArray) :
    Calls Tryz.prog 60 #[.pointer (some ⟨c, 0, none⟩), .agg x.cells.toArray] w fun e w' => e = .returned (.tuple #[]) ∧ Blk w' c 120 (chAfter b x k).toArray ∧ Keep (One c) w w' := by
  have HBL := Lib.hid (Sp.cells_length hb)
  have HXL := Lib.hid (Sp.cells_length hx)
  have HI := Lib.hid sp_info
  have HC := Lib.hid hB
  have HLT := Lib.hid hB.lt
  obtain ⟨w1, hw⟩ : ∃ w1, w1 = w.alloc (.cells x.cells.toArray 42) := ⟨_, rfl⟩
  have HE := Lib.hid (show Ext w w1 from by rw [hw]; exact (Ext.refl w).alloc _)
  have HX1 := Lib.hid (show Blk w1 w.heap.size 42 x.cells.toArray from by rw [hw]; exact Blk.new _ _ _)
  have HC1 := Lib.hid (HC.out.ext HE.out)
  have r0 := cell_regrown (show w1.cell? ⟨c, 0, none⟩ = some (.func (.func 58) #[] #[]) from HC1.out.cell 0)
  have r1 := cell_regrown (show w1.cell? ⟨c, 71, none⟩ = some (.bool k) from (HC1.out.cell 71).trans (ch_some HBL.out k))
  clear hB hb hx
  go_enter Tryz.func60, Tryz.ntmps60
  go_wp2_with (first | (have hg := HX1; rw [← hw]; clear hw))
  cases k
  · have HDD := Lib.hid (rfl : true = true)
    refine wp_region_tail (C := fun w' => ∃ p : Regrown, w' = grow (redrawn w1 p.d) p.os) 16 (by kernel_rfl) (by kernel_rfl) (regrown_start w1) ?_
    simp only [List.take_succ_cons, List.take_zero, List.drop_succ_cons, List.drop_zero]
    repeat (go_big_quiet_step (fail))
    refine wpQuiet_nil ?_
    intro w3 hw3
    have HE3 := Lib.hid (HE.out.trans (regrown_ext hw3))
    have HX3 := Lib.hid (HX1.out.ext (regrown_ext hw3))
    have HC3 := Lib.hid (HC1.out.ext (regrown_ext hw3))
    clear hw3 r0 r1
    go_wp2_with (first
      | (have hg := HX3; refine wpList_load_blk rfl 42 (.tmp 3) rfl w.heap.size 42 x.cells rfl HX3.out _ Tryz.underlying42 rfl (by rw [HXL.out]; exact HI.out) ?_)
      | (have hg := HX3; refine wpList_store_part rfl 42 (.tmp 25) (.tmp 23) rfl c 120 [.func (.func 58) #[] #[]] b.cells [.bool false] x.cells rfl rfl HC3.out (by rw [HBL.out, HXL.out]) (by rw [HXL.out]; exact HI.out) (Sp.cells_one _) ?_; intro w4 hC4 hK4; have HC4 := Lib.hid (show Blk w4 c 120 (chCells x false).toArray from hC4); have f4 : w4.frozen? ⟨c, 71, none⟩ = false := HC4.out.frozen 71; have c4 : w4.cell? ⟨c, 71, none⟩ = some (.bool false) := (HC4.out.cell 71).trans (ch_some HXL.out false); have HK4 := Lib.hid ((Keep.of_ext HE3.out).trans hK4); clear hC4 hK4))
    go_end0
    exact ⟨rfl, by rw [show chAfter b x false = chCells x true from by simp [chAfter, better], ← ch_set HXL.out false true]; exact HC4.out.set 71 _, HK4.out.setIn (One.self c) 71 _⟩
  · rcases hd : decide (b.epoch < x.epoch) with _ | _
    all_goals
      have HN := Lib.hid (fun w' => newer_any x b w')
      rw [hd] at HN
      have HDD := Lib.hid hd
      clear hd
      refine wp_region_tail (C := fun w' => ∃ p : Regrown, w' = grow (redrawn w1 p.d) p.os) 16 (by kernel_rfl) (by kernel_rfl) (regrown_start w1) ?_
      simp only [List.take_succ_cons, List.take_zero, List.drop_succ_cons, List.drop_zero]
      iterate 10 go_big_quiet_step (fail)
      go_big_quiet_want
      refine q_load_blk 42 (.tmp 3) rfl w.heap.size 42 x.cells rfl (fun w' hw' => HX1.out.ext (regrown_ext hw')) _ Tryz.underlying42 rfl (by rw [HXL.out]; exact HI.out) ?_
      simp only [Act.put, List.setIfInBounds_toArray, List.set_cons_zero, List.set_cons_succ]
      go_big_quiet_on
      iterate 3 go_big_quiet_step (fail)
      go_big_quiet_want
      refine q_load_mid 42 (.tmp 17) rfl c 1 b.cells rfl (fun w' hw' => Blk.rangeAt (A := [.func (.func 58) #[] #[]]) (B := b.cells) (C := [.bool true]) (HC1.out.ext (regrown_ext hw'))) _ Tryz.underlying42 rfl (by rw [HBL.out]; exact HI.out) ?_
      simp only [Act.put, List.setIfInBounds_toArray, List.set_cons_zero, List.set_cons_succ]
      go_big_quiet_on
      go_big_quiet_step ((go_at_call 58; exact Calls.regrown_of (HN.out _)))
      refine wpQuiet_nil ?_
      intro w3 hw3
    · have HE3 := Lib.hid (HE.out.trans (regrown_ext hw3))
      have HC3 := Lib.hid (HC1.out.ext (regrown_ext hw3))
      clear hw3 r0 r1
      go_wp2_with fail
      go_end0
      exact ⟨rfl, by rw [show chAfter b x true = chCells b true from by simp only [chAfter, better, HDD.out]; rfl]; exact HC3.out, Keep.of_ext HE3.out⟩
    · have HE3 := Lib.hid (HE.out.trans (regrown_ext hw3))
      have HX3 := Lib.hid (HX1.out.ext (regrown_ext hw3))
      have HC3 := Lib.hid (HC1.out.ext (regrown_ext hw3))
      clear hw3 r0 r1
      go_wp2_with (first
        | (have hg := HX3; refine wpList_load_blk rfl 42 (.tmp 3) rfl w.heap.size 42 x.cells rfl HX3.out _ Tryz.underlying42 rfl (by rw [HXL.out]; exact HI.out) ?_)
        | (have hg := HX3; refine wpList_store_part rfl 42 (.tmp 25) (.tmp 23) rfl c 120 [.func (.func 58) #[] #[]] b.cells [.bool true] x.cells rfl rfl HC3.out (by rw [HBL.out, HXL.out]) (by rw [HXL.out]; exact HI.out) (Sp.cells_one _) ?_; intro w4 hC4 hK4; have HC4 := Lib.hid (show Blk w4 c 120 (chCells x true).toArray from hC4); have f4 : w4.frozen? ⟨c, 71, none⟩ = false := HC4.out.frozen 71; have c4 : w4.cell? ⟨c, 71, none⟩ = some (.bool true) := (HC4.out.cell 71).trans (ch_some HXL.out true); have HK4 := Lib.hid ((Keep.of_ext HE3.out).trans hK4); clear hC4 hK4))
      go_end0
      exact ⟨rfl, by rw [show chAfter b x true = chCells x true from by simp only [chAfter, better, HDD.out]; rfl, ← ch_set HXL.out true true]; exact HC4.out.set 71 _, HK4.out.setIn (One.self c) 71 _⟩
end Go.Proofs.YtnkebhlkhpgghaaGreatDoor
/- slots.Read: the walk. -/
namespace Go.Proofs.YtnkebhlkhpgghaaGreatDoor
open Go Go.RowKit Go.Deep Go.Sort

theorem be8_in (l : Bytes) : 0 ≤ be 0 (l.take 8) ∧ be 0 (l.take 8) < 18446744073709551616 := by
  refine ⟨be_nonneg (Int.le_refl 0) _, ?_⟩
  have h := be_lt (l.take 8)
  have hl : (l.take 8).length ≤ 8 := by rw [List.length_take]; omega
  generalize (l.take 8).length = n at h hl
  have hn : n = 0 ∨ n = 1 ∨ n = 2 ∨ n = 3 ∨ n = 4 ∨ n = 5 ∨ n = 6 ∨ n = 7 ∨ n = 8 := by omega
  rcases hn with rfl | rfl | rfl | rfl | rfl | rfl | rfl | rfl | rfl <;> omega
theorem sp0_in : sp0.In := ⟨by decide, rfl, rfl⟩
theorem spOf_in {l : Bytes} (h : l.length = 112) : (spOf l).In := by
  refine ⟨?_, by simp [spOf, h], by simp [spOf, h]⟩
  intro n hn
  simp only [spOf, Sp.nums, List.mem_cons, List.mem_nil_iff, or_false] at hn
  rcases hn with rfl | rfl | rfl | rfl | rfl | rfl <;> exact be8_in _
theorem getSuper_in (l : Bytes) : (getSuper l).1.In := by
  unfold getSuper
  split
  · exact sp0_in
  · split
    · exact sp0_in
    · split
      · exact sp0_in
      · refine spOf_in ?_
        simp [rd1]
        omega
def offerS (c : Sp × Bool) (g : Sp × Int) : Sp × Bool := if g.2 = 0 then (if better g.1 c.1 c.2 then g.1 else c.1, c.2 || better g.1 c.1 c.2) else c
theorem offerS_in {c : Sp × Bool} {g : Sp × Int} (hc : c.1.In) (hg : g.1.In) : (offerS c g).1.In := by
  unfold offerS
  split
  · show (if _ then _ else _ : Sp).In
    split
    · exact hg
    · exact hc
  · exact hc
def chOf (c : Sp × Bool) : List Value := chCells c.1 c.2
theorem chOf_offer (c : Sp × Bool) (g : Sp × Int) (h : g.2 = 0) : chAfter c.1 g.1 c.2 = chOf (offerS c g) := by simp [chOf, offerS, h, chAfter]
def chosen (k : Dk) : Nat → Sp × Bool
  | 0 => (sp0, false)
  | i + 1 => offerS (chosen k i) (getSuper (k.read i))
theorem chosen_in (k : Dk) : ∀ i, (chosen k i).1.In
  | 0 => sp0_in
  | i + 1 => offerS_in (chosen_in k i) (getSuper_in _)
def readSuper (k : Dk) : Sp × Int := if (chosen k 2).2 then ((chosen k 2).1, 0) else (sp0, 7)
theorem build_ch (w : World) : (Instr.build 120 #[(0, .func (.func 58) #[] #[])]).run Tryz.prog w = .ok (.agg (chCells sp0 false).toArray) w := by kernel_rfl

set_option maxRecDepth 8000 in
set_option maxHeartbeats 1600000 in
/-- One super is read, and offered. -/
theorem slotsRead_any {F : Nat → Prop} {d : Nat} {k : Dk} (w : World) (hD : Disk F w d k) (hm : 2 ≤ k.many) (hz : 256 ≤ k.size) :
    Calls Tryz.prog 28 #[.pointer (some ⟨d, 0, none⟩)] w (Ret (.tuple #[.agg (readSuper k).1.cells.toArray, .int .i64 (readSuper k).2]) w) := by
  have HX := Lib.hid sp_info
  have HF := Lib.hid (fun w' (e : Ext w w') => slotsFit_any w' (hD.ext e) hm hz)
  have HRD := Lib.hid (fun (i : Nat) (hi : i < 2) w' (e : Ext w w') => read_any i w' (hD.ext e) (by omega))
  have HSZ := Lib.hid (fun (i : Nat) (hi : i < 2) => (show (k.read i).length ≤ 1024 from by rw [hD.ok.read_length (by omega)]; exact hD.ok.s2))
  clear hD hm hz
  obtain ⟨w1, hw⟩ : ∃ w1, w1 = w.alloc (.cells Tryz.zeroCells42 42) := ⟨_, rfl⟩
  have HE := Lib.hid (show Ext w w1 from by rw [hw]; exact (Ext.refl w).alloc _)
  have HZ := Lib.hid (show Blk w1 w.heap.size 42 zs70.toArray from by rw [hw, ← zc_sp]; exact Blk.new _ _ _)
  have hlt := HZ.out.lt
  go_enter Tryz.func28, Tryz.ntmps28
  go_wp2_with (first | (have hg := HZ; rw [← hw]; clear hw) | (go_at_call 50; refine (HF.out _ HE.out).mono ?_; rintro e w2 ⟨rfl, hE2⟩; have HE2 := Lib.hid hE2; clear hE2))
  obtain ⟨w0, rfl⟩ : ∃ w0 : World, w0 = w := ⟨_, rfl⟩
  go_loopw [20] (fun t wr => ∃ (i : Nat) (s0 s1 : ByteArray), t = .int .i64 i ∧ i ≤ 2 ∧ Ext w0 wr ∧ Blk wr w0.heap.size 42 zs70.toArray ∧ Blk wr w2.heap.size 114 #[.string s0, .string s1] ∧ (1 ≤ i → s0 = bs (k.read 0)) ∧ (2 ≤ i → s1 = bs (k.read 1))) (fun t _ => 2 - (intOf t).toNat)
  case atStart => exact ⟨0, ByteArray.empty, ByteArray.empty, rfl, by omega, (HE.out.trans HE2.out).alloc _, (HZ.out.ext HE2.out).alloc _, Blk.new _ _ _, fun h => by omega, fun h => by omega⟩
  case round =>
    obtain ⟨i, s0, s1, rfl, hi, hE, hZ, hA, h0, h1⟩ := hrel
    have HE3 := Lib.hid hE
    have HZ3 := Lib.hid hZ
    have HA3 := Lib.hid hA
    have H0 := Lib.hid h0
    have H1 := Lib.hid h1
    have HNE := Lib.hid (show w2.heap.size ≠ w0.heap.size from by have := HE2.out.size; omega)
    clear hE hZ hA h0 h1
    by_cases hlt2 : i < 2
    · have HR := Lib.hid (HRD.out i hlt2 _ HE3.out)
      have hi2 : (i : Int) < 2 := by omega
      have hi0 : (0 : Int) ≤ i := by omega
      have hci : ∃ v, (#[Value.string s0, Value.string s1] : Array Value)[i]? = some v := ⟨_, Array.getElem?_eq_getElem (show i < 2 from hlt2)⟩
      obtain ⟨vi, hvi⟩ := hci
      have HVI := Lib.hid hvi
      clear hvi
      go_wp2_with (go_at_call 57; go_loud (refine HR.out.mono ?_; rintro e w4 ⟨rfl, hE4⟩; have HA4 := Lib.hid (HA3.out.ext hE4); have HZ4 := Lib.hid (HZ3.out.ext hE4); have HE4 := Lib.hid (HE3.out.trans hE4); have f4 : w4.frozen? ⟨w2.heap.size, i, none⟩ = false := HA4.out.frozen i; have c4 := (HA4.out.cell i).trans HVI.out; clear hE4))
      go_roundw
      case rel =>
        have hZ5 := HZ4.out.far (p := ⟨w2.heap.size, i, none⟩) (fun e => HNE.out e.symm) (.string (bs (k.read i)))
        have hE5 := HE4.out.setCell (p := ⟨w2.heap.size, i, none⟩) (show w0.heap.size ≤ w2.heap.size from by have := HE2.out.size; omega) (.string (bs (k.read i)))
        have hA5 := HA4.out.set i (.string (bs (k.read i)))
        have hi01 : i = 0 ∨ i = 1 := by omega
        rcases hi01 with rfl | rfl
        · exact ⟨1, _, s1, rfl, by omega, hE5, hZ5, hA5, fun _ => rfl, fun h => by omega⟩
        · exact ⟨2, s0, _, rfl, by omega, hE5, hZ5, hA5, fun _ => H0.out (by omega), fun _ => rfl⟩
      case measure => simp [intOf]; omega
    · obtain rfl : i = 2 := by omega
      obtain rfl := H0.out (by omega)
      obtain rfl := H1.out (by omega)
      obtain ⟨w5, hw5⟩ : ∃ w5, w5 = wr.alloc (.cells (Tryz.zeroCells120.setIfInBounds 0 (.func (.func 58) #[] #[])) 120) := ⟨_, rfl⟩
      have HC5 := Lib.hid (show Blk w5 wr.heap.size 120 (chOf (chosen k 0)).toArray from by rw [hw5, show (chOf (chosen k 0)).toArray = Tryz.zeroCells120.setIfInBounds 0 (.func (.func 58) #[] #[]) from by kernel_rfl]; exact Blk.new _ _ _)
      have HE5 := Lib.hid (show Ext w0 w5 from by rw [hw5]; exact HE3.out.alloc _)
      have HZ5 := Lib.hid (show Blk w5 w0.heap.size 42 zs70.toArray from by rw [hw5]; exact HZ3.out.alloc _)
      have hA5 : Blk w5 w2.heap.size 114 #[.string (bs (k.read 0)), .string (bs (k.read 1))] := by rw [hw5]; exact HA3.out.alloc _
      have c50 : w5.cell? ⟨w2.heap.size, 0, none⟩ = some (.string (bs (k.read 0))) := hA5.cell 0
      have c51 : w5.cell? ⟨w2.heap.size, 1, none⟩ = some (.string (bs (k.read 1))) := hA5.cell 1
      have HNE5 := Lib.hid (show wr.heap.size ≠ w0.heap.size from by have := HZ3.out.lt; omega)
      have HLE5 := Lib.hid (show w0.heap.size ≤ wr.heap.size from HE3.out.size)
      clear hA5
      go_wp2_with (first | (have hg := HC5; rw [← hw5]; clear hw5))
      generalize wr.heap.size = c at *
      go_loopw [40] (fun t wr => ∃ (i : Nat), t = .int .i64 i ∧ i ≤ 2 ∧ Ext w0 wr ∧ Blk wr w0.heap.size 42 zs70.toArray ∧ Blk wr c 120 (chOf (chosen k i)).toArray) (fun t _ => 2 - (intOf t).toNat)
      case atStart => exact ⟨0, rfl, by omega, HE5.out, HZ5.out, HC5.out⟩
      case round =>
        obtain ⟨i, rfl, hi, hE, hZ, hC⟩ := hrel
        have HE3 := Lib.hid hE
        have HZ3 := Lib.hid hZ
        have HC3 := Lib.hid hC
        clear hE hZ hC c50 c51
        have hi012 : i = 0 ∨ i = 1 ∨ i = 2 := by omega
        rcases hi012 with rfl | rfl | rfl
        · have HG := Lib.hid (fun w' => getSuper_any (bs (k.read 0)) w' (by rw [bs_size]; have := HSZ.out 0 (by omega); omega))
          rw [lb_bs] at HG
          have hix : ∀ w, (Instr.index 114 (.agg #[.string (bs (k.read 0)), .string (bs (k.read 1))]) (.int .i64 0)).run Tryz.prog w = .ok (.string (bs (k.read 0))) w := fun _ => by kernel_rfl
          have HS0 := Lib.hid (show (getSuper (k.read 0)).2 = 0 → chAfter (chosen k 0).1 (getSuper (k.read 0)).1 (chosen k 0).2 = chOf (chosen k (0 + 1)) from chOf_offer _ _)
          have HS1 := Lib.hid (show (getSuper (k.read 0)).2 ≠ 0 → chosen k (0 + 1) = chosen k 0 from fun h => by simp [chosen, offerS, h])
          have HGI := Lib.hid (getSuper_in (k.read 0))
          have HGL := Lib.hid (Sp.cells_length HGI.out)
          generalize getSuper (k.read 0) = g at *
          generalize bs (k.read 0) = q0 at *
          generalize bs (k.read 1) = q1 at *
          obtain ⟨gx, ge⟩ := g
          simp only at HG HS0 HS1 HGI HGL
          have HCI := Lib.hid (chosen_in k 0)
          by_cases hge : ge = 0
          · subst hge
            have HS := Lib.hid (HS0.out rfl)
            clear HS0 HS1
            go_wp2_with (first
              | (go_at_call 59; refine (HG.out _).mono ?_; rintro e w6 ⟨rfl, hE6⟩; have HC6 := Lib.hid (HC3.out.ext hE6); have HZ6 := Lib.hid (HZ3.out.ext hE6); have HE6 := Lib.hid (HE3.out.trans hE6); clear hE6)
              | (have hg := HC6; refine wpList_store_blk rfl 42 (.tmp 12) (.tmp 46) rfl w6.heap.size 42 zs70 gx.cells rfl rfl (by rw [← zc_sp]; exact Blk.new _ _ _) (by rw [HGL.out]; rfl) (by rw [HGL.out]; exact HX.out) (Sp.cells_one _) ?_; intro w7 hB7 hK7; have HB7 := Lib.hid hB7; have hE7 := ((Ext.refl w6).alloc _).keep hK7 (fun i hi => by cases hi; exact Nat.le_refl _); have HC7 := Lib.hid (HC6.out.ext hE7); have HZ7 := Lib.hid (HZ6.out.ext hE7); have HE7 := Lib.hid (HE6.out.trans hE7); clear hB7 hK7 hE7)
              | (have hg := HC7; refine wpList_load_blk rfl 42 (.tmp 12) rfl w6.heap.size 42 gx.cells rfl HB7.out _ Tryz.underlying42 rfl (by rw [HGL.out]; exact HX.out) ?_)
              | (go_at_call 60; refine (offer_any c (chosen k 0).1 gx (chosen k 0).2 _ HCI.out HGI.out HC7.out).mono ?_; rintro e w8 ⟨rfl, hC8, hK8⟩; have HC8 := Lib.hid (show Blk w8 c 120 (chOf (chosen k (0 + 1))).toArray from by rw [← HS.out]; exact hC8); have HZ8 := Lib.hid (HZ7.out.keep hK8 (fun hh => HNE5.out hh.symm)); have HE8 := Lib.hid (HE7.out.keep hK8 (fun i hi => by cases hi; exact HLE5.out)); clear hC8 hK8))
            go_roundw
            case rel => exact ⟨0 + 1, rfl, by omega, HE8.out, HZ8.out, HC8.out⟩
            case measure => simp [intOf]
          · have hge2 : (ge == 0) = false := by simpa using hge
            have HS := Lib.hid (HS1.out hge)
            clear HS0 HS1 hge
            go_wp2_with (first
              | (go_at_call 59; refine (HG.out _).mono ?_; rintro e w6 ⟨rfl, hE6⟩; have HC6 := Lib.hid (HC3.out.ext hE6); have HZ6 := Lib.hid (HZ3.out.ext hE6); have HE6 := Lib.hid (HE3.out.trans hE6); clear hE6)
              | (have hg := HC6; refine wpList_store_blk rfl 42 (.tmp 12) (.tmp 46) rfl w6.heap.size 42 zs70 gx.cells rfl rfl (by rw [← zc_sp]; exact Blk.new _ _ _) (by rw [HGL.out]; rfl) (by rw [HGL.out]; exact HX.out) (Sp.cells_one _) ?_; intro w7 hB7 hK7; have hE7 := ((Ext.refl w6).alloc _).keep hK7 (fun i hi => by cases hi; exact Nat.le_refl _); have HC7 := Lib.hid (HC6.out.ext hE7); have HZ7 := Lib.hid (HZ6.out.ext hE7); have HE7 := Lib.hid (HE6.out.trans hE7); clear hB7 hK7 hE7))
            go_roundw
            case rel => exact ⟨0 + 1, rfl, by omega, HE7.out, HZ7.out, by rw [HS.out]; exact HC7.out⟩
            case measure => simp [intOf]
        · have HG := Lib.hid (fun w' => getSuper_any (bs (k.read 1)) w' (by rw [bs_size]; have := HSZ.out 1 (by omega); omega))
          rw [lb_bs] at HG
          have hix : ∀ w, (Instr.index 114 (.agg #[.string (bs (k.read 0)), .string (bs (k.read 1))]) (.int .i64 1)).run Tryz.prog w = .ok (.string (bs (k.read 1))) w := fun _ => by kernel_rfl
          have HS0 := Lib.hid (show (getSuper (k.read 1)).2 = 0 → chAfter (chosen k 1).1 (getSuper (k.read 1)).1 (chosen k 1).2 = chOf (chosen k (1 + 1)) from chOf_offer _ _)
          have HS1 := Lib.hid (show (getSuper (k.read 1)).2 ≠ 0 → chosen k (1 + 1) = chosen k 1 from fun h => by simp [chosen, offerS, h])
          have HGI := Lib.hid (getSuper_in (k.read 1))
          have HGL := Lib.hid (Sp.cells_length HGI.out)
          generalize getSuper (k.read 1) = g at *
          generalize bs (k.read 0) = q0 at *
          generalize bs (k.read 1) = q1 at *
          obtain ⟨gx, ge⟩ := g
          simp only at HG HS0 HS1 HGI HGL
          have HCI := Lib.hid (chosen_in k 1)
          by_cases hge : ge = 0
          · subst hge
            have HS := Lib.hid (HS0.out rfl)
            clear HS0 HS1
            go_wp2_with (first
              | (go_at_call 59; refine (HG.out _).mono ?_; rintro e w6 ⟨rfl, hE6⟩; have HC6 := Lib.hid (HC3.out.ext hE6); have HZ6 := Lib.hid (HZ3.out.ext hE6); have HE6 := Lib.hid (HE3.out.trans hE6); clear hE6)
              | (have hg := HC6; refine wpList_store_blk rfl 42 (.tmp 12) (.tmp 46) rfl w6.heap.size 42 zs70 gx.cells rfl rfl (by rw [← zc_sp]; exact Blk.new _ _ _) (by rw [HGL.out]; rfl) (by rw [HGL.out]; exact HX.out) (Sp.cells_one _) ?_; intro w7 hB7 hK7; have HB7 := Lib.hid hB7; have hE7 := ((Ext.refl w6).alloc _).keep hK7 (fun i hi => by cases hi; exact Nat.le_refl _); have HC7 := Lib.hid (HC6.out.ext hE7); have HZ7 := Lib.hid (HZ6.out.ext hE7); have HE7 := Lib.hid (HE6.out.trans hE7); clear hB7 hK7 hE7)
              | (have hg := HC7; refine wpList_load_blk rfl 42 (.tmp 12) rfl w6.heap.size 42 gx.cells rfl HB7.out _ Tryz.underlying42 rfl (by rw [HGL.out]; exact HX.out) ?_)
              | (go_at_call 60; refine (offer_any c (chosen k 1).1 gx (chosen k 1).2 _ HCI.out HGI.out HC7.out).mono ?_; rintro e w8 ⟨rfl, hC8, hK8⟩; have HC8 := Lib.hid (show Blk w8 c 120 (chOf (chosen k (1 + 1))).toArray from by rw [← HS.out]; exact hC8); have HZ8 := Lib.hid (HZ7.out.keep hK8 (fun hh => HNE5.out hh.symm)); have HE8 := Lib.hid (HE7.out.keep hK8 (fun i hi => by cases hi; exact HLE5.out)); clear hC8 hK8))
            go_roundw
            case rel => exact ⟨1 + 1, rfl, by omega, HE8.out, HZ8.out, HC8.out⟩
            case measure => simp [intOf]
          · have hge2 : (ge == 0) = false := by simpa using hge
            have HS := Lib.hid (HS1.out hge)
            clear HS0 HS1 hge
            go_wp2_with (first
              | (go_at_call 59; refine (HG.out _).mono ?_; rintro e w6 ⟨rfl, hE6⟩; have HC6 := Lib.hid (HC3.out.ext hE6); have HZ6 := Lib.hid (HZ3.out.ext hE6); have HE6 := Lib.hid (HE3.out.trans hE6); clear hE6)
              | (have hg := HC6; refine wpList_store_blk rfl 42 (.tmp 12) (.tmp 46) rfl w6.heap.size 42 zs70 gx.cells rfl rfl (by rw [← zc_sp]; exact Blk.new _ _ _) (by rw [HGL.out]; rfl) (by rw [HGL.out]; exact HX.out) (Sp.cells_one _) ?_; intro w7 hB7 hK7; have hE7 := ((Ext.refl w6).alloc _).keep hK7 (fun i hi => by cases hi; exact Nat.le_refl _); have HC7 := Lib.hid (HC6.out.ext hE7); have HZ7 := Lib.hid (HZ6.out.ext hE7); have HE7 := Lib.hid (HE6.out.trans hE7); clear hB7 hK7 hE7))
            go_roundw
            case rel => exact ⟨1 + 1, rfl, by omega, HE7.out, HZ7.out, by rw [HS.out]; exact HC7.out⟩
            case measure => simp [intOf]
        · have HCI := Lib.hid (chosen_in k 2)
          have HCL := Lib.hid (Sp.cells_length HCI.out)
          have c71 := (HC3.out.cell 71).trans (ch_some HCL.out _)
          have hrs : readSuper k = if (chosen k 2).2 then ((chosen k 2).1, 0) else (sp0, 7) := rfl
          have HRS := Lib.hid hrs
          clear hrs
          generalize hcc : chosen k 2 = cc at *
          clear hcc
          obtain ⟨b, kk⟩ := cc
          simp only [chOf] at *
          cases kk
          · have hrs2 : readSuper k = (sp0, 7) := HRS.out
            have HR2 := Lib.hid hrs2
            clear hrs2 HRS
            go_wp2_with (have hg := HC3; refine Great.wpList_readTo rfl (some 59) rfl (.agg zs70.toArray) (by kernel_rfl) ?_; refine wpList_store_blk rfl 42 (.tmp 2) (.tmp 59) rfl w0.heap.size 42 zs70 zs70 rfl rfl HZ3.out rfl HX.out (by decide) ?_; intro w9 hB9 hK9; have HB9 := Lib.hid hB9; have HE9 := Lib.hid (HE3.out.keep hK9 (fun i hi => by cases hi; exact Nat.le_refl _)); clear hB9 hK9)
            exact bodyPost_ret (results_blk_tmp rfl _ w0.heap.size rfl HB9.out Tryz.underlying42 rfl HX.out) rfl ⟨by rw [HR2.out]; rfl, HE9.out⟩
          · have hrs2 : readSuper k = (b, 0) := HRS.out
            have HR2 := Lib.hid hrs2
            clear hrs2 HRS
            go_wp2_with (have hg := HC3; refine wpList_load_part rfl 42 (.tmp 62) rfl c 120 [.func (.func 58) #[] #[]] b.cells [.bool true] rfl HC3.out _ Tryz.underlying42 rfl (by rw [HCL.out]; exact HX.out) ?_; refine wpList_store_blk rfl 42 (.tmp 2) (.tmp 63) rfl w0.heap.size 42 zs70 b.cells rfl rfl HZ3.out (by rw [HCL.out]; rfl) (by rw [HCL.out]; exact HX.out) (Sp.cells_one _) ?_; intro w9 hB9 hK9; have HB9 := Lib.hid hB9; have HE9 := Lib.hid (HE3.out.keep hK9 (fun i hi => by cases hi; exact Nat.le_refl _)); clear hB9 hK9)
            exact bodyPost_ret (results_blk_tmp rfl _ w0.heap.size rfl HB9.out Tryz.underlying42 rfl (by rw [HCL.out]; exact HX.out)) rfl ⟨by rw [HR2.out]; rfl, HE9.out⟩
end Go.Proofs.YtnkebhlkhpgghaaGreatDoor
/- The plain law of logged: what is written is read. -/
namespace Go.Proofs.YtnkebhlkhpgghaaGreatDoor
open Go Go.RowKit Go.Deep Go.Sort

theorem be_fixedB {n : Int} (h0 : 0 ≤ n) (h1 : n < 18446744073709551616) : be 0 (fixedB n 8) = n := by
  have e : ∀ m : Int, 0 ≤ m → m < 256 → ((UInt8.ofNat m.toNat).toNat : Int) = m := by
    intro m a b
    have : (UInt8.ofNat m.toNat).toNat = m.toNat := by
      rw [UInt8.toNat_ofNat']
      exact Nat.mod_eq_of_lt (by omega)
    omega
  have hr : List.range 8 = [0, 1, 2, 3, 4, 5, 6, 7] := rfl
  simp only [fixedB, hr, List.map_cons, List.map_nil, be]
  rw [e _ (by omega) (by omega), e _ (by omega) (by omega), e _ (by omega) (by omega), e _ (by omega) (by omega), e _ (by omega) (by omega), e _ (by omega) (by omega), e _ (by omega) (by omega), e _ (by omega) (by omega)]
  simp only [Nat.reduceSub, Nat.reduceMul, Int.reducePow]
  omega
theorem take_pre {α : Type} {a b : List α} {n : Nat} (h : a.length = n) : (a ++ b).take n = a := by subst h; simp
theorem drop_pre {α : Type} {a b : List α} {n : Nat} (h : a.length = n) : (a ++ b).drop n = b := by subst h; simp
theorem spOf_half {x : Sp} (h : x.In) : spOf (lays x.nums ++ (x.anchor ++ x.sum)) = x := by
  have hn := h.nums
  obtain ⟨e, t, f, a, i, n, q, s⟩ := x
  have ha : a.length = 32 := h.a
  have hs : s.length = 32 := h.s
  simp only [Sp.nums, List.mem_cons, List.mem_nil_iff, or_false, forall_eq_or_imp, forall_eq] at hn
  obtain ⟨⟨e0, e1⟩, ⟨t0, t1⟩, ⟨f0, f1⟩, ⟨i0, i1⟩, ⟨n0, n1⟩, ⟨q0, q1⟩⟩ := hn
  have hl : lays [e, t, f, i, n, q] ++ (a ++ s) = fixedB e 8 ++ (fixedB t 8 ++ (fixedB f 8 ++ (fixedB i 8 ++ (fixedB n 8 ++ (fixedB q 8 ++ (a ++ s)))))) := by simp [lays]
  have d8 : ∀ (l : Bytes) (k m : Nat), k + 8 = m → l.drop m = (l.drop k).drop 8 := by intro l k m h; rw [List.drop_drop, h]
  have w8 := fun n => fixedB_length n 8
  simp only [Sp.nums] at *
  rw [hl]
  simp only [spOf]
  rw [d8 _ 72 80 rfl, d8 _ 64 72 rfl, d8 _ 56 64 rfl, d8 _ 48 56 rfl, d8 _ 40 48 rfl, d8 _ 32 40 rfl, d8 _ 24 32 rfl, d8 _ 16 24 rfl, d8 _ 8 16 rfl]
  simp only [drop_pre (w8 _), take_pre (w8 _), be_fixedB e0 e1, be_fixedB t0 t1, be_fixedB f0 f1, be_fixedB i0 i1, be_fixedB n0 n1, be_fixedB q0 q1, take_pre ha]
  congr 1
  rw [List.drop_drop, List.drop_drop, List.drop_drop, drop_pre ha, List.take_of_length_le (by omega)]
theorem half_rd {x : Sp} (h : x.In) (b : Bytes) : rd1 (x.half ++ b) = lays x.nums ++ (x.anchor ++ x.sum) := by
  have h1 : x.half = 83 :: (lays x.nums ++ (x.anchor ++ x.sum)) := by simp [Sp.half]
  have h2 : (lays x.nums ++ (x.anchor ++ x.sum)).length = 112 := by simp [lays_len, Sp.nums, h.a, h.s]
  rw [rd1, h1, List.cons_append, List.drop_succ_cons, List.drop_zero, take_pre h2]
theorem getSuper_text {x : Sp} (h : x.In) (z : Nat) : getSuper (padTo x.text z) = (x, 0) := by
  have h1 : padTo x.text z = x.half ++ (x.half ++ zeros (z - x.text.length)) := by simp [padTo, Sp.text]
  have hh := Sp.half_length h
  rw [h1]
  generalize zeros (z - x.text.length) = r
  unfold getSuper
  rw [if_neg (by simp [hh]; omega), if_neg (by simp [Sp.half]), if_neg (by rw [take_pre hh, drop_pre hh, take_pre hh]; simp), half_rd h, spOf_half h]

theorem super_ok {k : Dk} (h : k.Ok) {x : Sp} (hx : x.In) (hz : 226 ≤ k.size) (hm : 2 ≤ k.many) : (k.super x).Ok := by
  have he := hx.nums x.epoch (by simp [Sp.nums])
  exact (h.write (by omega) (padTo_length (by rw [Sp.text_length hx]; exact hz))).flush
theorem super_read {k : Dk} (h : k.Ok) {x : Sp} (hx : x.In) (hz : 226 ≤ k.size) (hm : 2 ≤ k.many) {s : Nat} (hs : s < k.many) : (k.super x).read s = if (x.epoch % 2).toNat = s then padTo x.text k.size else k.read s := by
  have he := hx.nums x.epoch (by simp [Sp.nums])
  have hw : (k.write (x.epoch % 2).toNat (padTo x.text k.size)).Ok := h.write (by omega) (padTo_length (by rw [Sp.text_length hx]; exact hz))
  show (k.write (x.epoch % 2).toNat (padTo x.text k.size)).flush.read s = _
  rw [hw.read_flush (s := s) hs, Dk.read_write]
theorem clear_ok {k : Dk} (h : k.Ok) (hm : 2 ≤ k.many) : k.clear.Ok := by
  have h1 : (k.write 0 (padTo [] k.size)).Ok := h.write (by omega) (padTo_length (by simp))
  exact (h1.write (s := 1) (by simp; omega) (padTo_length (by simp))).flush
theorem begin_ok {k : Dk} (h : k.Ok) {frm n : Nat} {x : Hd} (hx : x.In) (hm : frm + n ≤ k.many) (hn : 64 ≤ n * k.size) : (k.begin frm n x).Ok := by
  obtain ⟨a1, a2, a3, _⟩ := put_keeps frm n _ k 0 (zeros (n * k.size)) h hm (by simp) (Nat.le_refl _)
  have f1 := a1.flush
  obtain ⟨b1, _, _, _⟩ := put_keeps frm n _ (k.put frm 0 (zeros (n * k.size))).flush 0 x.text f1 (by simp [a2]; exact hm) (by simp [a3, Hd.text_length hx]; exact hn) (Nat.le_refl _)
  exact b1.flush

/-! ### Two batches are committed -/
def lgA0 : Lg := Lg.new (Dk.new 4 256) 1 2
def evA : List Ev := fromEv 0 1 2
def evB : List Ev := fromEv 3 1 1
theorem kz_ok : (Dk.new 4 256).Ok := Dk.new_ok (by decide) (by decide) (by decide) (by decide)
theorem lgA0_ok : lgA0.Ok := Lg.Ok.new kz_ok (by decide) (by decide) (by decide) (by decide) (by decide) (by decide)
theorem lgA0_size : lgA0.k.size = 256 := by simp [lgA0, Lg.new, Dk.clear, Dk.super, Dk.new]
theorem lgA0_many : lgA0.k.many = 4 := by simp [lgA0, Lg.new, Dk.clear, Dk.super, Dk.new]
theorem lgA0_inv : lgA0.Inv 0 := ⟨by simp [lgA0, Lg.new, Dk.super, Dk.flush], by decide, by decide, by decide, by decide⟩
theorem evA_is : btIs (seqOf evA) evA = true := by decide
theorem evA_seq : seqOf evA = 0 := by decide
theorem evA_text : (btText (seqOf evA) evA z32).length ≤ 192 := by
  rw [btText, List.length_append, fixedB_length]
  have h1 := vput_ten (n := (seqOf evA).toNat) (by decide)
  have h2 := vput_ten (n := evA.length) (by decide)
  have h3 : ∀ x ∈ evA, (ptext x).length ≤ 61 := by
    intro x hx
    have hi : x.is = true ∧ 0 ≤ x.seq ∧ x.seq < 18446744073709551616 := by
      revert x
      decide
    have h4 := put_le hi.1 hi.2.1 hi.2.2
    have h5 := vput_ten (n := x.put.length) (by omega)
    simp only [ptext, List.length_append]
    omega
  have h6 : evA = [⟨0, 0, -1, 1, 0, 0⟩, ⟨1, 1, -1, 1, 0, 0⟩] := by decide
  have h7 := h3 ⟨0, 0, -1, 1, 0, 0⟩ (by rw [h6]; simp)
  have h8 := h3 ⟨1, 1, -1, 1, 0, 0⟩ (by rw [h6]; simp)
  have h9 : (evA.map ptext).flatten.length ≤ 122 := by rw [h6]; simp only [List.map_cons, List.map_nil, List.flatten_cons, List.flatten_nil, List.length_append, List.length_nil]; omega
  have h10 : z32.length = 32 := rfl
  simp only [btHead, btBody, List.length_append, fixedB_length, h10, List.length_singleton]
  omega
theorem lgA0_sum : lgA0.sum = z32 := rfl
theorem lgA0_per : lgA0.per = 1 := rfl
theorem lgA0_stop : lgA0.stop = 64 := rfl
theorem lgA0_x : lgA0.x = x0 := rfl
theorem lgA0_nx : lgA0.next = 0 := rfl
theorem appendA : (lgA0.append evA) = (0, lgA0.put evA (btText (seqOf evA) evA z32)) := by
  unfold Lg.append
  rw [lgA0_sum]
  rw [if_neg (by rw [evA_is]; decide), if_neg (by rw [evA_seq, lgA0_nx]; decide), if_neg (by rw [lgA0_size, lgA0_per]; have := evA_text; omega)]
theorem put_x (m : Lg) (l : List Ev) (t : Bytes) : (m.put l t).x = (m.room t.length).x := rfl
theorem put_k (m : Lg) (l : List Ev) (t : Bytes) : (m.put l t).k = (m.room t.length).k.put (placeOf (m.room t.length).per (m.room t.length).segs (lastId (m.room t.length).heads)) (m.room t.length).stop t := rfl
theorem asked_next (m : Lg) : m.asked.next = m.next := rfl
theorem newer_next (x : Sp) : x.newer.next = x.next := rfl
theorem newer_epoch (x : Sp) : x.newer.epoch = IntKind.u64.wrap (x.epoch + 1) := rfl
theorem asked_epoch (m : Lg) : m.asked.epoch = m.x.epoch := rfl
theorem wr_x (m : Lg) (x : Sp) : (m.flush.write x).x = x := rfl
theorem wr_next (m : Lg) (x : Sp) : (m.flush.write x).next = m.next := rfl
theorem wr_k (m : Lg) (x : Sp) : (m.flush.write x).k = m.k.flush.super x := rfl
theorem lgA0_segs : lgA0.segs = 2 := rfl
def lgA1 : Lg := lgA0.put evA (btText (seqOf evA) evA z32)
theorem lgA1_next : lgA1.next = 2 := by
  have h := (lgA0_inv.append lgA0_ok (by decide) evA (by decide) (by rw [appendA])).2.2
  rw [appendA] at h
  exact h
theorem lgA1_room : lgA0.room (btText (seqOf evA) evA z32).length = lgA0 := by
  unfold Lg.room
  rw [if_pos (by rw [lgA0_size, lgA0_per, lgA0_stop]; have := evA_text; omega)]
theorem lgA1_x : lgA1.x = x0 := by
  rw [lgA1, put_x, lgA1_room, lgA0_x]
theorem appendB : (lgA1.append evB) = (1, lgA1) := by
  unfold Lg.append
  rcases hb : btIs (seqOf evB) evB with _ | _
  · rw [if_pos rfl]
  · rw [if_neg (by decide), if_pos (by rw [lgA1_next]; decide)]
def lgA2 : Lg := lgA1.keep
theorem lgA2_eq : lgA2 = lgA1.flush.write lgA1.asked.newer := by
  rw [lgA2]
  unfold Lg.keep
  rw [if_neg (fun h => by
    have h1 := congrArg Sp.next h
    rw [lgA1_x, asked_next, lgA1_next] at h1
    exact absurd h1 (by decide))]
theorem lgA2_next : lgA2.next = 2 := by rw [lgA2_eq, wr_next, lgA1_next]
theorem lgA2_x : lgA2.x = lgA1.asked.newer := by rw [lgA2_eq, wr_x]
theorem lgA2_epoch : lgA2.x.epoch = 2 := by
  rw [lgA2_x, newer_epoch, asked_epoch, lgA1_x]
  rfl
theorem lgA2_xnext : lgA2.x.next = 2 := by rw [lgA2_x, newer_next, asked_next, lgA1_next]
theorem lgA1_k : lgA1.k = lgA0.k.put (placeOf 1 2 (lastId lgA0.heads)) 64 (btText (seqOf evA) evA z32) := by rw [lgA1, put_k, lgA1_room, lgA0_per, lgA0_segs, lgA0_stop]
theorem lgA2_k : lgA2.k = lgA1.k.flush.super lgA2.x := by rw [lgA2_x, lgA2_eq, wr_k]
theorem lgA2_size : lgA2.k.size = 256 := by rw [lgA2_k, lgA1_k]; simp [Dk.super, lgA0_size]
theorem lgA2_many : lgA2.k.many = 4 := by rw [lgA2_k, lgA1_k]; simp [Dk.super, lgA0_many]
theorem lgA2_read (hk : lgA1.k.Ok) (ho : lgA1.Ok) : readSuper lgA2.k = (lgA2.x, 0) := by
  have hx : lgA2.x.In := by rw [lgA2_x]; exact ho.asked.newer
  have hk2 : lgA2.k = lgA1.k.flush.super lgA2.x := by rw [lgA2_x, lgA2_eq, wr_k]
  have hkA : lgA1.k = lgA0.k.put (placeOf 1 2 (lastId lgA0.heads)) 64 (btText (seqOf evA) evA z32) := by
    rw [lgA1, put_k, lgA1_room, lgA0_per, lgA0_segs, lgA0_stop]
  have hs : lgA1.k.size = 256 := by rw [hkA, put_size, lgA0_size]
  have hm : lgA1.k.many = 4 := by rw [hkA, put_many, lgA0_many]
  have r0 : lgA2.k.read 0 = padTo lgA2.x.text 256 := by
    rw [hk2, super_read hk.flush hx (by simp [hs]) (by simp [hm]) (by simp [hm]), lgA2_epoch, if_pos (by decide)]
    simp [hs]
  have hb : ((Dk.new 4 256).clear.begin (placeOf 1 2 0) 1 h0).Ok := begin_ok (clear_ok kz_ok (by decide)) h0_in (by simp [Dk.clear, Dk.new, placeOf]) (by simp [Dk.clear, Dk.new])
  have hbs : ((Dk.new 4 256).clear.begin (placeOf 1 2 0) 1 h0).size = 256 := by simp [Dk.clear, Dk.new]
  have hbm2 : ((Dk.new 4 256).clear.begin (placeOf 1 2 0) 1 h0).many = 4 := by simp [Dk.clear, Dk.new]
  have hbz : 226 ≤ ((Dk.new 4 256).clear.begin (placeOf 1 2 0) 1 h0).size := by rw [hbs]; decide
  have hbm : 2 ≤ ((Dk.new 4 256).clear.begin (placeOf 1 2 0) 1 h0).many := by rw [hbm2]; decide
  have hk0 : lgA0.k = ((Dk.new 4 256).clear.begin (placeOf 1 2 0) 1 h0).super x0 := rfl
  have hok0 : lgA0.k.Ok := by rw [hk0]; exact super_ok hb x0_in hbz hbm
  have r1 : lgA2.k.read 1 = padTo x0.text 256 := by
    rw [hk2, super_read hk.flush hx (by simp [hs]) (by simp [hm]) (by simp [hm]), lgA2_epoch, if_neg (by decide), hk.read_flush (by rw [hm]; decide), hkA]
    obtain ⟨_, _, _, a4⟩ := put_keeps (placeOf 1 2 (lastId lgA0.heads)) 1 _ lgA0.k 64 (btText (seqOf evA) evA z32) hok0 (by rw [lgA0_many]; decide) (by rw [lgA0_size]; have := evA_text; omega) (Nat.le_refl _)
    rw [a4 1 (by left; decide), hk0, super_read hb x0_in hbz hbm (by rw [hbm2]; decide), if_pos (by decide), hbs]
  have g0 : getSuper (lgA2.k.read 0) = (lgA2.x, 0) := by rw [r0]; exact getSuper_text hx 256
  have g1 : getSuper (lgA2.k.read 1) = (x0, 0) := by rw [r1]; exact getSuper_text x0_in 256
  have e1 : (x0.epoch : Int) = 1 := rfl
  have hc : chosen lgA2.k 2 = (lgA2.x, true) := by
    simp [chosen, g0, g1, offerS, better, lgA2_epoch, e1]
  simp [readSuper, hc]
end Go.Proofs.YtnkebhlkhpgghaaGreatDoor
/- law 12: logged: the walk. -/
namespace Go.Proofs.YtnkebhlkhpgghaaGreatDoor
open Go Go.RowKit Go.Deep Go.Sort

theorem retainNil_any (w : World) : Calls Tryz.prog 30 #[.pointer none, .int .i64 1] w (Ret (.int .i64 5) w) := by
  have HS := Lib.hid (fun w' => shutNil_any w')
  obtain ⟨w1, hw⟩ : ∃ w1, w1 = (w.alloc (.cells #[.pointer none] 30)).alloc (.cells #[.int .i64 1] 3) := ⟨_, rfl⟩
  have HE := Lib.hid (show Ext w w1 from by rw [hw]; exact ((Ext.refl w).alloc _).alloc _)
  have c0 : w1.cell? ⟨w.heap.size, 0, none⟩ = some (.pointer none) := by rw [hw]; exact ((Blk.new _ _ _).alloc _).cell 0
  go_enter Tryz.func30, Tryz.ntmps30
  go_wp2_with (first | (have hg := c0; rw [← hw]; clear hw) | (go_at_call 32; refine (HS.out _).mono ?_; rintro e w2 ⟨rfl, hE2⟩; have HE2 := Lib.hid (HE.out.trans hE2); clear hE2))
  go_ret
  exact ⟨rfl, HE2.out⟩

theorem fromEv_in {seq kind : Int} (k0 : -9223372036854775808 ≤ kind) (k1 : kind < 9223372036854775808) {n : Nat} (hn : n ≤ 1000) : ∀ x ∈ fromEv seq kind n, x.In := by
  intro x hx
  simp only [fromEv, List.mem_map, List.mem_range] at hx
  obtain ⟨i, hi, rfl⟩ := hx
  exact ⟨wrap_in _, ⟨by show (-9223372036854775808 : Int) ≤ i; omega, by show (i : Int) < _; omega⟩, ⟨(by decide : (-9223372036854775808 : Int) ≤ -1), (by decide : (-1 : Int) < 9223372036854775808)⟩, ⟨k0, k1⟩, ⟨(by decide : (-9223372036854775808 : Int) ≤ 0), (by decide : (0 : Int) < 9223372036854775808)⟩, ⟨(by decide : (-9223372036854775808 : Int) ≤ 0), (by decide : (0 : Int) < 9223372036854775808)⟩⟩
/-- A log that lies in blocks which are new since w. -/
structure At (w : World) (F : Nat → Prop) (w' : World) (g d : Nat) (m : Lg) : Prop where
  log : Log F w' g d m
  new : ∀ i, Fg F g i → w.heap.size ≤ i
  ext : Ext w w'
theorem At.pos {w w' : World} {F : Nat → Prop} {g d : Nat} {m : Lg} (h : At w F w' g d m) (h0 : 0 < w.heap.size) : ¬ F 0 ∧ g ≠ 0 :=
  ⟨fun hh => by have := h.new 0 (.inl hh); omega, fun hh => by have := h.new g (.inr rfl); omega⟩
theorem At.ex {w w' w'' : World} {F : Nat → Prop} {g d : Nat} {m : Lg} (h : At w F w' g d m) (e : Ext w' w'') : At w F w'' g d m := ⟨h.log.ext e, h.new, h.ext.trans e⟩
theorem At.go {w w' w'' : World} {F F' : Nat → Prop} {g d : Nat} {m m' : Lg} (h : At w F w' g d m) (hL : Log F' w'' g d m') (hM : Moves (Fg F g) w' (Fg F' g) w'') : At w F' w'' g d m' :=
  ⟨hL, fun i hi => by
    rcases hM.2 i hi with h1 | h1
    · exact h.new i h1
    · exact Nat.le_trans h.ext.size h1, h.ext.keep hM.1 h.new⟩
theorem At.disk {w w' : World} {F : Nat → Prop} {g d : Nat} {m : Lg} (h : At w F w' g d m) : Disk F w' d m.k := by obtain ⟨_, _, _, hh⟩ := h.log; exact hh.disk

theorem format_at {w w1 w3 : World} {F F2 : Nat → Prop} {g d : Nat} {k : Dk} {m : Lg} (hD : Disk F w1 d k) (hF : ∀ i, F i → w.heap.size ≤ i) (hE : Ext w w1) (o : Obj) (hL : Log F2 w3 g d m) (hM : Moves F (w1.alloc o) F2 w3) (hg : (w1.alloc o).heap.size ≤ g) :
    At w F2 w3 g d m ∧ ¬ Fg F2 g w1.heap.size ∧ ¬ F w1.heap.size := by
  have hsz : (w1.alloc o).heap.size = w1.heap.size + 1 := by simp
  have hle := hE.size
  rw [hsz] at hg
  have hnF : ¬ F w1.heap.size := fun hh => by have := hD.sz _ hh; omega
  have hn : ∀ i, F2 i → F i ∨ w1.heap.size + 1 ≤ i := fun i hi => by have := hM.2 i hi; rwa [hsz] at this
  refine ⟨⟨hL, ?_, (hE.alloc _).keep hM.1 hF⟩, ?_, hnF⟩
  · rintro i (hi | rfl)
    · rcases hn i hi with h | h
      · exact hF i h
      · omega
    · omega
  · rintro (hh | hh)
    · rcases hn _ hh with h | h
      · exact hnF h
      · omega
    · omega

set_option maxRecDepth 8000 in
set_option maxHeartbeats 3200000 in
theorem logged_any (w : World) (hT : Tab w) : Calls Tryz.prog 8 #[] w (Ret (.bool true) w) := by
  have hpos := hT.pos
  have HT := Lib.hid hT
  have HI := Lib.hid sh_info
  clear hT
  go_enter Tryz.func8, Tryz.ntmps8
  go_wp2_with (first
    | (go_at_call 6; (refine (newYes_any 4 256 _ (by decide)).mono ?_; rintro e w1 ⟨F, d, rfl, hD1, hE1, hF1⟩; have HD1 := Lib.hid (And.intro hD1 hF1); have HE1 := Lib.hid hE1; clear hD1 hE1 hF1))
    | (go_at_call 7; (refine (formatYes_any 1 2 _ (HD1.out.1.ext ((Ext.refl w1).alloc _)) (by decide) (by decide) (by decide) (by decide) (by decide) (by decide) (by decide)).mono ?_; rintro e w3 ⟨F2, g, rfl, hL3, hM3, hg3⟩; have hat := format_at HD1.out.1 HD1.out.2 HE1.out _ hL3 hM3 hg3; have HL3 := Lib.hid (show At w F2 w3 g d lgA0 from hat.1); have HS3 := Lib.hid (show Blk w3 w1.heap.size 23 [.int .i64 1, .int .i64 2].toArray ∧ ¬ Fg F2 g w1.heap.size from ⟨(Blk.new _ _ _).keep hM3.1 hat.2.2, hat.2.1⟩); clear hL3 hM3 hg3 hat))
    | (have hg := HL9; go_at_call 15; (refine (logCommit_any _ HL9.out.log).mono ?_; rw [show lgA1.keep = lgA2 from rfl, lgA2_next]; rintro e w10 ⟨rfl, F6, hL10, hM10⟩; have HL10 := Lib.hid (HL9.out.go hL10 hM10); have HS10 := Lib.hid (And.intro (HS9.out.1.keep hM10.1 HS9.out.2) (hM10.not HS9.out.2 HS9.out.1.lt)); clear hL10 hM10))
    | (have hg := HL8; go_at_call 13; (refine (logAppend_any v8 evB _ HL8.out.log HR8.out (by decide) (fromEv_in (by decide) (by decide) (by decide)) (HT.out.ext HL8.out.ext) (HL8.out.pos hpos).1 (HL8.out.pos hpos).2 HIV.out.1 HIV.out.2).mono ?_; rw [appendB]; rintro e w9 ⟨rfl, F5, hL9, hM9⟩; have HL9 := Lib.hid (HL8.out.go hL9 hM9); have HS9 := Lib.hid (And.intro (HS8.out.1.keep hM9.1 HS8.out.2) (hM9.not HS8.out.2 HS8.out.1.lt)); clear hL9 hM9))
    | (have hg := HL5; go_at_call 14; (refine (from_any 3 1 1 _ (by decide)).mono ?_; rintro e w8 ⟨v8, rfl, hR8, hE8⟩; have HL8 := Lib.hid (HL5.out.ex hE8); have HR8 := Lib.hid (show Rd w8 6 Ev.cells v8 evB from hR8); have HS8 := Lib.hid (And.intro (HS5.out.1.ext hE8) HS5.out.2); clear hR8 hE8))
    | (have hg := HL4; go_at_call 13; (refine (logAppend_any v4 evA _ HL4.out.log HR4.out (by decide) (fromEv_in (by decide) (by decide) (by decide)) (HT.out.ext HL4.out.ext) (HL4.out.pos hpos).1 (HL4.out.pos hpos).2 lgA0_inv.tight lgA0_inv.seg).mono ?_; rw [appendA]; rintro e w5 ⟨rfl, F3, hL5, hM5⟩; have HL5 := Lib.hid (show At w F3 w5 g d lgA1 from HL4.out.go hL5 hM5); have HS5 := Lib.hid (And.intro (HS4.out.1.keep hM5.1 HS4.out.2) (hM5.not HS4.out.2 HS4.out.1.lt)); have hiv := (lgA0_inv.append lgA0_ok (by decide) evA (by decide) (by rw [appendA])).1; rw [appendA] at hiv; have HIV := Lib.hid (show lgA1.k.pend.length ≤ lgA1.stop ∧ lgA1.heads.length ≤ lgA1.segs from ⟨hiv.tight, hiv.seg⟩); clear hL5 hM5 hiv))
    | (have hg := HL3; go_at_call 14; (refine (from_any 0 2 1 _ (by decide)).mono ?_; rintro e w4 ⟨v4, rfl, hR4, hE4⟩; have HL4 := Lib.hid (HL3.out.ex hE4); have HR4 := Lib.hid (show Rd w4 6 Ev.cells v4 evA from hR4); have HS4 := Lib.hid (And.intro (HS3.out.1.ext hE4) HS3.out.2); clear hR4 hE4)))
  go_wp2_with (first
    | (go_at_call 28; (refine (slotsRead_any w10 HL10.out.disk (by rw [lgA2_many]; decide) (by rw [lgA2_size]; decide)).mono ?_; rw [lgA2_read HL9.out.disk.ok HL9.out.log.ok]; rintro e w11 ⟨rfl, hE11⟩; have HL11 := Lib.hid (HL10.out.ex hE11); have HS11 := Lib.hid (HS10.out.1.ext hE11); clear hE11))
    | (have hg := HL11; (refine wpList_store_blk rfl 42 (.tmp 10) (.tmp 40) rfl w11.heap.size 42 zs70 lgA2.x.cells rfl rfl (by rw [← zc_sp]; exact Blk.new _ _ _) (by rw [Sp.cells_length HL11.out.log.ok.x]; rfl) (by rw [Sp.cells_length HL11.out.log.ok.x]; exact sp_info) (Sp.cells_one _) ?_; intro w12 hB12 hK12; have hE12 := ((Ext.refl w11).alloc _).keep hK12 (fun i hi => by cases hi; exact Nat.le_refl _); have HX12 := Lib.hid hB12; have HL12 := Lib.hid (HL11.out.ex hE12); have HS12 := Lib.hid (HS11.out.ext hE12); clear hB12 hK12 hE12)))
  have hxl := Sp.cells_length HL12.out.log.ok.x
  have HXL := Lib.hid hxl
  have HXI := Lib.hid (show (Tryz.prog.info? 42).map (·.size) = some lgA2.x.cells.length from by rw [hxl]; exact sp_info)
  have hc0 : w12.cell? ⟨w11.heap.size, 0, none⟩ = some (.int .u64 2) := (HX12.out.cell 0).trans (by rw [← lgA2_epoch]; rfl)
  have hc6 : w12.cell? ⟨w11.heap.size, 37, none⟩ = some (.int .u64 2) := (HX12.out.cell 37).trans (by rw [← lgA2_xnext]; exact Sp.cells_hi HL12.out.log.ok.x 2)
  have r0 := cell_regrown hc0
  have r6 := cell_regrown hc6
  have rs0 := cell_regrown (show w12.cell? ⟨w1.heap.size, 0, none⟩ = some (.int .i64 1) from HS12.out.cell 0)
  have rs1 := cell_regrown (show w12.cell? ⟨w1.heap.size, 1, none⟩ = some (.int .i64 2) from HS12.out.cell 1)
  have HSU := Lib.hid (fun w' (e : Ext w12 w') => logSuper_any w' (HL12.out.log.ext e))
  have HPL := Lib.hid (fun w' => (show Calls Tryz.prog 29 #[.agg #[.int .i64 1, .int .i64 2], .int .u64 5] w' (Ret (.int .i64 3) w') from place_any 1 2 5 w' (by decide) (by decide) (by decide) (by decide) (by decide) (by decide)))
  have HFI := Lib.hid (fun w' (e : Ext w12 w') => (show Calls Tryz.prog 20 #[.pointer (some ⟨d, 0, none⟩), .agg #[.int .i64 2, .int .i64 2]] w' (Ret (.int .i64 1) w') from by
    have h := fitShape_any w' 2 2 (HL12.out.disk.ext e) (by rw [lgA2_many]; decide) (by rw [lgA2_size]; decide)
    rw [show fits lgA2.k 2 2 = false from by simp [fits, lgA2_many]] at h
    exact h))
  have HDN := Lib.hid (fun w' (e : Ext w12 w') => logDown_any w' (HL12.out.log.ext e))
  clear hc0 hc6 hxl
  simp only [List.append_eq, List.cons_append, List.nil_append]
  refine wp_region_tail (C := fun w' => ∃ p : Regrown, w' = grow (redrawn w12 p.d) p.os) 67 (by kernel_rfl) (by kernel_rfl) (regrown_start w12) ?_
  simp only [List.take_succ_cons, List.take_zero, List.drop_succ_cons, List.drop_zero]
  iterate 31 go_big_quiet_step (fail)
  go_big_quiet_want
  refine q_load_blk 42 (.tmp 10) rfl w11.heap.size 42 lgA2.x.cells rfl (fun w' hw' => HX12.out.ext (regrown_ext hw')) _ Tryz.underlying42 rfl HXI.out ?_
  simp only [Act.put, List.setIfInBounds_toArray, List.set_cons_zero, List.set_cons_succ]
  go_big_quiet_on
  go_big_quiet_step (fail)
  go_big_quiet_step ((go_at_call 10; exact Calls.regrown_of (HSU.out _ (below_regrown _ _ _))))
  go_big_quiet_want
  refine q_bin .eql 42 (.tmp 73) (.tmp 75) 42 rfl (.agg lgA2.x.cells.toArray) (.agg lgA2.x.cells.toArray) (.bool true) rfl rfl (fun w' => sp_guard _ _ _ _ _ w') (fun w' => by have h := sp_eql lgA2.x lgA2.x w' HL12.out.log.ok.x HL12.out.log.ok.x; rw [decide_eq_true rfl] at h; exact h) ?_
  simp only [Act.put, List.setIfInBounds_toArray, List.set_cons_zero, List.set_cons_succ]
  go_big_quiet_on
  iterate 32 go_big_quiet_step (first | (go_at_call 29; exact Calls.regrown_of (HPL.out _)) | (go_at_call 20; exact Calls.regrown_of (HFI.out _ (below_regrown _ _ _))) | (go_at_call 30; exact Calls.regrown_of (retainNil_any _)) | (go_at_call 31; exact Calls.regrown_of (HDN.out _ (below_regrown _ _ _))))
  refine wpQuiet_nil ?_
  intro w13 hw13
  have HE13 := Lib.hid (HL12.out.ext.trans (regrown_ext hw13))
  clear hw13 r0 r6 rs0 rs1
  go_wp2_with fail
  go_ret
  exact ⟨rfl, HE13.out⟩
end Go.Proofs.YtnkebhlkhpgghaaGreatDoor
