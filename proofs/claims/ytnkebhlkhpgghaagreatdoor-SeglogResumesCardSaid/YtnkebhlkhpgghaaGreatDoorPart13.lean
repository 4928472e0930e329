/- Part of a proof: the walks of the functions, and their plain laws: Rres, Rres2, FreeG. -/
import Derived.Test.YtnkebhlkhpgghaaGreatDoorPart12
set_option linter.unusedVariables false
set_option linter.unusedSimpArgs false

/- The reference's Resume: where it is refused at once. -/
namespace Go.Proofs.YtnkebhlkhpgghaaGreatDoor
open Go Go.RowKit Go.Deep Go.Sort

set_option maxRecDepth 8000 in
set_option maxHeartbeats 1600000 in
theorem rresE_any (dv : Value) (per segs e : Int) (x : Sp) (A : Option Addr) (n c : Nat) (w : World) (hx : x.In) (he : e = 1 ∨ e = 5) (hdv : ∃ p, dv = .pointer p) (hF : ∀ w', Ext w w' → Calls Tryz.prog 46 #[dv, .agg #[.int .i64 per, .int .i64 segs]] w' (Ret (.int .i64 e) w')) :
    Calls Tryz.prog 18 #[dv, .agg #[.int .i64 per, .int .i64 segs], .agg x.cells.toArray, .slice A n c] w (Ret (.tuple #[.pointer none, .int .i64 e]) w) := by
  obtain ⟨w1, hw1⟩ : ∃ w1, w1 = (w.alloc (.cells #[.int .i64 per, .int .i64 segs] 23)).alloc (.cells x.cells.toArray 42) := ⟨_, rfl⟩
  have HE1 := Lib.hid (show Ext w w1 from by rw [hw1]; exact ((Ext.refl w).alloc _).alloc _)
  have HS1 := Lib.hid (show Blk w1 w.heap.size 23 #[.int .i64 per, .int .i64 segs] from by rw [hw1]; exact (Blk.new _ _ _).alloc _)
  have HF := Lib.hid hF
  have HI := Lib.hid sh_info
  obtain ⟨dp, rfl⟩ := hdv
  clear hx hF
  rcases he with rfl | rfl
  all_goals
    go_enter Tryz.func18, Tryz.ntmps18
    go_wp2_with (first | (have hg := HS1; rw [← hw1]; clear hw1) | (have hg := HS1; refine wpList_load_blk rfl 23 (.tmp 5) rfl w.heap.size 23 [.int .i64 per, .int .i64 segs] rfl HS1.out _ Tryz.underlying23 rfl HI.out ?_) | (go_at_call 46; refine (HF.out _ HE1.out).mono ?_; rintro e w2 ⟨rfl, hE2⟩; have HE2 := Lib.hid (HE1.out.trans hE2); clear hE2))
    go_ret2
    exact ⟨rfl, HE2.out⟩
theorem rresNil_any (per segs : Int) (x : Sp) (A : Option Addr) (n c : Nat) (w : World) (hx : x.In) :
    Calls Tryz.prog 18 #[.pointer none, .agg #[.int .i64 per, .int .i64 segs], .agg x.cells.toArray, .slice A n c] w (Ret (.tuple #[.pointer none, .int .i64 5]) w) :=
  rresE_any _ per segs 5 x A n c w hx (.inr rfl) ⟨_, rfl⟩ (fun w' _ => ref12FitNil_any per segs w')
theorem rresNo_any {r n0 z : Nat} (per segs : Int) (x : Sp) (A : Option Addr) (n c : Nat) (w : World) (hx : x.In) (hR : RefB w r n0 z) (hn : n0 ≤ 4096) (hf : fits (Dk.new n0 z) per segs = false) :
    Calls Tryz.prog 18 #[.pointer (some ⟨r, 0, none⟩), .agg #[.int .i64 per, .int .i64 segs], .agg x.cells.toArray, .slice A n c] w (Ret (.tuple #[.pointer none, .int .i64 1]) w) :=
  rresE_any _ per segs 1 x A n c w hx (.inl rfl) ⟨_, rfl⟩ (fun w' e => by have h := ref12Fit_any per segs w' (hR.ext e) hn; rw [hf] at h; exact h)
set_option maxRecDepth 8000 in
set_option maxHeartbeats 1600000 in
theorem rresShort_any {r n0 z : Nat} (p s : Nat) (x : Sp) (A : Option Addr) (c : Nat) (hs : List Hd) (w : World) (hx : x.In) (hl : hs.length ≤ 100) (hR : RefB w r n0 z) (hn0 : n0 ≤ 4096) (hf : fits (Dk.new n0 z) p s = true) (hcap : p * z ≤ 90000) (hb : hs.length < 1 ∨ s < hs.length ∨ x.en < 64 ∨ ((p * z : Nat) : Int) < x.en) :
    Calls Tryz.prog 18 #[.pointer (some ⟨r, 0, none⟩), .agg #[.int .i64 p, .int .i64 s], .agg x.cells.toArray, .slice A hs.length c] w (Ret (.tuple #[.pointer none, .int .i64 11]) w) := by
  obtain ⟨w1, hw1⟩ : ∃ w1, w1 = (w.alloc (.cells #[.int .i64 p, .int .i64 s] 23)).alloc (.cells x.cells.toArray 42) := ⟨_, rfl⟩
  have HE1 := Lib.hid (show Ext w w1 from by rw [hw1]; exact ((Ext.refl w).alloc _).alloc _)
  have HS1 := Lib.hid (show Blk w1 w.heap.size 23 #[.int .i64 p, .int .i64 s] from by rw [hw1]; exact (Blk.new _ _ _).alloc _)
  have HX1 := Lib.hid (show Blk w1 (w.heap.size + 1) 42 x.cells.toArray from by rw [hw1]; exact Blk.new' (by simp))
  have HF := Lib.hid (fun w' (e : Ext w w') => (show Calls Tryz.prog 46 #[.pointer (some ⟨r, 0, none⟩), .agg #[.int .i64 p, .int .i64 s]] w' (Ret (.int .i64 0) w') from by have h := ref12Fit_any p s w' (hR.ext e) hn0; rw [hf] at h; exact h))
  have HI := Lib.hid sh_info
  have HX := Lib.hid hx
  have HRZ := Lib.hid (fun w' (e : Ext w w') => (show w'.cell? ⟨r, 1, none⟩ = some (.int .i64 z) from by obtain ⟨A0, c0, hB, _⟩ := hR; exact (hB.ext e).cell 1))
  have hw5 : IntKind.i64.wrap ((p : Int) * (z : Int)) = ((p * z : Nat) : Int) := by rw [← Int.natCast_mul]; exact IntWalk.i64_in _ (by omega)
  have hw6 : IntKind.u64.wrap ((p * z : Nat) : Int) = ((p * z : Nat) : Int) := IntWalk.u64_in _ (by omega)
  obtain ⟨q, hq⟩ : ∃ q, q = p * z := ⟨_, rfl⟩
  rw [← hq] at hw5 hw6 hb
  clear hq hx hR hf hcap hn0
  obtain ⟨n, hn⟩ : ∃ n, n = hs.length := ⟨_, rfl⟩
  rw [← hn] at hl hb ⊢
  clear hn
  have G0 := Lib.hid True.intro
  by_cases b1 : (n : Int) < 1
  · have d1 : decide ((n : Int) < 1) = true := by simpa using b1
    clear hb
    go_enter Tryz.func18, Tryz.ntmps18
    go_wp2_with (first | (have hg := HS1; rw [← hw1]; clear hw1) | (have hg := HS1; clear G0; refine wpList_load_blk rfl 23 (.tmp 5) rfl w.heap.size 23 [.int .i64 p, .int .i64 s] rfl HS1.out _ Tryz.underlying23 rfl HI.out ?_) | (go_at_call 46; refine (HF.out _ HE1.out).mono ?_; rintro e w2 ⟨rfl, hE2⟩; have HE2 := Lib.hid (HE1.out.trans hE2); have HS2 := Lib.hid (HS1.out.ext hE2); have HX2 := Lib.hid (HX1.out.ext hE2); have c0 : w2.cell? ⟨w.heap.size, 0, none⟩ = some (.int .i64 p) := HS2.out.cell 0; have c1 : w2.cell? ⟨w.heap.size, 1, none⟩ = some (.int .i64 s) := HS2.out.cell 1; have c36 : w2.cell? ⟨w.heap.size + 1, 36, none⟩ = some (.int .u64 x.en) := (HX2.out.cell 36).trans (Sp.cells_hi HX.out 1); have cz : w2.cell? ⟨r, 1, none⟩ = some (.int .i64 z) := HRZ.out _ HE2.out; clear hE2))
    have rc0 := cell_regrown c0
    have rc1 := cell_regrown c1
    have rc36 := cell_regrown c36
    have rcz := cell_regrown cz
    refine wp_region_tail (C := fun w' => ∃ rg : Regrown, w' = grow (redrawn w2 rg.d) rg.os) 27 (by kernel_rfl) (by kernel_rfl) (regrown_start w2) ?_
    simp only [List.take_succ_cons, List.take_zero, List.drop_succ_cons, List.drop_zero]
    iterate 27 go_big_quiet_step (fail)
    refine wpQuiet_nil ?_
    intro w3 hw3
    have HE3 := Lib.hid (HE2.out.trans (regrown_ext hw3))
    clear hw3 rc0 rc1 rc36 rcz
    go_wp2_with fail
    go_ret2
    exact ⟨rfl, HE3.out⟩
  · have d1 : decide ((n : Int) < 1) = false := by simp; omega
    by_cases b2 : (s : Int) < n
    · have d2 : decide ((s : Int) < n) = true := by simpa using b2
      clear hb b1
      go_enter Tryz.func18, Tryz.ntmps18
      go_wp2_with (first | (have hg := HS1; rw [← hw1]; clear hw1) | (have hg := HS1; clear G0; refine wpList_load_blk rfl 23 (.tmp 5) rfl w.heap.size 23 [.int .i64 p, .int .i64 s] rfl HS1.out _ Tryz.underlying23 rfl HI.out ?_) | (go_at_call 46; refine (HF.out _ HE1.out).mono ?_; rintro e w2 ⟨rfl, hE2⟩; have HE2 := Lib.hid (HE1.out.trans hE2); have HS2 := Lib.hid (HS1.out.ext hE2); have HX2 := Lib.hid (HX1.out.ext hE2); have c0 : w2.cell? ⟨w.heap.size, 0, none⟩ = some (.int .i64 p) := HS2.out.cell 0; have c1 : w2.cell? ⟨w.heap.size, 1, none⟩ = some (.int .i64 s) := HS2.out.cell 1; have c36 : w2.cell? ⟨w.heap.size + 1, 36, none⟩ = some (.int .u64 x.en) := (HX2.out.cell 36).trans (Sp.cells_hi HX.out 1); have cz : w2.cell? ⟨r, 1, none⟩ = some (.int .i64 z) := HRZ.out _ HE2.out; clear hE2))
      have rc0 := cell_regrown c0
      have rc1 := cell_regrown c1
      have rc36 := cell_regrown c36
      have rcz := cell_regrown cz
      refine wp_region_tail (C := fun w' => ∃ rg : Regrown, w' = grow (redrawn w2 rg.d) rg.os) 27 (by kernel_rfl) (by kernel_rfl) (regrown_start w2) ?_
      simp only [List.take_succ_cons, List.take_zero, List.drop_succ_cons, List.drop_zero]
      iterate 27 go_big_quiet_step (fail)
      refine wpQuiet_nil ?_
      intro w3 hw3
      have HE3 := Lib.hid (HE2.out.trans (regrown_ext hw3))
      clear hw3 rc0 rc1 rc36 rcz
      go_wp2_with fail
      go_ret2
      exact ⟨rfl, HE3.out⟩
    · have d2 : decide (s < n) = false := by simp; omega
      have d2' : n ≤ s := by omega
      by_cases b3 : x.en < 64
      · have d3 : decide (x.en < 64) = true := by simpa using b3
        clear hb b1 b2
        go_enter Tryz.func18, Tryz.ntmps18
        go_wp2_with (first | (have hg := HS1; rw [← hw1]; clear hw1) | (have hg := HS1; clear G0; refine wpList_load_blk rfl 23 (.tmp 5) rfl w.heap.size 23 [.int .i64 p, .int .i64 s] rfl HS1.out _ Tryz.underlying23 rfl HI.out ?_) | (go_at_call 46; refine (HF.out _ HE1.out).mono ?_; rintro e w2 ⟨rfl, hE2⟩; have HE2 := Lib.hid (HE1.out.trans hE2); have HS2 := Lib.hid (HS1.out.ext hE2); have HX2 := Lib.hid (HX1.out.ext hE2); have c0 : w2.cell? ⟨w.heap.size, 0, none⟩ = some (.int .i64 p) := HS2.out.cell 0; have c1 : w2.cell? ⟨w.heap.size, 1, none⟩ = some (.int .i64 s) := HS2.out.cell 1; have c36 : w2.cell? ⟨w.heap.size + 1, 36, none⟩ = some (.int .u64 x.en) := (HX2.out.cell 36).trans (Sp.cells_hi HX.out 1); have cz : w2.cell? ⟨r, 1, none⟩ = some (.int .i64 z) := HRZ.out _ HE2.out; clear hE2))
        have rc0 := cell_regrown c0
        have rc1 := cell_regrown c1
        have rc36 := cell_regrown c36
        have rcz := cell_regrown cz
        refine wp_region_tail (C := fun w' => ∃ rg : Regrown, w' = grow (redrawn w2 rg.d) rg.os) 27 (by kernel_rfl) (by kernel_rfl) (regrown_start w2) ?_
        simp only [List.take_succ_cons, List.take_zero, List.drop_succ_cons, List.drop_zero]
        iterate 27 go_big_quiet_step (fail)
        refine wpQuiet_nil ?_
        intro w3 hw3
        have HE3 := Lib.hid (HE2.out.trans (regrown_ext hw3))
        clear hw3 rc0 rc1 rc36 rcz
        go_wp2_with fail
        go_ret2
        exact ⟨rfl, HE3.out⟩
      · have b4 : (q : Int) < x.en := by omega
        have d3 : decide (x.en < 64) = false := by simp; omega
        have d4 : decide ((q : Int) < x.en) = true := by simpa using b4
        clear hb b1 b2 b3
        go_enter Tryz.func18, Tryz.ntmps18
        go_wp2_with (first | (have hg := HS1; rw [← hw1]; clear hw1) | (have hg := HS1; clear G0; refine wpList_load_blk rfl 23 (.tmp 5) rfl w.heap.size 23 [.int .i64 p, .int .i64 s] rfl HS1.out _ Tryz.underlying23 rfl HI.out ?_) | (go_at_call 46; refine (HF.out _ HE1.out).mono ?_; rintro e w2 ⟨rfl, hE2⟩; have HE2 := Lib.hid (HE1.out.trans hE2); have HS2 := Lib.hid (HS1.out.ext hE2); have HX2 := Lib.hid (HX1.out.ext hE2); have c0 : w2.cell? ⟨w.heap.size, 0, none⟩ = some (.int .i64 p) := HS2.out.cell 0; have c1 : w2.cell? ⟨w.heap.size, 1, none⟩ = some (.int .i64 s) := HS2.out.cell 1; have c36 : w2.cell? ⟨w.heap.size + 1, 36, none⟩ = some (.int .u64 x.en) := (HX2.out.cell 36).trans (Sp.cells_hi HX.out 1); have cz : w2.cell? ⟨r, 1, none⟩ = some (.int .i64 z) := HRZ.out _ HE2.out; clear hE2))
        have rc0 := cell_regrown c0
        have rc1 := cell_regrown c1
        have rc36 := cell_regrown c36
        have rcz := cell_regrown cz
        refine wp_region_tail (C := fun w' => ∃ rg : Regrown, w' = grow (redrawn w2 rg.d) rg.os) 27 (by kernel_rfl) (by kernel_rfl) (regrown_start w2) ?_
        simp only [List.take_succ_cons, List.take_zero, List.drop_succ_cons, List.drop_zero]
        iterate 27 go_big_quiet_step (fail)
        refine wpQuiet_nil ?_
        intro w3 hw3
        have HE3 := Lib.hid (HE2.out.trans (regrown_ext hw3))
        clear hw3 rc0 rc1 rc36 rcz
        go_wp2_with fail
        go_ret2
        exact ⟨rfl, HE3.out⟩
end Go.Proofs.YtnkebhlkhpgghaaGreatDoor
/- The reference's Resume: the walk. -/
namespace Go.Proofs.YtnkebhlkhpgghaaGreatDoor
open Go Go.RowKit Go.Deep Go.Sort

theorem u64_neq (y q : Int) (b : Bool) (w : World) (h : (!decide (y = q)) = b) : (binOp .neq 34 (.int .u64 y) (.int .u64 q)).run Tryz.prog w = .ok (.bool b) w := by
  subst h
  by_cases h : y = q <;> simp [binOp, Op.equal, Op.maxDepth, Op.equalIn, Op.intCmp, run_underlying Tryz.underlying34, h]
theorem lgAll_73 {x : Sp} (hx : x.In) (p : Value) (per segs : Int) (s e : Value) (next : Int) : (lgAll p per segs x s e next)[73]? = some s := by
  have hl := Sp.cells_length hx
  have h : lgAll p per segs x s e next = ([p, .int .i64 per, .int .i64 segs] ++ x.cells) ++ (s :: ([e] ++ bcells x.sum ++ [.int .u64 next, .bool false])) := by simp [lgAll]
  rw [h, List.getElem?_append_right (by simp [hl])]
  simp [hl]
/-- The reference's log, behind its Resume. -/
def RLog (w : World) (g r p s : Nat) (x : Sp) (hs : List Hd) : Prop := ∃ hb c', Blk w g 102 (lgAll (.pointer (some ⟨r, 0, none⟩)) p s x (.slice (some ⟨hb, 0, none⟩) hs.length c') (.int .u64 x.en) x.next).toArray ∧ HdS w (some ⟨hb, 0, none⟩) hs
def RRes (w : World) (r p s z : Nat) (x : Sp) (hs : List Hd) : Ending → World → Prop := fun e w' =>
  (rsm p s z x hs = false ∧ e = .returned (.tuple #[.pointer none, .int .i64 11]) ∧ Ext w w') ∨ (rsm p s z x hs = true ∧ ∃ g, e = .returned (.tuple #[.pointer (some ⟨g, 0, none⟩), .int .i64 0]) ∧ RLog w' g r p s x hs ∧ Ext w w')
theorem lgAll_set {x : Sp} (hx : x.In) (p : Value) (per segs : Int) (s s' e : Value) (next : Int) : (lgAll p per segs x s e next).toArray.setIfInBounds 73 s' = (lgAll p per segs x s' e next).toArray := by
  have hl := Sp.cells_length hx
  have h : ∀ s, lgAll p per segs x s e next = ([p, .int .i64 per, .int .i64 segs] ++ x.cells) ++ (s :: ([e] ++ bcells x.sum ++ [.int .u64 next, .bool false])) := fun s => by simp [lgAll]
  rw [h, h, List.setIfInBounds_toArray, List.set_append_right _ _ (by simp [hl])]
  simp [hl]
theorem HdS.keep {S : Nat → Prop} {w w' : World} {g : Nat} {hs : List Hd} (h : HdS w (some ⟨g, 0, none⟩) hs) (k : Keep S w w') (hg : ¬ S g) : HdS w' (some ⟨g, 0, none⟩) hs := fun i x hx => ⟨g, 0, rfl, fun j u hu => k.cell_some (h.range i x hx j u hu) hg⟩
theorem rsm_yes {p s z : Nat} {x : Sp} {hs : List Hd} (h : Lnk s x hs) (h3 : 64 ≤ x.en) (h4 : x.en ≤ ((p * z : Nat) : Int)) : rsm p s z x hs = true := by
  rw [Int.natCast_mul] at h4
  simp [rsm, lnk_true h, h3, h4]
theorem rsm_no {p s : Int} {z : Nat} {x : Sp} {hs : List Hd} (h : ¬ Lnk s x hs) : rsm p s z x hs = false := by simp [rsm, lnk_false h]
set_option maxRecDepth 8000 in
set_option maxHeartbeats 3200000 in
theorem rresLong_any {r n0 z : Nat} (p s : Nat) (x : Sp) (hb ho c : Nat) (hs : List Hd) (w : World) (hx : x.In) (hi : ∀ h ∈ hs, h.In) (hl : hs.length ≤ 100) (hS : HdS w (some ⟨hb, ho, none⟩) hs) (hR : RefB w r n0 z) (hn0 : n0 ≤ 4096) (hf : fits (Dk.new n0 z) p s = true) (hcap : p * z ≤ 90000)
    (h1 : 1 ≤ hs.length) (h2 : hs.length ≤ s) (h3 : 64 ≤ x.en) (h4 : x.en ≤ ((p * z : Nat) : Int)) :
    Calls Tryz.prog 18 #[.pointer (some ⟨r, 0, none⟩), .agg #[.int .i64 p, .int .i64 s], .agg x.cells.toArray, .slice (some ⟨hb, ho, none⟩) hs.length c] w (RRes w r p s z x hs) := by
  obtain ⟨w1, hw1⟩ : ∃ w1, w1 = (w.alloc (.cells #[.int .i64 p, .int .i64 s] 23)).alloc (.cells x.cells.toArray 42) := ⟨_, rfl⟩
  have HE1 := Lib.hid (show Ext w w1 from by rw [hw1]; exact ((Ext.refl w).alloc _).alloc _)
  have HS1 := Lib.hid (show Blk w1 w.heap.size 23 #[.int .i64 p, .int .i64 s] from by rw [hw1]; exact (Blk.new _ _ _).alloc _)
  have HX1 := Lib.hid (show Blk w1 (w.heap.size + 1) 42 x.cells.toArray from by rw [hw1]; exact Blk.new' (by simp))
  have HF := Lib.hid (fun w' (e : Ext w w') => (show Calls Tryz.prog 46 #[.pointer (some ⟨r, 0, none⟩), .agg #[.int .i64 p, .int .i64 s]] w' (Ret (.int .i64 0) w') from by have h := ref12Fit_any p s w' (hR.ext e) hn0; rw [hf] at h; exact h))
  have HI := Lib.hid sh_info
  have HX := Lib.hid hx
  have HRZ := Lib.hid (fun w' (e : Ext w w') => (show w'.cell? ⟨r, 1, none⟩ = some (.int .i64 z) from by obtain ⟨A0, c0, hB, _⟩ := hR; exact (hB.ext e).cell 1))
  have hw5 : IntKind.i64.wrap ((p : Int) * (z : Int)) = ((p * z : Nat) : Int) := by rw [← Int.natCast_mul]; exact IntWalk.i64_in _ (by omega)
  have hw6 : IntKind.u64.wrap ((p * z : Nat) : Int) = ((p * z : Nat) : Int) := IntWalk.u64_in _ (by omega)
  obtain ⟨q, hq⟩ : ∃ q, q = p * z := ⟨_, rfl⟩
  have HQ := Lib.hid (And.intro h1 (And.intro h2 (And.intro h3 h4)))
  rw [← hq] at hw5 hw6 h4
  have HXI := Lib.hid (sp_infoOf hx)
  have HDI := Lib.hid (show (Tryz.prog.info? 40).map (·.size) = some (bcells x.sum).length from by rw [bcells_length, hx.s]; kernel_rfl)
  have HHS := Lib.hid (And.intro hi hS)
  have HN1 := Lib.hid h1
  have HN2 := Lib.hid hl
  have d3 : decide (x.en < 64) = false := by simp; omega
  have d4 : decide ((q : Int) < x.en) = false := by simp; omega
  obtain ⟨n, hn⟩ : ∃ n, n = hs.length := ⟨_, rfl⟩
  rw [← hn] at hl h1 h2 ⊢
  have HN := Lib.hid hn
  have d1 : decide ((n : Int) < 1) = false := by simp; omega
  have d2 : decide (s < n) = false := by simp; omega
  have d2' : n ≤ s := by omega
  have hn100 : n ≤ 100 := hl
  clear hq hx hR hf hcap hn0 hn h1 h2 h3 h4 hi hS hl
  have G0 := Lib.hid True.intro
  go_enter Tryz.func18, Tryz.ntmps18
  go_wp2_with (first | (have hg := HS1; rw [← hw1]; clear hw1) | (have hg := HS1; clear G0; refine wpList_load_blk rfl 23 (.tmp 5) rfl w.heap.size 23 [.int .i64 p, .int .i64 s] rfl HS1.out _ Tryz.underlying23 rfl HI.out ?_) | (go_at_call 46; refine (HF.out _ HE1.out).mono ?_; rintro e w2 ⟨rfl, hE2⟩; have HE2 := Lib.hid (HE1.out.trans hE2); have HS2 := Lib.hid (HS1.out.ext hE2); have HX2 := Lib.hid (HX1.out.ext hE2); have c0 : w2.cell? ⟨w.heap.size, 0, none⟩ = some (.int .i64 p) := HS2.out.cell 0; have c1 : w2.cell? ⟨w.heap.size, 1, none⟩ = some (.int .i64 s) := HS2.out.cell 1; have c36 : w2.cell? ⟨w.heap.size + 1, 36, none⟩ = some (.int .u64 x.en) := (HX2.out.cell 36).trans (Sp.cells_hi HX.out 1); have cz : w2.cell? ⟨r, 1, none⟩ = some (.int .i64 z) := HRZ.out _ HE2.out; clear hE2))
  have rc0 := cell_regrown c0
  have rc1 := cell_regrown c1
  have rc36 := cell_regrown c36
  have rcz := cell_regrown cz
  refine wp_region_tail (C := fun w' => ∃ rg : Regrown, w' = grow (redrawn w2 rg.d) rg.os) 27 (by kernel_rfl) (by kernel_rfl) (regrown_start w2) ?_
  simp only [List.take_succ_cons, List.take_zero, List.drop_succ_cons, List.drop_zero]
  iterate 27 go_big_quiet_step (fail)
  refine wpQuiet_nil ?_
  intro w3 hw3
  have HE3 := Lib.hid (regrown_ext hw3)
  clear hw3 rc0 rc1 rc36 rcz c0 c1 c36 cz d1 d2 d3 d4 hw5 hw6
  go_wp2_with fail
  go_loopw [11] (fun t wr => ∃ i : Nat, t = .int .i64 i ∧ i ≤ n ∧ Ext w2 wr ∧ ∀ (j : Nat) (h : Hd), j < i → hs[j]? = some h → h.id = IntKind.u64.wrap (x.tail + j)) (fun t _ => n - (intOf t).toNat)
  case atStart => exact ⟨0, rfl, by omega, HE3.out, fun j h hj => absurd hj (by omega)⟩
  case round =>
    obtain ⟨i, rfl, hin, hE, hall⟩ := hrel
    have HE := Lib.hid hE
    have HALL := Lib.hid hall
    clear hE hall
    by_cases hlt : i < n
    · have i0 : (i : Int) < n := by omega
      obtain ⟨h, hh⟩ : ∃ h, hs[i]? = some h := ⟨_, List.getElem?_eq_getElem (by rw [← HN.out]; exact hlt)⟩
      have HH := Lib.hid hh
      have HR := Lib.hid ((HHS.out.2.ext (HE2.out.trans HE.out)).range i h hh)
      have ci : wr.cell? ⟨hb, ho + i * 34, none⟩ = some (.int .u64 h.id) := HR.out 0 _ rfl
      have ct : wr.cell? ⟨w.heap.size + 1, 1, none⟩ = some (.int .u64 x.tail) := (HX2.out.ext HE.out).cell 1
      have hwi : IntKind.u64.wrap (i : Int) = i := IntWalk.u64_in _ (by omega)
      have ri := cell_regrown ci
      have rt := cell_regrown ct
      clear hh
      go_wp2_with fail
      refine wp_region_tail (C := fun w' => ∃ rg : Regrown, w' = grow (redrawn wr rg.d) rg.os) 10 (by kernel_rfl) (by kernel_rfl) (regrown_start wr) ?_
      simp only [List.take_succ_cons, List.take_zero, List.drop_succ_cons, List.drop_zero]
      iterate 10 go_big_quiet_step (fail)
      refine wpQuiet_nil ?_
      intro w4 hw4
      have HE4 := Lib.hid (HE.out.trans (regrown_ext hw4))
      clear hw4 ri rt ci ct
      have G1 := Lib.hid True.intro
      by_cases hid : h.id = IntKind.u64.wrap (x.tail + i)
      · have HID := Lib.hid hid
        clear hid
        go_wp2_with (clear G1; refine wpList_binG rfl .neq 34 (.tmp 57) (.tmp 62) _ rfl (.int .u64 h.id) (.int .u64 (IntKind.u64.wrap (x.tail + i))) (.bool false) rfl rfl (u64_guard _ _ _ _ _ _) (u64_neq _ _ _ _ (by rw [decide_eq_true HID.out]; rfl)) ?_)
        go_roundw
        case rel => exact ⟨i + 1, by go_num, by omega, HE4.out, fun j h' hj hh' => by
          rcases Nat.lt_succ_iff_lt_or_eq.1 hj with hj | rfl
          · exact HALL.out j h' hj hh'
          · obtain rfl : h = h' := Option.some.inj (HH.out.symm.trans hh')
            exact HID.out⟩
        case measure => simp [intOf]; omega
      · have HID := Lib.hid hid
        clear hid
        go_wp2_with (clear G1; refine wpList_binG rfl .neq 34 (.tmp 57) (.tmp 62) _ rfl (.int .u64 h.id) (.int .u64 (IntKind.u64.wrap (x.tail + i))) (.bool true) rfl rfl (u64_guard _ _ _ _ _ _) (u64_neq _ _ _ _ (by rw [decide_eq_false HID.out]; rfl)) ?_)
        go_ret2
        exact .inl ⟨rsm_no (fun hl => HID.out (hl.ids i h HH.out)), rfl, HE2.out.trans HE4.out⟩
    · obtain rfl : i = n := by omega
      have n1 : 1 ≤ i := by rw [HN.out]; exact HN1.out
      obtain ⟨k, hk⟩ : ∃ k, i = k + 1 := ⟨i - 1, by omega⟩
      obtain ⟨f, hf⟩ : ∃ f, hs[0]? = some f := ⟨_, List.getElem?_eq_getElem (by rw [← HN.out]; omega)⟩
      obtain ⟨l, hl⟩ : ∃ l, hs[k]? = some l := ⟨_, List.getElem?_eq_getElem (by rw [← HN.out]; omega)⟩
      have HFI := Lib.hid (HHS.out.1 f (List.mem_of_getElem? hf))
      have HLI := Lib.hid (HHS.out.1 l (List.mem_of_getElem? hl))
      have HSr := Lib.hid (HHS.out.2.ext (HE2.out.trans HE.out))
      have hrf : wr.rangeAt hb ho f.cells := (by have h := HSr.out.range 0 f hf; rw [Nat.zero_mul, Nat.add_zero] at h; exact h)
      have cf : wr.cell? ⟨hb, ho + 1, none⟩ = some (.int .u64 f.first) := hrf 1 _ rfl
      have cl : wr.cell? ⟨hb, ho + k * 34, none⟩ = some (.int .u64 l.id) := HSr.out.range k l hl 0 _ rfl
      have cx : wr.cell? ⟨w.heap.size + 1, 35, none⟩ = some (.int .u64 x.id) := ((HX2.out.ext HE.out).cell 35).trans (Sp.cells_hi HX.out 0)
      have cy : wr.cell? ⟨w.heap.size + 1, 2, none⟩ = some (.int .u64 x.first) := (HX2.out.ext HE.out).cell 2
      have HRF2 := Lib.hid (fun w' (e : Ext wr w') => (show w'.rangeAt hb (ho + 2) (bcells f.anchor) from fun j u hu => by
        have h := e.cell_some (hrf (2 + j) u (by simpa [Hd.cells, Nat.add_comm] using hu))
        rw [← Nat.add_assoc] at h
        exact h))
      have HRX2 := Lib.hid (fun w' (e : Ext wr w') => (show w'.rangeAt (w.heap.size + 1) 3 (bcells x.anchor) from Blk.rangeAt (A := [.int .u64 x.epoch, .int .u64 x.tail, .int .u64 x.first]) (B := bcells x.anchor) (C := [.int .u64 x.id, .int .u64 x.en, .int .u64 x.next] ++ bcells x.sum) (by simpa [Sp.cells] using (HX2.out.ext HE.out).ext e)))
      have HI60 := Lib.hid (show (Tryz.prog.info? 40).map (·.size) = some (bcells f.anchor).length from by rw [bcells_length, HFI.out.a]; kernel_rfl)
      have HI62 := Lib.hid (show (Tryz.prog.info? 40).map (·.size) = some (bcells x.anchor).length from by rw [bcells_length, HX.out.a]; kernel_rfl)
      have HNS := Lib.hid (show hs.length - 1 = k from by rw [← HN.out, hk]; rfl)
      have HFL2 := Lib.hid (And.intro hf (And.intro hl hk))
      have hw : IntKind.i64.wrap ((i : Int) - 1) = (k : Int) := by rw [show (i : Int) - 1 = k from by omega]; exact IntWalk.i64_in _ (by omega)
      have k0 : (0 : Int) ≤ k := by omega
      have k1 : (k : Int) < i := by omega
      have k2 : (0 : Int) < i := by omega
      have k3 : ¬ i = 0 := by omega
      clear hf hl hk hrf
      by_cases h50 : l.id = x.id
      · have H50 := Lib.hid h50
        have H73 := Lib.hid (show (!decide (l.id = x.id)) = false from by simp [h50])
        clear h50
        by_cases h56 : f.first = x.first
        · have H56 := Lib.hid h56
          have H81 := Lib.hid (show (!decide (f.first = x.first)) = false from by simp [h56])
          clear h56
          by_cases h63 : f.anchor = x.anchor
          · have H63 := Lib.hid h63
            have H90 := Lib.hid (fun w' => (show (binOp .neq 40 (.agg (bcells f.anchor).toArray) (.agg (bcells x.anchor).toArray)).run Tryz.prog w' = .ok (.bool false) w' from by rw [dig_neq _ _ w' HFI.out.a HX.out.a, decide_eq_true h63]; rfl))
            clear h63
            go_wp2_with fail
            have rl := cell_regrown cl
            have rx := cell_regrown cx
            have rf := cell_regrown cf
            have ry := cell_regrown cy
            refine wp_region_tail (C := fun w' => ∃ rg : Regrown, w' = grow (redrawn wr rg.d) rg.os) 27 (by kernel_rfl) (by kernel_rfl) (regrown_start wr) ?_
            simp only [List.take_succ_cons, List.take_zero, List.drop_succ_cons, List.drop_zero]
            iterate 9 go_big_quiet_step (fail)
            go_big_quiet_want
            refine q_bin .neq 34 (.tmp 70) (.tmp 72) _ rfl (.int .u64 l.id) (.int .u64 x.id) (.bool false) rfl rfl (fun w' => u64_guard _ _ _ _ _ w') (fun w' => u64_neq _ _ _ w' H73.out) ?_
            simp only [Act.put, List.setIfInBounds_toArray, List.set_cons_zero, List.set_cons_succ]
            go_big_quiet_on
            iterate 7 go_big_quiet_step (fail)
            go_big_quiet_want
            refine q_bin .neq 34 (.tmp 78) (.tmp 80) _ rfl (.int .u64 f.first) (.int .u64 x.first) (.bool false) rfl rfl (fun w' => u64_guard _ _ _ _ _ w') (fun w' => u64_neq _ _ _ w' H81.out) ?_
            simp only [Act.put, List.setIfInBounds_toArray, List.set_cons_zero, List.set_cons_succ]
            go_big_quiet_on
            iterate 5 go_big_quiet_step (fail)
            go_big_quiet_want
            refine q_load_mid 40 (.tmp 86) rfl hb (ho + 2) (bcells f.anchor) rfl (fun w' hw' => HRF2.out w' (regrown_ext hw')) _ Tryz.underlying40 rfl HI60.out ?_
            simp only [Act.put, List.setIfInBounds_toArray, List.set_cons_zero, List.set_cons_succ]
            go_big_quiet_on
            iterate 1 go_big_quiet_step (fail)
            go_big_quiet_want
            refine q_load_mid 40 (.tmp 88) rfl (w.heap.size + 1) 3 (bcells x.anchor) rfl (fun w' hw' => HRX2.out w' (regrown_ext hw')) _ Tryz.underlying40 rfl HI62.out ?_
            simp only [Act.put, List.setIfInBounds_toArray, List.set_cons_zero, List.set_cons_succ]
            go_big_quiet_on
            go_big_quiet_want
            refine q_bin .neq 40 (.tmp 87) (.tmp 89) _ rfl (.agg (bcells f.anchor).toArray) (.agg (bcells x.anchor).toArray) (.bool false) rfl rfl (fun w' => dig_guard _ _ _ _ _ w') (fun w' => H90.out w') ?_
            simp only [Act.put, List.setIfInBounds_toArray, List.set_cons_zero, List.set_cons_succ]
            go_big_quiet_on
            refine wpQuiet_nil ?_
            intro w6 hw6'
            have HE6 := Lib.hid (HE.out.trans (regrown_ext hw6'))
            have HR6 := Lib.hid (regrown_ext hw6')
            clear hw6' rl rx rf ry
            have HS6 := Lib.hid ((HS2.out.ext HE.out).ext HR6.out)
            have HX6 := Lib.hid ((HX2.out.ext HE.out).ext HR6.out)
            have d36 : w6.cell? ⟨w.heap.size + 1, 36, none⟩ = some (.int .u64 x.en) := (HX6.out.cell 36).trans (Sp.cells_hi HX.out 1)
            have d37 : w6.cell? ⟨w.heap.size + 1, 37, none⟩ = some (.int .u64 x.next) := (HX6.out.cell 37).trans (Sp.cells_hi HX.out 2)
            have HSR6 := Lib.hid (show w6.rangeAt (w.heap.size + 1) 38 (bcells x.sum) from sp_sumrange HX.out HX6.out)
            obtain ⟨LG, hLG⟩ : ∃ LG, LG = lgAll (.pointer (some ⟨r, 0, none⟩)) p s x (.slice none 0 0) (.int .u64 x.en) x.next := ⟨_, rfl⟩
            obtain ⟨w7, hw7⟩ : ∃ w7, w7 = w6.alloc (.cells LG.toArray 102) := ⟨_, rfl⟩
            have HE7 := Lib.hid (show Ext w6 w7 from by rw [hw7]; exact (Ext.refl _).alloc _)
            have HB7 := Lib.hid (show Blk w7 w6.heap.size 102 LG.toArray from by rw [hw7]; exact Blk.new _ _ _)
            have HL73 := Lib.hid (show LG[73]? = some (.slice none 0 0) from by rw [hLG]; exact lgAll_73 HX.out _ _ _ _ _ _)
            have c73 : w7.cell? ⟨w6.heap.size, 73, none⟩ = some (.slice none 0 0) := (HB7.out.cell 73).trans (by rw [List.getElem?_toArray]; exact HL73.out)
            have HBD := Lib.hid (show ∀ w, (Instr.build 102 #[(0, .pointer (some ⟨r, 0, none⟩)), (1, .agg #[.int .i64 p, .int .i64 s]), (2, .agg x.cells.toArray), (4, .int .u64 x.en), (5, .agg (bcells x.sum).toArray), (6, .int .u64 x.next)]).run Tryz.prog w = .ok (.agg LG.toArray) w from fun w => by rw [hLG]; exact build_rlx r p s x HX.out w)
            have HLG := Lib.hid hLG
            clear hLG
            have G1 := Lib.hid True.intro
            have G2 := Lib.hid True.intro
            have G3 := Lib.hid True.intro
            have G4 := Lib.hid True.intro
            have G5 := Lib.hid True.intro
            go_wp2_with (first | (have hg := HB7; rw [← hw7]; clear hw7) | (have hg := HS6; clear G1; refine wpList_load_blk rfl 23 (.tmp 5) rfl w.heap.size 23 [.int .i64 p, .int .i64 s] rfl HS6.out _ Tryz.underlying23 rfl HI.out ?_) | (have hg := HX6; clear G2; refine wpList_load_blk rfl 42 (.tmp 6) rfl (w.heap.size + 1) 42 x.cells rfl HX6.out _ Tryz.underlying42 rfl HXI.out ?_) | (have hg := HX6; clear G3; refine wpList_load_mid rfl 40 (.tmp 97) rfl (w.heap.size + 1) 38 rfl (bcells x.sum) _ HSR6.out Tryz.underlying40 rfl HDI.out ?_) | (have hg := HBD; clear G4; refine Great.wpList_readTo rfl (some 101) rfl (.agg LG.toArray) (by have h9 := HBD.out w6; unfold execOp; simp only [List.map_toArray, List.map_cons, List.map_nil, Sem.run_bind]; erw [h9]; rfl) ?_) | (at_builtin; have hq := HB7; clear G5; refine wpList_copyH rfl (.tmp 107) (.tmp 108) rfl rfl hb ho c i hs rfl HN.out HHS.out.1 ((HHS.out.2.ext (HE2.out.trans HE.out)).ext (HR6.out.trans HE7.out)) HN1.out HN2.out ?_; intro g' c' w8 h1 h2 h3 h4 h5 h6; have HE8 := Lib.hid h3; have HC8 := Lib.hid (And.intro h1 h2); have HB8 := Lib.hid (HB7.out.ext h3); have e73 : w8.cell? ⟨w6.heap.size, 73, none⟩ = some (.slice none 0 0) := h3.cell_some c73; have fz : w8.frozen? ⟨w6.heap.size, 73, none⟩ = false := HB8.out.frozen 73; clear h1 h2 h3 h4 h5 h6))
            go_ret2
            have hL : Lnk s x hs := ⟨HN1.out, (by have := HQ.out.2.1; omega), fun j h hh => HALL.out j h (by rw [HN.out]; exact (List.getElem?_eq_some_iff.1 hh).1) hh, (fun h hh => by rw [HNS.out] at hh; rw [← Option.some.inj (HFL2.out.2.1.symm.trans hh)]; exact H50.out), (fun h hh => by rw [← Option.some.inj (HFL2.out.1.symm.trans hh)]; exact H56.out), (fun h hh => by rw [← Option.some.inj (HFL2.out.1.symm.trans hh)]; exact H63.out)⟩
            have hsz : w6.heap.size < w7.heap.size := HB7.out.lt
            have hEw := HE2.out.trans HE6.out
            refine .inr ⟨rsm_yes hL HQ.out.2.2.1 HQ.out.2.2.2, w6.heap.size, by simp, ⟨g', c', ?_, ?_⟩, ?_⟩
            · have h9 := HB8.out.set 73 (.slice (some ⟨g', 0, none⟩) i c')
              rw [HLG.out, lgAll_set HX.out, HN.out] at h9
              rw [HN.out]
              exact h9
            · exact HC8.out.2.keep ((Keep.refl (One w6.heap.size) w8).setIn rfl 73 _) (fun hh => by have hh : g' = w6.heap.size := hh; have := HC8.out.1; omega)
            · exact ((hEw.trans HE7.out).trans HE8.out).setCell (p := ⟨w6.heap.size, 73, none⟩) hEw.size _
          · have H63 := Lib.hid h63
            have H90 := Lib.hid (fun w' => (show (binOp .neq 40 (.agg (bcells f.anchor).toArray) (.agg (bcells x.anchor).toArray)).run Tryz.prog w' = .ok (.bool true) w' from by rw [dig_neq _ _ w' HFI.out.a HX.out.a, decide_eq_false h63]; rfl))
            clear h63
            go_wp2_with fail
            have rl := cell_regrown cl
            have rx := cell_regrown cx
            have rf := cell_regrown cf
            have ry := cell_regrown cy
            refine wp_region_tail (C := fun w' => ∃ rg : Regrown, w' = grow (redrawn wr rg.d) rg.os) 27 (by kernel_rfl) (by kernel_rfl) (regrown_start wr) ?_
            simp only [List.take_succ_cons, List.take_zero, List.drop_succ_cons, List.drop_zero]
            iterate 9 go_big_quiet_step (fail)
            go_big_quiet_want
            refine q_bin .neq 34 (.tmp 70) (.tmp 72) _ rfl (.int .u64 l.id) (.int .u64 x.id) (.bool false) rfl rfl (fun w' => u64_guard _ _ _ _ _ w') (fun w' => u64_neq _ _ _ w' H73.out) ?_
            simp only [Act.put, List.setIfInBounds_toArray, List.set_cons_zero, List.set_cons_succ]
            go_big_quiet_on
            iterate 7 go_big_quiet_step (fail)
            go_big_quiet_want
            refine q_bin .neq 34 (.tmp 78) (.tmp 80) _ rfl (.int .u64 f.first) (.int .u64 x.first) (.bool false) rfl rfl (fun w' => u64_guard _ _ _ _ _ w') (fun w' => u64_neq _ _ _ w' H81.out) ?_
            simp only [Act.put, List.setIfInBounds_toArray, List.set_cons_zero, List.set_cons_succ]
            go_big_quiet_on
            iterate 5 go_big_quiet_step (fail)
            go_big_quiet_want
            refine q_load_mid 40 (.tmp 86) rfl hb (ho + 2) (bcells f.anchor) rfl (fun w' hw' => HRF2.out w' (regrown_ext hw')) _ Tryz.underlying40 rfl HI60.out ?_
            simp only [Act.put, List.setIfInBounds_toArray, List.set_cons_zero, List.set_cons_succ]
            go_big_quiet_on
            iterate 1 go_big_quiet_step (fail)
            go_big_quiet_want
            refine q_load_mid 40 (.tmp 88) rfl (w.heap.size + 1) 3 (bcells x.anchor) rfl (fun w' hw' => HRX2.out w' (regrown_ext hw')) _ Tryz.underlying40 rfl HI62.out ?_
            simp only [Act.put, List.setIfInBounds_toArray, List.set_cons_zero, List.set_cons_succ]
            go_big_quiet_on
            go_big_quiet_want
            refine q_bin .neq 40 (.tmp 87) (.tmp 89) _ rfl (.agg (bcells f.anchor).toArray) (.agg (bcells x.anchor).toArray) (.bool true) rfl rfl (fun w' => dig_guard _ _ _ _ _ w') (fun w' => H90.out w') ?_
            simp only [Act.put, List.setIfInBounds_toArray, List.set_cons_zero, List.set_cons_succ]
            go_big_quiet_on
            refine wpQuiet_nil ?_
            intro w6 hw6'
            have HE6 := Lib.hid (HE.out.trans (regrown_ext hw6'))
            have HR6 := Lib.hid (regrown_ext hw6')
            clear hw6' rl rx rf ry
            go_wp2_with fail
            go_ret2
            exact .inl ⟨rsm_no (fun hl => H63.out (hl.anchor f HFL2.out.1)), rfl, HE2.out.trans HE6.out⟩
        · have H56 := Lib.hid h56
          have H81 := Lib.hid (show (!decide (f.first = x.first)) = true from by simp [h56])
          clear h56
          go_wp2_with fail
          have rl := cell_regrown cl
          have rx := cell_regrown cx
          have rf := cell_regrown cf
          have ry := cell_regrown cy
          refine wp_region_tail (C := fun w' => ∃ rg : Regrown, w' = grow (redrawn wr rg.d) rg.os) 27 (by kernel_rfl) (by kernel_rfl) (regrown_start wr) ?_
          simp only [List.take_succ_cons, List.take_zero, List.drop_succ_cons, List.drop_zero]
          iterate 9 go_big_quiet_step (fail)
          go_big_quiet_want
          refine q_bin .neq 34 (.tmp 70) (.tmp 72) _ rfl (.int .u64 l.id) (.int .u64 x.id) (.bool false) rfl rfl (fun w' => u64_guard _ _ _ _ _ w') (fun w' => u64_neq _ _ _ w' H73.out) ?_
          simp only [Act.put, List.setIfInBounds_toArray, List.set_cons_zero, List.set_cons_succ]
          go_big_quiet_on
          iterate 7 go_big_quiet_step (fail)
          go_big_quiet_want
          refine q_bin .neq 34 (.tmp 78) (.tmp 80) _ rfl (.int .u64 f.first) (.int .u64 x.first) (.bool true) rfl rfl (fun w' => u64_guard _ _ _ _ _ w') (fun w' => u64_neq _ _ _ w' H81.out) ?_
          simp only [Act.put, List.setIfInBounds_toArray, List.set_cons_zero, List.set_cons_succ]
          go_big_quiet_on
          iterate 9 go_big_quiet_step (fail)
          refine wpQuiet_nil ?_
          intro w6 hw6'
          have HE6 := Lib.hid (HE.out.trans (regrown_ext hw6'))
          have HR6 := Lib.hid (regrown_ext hw6')
          clear hw6' rl rx rf ry
          go_wp2_with fail
          go_ret2
          exact .inl ⟨rsm_no (fun hl => H56.out (hl.first f HFL2.out.1)), rfl, HE2.out.trans HE6.out⟩
      · have H50 := Lib.hid h50
        have H73 := Lib.hid (show (!decide (l.id = x.id)) = true from by simp [h50])
        clear h50
        go_wp2_with fail
        have rl := cell_regrown cl
        have rx := cell_regrown cx
        have rf := cell_regrown cf
        have ry := cell_regrown cy
        refine wp_region_tail (C := fun w' => ∃ rg : Regrown, w' = grow (redrawn wr rg.d) rg.os) 27 (by kernel_rfl) (by kernel_rfl) (regrown_start wr) ?_
        simp only [List.take_succ_cons, List.take_zero, List.drop_succ_cons, List.drop_zero]
        iterate 9 go_big_quiet_step (fail)
        go_big_quiet_want
        refine q_bin .neq 34 (.tmp 70) (.tmp 72) _ rfl (.int .u64 l.id) (.int .u64 x.id) (.bool true) rfl rfl (fun w' => u64_guard _ _ _ _ _ w') (fun w' => u64_neq _ _ _ w' H73.out) ?_
        simp only [Act.put, List.setIfInBounds_toArray, List.set_cons_zero, List.set_cons_succ]
        go_big_quiet_on
        iterate 17 go_big_quiet_step (fail)
        refine wpQuiet_nil ?_
        intro w6 hw6'
        have HE6 := Lib.hid (HE.out.trans (regrown_ext hw6'))
        have HR6 := Lib.hid (regrown_ext hw6')
        clear hw6' rl rx rf ry
        go_wp2_with fail
        go_ret2
        exact .inl ⟨rsm_no (fun hl => H50.out (hl.last l (by rw [HNS.out]; exact HFL2.out.2.1))), rfl, HE2.out.trans HE6.out⟩
end Go.Proofs.YtnkebhlkhpgghaaGreatDoor
/- The rule of XFree for a region with guards, each of which says yes. Over any program. -/
namespace Go.Proofs.YtnkebhlkhpgghaaGreatDoor
open Go Go.RowKit

/-- Each operation that has a slot has one of its own, and waits for earlier ones alone. -/
def freeGB (md : Region.Mode) (ops : Array Oper) (n : Nat) : Bool :=
  (List.range ops.size).all fun i => match ops[i]? with
    | none => true
    | some o => (match o.dst with | none => true | some d => decide (d < n)) && o.after.all (fun e => !Region.binds md e || decide (e.on < i)) &&
      (List.range ops.size).all fun j => decide (i = j) || (match ops[j]? with | none => true | some o' => o'.dst != o.dst || o.dst.isNone)
section
variable {P : Program} {ops : Array Oper} {Q : Exit → Act → World → Prop} {a0 : Act} {w0 : World}

theorem wpAny_freeG {md : Region.Mode} {R : World → World → Prop} (Rt : ∀ {a b c}, R a b → R b c → R a c) (hpl : freeGB md ops a0.tmps.size = true) (A : Nat → Act → World → Prop)
    (stab : ∀ (i : Nat) (a : Act) (w w' : World), A i a w → R w w' → A i a w')
    (loc : ∀ (i j : Nat) (o : Oper) (a : Act) (w : World) (v : Value), ops[j]? = some o → i ≠ j → A i a w → A i (a.put o.dst v) w)
    (grd : ∀ (i : Nat) (o : Oper) (a : Act) (w : World), ops[i]? = some o → Beside ops a0 a → (∀ e ∈ o.after, Region.binds md e = true → A e.on a w) → Region.wanted o (yielded ops a.tmps) = true)
    (step : ∀ (i : Nat) (o : Oper) (a : Act) (w : World), ops[i]? = some o → Beside ops a0 a → R w0 w → (∀ e ∈ o.after, Region.binds md e = true → A e.on a w) → o.wp P a w (fun a' w' => ∃ v, a' = a.put o.dst v ∧ R w w' ∧ A i a' w') Q)
    (fin : ∀ (a : Act) (w : World), Beside ops a0 a → R w0 w → (∀ i, i < ops.size → A i a w) → Q .normal a w) :
    ∀ (f : Nat) (listed : Array Bool) (a : Act) (w : World), listed.size = ops.size → unlisted listed = f → Beside ops a0 a → R w0 w → (∀ i, i < ops.size → listed.getD i true = true → A i a w) → wpAny P md ops Q f listed a w := by
  have hall := List.all_eq_true.1 hpl
  have opOk : ∀ (i : Nat) (o : Oper), ops[i]? = some o → (∀ e ∈ o.after, Region.binds md e = true → e.on < i) := by
    intro i o hi
    have hlt := (Array.getElem?_eq_some_iff.1 hi).1
    have h := hall i (List.mem_range.2 hlt)
    simp only [hi, Bool.and_eq_true] at h
    obtain ⟨⟨h2, h3⟩, h4⟩ := h
    intro e he hbe
    have h3' := Array.all_eq_true'.1 h3
    have h4' := h3' e he
    rw [hbe] at h4'
    simpa using h4'
  -- some operation may come up, as long as one is left
  have some_ready : ∀ (listed : Array Bool), listed.size = ops.size → 0 < unlisted listed → Region.ready md ops listed ≠ [] := by
    intro listed hs hu
    have hex : ∃ i, listed.getD i true = false := by
      refine Classical.byContradiction fun hno => ?_
      have h1 : ∀ i, listed.getD i true = true := fun i => by
        cases h : listed.getD i true with
        | true => rfl
        | false => exact absurd ⟨i, h⟩ hno
      have h2 : unlisted listed = 0 := by
        unfold unlisted
        rw [List.length_eq_zero_iff, List.filter_eq_nil_iff]
        intro b hb
        obtain ⟨i, hi, rfl⟩ := List.mem_iff_getElem.1 hb
        have := h1 i
        simp at hi
        simpa [hi] using this
      omega
    have key : ∀ n i, i = n → listed.getD i true = false → ∃ j, j ∈ Region.ready md ops listed := by
      intro n
      induction n using Nat.strongRecOn with
      | _ n ih =>
        intro i hin hi
        subst hin
        have hlt : i < ops.size := by
          rcases Nat.lt_or_ge i ops.size with h | h
          · exact h
          · simp [Array.getElem?_eq_none (by omega : listed.size ≤ i)] at hi
        obtain ⟨o, ho⟩ : ∃ o, ops[i]? = some o := ⟨_, Array.getElem?_eq_getElem hlt⟩
        by_cases hd : ∀ e ∈ o.after, Region.binds md e = true → listed.getD e.on false = true
        · exact ⟨i, mem_ready.2 ⟨hi, o, ho, hd⟩⟩
        · have hd' : ∃ e ∈ o.after, Region.binds md e = true ∧ ¬ listed.getD e.on false = true := by
            refine Classical.byContradiction fun hno => hd fun e he hb => Classical.byContradiction fun hn => hno ⟨e, he, hb, hn⟩
          obtain ⟨e, he, hb, hl⟩ := hd'
          have hlt2 := (opOk i o ho) e he hb
          have : listed.getD e.on true = false := by
            have h5 : e.on < listed.size := by omega
            simp [h5] at hl ⊢
            exact hl
          exact ih e.on hlt2 e.on rfl this
    obtain ⟨i, hi⟩ := hex
    obtain ⟨j, hj⟩ := key i i rfl hi
    intro h0
    rw [h0] at hj
    cases hj
  intro f
  induction f with
  | zero =>
    intro listed a w hs hu hb he hA
    refine ⟨?_, fin a w hb he (fun i hi => hA i hi (unlisted_zero hu i))⟩
    refine List.eq_nil_iff_forall_not_mem.2 fun j hj => ?_
    have h1 := (mem_ready.1 hj).1
    have h2 := unlisted_zero hu j
    rw [h1] at h2
    cases h2
  | succ f ih =>
    intro listed a w hs hu hb he hA
    refine ⟨fun h0 => absurd h0 (some_ready listed hs (by omega)), fun i hi => ?_⟩
    obtain ⟨hun, o, ho, hdep⟩ := mem_ready.1 hi
    have hlt := (Array.getElem?_eq_some_iff.1 ho).1
    have hdeps : ∀ e ∈ o.after, Region.binds md e = true → A e.on a w := fun e he' hbd => hA e.on (by have := (opOk i o ho) e he' hbd; omega) (by
      have h1 := hdep e he' hbd
      have h2 : e.on < listed.size := by have := (opOk i o ho) e he' hbd; omega
      simp [h2] at h1 ⊢
      exact h1)
    have hg := grd i o a w ho hb hdeps
    unfold wpOp
    simp only [ho, hg, if_true]
    left
    refine Oper.wp_mono ?_ (step i o a w ho hb he hdeps)
    · rintro a' w' ⟨v, rfl, hE, hAi⟩
      refine ih _ _ _ (by simp [hs]) (by have := unlisted_set hun; omega) (hb.put ho v) (Rt he hE) (fun j hj hl => ?_)
      by_cases hji : j = i
      · subst hji; exact hAi
      · refine loc j i o a w' v ho hji (stab j a w w' (hA j hj ?_) hE)
        rw [getD_set_ne true (fun e => hji e.symm)] at hl
        exact hl
/-- **The rule.** -/
theorem wp_region_freeG {id : Nat} {w : World} {l : List Oper} (R : World → World → Prop) (Rd : R w w.drew) (Rt : ∀ {a b c}, R a b → R b c → R a c) (hm : P.follows .mixedOrders = true) (hpl : freeGB .any l.toArray a0.tmps.size = true) (B : Nat → Value → World → Prop)
    (stab : ∀ (i : Nat) (v : Value) (w w' : World), B i v w → R w w' → B i v w')
    (grd : ∀ (i : Nat) (o : Oper) (a : Act) (w' : World), l[i]? = some o → Beside l.toArray a0 a → (∀ e ∈ o.after, Region.binds .any e = true → B e.on (a.eval (.tmp (slotOf l.toArray e.on))) w') → Region.wanted o (yielded l.toArray a.tmps) = true)
    (step : ∀ (i : Nat) (o : Oper) (a : Act) (w' : World), l[i]? = some o → Beside l.toArray a0 a → R w w' → (∀ e ∈ o.after, Region.binds .any e = true → B e.on (a.eval (.tmp (slotOf l.toArray e.on))) w') → o.wp P a w' (fun a' w'' => ∃ v, a' = a.put o.dst v ∧ R w' w'' ∧ ∀ u, (o.dst = none ∨ u = v) → B i u w'') Q)
    (fin : ∀ (a : Act) (w' : World), Beside l.toArray a0 a → R w w' → (∀ i, i < l.length → B i (a.eval (.tmp (slotOf l.toArray i))) w') → Q .normal a w') : (Code.region id l.toArray true).wp P Q a0 w := by
  have hall := List.all_eq_true.1 hpl
  have hsl : ∀ (i : Nat) (o : Oper), l[i]? = some o → slotOf l.toArray i = o.dst.getD 0 := fun i o h => by simp only [slotOf, List.getElem?_toArray, h, Option.bind_some]
  refine wp_region_any hm (wpAny_freeG (R := R) (w0 := w) Rt hpl (fun i a w => ∀ o, l[i]? = some o → ∀ u, (o.dst = none ∨ u = a.eval (.tmp (slotOf l.toArray i))) → B i u w) (fun i a w w' h e o ho u hu => stab i _ w w' (h o ho u hu) e) ?_ ?_ ?_
    (fun a w' hb he h => fin a w' hb he (fun i hi => h i (by simpa using hi) l[i] (by simp [hi]) _ (.inr rfl))) _ _ _ _ (by simp) ?_ ⟨rfl, rfl, fun _ _ => rfl⟩ Rd ?_)
  · intro i j o a w v hj hij h oi hoi u hu
    refine h oi hoi u ?_
    rcases hu with hu | hu
    · exact .inl hu
    · cases hd : oi.dst with
      | none => exact .inl rfl
      | some d =>
        have hi := (List.getElem?_eq_some_iff.1 hoi).1
        have h1 := hall i (List.mem_range.2 (by simpa using hi))
        simp only [List.getElem?_toArray, hoi, Bool.and_eq_true] at h1
        have h2 := h1.2
        have hjl := (Array.getElem?_eq_some_iff.1 hj).1
        have h3 := List.all_eq_true.1 h2 j (List.mem_range.2 hjl)
        rw [List.getElem?_toArray] at hj
        simp only [List.getElem?_toArray, hj, Bool.or_eq_true, decide_eq_true_eq, hd, Option.isNone_some] at h3
        have hne : o.dst ≠ some d := by
          rcases h3 with h3 | h3 | h3
          · exact absurd h3 hij
          · simpa using h3
          · cases h3
        rw [hsl i oi hoi, hd, Option.getD_some] at hu ⊢
        right
        rw [hu]
        cases ho : o.dst with
        | none => rfl
        | some d' => exact put_off v (fun e => hne (by rw [ho, e]))
  · intro i o a w' hi hb hdep
    have hi' : l[i]? = some o := by simpa using hi
    have hlt := (List.getElem?_eq_some_iff.1 hi').1
    have h1 := hall i (List.mem_range.2 (by simpa using hlt))
    simp only [hi, Bool.and_eq_true] at h1
    have haf := Array.all_eq_true'.1 h1.1.2
    exact grd i o a w' hi' hb (fun e h2 h3 => hdep e h2 h3 (l[e.on]'(by have := haf e h2; rw [h3] at this; simp at this; omega)) (by simp) _ (.inr rfl))
  · intro i o a w' hi hb he hdep
    have hi' : l[i]? = some o := by simpa using hi
    have hlt := (List.getElem?_eq_some_iff.1 hi').1
    have h1 := hall i (List.mem_range.2 (by simpa using hlt))
    simp only [hi, Bool.and_eq_true] at h1
    have haf := Array.all_eq_true'.1 h1.1.2
    refine Oper.wp_mono ?_ (step i o a w' hi' hb he (fun e h2 h3 => hdep e h2 h3 (l[e.on]'(by have := haf e h2; rw [h3] at this; simp at this; omega)) (by simp) _ (.inr rfl)))
    rintro a' w'' ⟨v, rfl, hE, hB⟩
    refine ⟨v, rfl, hE, fun o' ho' u hu => hB u ?_⟩
    obtain rfl : o = o' := Option.some.inj (hi'.symm.trans ho')
    cases hd : o.dst with
    | none => exact .inl rfl
    | some d =>
      right
      have h5 := h1.1.1
      rw [hd] at h5
      rw [hsl i o hi', hd, Option.getD_some, put_at v (by rw [hb.size]; simpa using h5)] at hu
      simpa [hd] using hu
  · simp [unlisted]
  · intro i hi hl
    simp at hi
    simp [hi] at hl
/-- A guard that says yes. -/
theorem wanted_yes {o : Oper} {a : Act} {j d : Nat} {b : Bool} (hg : o.guard = some (j, b)) (hs : (ops[j]?).bind (·.dst) = some d) (hv : a.eval (.tmp d) = .bool b) : Region.wanted o (yielded ops a.tmps) = true := by
  have h1 : a.tmps[d]? = some (.bool b) := by
    simp only [Act.eval, Array.getD_eq_getD_getElem?] at hv
    cases h : a.tmps[d]? with
    | none => rw [h] at hv; cases hv
    | some v => rw [h] at hv; rw [show v = .bool b from hv]
  simp [Region.wanted, hg, yielded, hs, h1]
theorem wanted_none {o : Oper} {y : Nat → Option Bool} (hg : o.guard = none) : Region.wanted o y = true := by simp [Region.wanted, hg]
end
end Go.Proofs.YtnkebhlkhpgghaaGreatDoor
