/- SeglogSteps: for any numbers, shape and script the law answers true, and its arguments read as before. Condition: the table blackbox/digest.constants starts as the program's text lays it (the card ties it). -/
import Derived.Test.YtnkebhlkhpgghaaGreatDoorPart11
import Derived.Test.YtnkebhlkhpgghaaGreatDoorRows
import Derived.Test.YtnkebhlkhpgghaaGreatDoorTie
import Derived.Test.YtnkebhlkhpgghaaGreatDoorCards
import Derived.ProofKit
import Derived.LaidMore
import Derived.OpenShut
import Derived.Stop.Joined
import Derived.Lib.LaidTab
import Derived.Lib.SmallJoins
import Derived.Deep.Slices
import Derived.Carry
import Derived.SevenTiedAt
set_option linter.unusedVariables false
set_option linter.unusedSimpArgs false

/- The row of SeglogSteps, and its card: for any numbers, shape and script the law answers true; the listed table is the one that the program's text lays. -/
namespace Go.Proofs.YtnkebhlkhpgghaaGreatDoor
open Go Go.ChangeShapes Go.WideShapes Go.RowKit Go.Deep

theorem ownGo : ownKnob Tryz.prog.godebug = none := by kernel_rfl
theorem laidOut : laidOutB Tryz.prog = true := by kernel_rfl
def laidRow : List (String × DataW Unit) := [("blackbox/digest.constants", Rows.laid_blackbox_digest_constants)]
theorem gConst : Tryz.prog.globalNamed "blackbox/digest.constants" = some 0 := by kernel_rfl
theorem tConst : (Tryz.prog.globals[0]?).map (·.type) = some 191 := by kernel_rfl
theorem dConst : (Rows.laid_blackbox_digest_constants : DataW Unit) = Lib.tabData .u32 K64 := rfl
theorem door_met (os : Os) (args : Array Value) : laidMetH Tryz.prog laidRow ((World.doorLaid Tryz.prog 14 os).forCall (fun _ _ => 0) ⟨#[], args, []⟩).memory :=
  laidMetH_of_parts3 (fuel := 8) (laidMet_of_run' 8 (by kernel_rfl) (by kernel_rfl)) (by kernel_rfl) (by kernel_rfl)
/-- What the condition gives the walks. -/
theorem tab_of_laid {W : World} (h : laidMetH Tryz.prog laidRow W) : Tab W := by
  rw [MakeChecks.laidMetH_plain _ _ _ (by kernel_rfl)] at h
  unfold laidRow at h
  rw [dConst] at h
  have ht := Lib.tabIs_of_head gConst tConst Tryz.underlying191 Tryz.underlying127 (by kernel_rfl) (by kernel_rfl) h
  unfold Lib.TabIs World.var? at ht
  rw [gConst] at ht
  simp only [Option.bind_some] at ht
  split at ht
  · rename_i cs ty fr he
    exact ⟨ty, fr, by rw [he, Option.some.inj ht]; rfl⟩
  · cases ht
theorem wf_i64 {n : Int} (h : (Lit.int .i64 n).wf = true) : -9223372036854775808 ≤ n ∧ n < 9223372036854775808 := by
  have := bounds_i64 h
  omega
theorem wf_u64 {n : Int} (h : (Lit.int .u64 n).wf = true) : 0 ≤ n ∧ n < 18446744073709551616 := by
  have := bounds_u64 h
  omega
instance : Inhabited Stp := ⟨⟨0, 0, 0, 0, none, 0, 0⟩⟩
section
variable {H : Type} {enc : TypeId × Value → H} {W : World} {base : Nat} {sp : Nat → Bool} {held : Bool}
set_option maxRecDepth 20000 in
/-- A step of a script, opened. -/
theorem open_step {fuel : Nat} {a : Addr} {cs : List Value} {y : DataW H × List MemPlace} (hc : W.cells? base a 5 = some cs) (h : DataW.trod enc Tryz.prog W base sp held fuel 37 cs = some y) :
    ∃ x : Stp, x.In ∧ ∀ (j : Nat) (u : Value), x.cells[j]? = some u → W.cell? (a.add j) = some u := by
  obtain ⟨_, hlen, hcell⟩ := World.cells?_some hc
  match cs, hlen, hcell with
  | [v0, v1, v2, v3, v4], _, hcell =>
    obtain ⟨xs, n, _, _, _, hx, hf⟩ := DataW.trod_struct Tryz.underlying37 h
    have n3 : Tryz.prog.cellsOf 3 = 1 := by kernel_rfl
    have n34 : Tryz.prog.cellsOf 34 = 1 := by kernel_rfl
    have n35 : Tryz.prog.cellsOf 35 = 1 := by kernel_rfl
    have hx : xs.length = 5 := hx
    match xs, hx, hf with
    | [y0, y1, y2, y3, y4], _, hf =>
      have f0 : DataW.trod enc Tryz.prog W base sp held n 3 (([v0, v1, v2, v3, v4].drop 0).take (Tryz.prog.cellsOf 3)) = [y0, y1, y2, y3, y4][0]? := hf 0 _ rfl
      have f1 : DataW.trod enc Tryz.prog W base sp held n 3 (([v0, v1, v2, v3, v4].drop 1).take (Tryz.prog.cellsOf 3)) = [y0, y1, y2, y3, y4][1]? := hf 1 _ rfl
      have f2 : DataW.trod enc Tryz.prog W base sp held n 3 (([v0, v1, v2, v3, v4].drop 2).take (Tryz.prog.cellsOf 3)) = [y0, y1, y2, y3, y4][2]? := hf 2 _ rfl
      have f3 : DataW.trod enc Tryz.prog W base sp held n 34 (([v0, v1, v2, v3, v4].drop 3).take (Tryz.prog.cellsOf 34)) = [y0, y1, y2, y3, y4][3]? := hf 3 _ rfl
      have f4 : DataW.trod enc Tryz.prog W base sp held n 35 (([v0, v1, v2, v3, v4].drop 4).take (Tryz.prog.cellsOf 35)) = [y0, y1, y2, y3, y4][4]? := hf 4 _ rfl
      simp only [n3, n34, n35, List.drop_zero, List.drop_succ_cons, List.take_succ_cons, List.take_zero, List.getElem?_cons_zero, List.getElem?_cons_succ] at f0 f1 f2 f3 f4
      obtain ⟨a0, e0, _, w0⟩ := DataW.trod_int Tryz.underlying3 f0
      obtain ⟨a1, e1, _, w1⟩ := DataW.trod_int Tryz.underlying3 f1
      obtain ⟨a2, e2, _, w2⟩ := DataW.trod_int Tryz.underlying3 f2
      obtain ⟨a3, e3, _, w3⟩ := DataW.trod_int Tryz.underlying34 f3
      have h4 : ∃ A l c, v4 = .slice A l c := by
        rcases DataW.trod_slice Tryz.underlying35 f4 with ⟨h4, _⟩ | ⟨a, l, c, _, _, _, _, h4, _⟩
        · simp at h4; exact ⟨_, _, _, h4⟩
        · simp at h4; exact ⟨_, _, _, h4⟩
      obtain ⟨A, l, c, rfl⟩ := h4
      simp only [List.cons.injEq, and_true] at e0 e1 e2 e3
      subst e0 e1 e2 e3
      refine ⟨⟨a0, a1, a2, a3, A, l, c⟩, ⟨wf_i64 w2, wf_u64 w3⟩, fun j u hu => ?_⟩
      have hj : j < 5 := by have := (List.getElem?_eq_some_iff.1 hu).1; simpa [Stp.cells] using this
      rw [hcell j hj]
      exact hu
set_option maxRecDepth 20000 in
/-- A script, opened. -/
theorem open_script {fuel : Nat} {a0 : Option Addr} {len cap : Nat} {x : DataW H × List MemPlace} (h : DataW.trod enc Tryz.prog W base sp held fuel 24 [.slice a0 len cap] = some x) :
    ∃ l : List Stp, l.length = len ∧ Rd W 5 Stp.cells (.slice a0 len cap) l ∧ len ≤ 9223372036854775807 ∧ ∀ y ∈ l, y.In := by
  have n37 : Tryz.prog.cellsOf 37 = 5 := by kernel_rfl
  rcases open_slice Tryz.underlying24 h with ⟨hcs, _⟩ | ⟨a, len', cap', m, n, D, Pl, hcs, _, hl, hm, hmm, _, hx⟩
  · simp at hcs
    obtain ⟨rfl, rfl, rfl⟩ := hcs
    exact ⟨[], rfl, Rd.none _ _ _, by omega, by simp⟩
  · simp at hcs
    obtain ⟨rfl, rfl, rfl⟩ := hcs
    unfold maxLen at hm
    have hlm : len ≤ m := by rw [hmm]; split <;> omega
    rw [n37] at hx
    obtain ⟨V, hV⟩ := choose_lt (α := Stp) (p := fun i y => i < len → y.In ∧ ∀ (j : Nat) (u : Value), y.cells[j]? = some u → W.cell? ((a.add (i * 5)).add j) = some u) (fun i (hi : i < m) => by
      obtain ⟨cs', h1, h2⟩ := hx i hi
      obtain ⟨y, hy, hy2⟩ := open_step h1 h2
      exact ⟨y, fun _ => ⟨hy, hy2⟩⟩)
    refine ⟨(List.range len).map V, by simp, ⟨some a, cap, by simp, by simpa using hl, by omega, fun hpos => ?_⟩, by omega, fun y hy => ?_⟩
    · have hpos : 0 < len := by simpa using hpos
      obtain ⟨b, off, spot⟩ := a
      have hc0 := (hV 0 (by omega) hpos).2 0 _ rfl
      have hspot : spot = none := by simpa [Addr.add] using World.cell?_spot hc0
      subst hspot
      refine ⟨b, off, rfl, World.block_lt_of_cell? W _ hc0, fun i y hy j u hu => ?_⟩
      have hi : i < len := by have := (List.getElem?_eq_some_iff.1 hy).1; simpa using this
      simp [hi] at hy
      subst hy
      have h5 := (hV i (by omega) hi).2 j u hu
      rw [Addr.add_lit, Addr.add_lit] at h5
      exact h5
    · simp only [List.mem_map, List.mem_range] at hy
      obtain ⟨i, hi, rfl⟩ := hy
      exact (hV i (by omega) hi).1
end

set_option maxRecDepth 100000 in
theorem steps_lifted (os : Os) (started : os.Started) (H : Type) (enc : TypeId × Value → H) :
    ReturnsInHanded {} Tryz.checked os 3 .any (fun w args => (Rows.seglogStepsSpec.pre enc Tryz.prog Tryz.f3 [] false w args ∧ laidMetH Tryz.prog laidRow w) ∧ sizedMet enc Tryz.prog Tryz.f3 (OpenSpec.ofChange Rows.seglogStepsSpec) false w args)
      (Rows.seglogStepsSpec.post enc Tryz.prog Tryz.f3 false true false false) := by
  refine returnsInHanded_of_change_and (C := Tryz.checked) (X := fun w _ => laidMetH Tryz.prog laidRow w) (fun _ _ _ hh h => h.of_heap hh) ownGo started (by kernel_rfl) Tryz.func3
    (ChangeSpec.witness_shaped (enc := enc) (C := Tryz.checked) (os := os) (X := fun w _ => laidMetH Tryz.prog laidRow w) false (World.doorLaid Tryz.prog 14 os) #[.int .i64 0, .int .i64 0, .agg #[.int .i64 0, .int .i64 0], .slice none 0 0] 8 rfl (World.shaped_of_RefB (by kernel_rfl) (by kernel_rfl)) (by kernel_rfl) (by kernel_rfl) (by kernel_rfl) (door_met os _)) ?_
  intro W base args ds gs before hval0 hW _ _ hL _
  have hval : ∀ (j : Nat) t v, Tryz.f3.params[j]? = some t → args[j]? = some v → Value.okWide Tryz.prog W .any base t v := hval0
  have hW' := hW
  obtain ⟨p, q, hA0, hV, rfl, hfz, hnd⟩ := hW
  have hA : DataW.TrodAll enc Tryz.prog W 0 (fun _ => true) true Tryz.f3.params.toList args.toList ds p := hA0
  rw [Tryz.params3] at hA hval
  obtain ⟨v0, v1, v2, v3, d0, d1, d2, d3, p0, p1, p2, p3, rfl, rfl, rfl, h0, h1, h2, h3⟩ := trodAll_four hA
  obtain ⟨rfl, rfl⟩ := trodVars_none hV
  have hT := tab_of_laid hL
  obtain ⟨many, rfl, rfl, rfl, wn⟩ := open_int Tryz.underlying3 (hval 0 3 v0 rfl rfl) h0
  obtain ⟨size, rfl, rfl, rfl, wz⟩ := open_int Tryz.underlying3 (hval 1 3 v1 rfl rfl) h1
  have k2 := h2
  have lt2 : ∀ x ∈ p2, x.block < W.heap.size := by obtain ⟨m, hm⟩ := k2; exact DataW.trod_lt m _ _ _ hm
  have k3 := h3
  have lt3 : ∀ x ∈ p3, x.block < W.heap.size := by obtain ⟨m, hm⟩ := k3; exact DataW.trod_lt m _ _ _ hm
  obtain ⟨c0, c1, y0, y1, n, rfl, _, _, g0, g1⟩ := Go.Joins.open_agg2 Tryz.underlying23 (by kernel_rfl) (by kernel_rfl) (hval 2 23 v2 rfl rfl) h2
  obtain ⟨per, e0, _, wp⟩ := DataW.trod_int Tryz.underlying3 g0
  obtain ⟨segs, e1, _, ws⟩ := DataW.trod_int Tryz.underlying3 g1
  simp only [List.cons.injEq, and_true] at e0 e1
  subst e0 e1
  obtain ⟨a0, len, cap, rfl⟩ := okWide_slice Tryz.underlying24 (hval 3 24 v3 rfl rfl)
  obtain ⟨l, hl, hR, hlen, hin⟩ : ∃ l : List Stp, l.length = len ∧ Rd W 5 Stp.cells (.slice a0 len cap) l ∧ len ≤ 9223372036854775807 ∧ ∀ y ∈ l, y.In := by
    obtain ⟨fuel, hf⟩ := h3
    exact open_script hf
  clear hA0 hval0
  refine (steps_any many size per segs _ l W hT hR (by omega) hin).mono fun e W' ⟨he, bel⟩ => ?_
  subst he
  exact ⟨_, rfl, _, _, _, [], _, [], hW', trodAll_mk1 (shut_bool Tryz.underlying4 _), (trodAll_mk4 (shut_int Tryz.underlying3 wn) (shut_int Tryz.underlying3 wz) (Below.trod laidOut (by kernel_rfl) (of_decide_eq_true (by kernel_rfl)) k2 bel lt2) (Below.trod laidOut (by kernel_rfl) (of_decide_eq_true (by kernel_rfl)) k3 bel lt3)), rfl, bel.frame _, fun h => by cases h⟩

theorem steps_said : Rows.SeglogStepsSaid :=
  OpenClaim.holds_of_wide 3 Tryz.f3 rfl rfl rfl rfl rfl rfl rfl ⟨rfl, rfl, rfl, rfl, rfl⟩ rfl rfl rfl rfl rfl (by kernel_rfl) Tryz.func3 (by kernel_rfl)
    (of_decide_eq_true (by kernel_rfl)) (by unfold Func.isWrapper; first | (rw [if_pos (by decide +kernel)]; kernel_rfl) | (rw [if_neg (by decide +kernel)]; exact ⟨rfl, rfl⟩))
    (fun os started H enc _ => steps_lifted os started H enc)
end Go.Proofs.YtnkebhlkhpgghaaGreatDoor
namespace Go.Proofs.YtnkebhlkhpgghaaGreatDoor
open Go
theorem steps_card : Rows.SeglogStepsCardSaid :=
  Claim7.holds_tied_plain_at .later [] [.data] true _ false
    steps_said (fun _ h => by cases h) (by kernel_rfl) (fun _ h => by cases h) seglogSteps_row_tie rfl ⟨rfl, rfl⟩ (by kernel_rfl) rfl
    (fun f fn hf hfn => by
      obtain rfl : f = 3 := Option.some.inj ((show Tryz.prog.funcNamed "blackbox/blackboxlaw12.SeglogSteps" = some 3 by kernel_rfl).symm.trans hf) |>.symm
      obtain rfl : fn = Tryz.f3 := (Option.some.inj (Tryz.func3.symm.trans hfn)).symm
      exact ⟨by kernel_rfl, fun j t ht => by
        rw [Tryz.params3] at ht
        have hm : t ∈ [3, 3, 23, 24] := by simpa using Array.mem_of_getElem? ht
        have hall : ([3, 3, 23, 24].all fun u => !Tryz.prog.wantsStandIn u) = true := by kernel_rfl
        exact (show Tryz.prog.wantsStandIn t = false by simpa using List.all_eq_true.1 hall t hm)⟩)
    (by kernel_rfl)
#print axioms steps_card
end Go.Proofs.YtnkebhlkhpgghaaGreatDoor
