/- Part of a proof: the walks of the functions, and their plain laws: Steps, StepsP, Ref1, Ref2, Seen. -/
import Derived.Test.YtnkebhlkhpgghaaGreatDoorPart10
import Derived.Test.YtnkebhlkhpgghaaGreatDoorRows
import Derived.Test.YtnkebhlkhpgghaaGreatDoorTie
import Derived.Test.YtnkebhlkhpgghaaGreatDoorCards
import Derived.ProofKit
import Derived.LaidMore
import Derived.OpenShut
import Derived.Stop.Joined
import Derived.Lib.LaidTab
import Derived.Lib.SmallJoins
import Derived.Deep.Slices
import Derived.Carry
import Derived.SevenTiedAt
set_option linter.unusedVariables false
set_option linter.unusedSimpArgs false

/- law 12: SeglogSteps: the walk. -/
namespace Go.Proofs.YtnkebhlkhpgghaaGreatDoor
open Go Go.RowKit Go.Deep Go.Sort

theorem formatMiss_any {F : Nat → Prop} {d : Nat} {k : Dk} (per segs : Int) (w : World) (hD : Disk F w d k) (h : fits k per segs = false) : Calls Tryz.prog 7 #[.pointer (some ⟨d, 0, none⟩), .agg #[.int .i64 per, .int .i64 segs]] w (Ret (.tuple #[.pointer none, .int .i64 1]) w) := by
  refine formatNo_any _ per segs 1 (by decide) w (fun w' e => ?_)
  by_cases hs : k.many < 2 ∨ k.size < 256
  · exact fitSmall_any w' per segs (hD.ext e) hs
  · have h1 := fitShape_any w' per segs (hD.ext e) (by omega) (by omega)
    rw [h] at h1
    exact h1
theorem formatNil_any (per segs : Int) (w : World) : Calls Tryz.prog 7 #[.pointer none, .agg #[.int .i64 per, .int .i64 segs]] w (Ret (.tuple #[.pointer none, .int .i64 5]) w) :=
  formatNo_any _ per segs 5 (by decide) w (fun w' _ => fitNil_any w' per segs)
theorem fits_nat {k : Dk} {per segs : Int} (h : fits k per segs = true) : ∃ p s : Nat, per = p ∧ segs = s ∧ 2 ≤ s ∧ s ≤ 64 ∧ 1 ≤ p ∧ 2 + p * s ≤ k.many ∧ 256 ≤ k.size := by
  simp only [fits, shOk, Bool.and_eq_true, decide_eq_true_eq] at h
  obtain ⟨⟨⟨h1, h2⟩, ⟨⟨h3, h4⟩, h5⟩, h6⟩, h7⟩ := h
  obtain ⟨p, rfl⟩ := Int.eq_ofNat_of_zero_le (show 0 ≤ per by omega)
  obtain ⟨s, rfl⟩ := Int.eq_ofNat_of_zero_le (show 0 ≤ segs by omega)
  refine ⟨p, s, rfl, rfl, by omega, by omega, by omega, ?_, h2⟩
  rw [← Int.natCast_mul] at h7
  omega
def Stp.In (x : Stp) : Prop := (-9223372036854775808 ≤ x.of_ ∧ x.of_ < 9223372036854775808) ∧ (0 ≤ x.off ∧ x.off < 18446744073709551616)

theorem new_inv (k : Dk) (p sg : Nat) (h : 2 ≤ sg) : (Lg.new k p sg).Inv 0 := ⟨by simp [Lg.new, Dk.super, Dk.flush], by simp [Lg.new]; omega, by simp [Lg.new, x0], by simp [Lg.new], by simp [Lg.new, x0]⟩
theorem At.lt {w w' : World} {F : Nat → Prop} {g d : Nat} {m : Lg} (h : At w F w' g d m) : ∀ i, Fg F g i → i < w'.heap.size := by
  obtain ⟨_, _, _, hh⟩ := h.log
  rintro i (hi | rfl)
  · exact hh.disk.sz i hi
  · exact hh.blk.lt
theorem sp_field0 (x : Sp) (w : World) : (Instr.field 42 (.agg x.cells.toArray) 0).run Tryz.prog w = .ok (.int .u64 x.epoch) w := by
  simp [Instr.field, run_underlying Tryz.underlying42, part, isAgg, run_underlying Tryz.underlying34, asAgg, Sp.cells]
theorem sp_field6 (x : Sp) (w : World) (h : x.In) : (Instr.field 42 (.agg x.cells.toArray) 6).run Tryz.prog w = .ok (.int .u64 x.next) w := by
  have h1 : x.cells.toArray[37]? = some (.int .u64 x.next) := Sp.cells_hi h 2
  generalize x.cells.toArray = xs at *
  simp [Instr.field, run_underlying Tryz.underlying42, part, isAgg, run_underlying Tryz.underlying34, asAgg, h1]
theorem sp_same (x : Sp) (w : World) (h : x.In) : (binOp .neq 42 (.agg x.cells.toArray) (.agg x.cells.toArray)).run Tryz.prog w = .ok (.bool false) w := by
  have h1 := sp_neq x x w h h
  rw [decide_eq_true rfl] at h1
  exact h1
theorem newOk_size {n z : Nat} (h : newOk n z = true) : z ≤ 1024 := by
  simp only [newOk, Bool.and_eq_true, decide_eq_true_eq] at h
  omega
theorem steps_cap {n z p sg : Nat} (h : (n : Int) ≤ 40) (hf : 2 + p * sg ≤ (Dk.new n z).many) (h2 : 2 ≤ sg) (hz : z ≤ 1024) : p * (Dk.new n z).size ≤ 90000 := by
  have h1 : 2 + p * sg ≤ n := hf
  have h3 := Nat.mul_le_mul_left p h2
  have h4 : p ≤ 40 := by omega
  exact Nat.le_trans (Nat.mul_le_mul h4 hz) (by decide)
theorem format_at2 {w w1 w3 : World} {F F2 : Nat → Prop} {g d : Nat} {m : Lg} (hF : ∀ i, F i → w.heap.size ≤ i) (hE : Ext w w1) (hL : Log F2 w3 g d m) (hM : Moves F w1 F2 w3) (hg : w1.heap.size ≤ g) : At w F2 w3 g d m := by
  have hle := hE.size
  refine ⟨hL, ?_, hE.keep hM.1 hF⟩
  rintro i (hi | rfl)
  · rcases hM.2 i hi with h | h
    · exact hF i h
    · omega
  · omega

set_option maxRecDepth 8000 in
set_option maxHeartbeats 3200000 in
theorem steps_any (many size per segs : Int) (v : Value) (l : List Stp) (w : World) (hT : Tab w) (hR : Rd w 5 Stp.cells v l) (hl : l.length ≤ 9223372036854775807) (hin : ∀ x ∈ l, x.In) :
    Calls Tryz.prog 3 #[.int .i64 many, .int .i64 size, .agg #[.int .i64 per, .int .i64 segs], v] w (Ret (.bool true) w) := by
  have hpos := hT.pos
  have HT := Lib.hid hT
  have HI := Lib.hid sh_info
  have HR := Lib.hid hR
  have HIN := Lib.hid hin
  have HLL := Lib.hid hl
  obtain ⟨A, c, hv, hcap, _, _⟩ := hR
  subst hv
  clear hT hin hl
  obtain ⟨w1, hw⟩ : ∃ w1, w1 = w.alloc (.cells #[.int .i64 per, .int .i64 segs] 23) := ⟨_, rfl⟩
  have HE1 := Lib.hid (show Ext w w1 from by rw [hw]; exact (Ext.refl w).alloc _)
  have HS1 := Lib.hid (show Blk w1 w.heap.size 23 [.int .i64 per, .int .i64 segs].toArray from by rw [hw]; exact Blk.new _ _ _)
  have HLG := Lib.hid (fun w' (e : Ext w w') => logged_any w' (HT.out.ext e))
  by_cases hnew : newOk many size = true
  · obtain ⟨n, rfl⟩ : ∃ n : Nat, many = n := ⟨many.toNat, by simp only [newOk, Bool.and_eq_true, decide_eq_true_eq] at hnew; omega⟩
    obtain ⟨z, rfl⟩ : ∃ z : Nat, size = z := ⟨size.toNat, by simp only [newOk, Bool.and_eq_true, decide_eq_true_eq] at hnew; omega⟩
    have HNW := Lib.hid hnew
    clear hnew
    rcases hf : fits (Dk.new n z) per segs with _ | _
    · have HFT := Lib.hid hf
      clear hf
      go_enter Tryz.func3, Tryz.ntmps3
      go_wp2_with (first
        | (have hg := HS1; rw [← hw]; clear hw)
        | (go_at_call 5; refine (few_any n z _ l w1 (HR.out.ext HE1.out) HLL.out).mono ?_; rintro e w2 ⟨b, rfl, rfl, hb⟩; clear hb; cases b)
        | (go_at_call 6; refine (newYes_any n z _ HNW.out).mono ?_; rintro e w3 ⟨F, d, rfl, hD3, hE3, hF3⟩; have HD3 := Lib.hid hD3; have HS3 := Lib.hid (HS1.out.ext hE3); have HE3 := Lib.hid (HE1.out.trans hE3); clear hD3 hE3 hF3)
        | (have hg := HS3; refine wpList_load_blk rfl 23 (.tmp 6) rfl w.heap.size 23 [.int .i64 per, .int .i64 segs] rfl HS3.out _ Tryz.underlying23 rfl HI.out ?_)
        | (go_at_call 7; refine (formatMiss_any per segs _ HD3.out HFT.out).mono ?_; rintro e w4 ⟨rfl, hE4⟩; have HE4 := Lib.hid (HE3.out.trans hE4); clear hE4)
        | (go_at_call 8; refine (HLG.out _ HE4.out).mono ?_; rintro e w5 ⟨rfl, hE5⟩; have HE5 := Lib.hid (HE4.out.trans hE5); clear hE5))
      all_goals go_ret
      · exact ⟨rfl, HE1.out⟩
      · exact ⟨rfl, HE5.out⟩
    · obtain ⟨p, sg, rfl, rfl, s1, s2, p1, hfm, hz⟩ := fits_nat hf
      have HFM := Lib.hid (And.intro s1 (And.intro s2 (And.intro p1 (And.intro hfm hz))))
      clear s1 s2 p1 hfm hz hf
      go_enter Tryz.func3, Tryz.ntmps3
      go_wp2_with (first
        | (have hg := HS1; rw [← hw]; clear hw)
        | (go_at_call 5; refine (few_any n z _ l w1 (HR.out.ext HE1.out) HLL.out).mono ?_; rintro e w2 ⟨b, rfl, rfl, hb⟩; have HBB := Lib.hid hb; clear hb; cases b)
        | (go_at_call 6; refine (newYes_any n z _ HNW.out).mono ?_; rintro e w3 ⟨F, d, rfl, hD3, hE3, hF3⟩; have HD3 := Lib.hid (And.intro hD3 (fun i hi => Nat.le_trans HE1.out.size (hF3 i hi))); have HS3 := Lib.hid (HS1.out.ext hE3); have HE3 := Lib.hid (HE1.out.trans hE3); clear hD3 hE3 hF3)
        | (have hg := HS3; refine wpList_load_blk rfl 23 (.tmp 6) rfl w.heap.size 23 [.int .i64 p, .int .i64 sg] rfl HS3.out _ Tryz.underlying23 rfl HI.out ?_)
        | (go_at_call 7; go_loud (refine (formatYes_any p sg _ HD3.out.1 HFM.out.1 HFM.out.2.1 HFM.out.2.2.1 HFM.out.2.2.2.1 HFM.out.2.2.2.2 (steps_cap (HBB.out trivial).2.1 HFM.out.2.2.2.1 HFM.out.1 (newOk_size HNW.out)) (by simp [Dk.new])).mono ?_; rintro e w4 ⟨F4, g, rfl, hL4, hM4, hg4⟩; have HL4 := Lib.hid (format_at2 HD3.out.2 HE3.out hL4 hM4 hg4); clear hL4 hM4 hg4)))
      · go_ret
        exact ⟨rfl, HE1.out⟩
      · have H40 := Lib.hid (HBB.out trivial).1
        have HIV4 := Lib.hid (new_inv (Dk.new n z) p sg HFM.out.1)
        clear HBB HNW
        obtain ⟨w0, rfl⟩ : ∃ w0 : World, w0 = w := ⟨_, rfl⟩
        go_loopw [13] (fun t wr => ∃ (i : Nat) (F : Nat → Prop) (m : Lg), t = .int .i64 i ∧ i ≤ l.length ∧ At w0 F wr g d m ∧ m.Inv i) (fun t _ => l.length - (intOf t).toNat)
        case atStart => exact ⟨0, F4, _, rfl, by omega, HL4.out, HIV4.out⟩
        case round =>
          obtain ⟨i, F, m, rfl, hi, hA, hv⟩ := hrel
          have HA := Lib.hid hA
          have HV := Lib.hid hv
          clear hA hv
          by_cases hlt : i < l.length
          · obtain ⟨x, hx⟩ : ∃ x, l[i]? = some x := ⟨_, List.getElem?_eq_getElem hlt⟩
            have HXI := Lib.hid (HIN.out x (List.mem_of_getElem? hx))
            obtain ⟨b, off, c', hv, _, hcell⟩ := rd_at (HR.out.ext HA.out.ext) hx
            obtain ⟨rfl, rfl⟩ : A = some ⟨b, off, none⟩ ∧ c = c' := by injection hv with h1 h2 h3; exact ⟨h1, h3⟩
            have c0 : wr.cell? ⟨b, off + i * 5, none⟩ = some (.int .i64 x.kind) := hcell 0 _ rfl
            have c1 := hcell 1 _ rfl
            have c2 := hcell 2 _ rfl
            have c3 := hcell 3 _ rfl
            have c4 := hcell 4 _ rfl
            obtain ⟨kd, cn, of_, ofs, kA, kl, kc⟩ := x
            simp only at c0 c1 c2 c3 c4
            have i0 : (0 : Int) ≤ i := by omega
            have i1 : (i : Int) < l.length := by omega
            clear hv hcell hx
            have HML := Lib.hid (Sp.cells_length HA.out.log.ok.x)
            have HMX := Lib.hid HA.out.log.ok.x
            by_cases hk0 : kd = 0
            · subst hk0
              go_wp2_with (first
                | (have hg := HX7; go_at_call 11; refine (image_any w7 HA7.out.disk).mono ?_; rintro e w8 ⟨rfl, hE8⟩; have HX8 := Lib.hid (HX7.out.ext hE8); have HA8 := Lib.hid (HA7.out.ex hE8); have HB8 := Lib.hid (HB7.out.ext hE8); clear hE8)
                | (have hg := HX8; go_at_call 12; refine (pending_any w8 HA8.out.disk).mono ?_; rintro e w9 ⟨rfl, hE9⟩; have HX9 := Lib.hid (HX8.out.ext hE9); have HA9 := Lib.hid (HA8.out.ex hE9); have HB9 := Lib.hid (HB8.out.ext hE9); have k0 : w9.cell? ⟨wr.heap.size, 0, none⟩ = some (.int .i64 0) := HB9.out.cell 0; have k1 : w9.cell? ⟨wr.heap.size, 1, none⟩ = some (.int .i64 cn) := HB9.out.cell 1; have k2 : w9.cell? ⟨wr.heap.size, 2, none⟩ = some (.int .i64 of_) := HB9.out.cell 2; have k3 : w9.cell? ⟨wr.heap.size, 3, none⟩ = some (.int .u64 ofs) := HB9.out.cell 3; clear hE9)
                | (have hg := HA6; refine wpList_store_blk rfl 42 (.tmp 16) (.tmp 62) rfl w6.heap.size 42 zs70 m.x.cells rfl rfl (by rw [← zc_sp]; exact Blk.new _ _ _) (by rw [HML.out]; rfl) (by rw [HML.out]; exact sp_info) (Sp.cells_one _) ?_; intro w7 hB7 hK7; have hE7 := ((Ext.refl w6).alloc _).keep hK7 (fun i hi => by cases hi; exact Nat.le_refl _); have HX7 := Lib.hid hB7; have HA7 := Lib.hid (HA6.out.ex hE7); have HB7 := Lib.hid (HB6.out.ext hE7); clear hB7 hK7 hE7)
                | (have hg := HA5; go_at_call 10; refine (logSuper_any w5 HA5.out.log).mono ?_; rintro e w6 ⟨rfl, hE6⟩; have HA6 := Lib.hid (HA5.out.ex hE6); have HB6 := Lib.hid (HB5.out.ext hE6); clear hE6)
                | (go_at_call 9; refine (logNext_any _ (HA.out.log.ext ((Ext.refl wr).alloc _))).mono ?_; rintro e w5 ⟨rfl, hE5⟩; have HA5 := Lib.hid (HA.out.ex (((Ext.refl wr).alloc (.cells #[.int .i64 0, .int .i64 cn, .int .i64 of_, .int .u64 ofs, .slice kA kl kc] 37)).trans hE5)); have HB5 := Lib.hid ((Blk.new wr 37 #[.int .i64 0, .int .i64 cn, .int .i64 of_, .int .u64 ofs, .slice kA kl kc]).ext hE5); clear hE5))
              generalize hq : min (max cn 0) 260 = q at *
              have hq0 : 0 ≤ q := by omega
              have hq1 : q ≤ 260 := by omega
              generalize IntKind.u64.wrap (m.next + ofs.tmod 3) = S at *
              have hwq : IntKind.u64.wrap q = q := IntWalk.u64_in _ (by omega)
              clear hq k0 k1 k2 k3 c0 c1 c2 c3 c4
              have HEIN := Lib.hid (fromEv_in (seq := S) HXI.out.1.1 HXI.out.1.2 (show q.toNat ≤ 1000 from by omega))
              have hlen : (fromEv S of_ q.toNat).length = q.toNat := fromEv_length _ _ _
              have HC := Lib.hid (fun v' w' (hA' : At w0 F w' g d m) (hR' : Rd w' 6 Ev.cells v' (fromEv S of_ q.toNat)) => logAppend_any v' (fromEv S of_ q.toNat) w' hA'.log hR' (by rw [hlen]; omega) HEIN.out (HT.out.ext hA'.ext) (hA'.pos hpos).1 (hA'.pos hpos).2 HV.out.tight HV.out.seg)
              have HOK := Lib.hid (fun h0 => HV.out.append HA.out.log.ok (by have := H40.out; omega) (fromEv S of_ q.toNat) (by rw [hlen]; omega) h0)
              have HNO := Lib.hid (append_no m (fromEv S of_ q.toNat))
              rw [hlen] at HOK
              have HFR := Lib.hid (fun w' => from_any S q of_ w' (by omega))
              generalize fromEv S of_ q.toNat = evs at *
              generalize m.append evs = r at *
              obtain ⟨cd, m'⟩ := r
              simp only at HC HOK HNO
              have HNX9 := Lib.hid (show ¬ Fg F g w6.heap.size from fun hh => by have := HA6.out.lt _ hh; omega)
              clear hlen
              by_cases hcd : cd = 0
              · subst hcd
                have HOK2 := Lib.hid (HOK.out rfl)
                have hnext : m'.next = m.next + q := by have := HOK2.out.2.2; omega
                have HKE := Lib.hid HOK2.out.2.1
                have hws : IntKind.u64.wrap (m.next + q) = m.next + q := IntWalk.u64_in _ (by have := HA.out.log.ok.n0; have := HV.out.nx; have := H40.out; omega)
                have HNE := Lib.hid hnext
                clear HOK HNO hnext
                go_wp2_with (first
                  | (go_at_call 14; go_loud (refine (HFR.out _).mono ?_; rintro e w10 ⟨ve, rfl, hR10, hE10⟩; have HR10 := Lib.hid hR10; have HX10 := Lib.hid (HX9.out.ext hE10); have HA10 := Lib.hid (HA9.out.ex hE10); clear hR10 hE10))
                  | (go_at_call 13; go_loud (refine (HC.out ve _ HA10.out HR10.out).mono ?_; rintro e w11 ⟨rfl, F', hL11, hM11⟩; have HA11 := Lib.hid (HA10.out.go hL11 hM11); have HX11 := Lib.hid (HX10.out.keep hM11.1 HNX9.out); clear hL11 hM11))
                  | (have hg := HA11; go_at_call 9; go_loud (refine (logNext_any _ HA11.out.log).mono ?_; rw [HNE.out]; rintro e w12 ⟨rfl, hE12⟩; have HA12 := Lib.hid (HA11.out.ex hE12); have HX12 := Lib.hid (HX11.out.ext hE12); clear hE12)))
                go_quiet (fail)
                go_wp2_with fail
                obtain ⟨w13, hw13⟩ : ∃ w13, w13 = w12.drewN nq := ⟨_, rfl⟩
                have HA13 := Lib.hid (show At w0 F' w13 g d m' from by rw [hw13]; exact HA12.out.ex ((Ext.refl _).drewN _))
                have HX13 := Lib.hid (show Blk w13 w6.heap.size 42 m.x.cells.toArray from by rw [hw13]; exact HX12.out)
                have HI13 := Lib.hid HOK2.out.1
                rw [← hw13]
                clear hw13
                have HSU := Lib.hid (fun w' (e : Ext w13 w') => logSuper_any w' (HA13.out.log.ext e))
                have HNX := Lib.hid (fun w' (e : Ext w13 w') => logNext_any w' (HA13.out.log.ext e))
                have HMI := Lib.hid HA13.out.log.ok.x
                have rw0 := cell_regrown (show w13.cell? ⟨w6.heap.size, 0, none⟩ = some (.int .u64 m.x.epoch) from HX13.out.cell 0)
                rcases HKE.out.1 with heq | hlt2
                · rw [heq] at HSU
                  have hnx : decide (m'.next < m.x.next) = false := decide_eq_false (by have := HKE.out.2; rw [heq] at this; omega)
                  clear heq
                  refine wp_region_tail (C := fun w' => ∃ rg : Regrown, w' = grow (redrawn w13 rg.d) rg.os) 27 (by kernel_rfl) (by kernel_rfl) (regrown_start w13) ?_
                  simp only [List.take_succ_cons, List.take_zero, List.drop_succ_cons, List.drop_zero]
                  iterate 1 go_big_quiet_step (fail)
                  go_big_quiet_step ((go_at_call 10; exact Calls.regrown_of (HSU.out _ (below_regrown _ _ _))))
                  go_big_quiet_want
                  refine q_field 42 (.tmp 128) 0 rfl _ (.int .u64 m.x.epoch) rfl (fun w' => sp_field0 m.x w') ?_
                  simp only [Act.put, List.setIfInBounds_toArray, List.set_cons_zero, List.set_cons_succ]
                  go_big_quiet_on
                  iterate 5 go_big_quiet_step (fail)
                  go_big_quiet_step ((go_at_call 10; exact Calls.regrown_of (HSU.out _ (below_regrown _ _ _))))
                  go_big_quiet_want
                  refine q_field 42 (.tmp 135) 0 rfl _ (.int .u64 m.x.epoch) rfl (fun w' => sp_field0 m.x w') ?_
                  simp only [Act.put, List.setIfInBounds_toArray, List.set_cons_zero, List.set_cons_succ]
                  go_big_quiet_on
                  iterate 4 go_big_quiet_step (fail)
                  iterate 1 go_big_quiet_step (fail)
                  go_big_quiet_step ((go_at_call 10; exact Calls.regrown_of (HSU.out _ (below_regrown _ _ _))))
                  go_big_quiet_want
                  refine q_load_blk 42 (.tmp 16) rfl w6.heap.size 42 m.x.cells rfl (fun w' hw' => HX13.out.ext (regrown_ext hw')) _ Tryz.underlying42 rfl (by rw [HML.out]; exact sp_info) ?_
                  simp only [Act.put, List.setIfInBounds_toArray, List.set_cons_zero, List.set_cons_succ]
                  go_big_quiet_on
                  go_big_quiet_want
                  refine q_bin .neq 42 (.tmp 142) (.tmp 143) 42 rfl (.agg m.x.cells.toArray) (.agg m.x.cells.toArray) (.bool false) rfl rfl (fun w' => sp_guard _ _ _ _ _ w') (fun w' => sp_same m.x w' HMX.out) ?_
                  simp only [Act.put, List.setIfInBounds_toArray, List.set_cons_zero, List.set_cons_succ]
                  go_big_quiet_on
                  iterate 4 go_big_quiet_step (fail)
                  go_big_quiet_step ((go_at_call 10; exact Calls.regrown_of (HSU.out _ (below_regrown _ _ _))))
                  go_big_quiet_want
                  refine q_field 42 (.tmp 149) 6 rfl _ (.int .u64 m.x.next) rfl (fun w' => sp_field6 m.x w' HMX.out) ?_
                  simp only [Act.put, List.setIfInBounds_toArray, List.set_cons_zero, List.set_cons_succ]
                  go_big_quiet_on
                  iterate 1 go_big_quiet_step (fail)
                  go_big_quiet_step ((go_at_call 9; exact Calls.regrown_of (HNX.out _ (below_regrown _ _ _))))
                  iterate 1 go_big_quiet_step (fail)
                  refine wpQuiet_nil ?_
                  intro wz hwz
                  have HAz := Lib.hid (HA13.out.ex (regrown_ext hwz))
                  clear hwz rw0
                  go_wp2_with fail
                  go_roundw
                  case rel => exact ⟨i + 1, F', m', by go_num, by omega, HAz.out, HI13.out⟩
                  case measure => simp [intOf]; omega
                · have hl1 : decide (m'.x.epoch < m.x.epoch) = false := decide_eq_false (by omega)
                  have hl2 : (m'.x.epoch == m.x.epoch) = false := by rw [beq_eq_false_iff_ne]; omega
                  have hnx : decide (m'.next < m'.x.next) = false := decide_eq_false (by have := HKE.out.2; omega)
                  clear hlt2
                  refine wp_region_tail (C := fun w' => ∃ rg : Regrown, w' = grow (redrawn w13 rg.d) rg.os) 27 (by kernel_rfl) (by kernel_rfl) (regrown_start w13) ?_
                  simp only [List.take_succ_cons, List.take_zero, List.drop_succ_cons, List.drop_zero]
                  iterate 1 go_big_quiet_step (fail)
                  go_big_quiet_step ((go_at_call 10; exact Calls.regrown_of (HSU.out _ (below_regrown _ _ _))))
                  go_big_quiet_want
                  refine q_field 42 (.tmp 128) 0 rfl _ (.int .u64 m'.x.epoch) rfl (fun w' => sp_field0 m'.x w') ?_
                  simp only [Act.put, List.setIfInBounds_toArray, List.set_cons_zero, List.set_cons_succ]
                  go_big_quiet_on
                  iterate 5 go_big_quiet_step (fail)
                  go_big_quiet_step ((go_at_call 10; exact Calls.regrown_of (HSU.out _ (below_regrown _ _ _))))
                  go_big_quiet_want
                  refine q_field 42 (.tmp 135) 0 rfl _ (.int .u64 m'.x.epoch) rfl (fun w' => sp_field0 m'.x w') ?_
                  simp only [Act.put, List.setIfInBounds_toArray, List.set_cons_zero, List.set_cons_succ]
                  go_big_quiet_on
                  iterate 4 go_big_quiet_step (fail)
                  iterate 4 go_big_quiet_step (fail)
                  iterate 4 go_big_quiet_step (fail)
                  go_big_quiet_step ((go_at_call 10; exact Calls.regrown_of (HSU.out _ (below_regrown _ _ _))))
                  go_big_quiet_want
                  refine q_field 42 (.tmp 149) 6 rfl _ (.int .u64 m'.x.next) rfl (fun w' => sp_field6 m'.x w' HMI.out) ?_
                  simp only [Act.put, List.setIfInBounds_toArray, List.set_cons_zero, List.set_cons_succ]
                  go_big_quiet_on
                  iterate 1 go_big_quiet_step (fail)
                  go_big_quiet_step ((go_at_call 9; exact Calls.regrown_of (HNX.out _ (below_regrown _ _ _))))
                  iterate 1 go_big_quiet_step (fail)
                  refine wpQuiet_nil ?_
                  intro wz hwz
                  have HAz := Lib.hid (HA13.out.ex (regrown_ext hwz))
                  clear hwz rw0
                  go_wp2_with fail
                  go_roundw
                  case rel => exact ⟨i + 1, F', m', by go_num, by omega, HAz.out, HI13.out⟩
                  case measure => simp [intOf]; omega
              · have hcn : (cd != 0) = true := by simpa using hcd
                have hce : (cd == 0) = false := by simpa using hcd
                have hmm := (HNO.out hcd).symm
                subst hmm
                clear HOK HNO hcd
                go_wp2_with (first
                  | (go_at_call 14; go_loud (refine (HFR.out _).mono ?_; rintro e w10 ⟨ve, rfl, hR10, hE10⟩; have HR10 := Lib.hid hR10; have HX10 := Lib.hid (HX9.out.ext hE10); have HA10 := Lib.hid (HA9.out.ex hE10); clear hR10 hE10))
                  | (go_at_call 13; go_loud (refine (HC.out ve _ HA10.out HR10.out).mono ?_; rintro e w11 ⟨rfl, F', hL11, hM11⟩; have HA11 := Lib.hid (HA10.out.go hL11 hM11); have HX11 := Lib.hid (HX10.out.keep hM11.1 HNX9.out); clear hL11 hM11)))
                have HSU20 := Lib.hid (fun w' (e : Ext w11 w') => logSuper_any w' (HA11.out.log.ext e))
                have HNX20 := Lib.hid (fun w' (e : Ext w11 w') => logNext_any w' (HA11.out.log.ext e))
                have HIM20 := Lib.hid (fun w' (e : Ext w11 w') => image_any w' (HA11.out.disk.ext e))
                have HPE20 := Lib.hid (fun w' (e : Ext w11 w') => pending_any w' (HA11.out.disk.ext e))
                refine wp_region_tail (C := fun w' => ∃ rg : Regrown, w' = grow (redrawn w11 rg.d) rg.os) 25 (by kernel_rfl) (by kernel_rfl) (regrown_start w11) ?_
                simp only [List.take_succ_cons, List.take_zero, List.drop_succ_cons, List.drop_zero]
                iterate 10 go_big_quiet_step (first | (go_at_call 9; exact Calls.regrown_of (HNX20.out _ (below_regrown _ _ _))) | (go_at_call 10; exact Calls.regrown_of (HSU20.out _ (below_regrown _ _ _))))
                go_big_quiet_want
                refine q_load_blk 42 (.tmp 16) rfl w6.heap.size 42 m.x.cells rfl (fun w' hw' => HX11.out.ext (regrown_ext hw')) _ Tryz.underlying42 rfl (by rw [HML.out]; exact sp_info) ?_
                simp only [Act.put, List.setIfInBounds_toArray, List.set_cons_zero, List.set_cons_succ]
                go_big_quiet_on
                go_big_quiet_want
                refine q_bin .neq 42 (.tmp 105) (.tmp 106) 42 rfl (.agg m.x.cells.toArray) (.agg m.x.cells.toArray) (.bool false) rfl rfl (fun w' => sp_guard _ _ _ _ _ w') (fun w' => sp_same m.x w' HMX.out) ?_
                simp only [Act.put, List.setIfInBounds_toArray, List.set_cons_zero, List.set_cons_succ]
                go_big_quiet_on
                iterate 13 go_big_quiet_step (first | (go_at_call 11; exact Calls.regrown_of (HIM20.out _ (below_regrown _ _ _))) | (go_at_call 12; exact Calls.regrown_of (HPE20.out _ (below_regrown _ _ _))))
                refine wpQuiet_nil ?_
                intro w12 hw12
                have HA12 := Lib.hid (HA11.out.ex (regrown_ext hw12))
                have HX12 := Lib.hid (HX11.out.ext (regrown_ext hw12))
                clear hw12
                go_wp2_with fail
                have HSU := Lib.hid (fun w' (e : Ext w12 w') => logSuper_any w' (HA12.out.log.ext e))
                have HNX := Lib.hid (fun w' (e : Ext w12 w') => logNext_any w' (HA12.out.log.ext e))
                have HMI := Lib.hid HA12.out.log.ok.x
                have rw0 := cell_regrown (show w12.cell? ⟨w6.heap.size, 0, none⟩ = some (.int .u64 m.x.epoch) from HX12.out.cell 0)
                have hnx : decide (m.next < m.x.next) = false := decide_eq_false (by have := HV.out.xn; omega)
                refine wp_region_tail (C := fun w' => ∃ rg : Regrown, w' = grow (redrawn w12 rg.d) rg.os) 27 (by kernel_rfl) (by kernel_rfl) (regrown_start w12) ?_
                simp only [List.take_succ_cons, List.take_zero, List.drop_succ_cons, List.drop_zero]
                iterate 1 go_big_quiet_step (fail)
                go_big_quiet_step ((go_at_call 10; exact Calls.regrown_of (HSU.out _ (below_regrown _ _ _))))
                go_big_quiet_want
                refine q_field 42 (.tmp 128) 0 rfl _ (.int .u64 m.x.epoch) rfl (fun w' => sp_field0 m.x w') ?_
                simp only [Act.put, List.setIfInBounds_toArray, List.set_cons_zero, List.set_cons_succ]
                go_big_quiet_on
                iterate 5 go_big_quiet_step (fail)
                go_big_quiet_step ((go_at_call 10; exact Calls.regrown_of (HSU.out _ (below_regrown _ _ _))))
                go_big_quiet_want
                refine q_field 42 (.tmp 135) 0 rfl _ (.int .u64 m.x.epoch) rfl (fun w' => sp_field0 m.x w') ?_
                simp only [Act.put, List.setIfInBounds_toArray, List.set_cons_zero, List.set_cons_succ]
                go_big_quiet_on
                iterate 4 go_big_quiet_step (fail)
                iterate 1 go_big_quiet_step (fail)
                go_big_quiet_step ((go_at_call 10; exact Calls.regrown_of (HSU.out _ (below_regrown _ _ _))))
                go_big_quiet_want
                refine q_load_blk 42 (.tmp 16) rfl w6.heap.size 42 m.x.cells rfl (fun w' hw' => HX12.out.ext (regrown_ext hw')) _ Tryz.underlying42 rfl (by rw [HML.out]; exact sp_info) ?_
                simp only [Act.put, List.setIfInBounds_toArray, List.set_cons_zero, List.set_cons_succ]
                go_big_quiet_on
                go_big_quiet_want
                refine q_bin .neq 42 (.tmp 142) (.tmp 143) 42 rfl (.agg m.x.cells.toArray) (.agg m.x.cells.toArray) (.bool false) rfl rfl (fun w' => sp_guard _ _ _ _ _ w') (fun w' => sp_same m.x w' HMX.out) ?_
                simp only [Act.put, List.setIfInBounds_toArray, List.set_cons_zero, List.set_cons_succ]
                go_big_quiet_on
                iterate 4 go_big_quiet_step (fail)
                go_big_quiet_step ((go_at_call 10; exact Calls.regrown_of (HSU.out _ (below_regrown _ _ _))))
                go_big_quiet_want
                refine q_field 42 (.tmp 149) 6 rfl _ (.int .u64 m.x.next) rfl (fun w' => sp_field6 m.x w' HMX.out) ?_
                simp only [Act.put, List.setIfInBounds_toArray, List.set_cons_zero, List.set_cons_succ]
                go_big_quiet_on
                iterate 1 go_big_quiet_step (fail)
                go_big_quiet_step ((go_at_call 9; exact Calls.regrown_of (HNX.out _ (below_regrown _ _ _))))
                iterate 1 go_big_quiet_step (fail)
                refine wpQuiet_nil ?_
                intro wz hwz
                have HAz := Lib.hid (HA12.out.ex (regrown_ext hwz))
                clear hwz rw0
                go_wp2_with fail
                go_roundw
                case rel => exact ⟨i + 1, F', m, by go_num, by omega, HAz.out, HV.out.step⟩
                case measure => simp [intOf]; omega
            · have hkz : (kd == 0) = false := by simpa using hk0
              by_cases hk1 : kd = 1
              · subst hk1
                clear hk0
                go_wp2_with (first
                  | (have hg := HX7; go_at_call 11; refine (image_any w7 HA7.out.disk).mono ?_; rintro e w8 ⟨rfl, hE8⟩; have HX8 := Lib.hid (HX7.out.ext hE8); have HA8 := Lib.hid (HA7.out.ex hE8); have HB8 := Lib.hid (HB7.out.ext hE8); clear hE8)
                  | (have hg := HX8; go_at_call 12; refine (pending_any w8 HA8.out.disk).mono ?_; rintro e w9 ⟨rfl, hE9⟩; have HX9 := Lib.hid (HX8.out.ext hE9); have HA9 := Lib.hid (HA8.out.ex hE9); have HB9 := Lib.hid (HB8.out.ext hE9); have k0 : w9.cell? ⟨wr.heap.size, 0, none⟩ = some (.int .i64 1) := HB9.out.cell 0; have k1 : w9.cell? ⟨wr.heap.size, 1, none⟩ = some (.int .i64 cn) := HB9.out.cell 1; have k2 : w9.cell? ⟨wr.heap.size, 2, none⟩ = some (.int .i64 of_) := HB9.out.cell 2; have k3 : w9.cell? ⟨wr.heap.size, 3, none⟩ = some (.int .u64 ofs) := HB9.out.cell 3; clear hE9)
                  | (have hg := HA6; refine wpList_store_blk rfl 42 (.tmp 16) (.tmp 62) rfl w6.heap.size 42 zs70 m.x.cells rfl rfl (by rw [← zc_sp]; exact Blk.new _ _ _) (by rw [HML.out]; rfl) (by rw [HML.out]; exact sp_info) (Sp.cells_one _) ?_; intro w7 hB7 hK7; have hE7 := ((Ext.refl w6).alloc _).keep hK7 (fun i hi => by cases hi; exact Nat.le_refl _); have HX7 := Lib.hid hB7; have HA7 := Lib.hid (HA6.out.ex hE7); have HB7 := Lib.hid (HB6.out.ext hE7); clear hB7 hK7 hE7)
                  | (have hg := HA5; go_at_call 10; refine (logSuper_any w5 HA5.out.log).mono ?_; rintro e w6 ⟨rfl, hE6⟩; have HA6 := Lib.hid (HA5.out.ex hE6); have HB6 := Lib.hid (HB5.out.ext hE6); clear hE6)
                  | (go_at_call 9; refine (logNext_any _ (HA.out.log.ext ((Ext.refl wr).alloc _))).mono ?_; rintro e w5 ⟨rfl, hE5⟩; have HA5 := Lib.hid (HA.out.ex (((Ext.refl wr).alloc (.cells #[.int .i64 1, .int .i64 cn, .int .i64 of_, .int .u64 ofs, .slice kA kl kc] 37)).trans hE5)); have HB5 := Lib.hid ((Blk.new wr 37 #[.int .i64 1, .int .i64 cn, .int .i64 of_, .int .u64 ofs, .slice kA kl kc]).ext hE5); clear hE5)
                  | (have hg := HX9; go_at_call 15; refine (logCommit_any w9 HA9.out.log).mono ?_; rintro e w10 ⟨rfl, F', hL10, hM10⟩; have HA10 := Lib.hid (HA9.out.go hL10 hM10); have HX10 := Lib.hid (HX9.out.keep hM10.1 (fun hh => by have := HA6.out.lt _ hh; omega)); clear hL10 hM10))
                have HKV := HV.out.keep HA.out.log.ok (by have := H40.out; omega)
                have HKE := Lib.hid HKV.2
                have HI10 := Lib.hid HKV.1
                clear HKV k0 k1 k2 k3 c0 c1 c2 c3 c4
                obtain ⟨m', hm'⟩ : ∃ m', m' = m.keep := ⟨_, rfl⟩
                rw [← hm'] at HA10 HKE HI10
                clear hm'
                have HSU := Lib.hid (fun w' (e : Ext w10 w') => logSuper_any w' (HA10.out.log.ext e))
                have HNX := Lib.hid (fun w' (e : Ext w10 w') => logNext_any w' (HA10.out.log.ext e))
                have HMI := Lib.hid HA10.out.log.ok.x
                have rw0 := cell_regrown (show w10.cell? ⟨w6.heap.size, 0, none⟩ = some (.int .u64 m.x.epoch) from HX10.out.cell 0)
                rcases HKE.out.1 with heq | hlt2
                · rw [heq] at HSU
                  have hnx : decide (m'.next < m.x.next) = false := decide_eq_false (by have := HKE.out.2; rw [heq] at this; omega)
                  clear heq
                  refine wp_region_tail (C := fun w' => ∃ rg : Regrown, w' = grow (redrawn w10 rg.d) rg.os) 27 (by kernel_rfl) (by kernel_rfl) (regrown_start w10) ?_
                  simp only [List.take_succ_cons, List.take_zero, List.drop_succ_cons, List.drop_zero]
                  iterate 1 go_big_quiet_step (fail)
                  go_big_quiet_step ((go_at_call 10; exact Calls.regrown_of (HSU.out _ (below_regrown _ _ _))))
                  go_big_quiet_want
                  refine q_field 42 (.tmp 128) 0 rfl _ (.int .u64 m.x.epoch) rfl (fun w' => sp_field0 m.x w') ?_
                  simp only [Act.put, List.setIfInBounds_toArray, List.set_cons_zero, List.set_cons_succ]
                  go_big_quiet_on
                  iterate 5 go_big_quiet_step (fail)
                  go_big_quiet_step ((go_at_call 10; exact Calls.regrown_of (HSU.out _ (below_regrown _ _ _))))
                  go_big_quiet_want
                  refine q_field 42 (.tmp 135) 0 rfl _ (.int .u64 m.x.epoch) rfl (fun w' => sp_field0 m.x w') ?_
                  simp only [Act.put, List.setIfInBounds_toArray, List.set_cons_zero, List.set_cons_succ]
                  go_big_quiet_on
                  iterate 4 go_big_quiet_step (fail)
                  iterate 1 go_big_quiet_step (fail)
                  go_big_quiet_step ((go_at_call 10; exact Calls.regrown_of (HSU.out _ (below_regrown _ _ _))))
                  go_big_quiet_want
                  refine q_load_blk 42 (.tmp 16) rfl w6.heap.size 42 m.x.cells rfl (fun w' hw' => HX10.out.ext (regrown_ext hw')) _ Tryz.underlying42 rfl (by rw [HML.out]; exact sp_info) ?_
                  simp only [Act.put, List.setIfInBounds_toArray, List.set_cons_zero, List.set_cons_succ]
                  go_big_quiet_on
                  go_big_quiet_want
                  refine q_bin .neq 42 (.tmp 142) (.tmp 143) 42 rfl (.agg m.x.cells.toArray) (.agg m.x.cells.toArray) (.bool false) rfl rfl (fun w' => sp_guard _ _ _ _ _ w') (fun w' => sp_same m.x w' HMX.out) ?_
                  simp only [Act.put, List.setIfInBounds_toArray, List.set_cons_zero, List.set_cons_succ]
                  go_big_quiet_on
                  iterate 4 go_big_quiet_step (fail)
                  go_big_quiet_step ((go_at_call 10; exact Calls.regrown_of (HSU.out _ (below_regrown _ _ _))))
                  go_big_quiet_want
                  refine q_field 42 (.tmp 149) 6 rfl _ (.int .u64 m.x.next) rfl (fun w' => sp_field6 m.x w' HMX.out) ?_
                  simp only [Act.put, List.setIfInBounds_toArray, List.set_cons_zero, List.set_cons_succ]
                  go_big_quiet_on
                  iterate 1 go_big_quiet_step (fail)
                  go_big_quiet_step ((go_at_call 9; exact Calls.regrown_of (HNX.out _ (below_regrown _ _ _))))
                  iterate 1 go_big_quiet_step (fail)
                  refine wpQuiet_nil ?_
                  intro wz hwz
                  have HAz := Lib.hid (HA10.out.ex (regrown_ext hwz))
                  clear hwz rw0
                  go_wp2_with fail
                  go_roundw
                  case rel => exact ⟨i + 1, F', m', by go_num, by omega, HAz.out, HI10.out⟩
                  case measure => simp [intOf]; omega
                · have hl1 : decide (m'.x.epoch < m.x.epoch) = false := decide_eq_false (by omega)
                  have hl2 : (m'.x.epoch == m.x.epoch) = false := by rw [beq_eq_false_iff_ne]; omega
                  have hnx : decide (m'.next < m'.x.next) = false := decide_eq_false (by have := HKE.out.2; omega)
                  clear hlt2
                  refine wp_region_tail (C := fun w' => ∃ rg : Regrown, w' = grow (redrawn w10 rg.d) rg.os) 27 (by kernel_rfl) (by kernel_rfl) (regrown_start w10) ?_
                  simp only [List.take_succ_cons, List.take_zero, List.drop_succ_cons, List.drop_zero]
                  iterate 1 go_big_quiet_step (fail)
                  go_big_quiet_step ((go_at_call 10; exact Calls.regrown_of (HSU.out _ (below_regrown _ _ _))))
                  go_big_quiet_want
                  refine q_field 42 (.tmp 128) 0 rfl _ (.int .u64 m'.x.epoch) rfl (fun w' => sp_field0 m'.x w') ?_
                  simp only [Act.put, List.setIfInBounds_toArray, List.set_cons_zero, List.set_cons_succ]
                  go_big_quiet_on
                  iterate 5 go_big_quiet_step (fail)
                  go_big_quiet_step ((go_at_call 10; exact Calls.regrown_of (HSU.out _ (below_regrown _ _ _))))
                  go_big_quiet_want
                  refine q_field 42 (.tmp 135) 0 rfl _ (.int .u64 m'.x.epoch) rfl (fun w' => sp_field0 m'.x w') ?_
                  simp only [Act.put, List.setIfInBounds_toArray, List.set_cons_zero, List.set_cons_succ]
                  go_big_quiet_on
                  iterate 4 go_big_quiet_step (fail)
                  iterate 4 go_big_quiet_step (fail)
                  iterate 4 go_big_quiet_step (fail)
                  go_big_quiet_step ((go_at_call 10; exact Calls.regrown_of (HSU.out _ (below_regrown _ _ _))))
                  go_big_quiet_want
                  refine q_field 42 (.tmp 149) 6 rfl _ (.int .u64 m'.x.next) rfl (fun w' => sp_field6 m'.x w' HMI.out) ?_
                  simp only [Act.put, List.setIfInBounds_toArray, List.set_cons_zero, List.set_cons_succ]
                  go_big_quiet_on
                  iterate 1 go_big_quiet_step (fail)
                  go_big_quiet_step ((go_at_call 9; exact Calls.regrown_of (HNX.out _ (below_regrown _ _ _))))
                  iterate 1 go_big_quiet_step (fail)
                  refine wpQuiet_nil ?_
                  intro wz hwz
                  have HAz := Lib.hid (HA10.out.ex (regrown_ext hwz))
                  clear hwz rw0
                  go_wp2_with fail
                  go_roundw
                  case rel => exact ⟨i + 1, F', m', by go_num, by omega, HAz.out, HI10.out⟩
                  case measure => simp [intOf]; omega
              · have hkn : (kd == 1) = false := by simpa using hk1
                clear hk0 hk1
                go_wp2_with (first
                  | (have hg := HX7; go_at_call 11; refine (image_any w7 HA7.out.disk).mono ?_; rintro e w8 ⟨rfl, hE8⟩; have HX8 := Lib.hid (HX7.out.ext hE8); have HA8 := Lib.hid (HA7.out.ex hE8); have HB8 := Lib.hid (HB7.out.ext hE8); clear hE8)
                  | (have hg := HX8; go_at_call 12; refine (pending_any w8 HA8.out.disk).mono ?_; rintro e w9 ⟨rfl, hE9⟩; have HX9 := Lib.hid (HX8.out.ext hE9); have HA9 := Lib.hid (HA8.out.ex hE9); have HB9 := Lib.hid (HB8.out.ext hE9); have k0 : w9.cell? ⟨wr.heap.size, 0, none⟩ = some (.int .i64 kd) := HB9.out.cell 0; have k1 : w9.cell? ⟨wr.heap.size, 1, none⟩ = some (.int .i64 cn) := HB9.out.cell 1; have k2 : w9.cell? ⟨wr.heap.size, 2, none⟩ = some (.int .i64 of_) := HB9.out.cell 2; have k3 : w9.cell? ⟨wr.heap.size, 3, none⟩ = some (.int .u64 ofs) := HB9.out.cell 3; clear hE9)
                  | (have hg := HA6; refine wpList_store_blk rfl 42 (.tmp 16) (.tmp 62) rfl w6.heap.size 42 zs70 m.x.cells rfl rfl (by rw [← zc_sp]; exact Blk.new _ _ _) (by rw [HML.out]; rfl) (by rw [HML.out]; exact sp_info) (Sp.cells_one _) ?_; intro w7 hB7 hK7; have hE7 := ((Ext.refl w6).alloc _).keep hK7 (fun i hi => by cases hi; exact Nat.le_refl _); have HX7 := Lib.hid hB7; have HA7 := Lib.hid (HA6.out.ex hE7); have HB7 := Lib.hid (HB6.out.ext hE7); clear hB7 hK7 hE7)
                  | (have hg := HA5; go_at_call 10; refine (logSuper_any w5 HA5.out.log).mono ?_; rintro e w6 ⟨rfl, hE6⟩; have HA6 := Lib.hid (HA5.out.ex hE6); have HB6 := Lib.hid (HB5.out.ext hE6); clear hE6)
                  | (go_at_call 9; refine (logNext_any _ (HA.out.log.ext ((Ext.refl wr).alloc _))).mono ?_; rintro e w5 ⟨rfl, hE5⟩; have HA5 := Lib.hid (HA.out.ex (((Ext.refl wr).alloc (.cells #[.int .i64 kd, .int .i64 cn, .int .i64 of_, .int .u64 ofs, .slice kA kl kc] 37)).trans hE5)); have HB5 := Lib.hid ((Blk.new wr 37 #[.int .i64 kd, .int .i64 cn, .int .i64 of_, .int .u64 ofs, .slice kA kl kc]).ext hE5); clear hE5))
                clear k0 k1 k2 k3 c0 c1 c2 c3 c4
                have HSU := Lib.hid (fun w' (e : Ext w9 w') => logSuper_any w' (HA9.out.log.ext e))
                have HNX := Lib.hid (fun w' (e : Ext w9 w') => logNext_any w' (HA9.out.log.ext e))
                have HMI := Lib.hid HA9.out.log.ok.x
                have rw0 := cell_regrown (show w9.cell? ⟨w6.heap.size, 0, none⟩ = some (.int .u64 m.x.epoch) from HX9.out.cell 0)
                have hnx : decide (m.next < m.x.next) = false := decide_eq_false (by have := HV.out.xn; omega)
                refine wp_region_tail (C := fun w' => ∃ rg : Regrown, w' = grow (redrawn w9 rg.d) rg.os) 27 (by kernel_rfl) (by kernel_rfl) (regrown_start w9) ?_
                simp only [List.take_succ_cons, List.take_zero, List.drop_succ_cons, List.drop_zero]
                iterate 1 go_big_quiet_step (fail)
                go_big_quiet_step ((go_at_call 10; exact Calls.regrown_of (HSU.out _ (below_regrown _ _ _))))
                go_big_quiet_want
                refine q_field 42 (.tmp 128) 0 rfl _ (.int .u64 m.x.epoch) rfl (fun w' => sp_field0 m.x w') ?_
                simp only [Act.put, List.setIfInBounds_toArray, List.set_cons_zero, List.set_cons_succ]
                go_big_quiet_on
                iterate 5 go_big_quiet_step (fail)
                go_big_quiet_step ((go_at_call 10; exact Calls.regrown_of (HSU.out _ (below_regrown _ _ _))))
                go_big_quiet_want
                refine q_field 42 (.tmp 135) 0 rfl _ (.int .u64 m.x.epoch) rfl (fun w' => sp_field0 m.x w') ?_
                simp only [Act.put, List.setIfInBounds_toArray, List.set_cons_zero, List.set_cons_succ]
                go_big_quiet_on
                iterate 4 go_big_quiet_step (fail)
                iterate 1 go_big_quiet_step (fail)
                go_big_quiet_step ((go_at_call 10; exact Calls.regrown_of (HSU.out _ (below_regrown _ _ _))))
                go_big_quiet_want
                refine q_load_blk 42 (.tmp 16) rfl w6.heap.size 42 m.x.cells rfl (fun w' hw' => HX9.out.ext (regrown_ext hw')) _ Tryz.underlying42 rfl (by rw [HML.out]; exact sp_info) ?_
                simp only [Act.put, List.setIfInBounds_toArray, List.set_cons_zero, List.set_cons_succ]
                go_big_quiet_on
                go_big_quiet_want
                refine q_bin .neq 42 (.tmp 142) (.tmp 143) 42 rfl (.agg m.x.cells.toArray) (.agg m.x.cells.toArray) (.bool false) rfl rfl (fun w' => sp_guard _ _ _ _ _ w') (fun w' => sp_same m.x w' HMX.out) ?_
                simp only [Act.put, List.setIfInBounds_toArray, List.set_cons_zero, List.set_cons_succ]
                go_big_quiet_on
                iterate 4 go_big_quiet_step (fail)
                go_big_quiet_step ((go_at_call 10; exact Calls.regrown_of (HSU.out _ (below_regrown _ _ _))))
                go_big_quiet_want
                refine q_field 42 (.tmp 149) 6 rfl _ (.int .u64 m.x.next) rfl (fun w' => sp_field6 m.x w' HMX.out) ?_
                simp only [Act.put, List.setIfInBounds_toArray, List.set_cons_zero, List.set_cons_succ]
                go_big_quiet_on
                iterate 1 go_big_quiet_step (fail)
                go_big_quiet_step ((go_at_call 9; exact Calls.regrown_of (HNX.out _ (below_regrown _ _ _))))
                iterate 1 go_big_quiet_step (fail)
                refine wpQuiet_nil ?_
                intro wz hwz
                have HAz := Lib.hid (HA9.out.ex (regrown_ext hwz))
                clear hwz rw0
                go_wp2_with fail
                go_roundw
                case rel => exact ⟨i + 1, F, m, by go_num, by omega, HAz.out, HV.out.step⟩
                case measure => simp [intOf]; omega
          · go_wp2_with (go_at_call 8; refine (HLG.out _ HA.out.ext).mono ?_; rintro e w5 ⟨rfl, hE5⟩; have HE5 := Lib.hid (HA.out.ext.trans hE5); clear hE5)
            go_ret
            exact ⟨rfl, HE5.out⟩
  · have hn2 : newOk many size = false := by simpa using hnew
    have HNW := Lib.hid hn2
    clear hn2 hnew
    go_enter Tryz.func3, Tryz.ntmps3
    go_wp2_with (first
      | (have hg := HS1; rw [← hw]; clear hw)
      | (go_at_call 5; refine (few_any many size _ l w1 (HR.out.ext HE1.out) HLL.out).mono ?_; rintro e w2 ⟨b, rfl, rfl, hb⟩; clear hb; cases b)
      | (go_at_call 6; refine (newNo_any many size _ HNW.out).mono ?_; rintro e w3 ⟨rfl, hE3⟩; have HS3 := Lib.hid (HS1.out.ext hE3); have HE3 := Lib.hid (HE1.out.trans hE3); clear hE3)
      | (have hg := HS3; refine wpList_load_blk rfl 23 (.tmp 6) rfl w.heap.size 23 [.int .i64 per, .int .i64 segs] rfl HS3.out _ Tryz.underlying23 rfl HI.out ?_)
      | (go_at_call 7; refine (formatNil_any per segs _).mono ?_; rintro e w4 ⟨rfl, hE4⟩; have HE4 := Lib.hid (HE3.out.trans hE4); clear hE4)
      | (go_at_call 8; refine (HLG.out _ HE4.out).mono ?_; rintro e w5 ⟨rfl, hE5⟩; have HE5 := Lib.hid (HE4.out.trans hE5); clear hE5))
    all_goals go_ret
    · exact ⟨rfl, HE1.out⟩
    · exact ⟨rfl, HE5.out⟩
end Go.Proofs.YtnkebhlkhpgghaaGreatDoor
/- The row of SeglogSteps, and its card: for any numbers, shape and script the law answers true; the listed table is the one that the program's text lays. -/
namespace Go.Proofs.YtnkebhlkhpgghaaGreatDoor
open Go Go.ChangeShapes Go.WideShapes Go.RowKit Go.Deep

theorem ownGo : ownKnob Tryz.prog.godebug = none := by kernel_rfl
theorem laidOut : laidOutB Tryz.prog = true := by kernel_rfl
def laidRow : List (String × DataW Unit) := [("blackbox/digest.constants", Rows.laid_blackbox_digest_constants)]
theorem gConst : Tryz.prog.globalNamed "blackbox/digest.constants" = some 0 := by kernel_rfl
theorem tConst : (Tryz.prog.globals[0]?).map (·.type) = some 191 := by kernel_rfl
theorem dConst : (Rows.laid_blackbox_digest_constants : DataW Unit) = Lib.tabData .u32 K64 := rfl
theorem door_met (os : Os) (args : Array Value) : laidMetH Tryz.prog laidRow ((World.doorLaid Tryz.prog 14 os).forCall (fun _ _ => 0) ⟨#[], args, []⟩).memory :=
  laidMetH_of_parts3 (fuel := 8) (laidMet_of_run' 8 (by kernel_rfl) (by kernel_rfl)) (by kernel_rfl) (by kernel_rfl)
/-- What the condition gives the walks. -/
theorem tab_of_laid {W : World} (h : laidMetH Tryz.prog laidRow W) : Tab W := by
  rw [MakeChecks.laidMetH_plain _ _ _ (by kernel_rfl)] at h
  unfold laidRow at h
  rw [dConst] at h
  have ht := Lib.tabIs_of_head gConst tConst Tryz.underlying191 Tryz.underlying127 (by kernel_rfl) (by kernel_rfl) h
  unfold Lib.TabIs World.var? at ht
  rw [gConst] at ht
  simp only [Option.bind_some] at ht
  split at ht
  · rename_i cs ty fr he
    exact ⟨ty, fr, by rw [he, Option.some.inj ht]; rfl⟩
  · cases ht
theorem wf_i64 {n : Int} (h : (Lit.int .i64 n).wf = true) : -9223372036854775808 ≤ n ∧ n < 9223372036854775808 := by
  have := bounds_i64 h
  omega
theorem wf_u64 {n : Int} (h : (Lit.int .u64 n).wf = true) : 0 ≤ n ∧ n < 18446744073709551616 := by
  have := bounds_u64 h
  omega
instance : Inhabited Stp := ⟨⟨0, 0, 0, 0, none, 0, 0⟩⟩
section
variable {H : Type} {enc : TypeId × Value → H} {W : World} {base : Nat} {sp : Nat → Bool} {held : Bool}
set_option maxRecDepth 20000 in
/-- A step of a script, opened. -/
theorem open_step {fuel : Nat} {a : Addr} {cs : List Value} {y : DataW H × List MemPlace} (hc : W.cells? base a 5 = some cs) (h : DataW.trod enc Tryz.prog W base sp held fuel 37 cs = some y) :
    ∃ x : Stp, x.In ∧ ∀ (j : Nat) (u : Value), x.cells[j]? = some u → W.cell? (a.add j) = some u := by
  obtain ⟨_, hlen, hcell⟩ := World.cells?_some hc
  match cs, hlen, hcell with
  | [v0, v1, v2, v3, v4], _, hcell =>
    obtain ⟨xs, n, _, _, _, hx, hf⟩ := DataW.trod_struct Tryz.underlying37 h
    have n3 : Tryz.prog.cellsOf 3 = 1 := by kernel_rfl
    have n34 : Tryz.prog.cellsOf 34 = 1 := by kernel_rfl
    have n35 : Tryz.prog.cellsOf 35 = 1 := by kernel_rfl
    have hx : xs.length = 5 := hx
    match xs, hx, hf with
    | [y0, y1, y2, y3, y4], _, hf =>
      have f0 : DataW.trod enc Tryz.prog W base sp held n 3 (([v0, v1, v2, v3, v4].drop 0).take (Tryz.prog.cellsOf 3)) = [y0, y1, y2, y3, y4][0]? := hf 0 _ rfl
      have f1 : DataW.trod enc Tryz.prog W base sp held n 3 (([v0, v1, v2, v3, v4].drop 1).take (Tryz.prog.cellsOf 3)) = [y0, y1, y2, y3, y4][1]? := hf 1 _ rfl
      have f2 : DataW.trod enc Tryz.prog W base sp held n 3 (([v0, v1, v2, v3, v4].drop 2).take (Tryz.prog.cellsOf 3)) = [y0, y1, y2, y3, y4][2]? := hf 2 _ rfl
      have f3 : DataW.trod enc Tryz.prog W base sp held n 34 (([v0, v1, v2, v3, v4].drop 3).take (Tryz.prog.cellsOf 34)) = [y0, y1, y2, y3, y4][3]? := hf 3 _ rfl
      have f4 : DataW.trod enc Tryz.prog W base sp held n 35 (([v0, v1, v2, v3, v4].drop 4).take (Tryz.prog.cellsOf 35)) = [y0, y1, y2, y3, y4][4]? := hf 4 _ rfl
      simp only [n3, n34, n35, List.drop_zero, List.drop_succ_cons, List.take_succ_cons, List.take_zero, List.getElem?_cons_zero, List.getElem?_cons_succ] at f0 f1 f2 f3 f4
      obtain ⟨a0, e0, _, w0⟩ := DataW.trod_int Tryz.underlying3 f0
      obtain ⟨a1, e1, _, w1⟩ := DataW.trod_int Tryz.underlying3 f1
      obtain ⟨a2, e2, _, w2⟩ := DataW.trod_int Tryz.underlying3 f2
      obtain ⟨a3, e3, _, w3⟩ := DataW.trod_int Tryz.underlying34 f3
      have h4 : ∃ A l c, v4 = .slice A l c := by
        rcases DataW.trod_slice Tryz.underlying35 f4 with ⟨h4, _⟩ | ⟨a, l, c, _, _, _, _, h4, _⟩
        · simp at h4; exact ⟨_, _, _, h4⟩
        · simp at h4; exact ⟨_, _, _, h4⟩
      obtain ⟨A, l, c, rfl⟩ := h4
      simp only [List.cons.injEq, and_true] at e0 e1 e2 e3
      subst e0 e1 e2 e3
      refine ⟨⟨a0, a1, a2, a3, A, l, c⟩, ⟨wf_i64 w2, wf_u64 w3⟩, fun j u hu => ?_⟩
      have hj : j < 5 := by have := (List.getElem?_eq_some_iff.1 hu).1; simpa [Stp.cells] using this
      rw [hcell j hj]
      exact hu
set_option maxRecDepth 20000 in
/-- A script, opened. -/
theorem open_script {fuel : Nat} {a0 : Option Addr} {len cap : Nat} {x : DataW H × List MemPlace} (h : DataW.trod enc Tryz.prog W base sp held fuel 24 [.slice a0 len cap] = some x) :
    ∃ l : List Stp, l.length = len ∧ Rd W 5 Stp.cells (.slice a0 len cap) l ∧ len ≤ 9223372036854775807 ∧ ∀ y ∈ l, y.In := by
  have n37 : Tryz.prog.cellsOf 37 = 5 := by kernel_rfl
  rcases open_slice Tryz.underlying24 h with ⟨hcs, _⟩ | ⟨a, len', cap', m, n, D, Pl, hcs, _, hl, hm, hmm, _, hx⟩
  · simp at hcs
    obtain ⟨rfl, rfl, rfl⟩ := hcs
    exact ⟨[], rfl, Rd.none _ _ _, by omega, by simp⟩
  · simp at hcs
    obtain ⟨rfl, rfl, rfl⟩ := hcs
    unfold maxLen at hm
    have hlm : len ≤ m := by rw [hmm]; split <;> omega
    rw [n37] at hx
    obtain ⟨V, hV⟩ := choose_lt (α := Stp) (p := fun i y => i < len → y.In ∧ ∀ (j : Nat) (u : Value), y.cells[j]? = some u → W.cell? ((a.add (i * 5)).add j) = some u) (fun i (hi : i < m) => by
      obtain ⟨cs', h1, h2⟩ := hx i hi
      obtain ⟨y, hy, hy2⟩ := open_step h1 h2
      exact ⟨y, fun _ => ⟨hy, hy2⟩⟩)
    refine ⟨(List.range len).map V, by simp, ⟨some a, cap, by simp, by simpa using hl, by omega, fun hpos => ?_⟩, by omega, fun y hy => ?_⟩
    · have hpos : 0 < len := by simpa using hpos
      obtain ⟨b, off, spot⟩ := a
      have hc0 := (hV 0 (by omega) hpos).2 0 _ rfl
      have hspot : spot = none := by simpa [Addr.add] using World.cell?_spot hc0
      subst hspot
      refine ⟨b, off, rfl, World.block_lt_of_cell? W _ hc0, fun i y hy j u hu => ?_⟩
      have hi : i < len := by have := (List.getElem?_eq_some_iff.1 hy).1; simpa using this
      simp [hi] at hy
      subst hy
      have h5 := (hV i (by omega) hi).2 j u hu
      rw [Addr.add_lit, Addr.add_lit] at h5
      exact h5
    · simp only [List.mem_map, List.mem_range] at hy
      obtain ⟨i, hi, rfl⟩ := hy
      exact (hV i (by omega) hi).1
end

set_option maxRecDepth 100000 in
theorem steps_lifted (os : Os) (started : os.Started) (H : Type) (enc : TypeId × Value → H) :
    ReturnsInHanded {} Tryz.checked os 3 .any (fun w args => (Rows.seglogStepsSpec.pre enc Tryz.prog Tryz.f3 [] false w args ∧ laidMetH Tryz.prog laidRow w) ∧ sizedMet enc Tryz.prog Tryz.f3 (OpenSpec.ofChange Rows.seglogStepsSpec) false w args)
      (Rows.seglogStepsSpec.post enc Tryz.prog Tryz.f3 false true false false) := by
  refine returnsInHanded_of_change_and (C := Tryz.checked) (X := fun w _ => laidMetH Tryz.prog laidRow w) (fun _ _ _ hh h => h.of_heap hh) ownGo started (by kernel_rfl) Tryz.func3
    (ChangeSpec.witness_shaped (enc := enc) (C := Tryz.checked) (os := os) (X := fun w _ => laidMetH Tryz.prog laidRow w) false (World.doorLaid Tryz.prog 14 os) #[.int .i64 0, .int .i64 0, .agg #[.int .i64 0, .int .i64 0], .slice none 0 0] 8 rfl (World.shaped_of_RefB (by kernel_rfl) (by kernel_rfl)) (by kernel_rfl) (by kernel_rfl) (by kernel_rfl) (door_met os _)) ?_
  intro W base args ds gs before hval0 hW _ _ hL _
  have hval : ∀ (j : Nat) t v, Tryz.f3.params[j]? = some t → args[j]? = some v → Value.okWide Tryz.prog W .any base t v := hval0
  have hW' := hW
  obtain ⟨p, q, hA0, hV, rfl, hfz, hnd⟩ := hW
  have hA : DataW.TrodAll enc Tryz.prog W 0 (fun _ => true) true Tryz.f3.params.toList args.toList ds p := hA0
  rw [Tryz.params3] at hA hval
  obtain ⟨v0, v1, v2, v3, d0, d1, d2, d3, p0, p1, p2, p3, rfl, rfl, rfl, h0, h1, h2, h3⟩ := trodAll_four hA
  obtain ⟨rfl, rfl⟩ := trodVars_none hV
  have hT := tab_of_laid hL
  obtain ⟨many, rfl, rfl, rfl, wn⟩ := open_int Tryz.underlying3 (hval 0 3 v0 rfl rfl) h0
  obtain ⟨size, rfl, rfl, rfl, wz⟩ := open_int Tryz.underlying3 (hval 1 3 v1 rfl rfl) h1
  have k2 := h2
  have lt2 : ∀ x ∈ p2, x.block < W.heap.size := by obtain ⟨m, hm⟩ := k2; exact DataW.trod_lt m _ _ _ hm
  have k3 := h3
  have lt3 : ∀ x ∈ p3, x.block < W.heap.size := by obtain ⟨m, hm⟩ := k3; exact DataW.trod_lt m _ _ _ hm
  obtain ⟨c0, c1, y0, y1, n, rfl, _, _, g0, g1⟩ := Go.Joins.open_agg2 Tryz.underlying23 (by kernel_rfl) (by kernel_rfl) (hval 2 23 v2 rfl rfl) h2
  obtain ⟨per, e0, _, wp⟩ := DataW.trod_int Tryz.underlying3 g0
  obtain ⟨segs, e1, _, ws⟩ := DataW.trod_int Tryz.underlying3 g1
  simp only [List.cons.injEq, and_true] at e0 e1
  subst e0 e1
  obtain ⟨a0, len, cap, rfl⟩ := okWide_slice Tryz.underlying24 (hval 3 24 v3 rfl rfl)
  obtain ⟨l, hl, hR, hlen, hin⟩ : ∃ l : List Stp, l.length = len ∧ Rd W 5 Stp.cells (.slice a0 len cap) l ∧ len ≤ 9223372036854775807 ∧ ∀ y ∈ l, y.In := by
    obtain ⟨fuel, hf⟩ := h3
    exact open_script hf
  clear hA0 hval0
  refine (steps_any many size per segs _ l W hT hR (by omega) hin).mono fun e W' ⟨he, bel⟩ => ?_
  subst he
  exact ⟨_, rfl, _, _, _, [], _, [], hW', trodAll_mk1 (shut_bool Tryz.underlying4 _), (trodAll_mk4 (shut_int Tryz.underlying3 wn) (shut_int Tryz.underlying3 wz) (Below.trod laidOut (by kernel_rfl) (of_decide_eq_true (by kernel_rfl)) k2 bel lt2) (Below.trod laidOut (by kernel_rfl) (of_decide_eq_true (by kernel_rfl)) k3 bel lt3)), rfl, bel.frame _, fun h => by cases h⟩

theorem steps_said : Rows.SeglogStepsSaid :=
  OpenClaim.holds_of_wide 3 Tryz.f3 rfl rfl rfl rfl rfl rfl rfl ⟨rfl, rfl, rfl, rfl, rfl⟩ rfl rfl rfl rfl rfl (by kernel_rfl) Tryz.func3 (by kernel_rfl)
    (of_decide_eq_true (by kernel_rfl)) (by unfold Func.isWrapper; first | (rw [if_pos (by decide +kernel)]; kernel_rfl) | (rw [if_neg (by decide +kernel)]; exact ⟨rfl, rfl⟩))
    (fun os started H enc _ => steps_lifted os started H enc)
end Go.Proofs.YtnkebhlkhpgghaaGreatDoor
/- blackboxref07 (a new disk), blackboxref11.Fit, blackboxref12.Fit: the walks. -/
namespace Go.Proofs.YtnkebhlkhpgghaaGreatDoor
open Go Go.RowKit Go.Deep Go.Sort

def strLen : Value → Nat
  | .string s => s.size
  | _ => 0
theorem zeros_succ (k : Nat) : bs (zeros k) ++ bs [0] = bs (zeros (k + 1)) := by
  rw [bs_append]
  congr 1
  simp [zeros, List.replicate_succ']
theorem refZeros_any (n : Nat) (w : World) (hn : n ≤ 1024) : Calls Tryz.prog 43 #[.int .i64 n] w fun e w' => e = .returned (.string (bs (zeros n))) ∧ w' = w := by
  go_enter Tryz.func43, Tryz.ntmps43
  go_wp2_with fail
  obtain ⟨w0, rfl⟩ : ∃ w0 : World, w0 = w := ⟨_, rfl⟩
  go_loop [3] (fun t => ∃ k : Nat, k ≤ n ∧ t = .string (bs (zeros k))) (fun t => n - strLen t)
  case atStart => exact ⟨0, by omega, rfl⟩
  case round =>
    obtain ⟨k, hk, rfl⟩ := hrel
    have hsz : (bs (zeros k)).size = k := by rw [bs_size, zeros_length]
    have HS := Lib.hid (zeros_succ k)
    have HZ := Lib.hid hsz
    generalize hzz : bs (zeros k) = z at *
    have HZE := Lib.hid hzz
    clear hzz
    by_cases hlt : k < n
    · have hd : z.size < n := by have := HZ.out; omega
      have hg : ¬ 9223372036854775807 < z.size + (bs [0]).size := by have := HZ.out; rw [bs_size]; simp; omega
      clear hsz
      generalize hb0 : bs [0] = b0 at *
      have hb : (⟨#[0]⟩ : ByteArray) = b0 := hb0
      rw [← hb] at HS hg
      clear hb0 hb
      go_wp2_with fail
      exact ⟨⟨k + 1, by omega, by rw [HS.out]⟩, by rw [HS.out]; simp only [strLen]; rw [bs_size, zeros_length]; have := HZ.out; omega⟩
    · obtain rfl : k = n := by omega
      have hd : ¬ z.size < k := by omega
      clear hsz
      go_wp2_with fail
      go_ret
      exact ⟨by rw [HZE.out]; rfl, rfl⟩
/-- The reference's disk, new. -/
def RefB (w : World) (r n z : Nat) : Prop := ∃ A c, Blk w r 95 #[.int .i64 n, .int .i64 z, .slice A n c, .slice none 0 0, .int .i64 (-1)] ∧ w.ownsRow 0 9 1 (.slice A n c) n (List.replicate n (.string (bs (zeros z))))
theorem RefB.ext {w w' : World} {r n z : Nat} (h : RefB w r n z) (e : Ext w w') : RefB w' r n z := by
  obtain ⟨A, c, h1, h2⟩ := h
  exact ⟨A, c, h1.ext e, own_ext h2 e⟩
set_option maxHeartbeats 800000 in
theorem refNewNo_any (many size : Int) (w : World) (h : newOk many size = false) : Calls Tryz.prog 16 #[.int .i64 many, .int .i64 size] w (Ret (.tuple #[.pointer none, .int .i64 1]) w) := by
  by_cases h1 : many < 1
  · go_enter Tryz.func16, Tryz.ntmps16
    go_wp2_with fail
    go_ret2
    exact ⟨rfl, Ext.refl w⟩
  · by_cases h2 : 4096 < many
    · go_enter Tryz.func16, Tryz.ntmps16
      go_wp2_with fail
      go_ret2
      exact ⟨rfl, Ext.refl w⟩
    · by_cases h3 : size < 64
      · go_enter Tryz.func16, Tryz.ntmps16
        go_wp2_with fail
        go_ret2
        exact ⟨rfl, Ext.refl w⟩
      · have h4 : 1024 < size := by
          simp only [newOk, Bool.and_eq_false_iff, decide_eq_false_iff_not] at h
          omega
        go_enter Tryz.func16, Tryz.ntmps16
        go_wp2_with fail
        go_ret2
        exact ⟨rfl, Ext.refl w⟩
theorem info_strs : (Tryz.prog.info? 9).map (fun i => (i.zero, i.size, i.bytes)) = some (some (.string ByteArray.empty), 1, 16) := by kernel_rfl
set_option maxHeartbeats 1600000 in
theorem refNewYes_any (n z : Nat) (w : World) (h : newOk n z = true) : Calls Tryz.prog 16 #[.int .i64 n, .int .i64 z] w fun e w' => ∃ r, e = .returned (.tuple #[.pointer (some ⟨r, 0, none⟩), .int .i64 0]) ∧ RefB w' r n z ∧ Ext w w' := by
  simp only [newOk, Bool.and_eq_true, decide_eq_true_eq] at h
  obtain ⟨⟨⟨h1, h2⟩, h3⟩, h4⟩ := h
  have HZ := Lib.hid (fun w' => refZeros_any z w' (by omega))
  have hg1 : ¬ (n : Int) < 1 := by omega
  have hg2 : ¬ 4096 < (n : Int) := by omega
  have hg3 : ¬ (z : Int) < 64 := by omega
  have hg4 : ¬ 1024 < (z : Int) := by omega
  clear h1 h3 h4
  generalize hzz : bs (zeros z) = zz at HZ
  have HZZ := Lib.hid hzz
  clear hzz
  go_enter Tryz.func16, Tryz.ntmps16
  go_wp2_with (go_at_call 43; refine (HZ.out _).mono ?_; rintro e w1 ⟨rfl, rfl⟩)
  obtain ⟨w0, rfl⟩ : ∃ w0 : World, w0 = w := ⟨_, rfl⟩
  go_loopw [8] (fun t wr => ∃ (i : Nat) (A : Option Addr) (c : Nat), t = .int .i64 i ∧ i ≤ n ∧ Ext w0 wr ∧ Blk wr w0.heap.size 95 #[.int .i64 n, .int .i64 z, .slice A i c, .slice none 0 0, .int .i64 (-1)] ∧ wr.ownsRow w0.heap.size 9 1 (.slice A i c) i (List.replicate i (.string zz))) (fun t _ => n - (intOf t).toNat)
  case atStart => exact ⟨0, none, 0, rfl, by omega, (Ext.refl _).alloc _, Blk.new _ _ _, own_none _ _ _ _⟩
  case round =>
    obtain ⟨i, A, c, rfl, hi, hE, hB, hO⟩ := hrel
    have HE := Lib.hid hE
    have HB := Lib.hid hB
    have HO := Lib.hid hO
    clear hE hB hO
    by_cases hlt : i < n
    · have i0 : (i : Int) < n := by omega
      have c2 : wr.cell? ⟨w0.heap.size, 2, none⟩ = some (.slice A i c) := HB.out.cell 2
      have HRP := Lib.hid (show List.replicate (i + 1) (Value.string zz) = List.replicate i (.string zz) ++ [.string zz] from List.replicate_succ')
      go_wp2_with (at_builtin; go_loud (refine wpList_append1 w0.heap.size rfl (.tmp 38) (.tmp 40) 92 9 _ 1 16 rfl Tryz.underlying92 info_strs rfl (by decide) (by decide) (.slice A i c) i (List.replicate i (.string zz)) [.string zz] rfl rfl rfl (by intro u hu; simp at hu; subst hu; rfl) HO.out HE.out.size (by omega) ?_; intro A' c' w2 hO2 hK2 hb2; have HB2 := Lib.hid (HB.out.keep hK2 (fun hh => own_other HO.out HB.out (by decide) _ hh rfl)); have f2 : w2.frozen? ⟨w0.heap.size, 2, none⟩ = false := HB2.out.frozen 2; have c22 : w2.cell? ⟨w0.heap.size, 2, none⟩ = some (.slice A i c) := HB2.out.cell 2; have HO2 := Lib.hid hO2; have HE2 := Lib.hid (HE.out.keep hK2 (fun i hi => own_base HO.out _ hi)); clear c2 hO2 hK2 hb2))
      go_roundw
      case rel => exact ⟨i + 1, A', c', by go_num, by omega, HE2.out.setCell (p := ⟨w0.heap.size, 2, none⟩) (Nat.le_refl _) _, HB2.out.set 2 _, by rw [HRP.out]; exact own_keep HO2.out ((Keep.refl (One w0.heap.size) w2).setIn rfl 2 _) (fun g hg hh => own_other HO2.out HB2.out (by decide) g hg hh)⟩
      case measure => simp [intOf]; omega
    · obtain rfl : i = n := by omega
      go_wp2_with fail
      go_ret2
      exact ⟨_, rfl, ⟨A, c, HB.out, by rw [HZZ.out]; exact own_zero HO.out⟩, HE.out⟩

/-! ### Its image -/
theorem own_at {w : World} {base n : Nat} {e : TypeId} {A : Option Addr} {c : Nat} {u : Value} (h : w.ownsRow base e 1 (.slice A n c) n (List.replicate n u)) : ∀ i, i < n → ∃ g, A = some ⟨g, 0, none⟩ ∧ w.cell? ⟨g, i, none⟩ = some u := by
  intro i hi
  rcases h.2 with ⟨hv, _⟩ | ⟨g, cap, cur, hv, _⟩
  · simp at hv; omega
  · simp at hv
    obtain ⟨rfl, rfl⟩ := hv
    have h1 := h.cells (g := g) rfl i u (by simp [hi])
    rw [Addr.add_lit, Nat.zero_add] at h1
    exact ⟨g, rfl, h1⟩
theorem zeros_add (a b : Nat) : zeros a ++ zeros b = zeros (a + b) := by simp [zeros]
set_option maxHeartbeats 1600000 in
theorem refImage_any {r n z : Nat} (w : World) (h : RefB w r n z) (hn : n ≤ 4096) (hz : z ≤ 1024) : Calls Tryz.prog 49 #[.pointer (some ⟨r, 0, none⟩)] w (Ret (.string (bs (zeros (n * z)))) w) := by
  obtain ⟨A, c, hB, hO⟩ := h
  have HB := Lib.hid hB
  have HRD := Lib.hid (own_at hO)
  have hn0 : 0 < n ∨ n = 0 := by omega
  clear hB hO
  have c0 : w.cell? ⟨r, 0, none⟩ = some (.int .i64 n) := HB.out.cell 0
  have c2 : w.cell? ⟨r, 2, none⟩ = some (.slice A n c) := HB.out.cell 2
  go_enter Tryz.func49, Tryz.ntmps49
  go_wp2_with fail
  obtain ⟨w0, rfl⟩ : ∃ w0 : World, w0 = w := ⟨_, rfl⟩
  go_loopw [4, 3] (fun t v3 wr => ∃ (i m : Nat), t = .int .i64 i ∧ i ≤ n ∧ m = i * z ∧ Ext w0 wr ∧ wr.ownsRow w0.heap.size 5 1 v3 m (bcells (zeros m))) (fun t _ _ => n - (intOf t).toNat)
  case atStart => exact ⟨0, 0, rfl, by omega, by omega, Ext.refl _, own_none _ _ _ _⟩
  case round =>
    obtain ⟨i, m, rfl, hi, hm, hE, hO⟩ := hrel
    obtain ⟨A', c', rfl⟩ := own_slice hO
    have HE := Lib.hid hE
    have HO := Lib.hid hO
    have HM := Lib.hid hm
    have d0 := hE.cell_some c0
    have d2 := hE.cell_some c2
    clear hm hO
    by_cases hlt : i < n
    · obtain ⟨b, rfl, hcb⟩ := HRD.out i hlt
      have dcb := hE.cell_some hcb
      have i0 : (i : Int) < n := by omega
      have hmz : m ≤ 4096 * 1024 := by rw [HM.out]; exact Nat.mul_le_mul (by omega) hz
      clear hE hcb c0 c2
      generalize hzz : bs (zeros z) = zz at *
      have HZZ := Lib.hid hzz
      clear hzz
      go_wp2_with (at_builtin; go_loud (refine wpList_appendL w0.heap.size rfl (.tmp 13) (.tmp 20) 62 9 5 rfl Tryz.underlying62 Tryz.underlying9 info_u8 (.slice A' m c') m (zeros m) (zeros z) rfl zz rfl HZZ.out.symm HO.out (by simp) HE.out.size (by simp; omega) ?_; intro A3 c3 n3 w2 hn3 hO3 hK3; have HO3 := Lib.hid hO3; have HN3 := Lib.hid hn3; have HE3 := Lib.hid (HE.out.keep hK3 (fun i hi => own_base HO.out _ hi)); clear hn3 hO3 hK3))
      go_roundw
      case rel =>
        have h1 : n3 = (i + 1) * z := by rw [HN3.out, List.length_append, zeros_length, zeros_length, HM.out, Nat.succ_mul]
        have h2 : zeros m ++ zeros z = zeros n3 := by rw [zeros_add, HN3.out, List.length_append, zeros_length, zeros_length]
        have h3 := HO3.out
        rw [h2] at h3
        exact ⟨i + 1, n3, by go_num, by omega, h1, HE3.out, h3⟩
      case measure => simp [intOf]; omega
    · obtain rfl : i = n := by omega
      have hcv := own_string (P := Tryz.prog) (e' := 5) (src := 62) (dst := 9) Tryz.underlying62 Tryz.underlying5 Tryz.underlying9 HO.out
      clear hE c0 c2
      generalize hzz : bs (zeros m) = zz at *
      have HZZ := Lib.hid hzz
      clear hzz
      go_wp2_with fail
      go_ret
      exact ⟨by rw [← HM.out, HZZ.out]; rfl, HE.out⟩
end Go.Proofs.YtnkebhlkhpgghaaGreatDoor
/- blackboxref11.Fit, blackboxref12.shaped, Fit: the walks. -/
namespace Go.Proofs.YtnkebhlkhpgghaaGreatDoor
open Go Go.RowKit Go.Deep Go.Sort

theorem ref11Nil_any (w : World) : Calls Tryz.prog 74 #[.pointer none] w (Ret (.int .i64 5) w) := by
  go_enter Tryz.func74, Tryz.ntmps74
  go_wp2_with fail
  go_ret
  exact ⟨rfl, Ext.refl w⟩
theorem ref11Fit_any {r n z : Nat} (w : World) (h : RefB w r n z) : Calls Tryz.prog 74 #[.pointer (some ⟨r, 0, none⟩)] w (Ret (.int .i64 (if 2 ≤ n ∧ 256 ≤ z then 0 else 1)) w) := by
  obtain ⟨A, c, hB, _⟩ := h
  have c0 : w.cell? ⟨r, 0, none⟩ = some (.int .i64 n) := hB.cell 0
  have c1 : w.cell? ⟨r, 1, none⟩ = some (.int .i64 z) := hB.cell 1
  clear hB
  by_cases h1 : 2 ≤ n
  · by_cases h2 : 256 ≤ z
    · rw [if_pos ⟨h1, h2⟩]
      have d1 : ¬ (n : Int) < 2 := by omega
      have d2 : ¬ (z : Int) < 256 := by omega
      clear h1 h2
      go_enter Tryz.func74, Tryz.ntmps74
      go_wp2_with fail
      go_ret
      exact ⟨rfl, Ext.refl w⟩
    · rw [if_neg (fun hh => h2 hh.2)]
      have d1 : ¬ (n : Int) < 2 := by omega
      have d2 : (z : Int) < 256 := by omega
      clear h1 h2
      go_enter Tryz.func74, Tryz.ntmps74
      go_wp2_with fail
      go_ret
      exact ⟨rfl, Ext.refl w⟩
  · rw [if_neg (fun hh => h1 hh.1)]
    have d1 : (n : Int) < 2 := by omega
    clear h1
    go_enter Tryz.func74, Tryz.ntmps74
    go_wp2_with fail
    go_ret
    exact ⟨rfl, Ext.refl w⟩
set_option maxRecDepth 8000 in
theorem shapedR_any (per segs : Int) (w : World) : Calls Tryz.prog 75 #[.agg #[.int .i64 per, .int .i64 segs]] w (Ret (.bool (shOk per segs)) w) := by
  have hs : shOk per segs = (decide (2 ≤ segs) && decide (segs ≤ 64) && decide (1 ≤ per) && decide (per ≤ 4096)) := rfl
  rw [hs]
  clear hs
  by_cases h1 : 2 ≤ segs
  · have d1 : decide (2 ≤ segs) = true := decide_eq_true h1
    by_cases h2 : segs ≤ 64
    · have d2 : decide (segs ≤ 64) = true := decide_eq_true h2
      by_cases h3 : 1 ≤ per
      · have d3 : decide (1 ≤ per) = true := decide_eq_true h3
        rcases h4 : decide (per ≤ 4096) with _ | _
        all_goals (
          rw [d1, d2, d3]
          clear h1 h2 h3
          go_enter Tryz.func75, Tryz.ntmps75
          go_wp2_with fail
          go_ret
          exact ⟨rfl, (Ext.refl w).alloc _⟩)
      · have d3 : decide (1 ≤ per) = false := decide_eq_false h3
        rw [d1, d2, d3]
        clear h1 h2 h3
        go_enter Tryz.func75, Tryz.ntmps75
        go_wp2_with fail
        go_ret
        exact ⟨rfl, (Ext.refl w).alloc _⟩
    · have d2 : decide (segs ≤ 64) = false := decide_eq_false h2
      rw [d1, d2]
      clear h1 h2
      go_enter Tryz.func75, Tryz.ntmps75
      go_wp2_with fail
      go_ret
      exact ⟨rfl, (Ext.refl w).alloc _⟩
  · have d1 : decide (2 ≤ segs) = false := decide_eq_false h1
    rw [d1]
    clear h1
    go_enter Tryz.func75, Tryz.ntmps75
    go_wp2_with fail
    go_ret
    exact ⟨rfl, (Ext.refl w).alloc _⟩
set_option maxRecDepth 8000 in
theorem ref12FitNil_any (per segs : Int) (w : World) : Calls Tryz.prog 46 #[.pointer none, .agg #[.int .i64 per, .int .i64 segs]] w (Ret (.int .i64 5) w) := by
  go_enter Tryz.func46, Tryz.ntmps46
  go_wp2_with (go_at_call 74; refine (ref11Nil_any _).mono ?_; rintro e w1 ⟨rfl, hE1⟩; have HE1 := Lib.hid (((Ext.refl w).alloc (.cells #[.int .i64 per, .int .i64 segs] 23)).trans hE1); clear hE1)
  go_ret
  exact ⟨rfl, HE1.out⟩
set_option maxRecDepth 8000 in
set_option maxHeartbeats 1600000 in
theorem ref12Fit_any {r n z : Nat} (per segs : Int) (w : World) (h : RefB w r n z) (hn : n ≤ 4096) : Calls Tryz.prog 46 #[.pointer (some ⟨r, 0, none⟩), .agg #[.int .i64 per, .int .i64 segs]] w (Ret (.int .i64 (if fits (Dk.new n z) per segs then 0 else 1)) w) := by
  have HF := Lib.hid (fun w' (e : Ext w w') => ref11Fit_any w' (h.ext e))
  have HSH := Lib.hid (fun w' => shapedR_any per segs w')
  obtain ⟨w1, hw1⟩ : ∃ w1, w1 = w.alloc (.cells #[.int .i64 per, .int .i64 segs] 23) := ⟨_, rfl⟩
  have HE1 := Lib.hid (show Ext w w1 from by rw [hw1]; exact (Ext.refl w).alloc _)
  have HS1 := Lib.hid (show Blk w1 w.heap.size 23 [.int .i64 per, .int .i64 segs].toArray from by rw [hw1]; exact Blk.new _ _ _)
  have HRB := Lib.hid h
  have HI := Lib.hid sh_info
  by_cases hs : 2 ≤ n ∧ 256 ≤ z
  · rw [if_pos hs] at HF
    have hfit : fits (Dk.new n z) per segs = (shOk per segs && decide (2 + per * segs ≤ (n : Int))) := by
      have e1 : (Dk.new n z).many = n := rfl
      have e2 : (Dk.new n z).size = z := rfl
      simp [fits, e1, e2, hs.1, hs.2]
    rw [hfit]
    clear hfit hs h
    rcases hsh : shOk per segs with _ | _
    · rw [hsh] at HSH
      simp only [Bool.false_and, Bool.false_eq_true, if_false]
      clear hsh
      go_enter Tryz.func46, Tryz.ntmps46
      go_wp2_with (first | (have hg := HS1; rw [← hw1]; clear hw1) | (go_at_call 74; refine (HF.out _ HE1.out).mono ?_; rintro e w2 ⟨rfl, hE2⟩; have HE2 := Lib.hid (HE1.out.trans hE2); have HS2 := Lib.hid (HS1.out.ext hE2); clear hE2))
      refine wp_region_tail (C := fun w' => ∃ rg : Regrown, w' = grow (redrawn w2 rg.d) rg.os) 15 (by kernel_rfl) (by kernel_rfl) (regrown_start w2) ?_
      simp only [List.take_succ_cons, List.take_zero, List.drop_succ_cons, List.drop_zero]
      go_big_quiet_want
      refine q_load_blk 23 (.tmp 3) rfl w.heap.size 23 [.int .i64 per, .int .i64 segs] rfl (fun w' hw' => HS2.out.ext (regrown_ext hw')) _ Tryz.underlying23 rfl HI.out ?_
      simp only [Act.put, List.setIfInBounds_toArray, List.set_cons_zero, List.set_cons_succ]
      go_big_quiet_on
      iterate 14 go_big_quiet_step ((go_at_call 75; exact Calls.regrown_of (HSH.out _)))
      refine wpQuiet_nil ?_
      intro w3 hw3
      have HE3 := Lib.hid (HE2.out.trans (regrown_ext hw3))
      clear hw3
      go_wp2_with fail
      go_ret
      exact ⟨rfl, HE3.out⟩
    · rw [hsh] at HSH
      simp only [Bool.true_and, decide_eq_true_eq]
      simp only [shOk, Bool.and_eq_true, decide_eq_true_eq] at hsh
      obtain ⟨⟨⟨h3, h4⟩, h5⟩, h6⟩ := hsh
      obtain ⟨p, rfl⟩ := Int.eq_ofNat_of_zero_le (show 0 ≤ per by omega)
      obtain ⟨s, rfl⟩ := Int.eq_ofNat_of_zero_le (show 0 ≤ segs by omega)
      have hm : p * s ≤ 4096 * 64 := Nat.mul_le_mul (by omega) (by omega)
      have hw5 : IntKind.i64.wrap ((p : Int) * s) = ((p * s : Nat) : Int) := by rw [← Int.natCast_mul]; exact IntWalk.i64_in _ (by omega)
      rw [← Int.natCast_mul]
      obtain ⟨A, c, hB, _⟩ := HRB.out
      have HBR := Lib.hid hB
      clear h3 h4 h5 h6 hB
      generalize p * s = q at *
      by_cases hq : (2 : Int) + (q : Nat) ≤ n
      · rw [if_pos hq]
        have hd : decide ((n : Int) < 2 + (q : Nat)) = false := decide_eq_false (by omega)
        have hw6 : IntKind.i64.wrap (2 + (q : Int)) = 2 + (q : Int) := IntWalk.i64_in _ (by omega)
        clear hq
        go_enter Tryz.func46, Tryz.ntmps46
        go_wp2_with (first | (have hg := HS1; rw [← hw1]; clear hw1) | (go_at_call 74; refine (HF.out _ HE1.out).mono ?_; rintro e w2 ⟨rfl, hE2⟩; have HE2 := Lib.hid (HE1.out.trans hE2); have HS2 := Lib.hid (HS1.out.ext hE2); clear hE2))
        have r0 := cell_regrown (show w2.cell? ⟨w.heap.size, 0, none⟩ = some (.int .i64 p) from HS2.out.cell 0)
        have r1 := cell_regrown (show w2.cell? ⟨w.heap.size, 1, none⟩ = some (.int .i64 s) from HS2.out.cell 1)
        have r2 := cell_regrown (show w2.cell? ⟨r, 0, none⟩ = some (.int .i64 n) from (HBR.out.ext HE2.out).cell 0)
        refine wp_region_tail (C := fun w' => ∃ rg : Regrown, w' = grow (redrawn w2 rg.d) rg.os) 15 (by kernel_rfl) (by kernel_rfl) (regrown_start w2) ?_
        simp only [List.take_succ_cons, List.take_zero, List.drop_succ_cons, List.drop_zero]
        go_big_quiet_want
        refine q_load_blk 23 (.tmp 3) rfl w.heap.size 23 [.int .i64 p, .int .i64 s] rfl (fun w' hw' => HS2.out.ext (regrown_ext hw')) _ Tryz.underlying23 rfl HI.out ?_
        simp only [Act.put, List.setIfInBounds_toArray, List.set_cons_zero, List.set_cons_succ]
        go_big_quiet_on
        iterate 14 go_big_quiet_step ((go_at_call 75; exact Calls.regrown_of (HSH.out _)))
        refine wpQuiet_nil ?_
        intro w3 hw3
        have HE3 := Lib.hid (HE2.out.trans (regrown_ext hw3))
        clear hw3 r0 r1 r2
        go_wp2_with fail
        go_ret
        exact ⟨rfl, HE3.out⟩
      · rw [if_neg hq]
        have hd : decide ((n : Int) < 2 + (q : Nat)) = true := decide_eq_true (by omega)
        have hw6 : IntKind.i64.wrap (2 + (q : Int)) = 2 + (q : Int) := IntWalk.i64_in _ (by omega)
        clear hq
        go_enter Tryz.func46, Tryz.ntmps46
        go_wp2_with (first | (have hg := HS1; rw [← hw1]; clear hw1) | (go_at_call 74; refine (HF.out _ HE1.out).mono ?_; rintro e w2 ⟨rfl, hE2⟩; have HE2 := Lib.hid (HE1.out.trans hE2); have HS2 := Lib.hid (HS1.out.ext hE2); clear hE2))
        have r0 := cell_regrown (show w2.cell? ⟨w.heap.size, 0, none⟩ = some (.int .i64 p) from HS2.out.cell 0)
        have r1 := cell_regrown (show w2.cell? ⟨w.heap.size, 1, none⟩ = some (.int .i64 s) from HS2.out.cell 1)
        have r2 := cell_regrown (show w2.cell? ⟨r, 0, none⟩ = some (.int .i64 n) from (HBR.out.ext HE2.out).cell 0)
        refine wp_region_tail (C := fun w' => ∃ rg : Regrown, w' = grow (redrawn w2 rg.d) rg.os) 15 (by kernel_rfl) (by kernel_rfl) (regrown_start w2) ?_
        simp only [List.take_succ_cons, List.take_zero, List.drop_succ_cons, List.drop_zero]
        go_big_quiet_want
        refine q_load_blk 23 (.tmp 3) rfl w.heap.size 23 [.int .i64 p, .int .i64 s] rfl (fun w' hw' => HS2.out.ext (regrown_ext hw')) _ Tryz.underlying23 rfl HI.out ?_
        simp only [Act.put, List.setIfInBounds_toArray, List.set_cons_zero, List.set_cons_succ]
        go_big_quiet_on
        iterate 14 go_big_quiet_step ((go_at_call 75; exact Calls.regrown_of (HSH.out _)))
        refine wpQuiet_nil ?_
        intro w3 hw3
        have HE3 := Lib.hid (HE2.out.trans (regrown_ext hw3))
        clear hw3 r0 r1 r2
        go_wp2_with fail
        go_ret
        exact ⟨rfl, HE3.out⟩
  · rw [if_neg hs] at HF
    have hfit : fits (Dk.new n z) per segs = false := by
      have e1 : (Dk.new n z).many = n := rfl
      have e2 : (Dk.new n z).size = z := rfl
      simp only [fits, e1, e2, Bool.and_eq_false_iff, decide_eq_false_iff_not]
      by_cases h2 : 2 ≤ n
      · exact .inl (.inl (.inr (fun h3 => hs ⟨h2, h3⟩)))
      · exact .inl (.inl (.inl h2))
    rw [hfit]
    clear hfit hs h
    go_enter Tryz.func46, Tryz.ntmps46
    go_wp2_with (first | (have hg := HS1; rw [← hw1]; clear hw1) | (go_at_call 74; refine (HF.out _ HE1.out).mono ?_; rintro e w2 ⟨rfl, hE2⟩; have HE2 := Lib.hid (HE1.out.trans hE2); clear hE2))
    go_ret
    exact ⟨rfl, HE2.out⟩
end Go.Proofs.YtnkebhlkhpgghaaGreatDoor
/- The rule of XFree with a state that knows which operations have been: for a region whose blocks are made in an order that is drawn. Over any program. -/
namespace Go.Proofs.YtnkebhlkhpgghaaGreatDoor
open Go Go.RowKit

def upd (L : Nat → Bool) (i : Nat) : Nat → Bool := fun j => if j = i then true else L j
theorem getD_tf {l : Array Bool} {i : Nat} (h : i < l.size) : l.getD i false = l.getD i true := by simp [h]
theorem upd_set {listed : Array Bool} {i : Nat} (h : i < listed.size) : (fun j => (listed.setIfInBounds i true).getD j false) = upd (fun j => listed.getD j false) i := by
  funext j
  unfold upd
  by_cases hj : j = i
  · subst hj; simp [h]
  · rw [if_neg hj]
    exact getD_set_ne false (fun e => hj e.symm)
section
variable {P : Program} {ops : Array Oper} {Q : Exit → Act → World → Prop} {a0 : Act} {w0 : World}

theorem wpAny_seen {md : Region.Mode} {R : World → World → Prop} (J : (Nat → Bool) → Act → World → Prop) (hpl : freeB md ops a0.tmps.size = true) (A : Nat → Act → World → Prop)
    (stab : ∀ (i : Nat) (a : Act) (w w' : World), A i a w → R w w' → A i a w')
    (loc : ∀ (i j : Nat) (o : Oper) (a : Act) (w : World) (v : Value), ops[j]? = some o → i ≠ j → A i a w → A i (a.put o.dst v) w)
    (step : ∀ (i : Nat) (o : Oper) (L : Nat → Bool) (a : Act) (w : World), ops[i]? = some o → Beside ops a0 a → L i = false → J L a w → (∀ e ∈ o.after, Region.binds md e = true → L e.on = true ∧ A e.on a w) → o.wp P a w (fun a' w' => ∃ v, a' = a.put o.dst v ∧ (R w w' ∧ J (upd L i) a' w') ∧ A i a' w') Q)
    (fin : ∀ (L : Nat → Bool) (a : Act) (w : World), Beside ops a0 a → J L a w → (∀ i, i < ops.size → L i = true) → (∀ i, i < ops.size → A i a w) → Q .normal a w) :
    ∀ (f : Nat) (listed : Array Bool) (a : Act) (w : World), listed.size = ops.size → unlisted listed = f → Beside ops a0 a → J (fun j => listed.getD j false) a w → (∀ i, i < ops.size → listed.getD i true = true → A i a w) → wpAny P md ops Q f listed a w := by
  have hall := List.all_eq_true.1 hpl
  have opOk : ∀ (i : Nat) (o : Oper), ops[i]? = some o → o.guard = none ∧ (∀ e ∈ o.after, Region.binds md e = true → e.on < i) := by
    intro i o hi
    have hlt := (Array.getElem?_eq_some_iff.1 hi).1
    have h := hall i (List.mem_range.2 hlt)
    simp only [hi, Bool.and_eq_true] at h
    obtain ⟨⟨⟨h1, h2⟩, h3⟩, h4⟩ := h
    refine ⟨by simpa using h1, ?_⟩
    intro e he hbe
    have h3' := Array.all_eq_true'.1 h3
    have h4' := h3' e he
    rw [hbe] at h4'
    simpa using h4'
  -- some operation may come up, as long as one is left
  have some_ready : ∀ (listed : Array Bool), listed.size = ops.size → 0 < unlisted listed → Region.ready md ops listed ≠ [] := by
    intro listed hs hu
    have hex : ∃ i, listed.getD i true = false := by
      refine Classical.byContradiction fun hno => ?_
      have h1 : ∀ i, listed.getD i true = true := fun i => by
        cases h : listed.getD i true with
        | true => rfl
        | false => exact absurd ⟨i, h⟩ hno
      have h2 : unlisted listed = 0 := by
        unfold unlisted
        rw [List.length_eq_zero_iff, List.filter_eq_nil_iff]
        intro b hb
        obtain ⟨i, hi, rfl⟩ := List.mem_iff_getElem.1 hb
        have := h1 i
        simp at hi
        simpa [hi] using this
      omega
    have key : ∀ n i, i = n → listed.getD i true = false → ∃ j, j ∈ Region.ready md ops listed := by
      intro n
      induction n using Nat.strongRecOn with
      | _ n ih =>
        intro i hin hi
        subst hin
        have hlt : i < ops.size := by
          rcases Nat.lt_or_ge i ops.size with h | h
          · exact h
          · simp [Array.getElem?_eq_none (by omega : listed.size ≤ i)] at hi
        obtain ⟨o, ho⟩ : ∃ o, ops[i]? = some o := ⟨_, Array.getElem?_eq_getElem hlt⟩
        by_cases hd : ∀ e ∈ o.after, Region.binds md e = true → listed.getD e.on false = true
        · exact ⟨i, mem_ready.2 ⟨hi, o, ho, hd⟩⟩
        · have hd' : ∃ e ∈ o.after, Region.binds md e = true ∧ ¬ listed.getD e.on false = true := by
            refine Classical.byContradiction fun hno => hd fun e he hb => Classical.byContradiction fun hn => hno ⟨e, he, hb, hn⟩
          obtain ⟨e, he, hb, hl⟩ := hd'
          have hlt2 := (opOk i o ho).2 e he hb
          have : listed.getD e.on true = false := by
            have h5 : e.on < listed.size := by omega
            simp [h5] at hl ⊢
            exact hl
          exact ih e.on hlt2 e.on rfl this
    obtain ⟨i, hi⟩ := hex
    obtain ⟨j, hj⟩ := key i i rfl hi
    intro h0
    rw [h0] at hj
    cases hj
  intro f
  induction f with
  | zero =>
    intro listed a w hs hu hb he hA
    refine ⟨?_, fin _ a w hb he (fun i hi => (by show listed.getD i false = true; rw [getD_tf (by omega)]; exact unlisted_zero hu i)) (fun i hi => hA i hi (unlisted_zero hu i))⟩
    refine List.eq_nil_iff_forall_not_mem.2 fun j hj => ?_
    have h1 := (mem_ready.1 hj).1
    have h2 := unlisted_zero hu j
    rw [h1] at h2
    cases h2
  | succ f ih =>
    intro listed a w hs hu hb he hA
    refine ⟨fun h0 => absurd h0 (some_ready listed hs (by omega)), fun i hi => ?_⟩
    obtain ⟨hun, o, ho, hdep⟩ := mem_ready.1 hi
    have hlt := (Array.getElem?_eq_some_iff.1 ho).1
    have hg := (opOk i o ho).1
    unfold wpOp
    simp only [ho, Region.wanted, hg, if_true]
    left
    have hLi : (fun j => listed.getD j false) i = false := (by show listed.getD i false = false; rw [getD_tf (by omega)]; exact hun)
    refine Oper.wp_mono ?_ (step i o _ a w ho hb hLi he (fun e he' hbd => ⟨hdep e he' hbd, hA e.on ?_ ?_⟩))
    · rintro a' w' ⟨v, rfl, hE, hAi⟩
      refine ih _ _ _ (by simp [hs]) (by have := unlisted_set hun; omega) (hb.put ho v) (by rw [upd_set (by omega)]; exact hE.2) (fun j hj hl => ?_)
      by_cases hji : j = i
      · subst hji; exact hAi
      · refine loc j i o a w' v ho hji (stab j a w w' (hA j hj ?_) hE.1)
        rw [getD_set_ne true (fun e => hji e.symm)] at hl
        exact hl
    · have := (opOk i o ho).2 e he' hbd; omega
    · have h1 := hdep e he' hbd
      have h2 : e.on < listed.size := by have := (opOk i o ho).2 e he' hbd; omega
      simp [h2] at h1 ⊢
      exact h1
/-- **The rule.** -/
theorem wp_region_seen {id : Nat} {w : World} {l : List Oper} (R : World → World → Prop) (J : (Nat → Bool) → Act → World → Prop) (J0 : J (fun _ => false) a0 w.drew) (hm : P.follows .mixedOrders = true) (hpl : freeB .any l.toArray a0.tmps.size = true) (B : Nat → Value → World → Prop)
    (stab : ∀ (i : Nat) (v : Value) (w w' : World), B i v w → R w w' → B i v w')
    (step : ∀ (i : Nat) (o : Oper) (L : Nat → Bool) (a : Act) (w' : World), l[i]? = some o → Beside l.toArray a0 a → L i = false → J L a w' → (∀ e ∈ o.after, Region.binds .any e = true → L e.on = true ∧ B e.on (a.eval (.tmp (slotOf l.toArray e.on))) w') → o.wp P a w' (fun a' w'' => ∃ v, a' = a.put o.dst v ∧ (R w' w'' ∧ J (upd L i) a' w'') ∧ ∀ u, (o.dst = none ∨ u = v) → B i u w'') Q)
    (fin : ∀ (L : Nat → Bool) (a : Act) (w' : World), Beside l.toArray a0 a → J L a w' → (∀ i, i < l.length → L i = true) → (∀ i, i < l.length → B i (a.eval (.tmp (slotOf l.toArray i))) w') → Q .normal a w') : (Code.region id l.toArray true).wp P Q a0 w := by
  have hall := List.all_eq_true.1 hpl
  have hsl : ∀ (i : Nat) (o : Oper), l[i]? = some o → slotOf l.toArray i = o.dst.getD 0 := fun i o h => by simp only [slotOf, List.getElem?_toArray, h, Option.bind_some]
  refine wp_region_any hm (wpAny_seen (R := R) (J := J) hpl (fun i a w => ∀ o, l[i]? = some o → ∀ u, (o.dst = none ∨ u = a.eval (.tmp (slotOf l.toArray i))) → B i u w) (fun i a w w' h e o ho u hu => stab i _ w w' (h o ho u hu) e) ?_ ?_
    (fun L a w' hb he hL h => fin L a w' hb he (fun i hi => hL i (by simpa using hi)) (fun i hi => h i (by simpa using hi) l[i] (by simp [hi]) _ (.inr rfl))) _ _ _ _ (by simp) ?_ ⟨rfl, rfl, fun _ _ => rfl⟩ (by rw [show (fun j => (Array.replicate l.toArray.size false).getD j false) = (fun _ => false) from by funext j; simp only [Array.getD_eq_getD_getElem?, Array.getElem?_replicate]; split <;> rfl]; exact J0) ?_)
  · intro i j o a w v hj hij h oi hoi u hu
    refine h oi hoi u ?_
    rcases hu with hu | hu
    · exact .inl hu
    · cases hd : oi.dst with
      | none => exact .inl rfl
      | some d =>
        have hi := (List.getElem?_eq_some_iff.1 hoi).1
        have h1 := hall i (List.mem_range.2 (by simpa using hi))
        simp only [List.getElem?_toArray, hoi, Bool.and_eq_true] at h1
        have h2 := h1.2
        have hjl := (Array.getElem?_eq_some_iff.1 hj).1
        have h3 := List.all_eq_true.1 h2 j (List.mem_range.2 hjl)
        rw [List.getElem?_toArray] at hj
        simp only [List.getElem?_toArray, hj, Bool.or_eq_true, decide_eq_true_eq, hd, Option.isNone_some] at h3
        have hne : o.dst ≠ some d := by
          rcases h3 with h3 | h3 | h3
          · exact absurd h3 hij
          · simpa using h3
          · cases h3
        rw [hsl i oi hoi, hd, Option.getD_some] at hu ⊢
        right
        rw [hu]
        cases ho : o.dst with
        | none => rfl
        | some d' => exact put_off v (fun e => hne (by rw [ho, e]))
  · intro i o L a w' hi hb hL he hdep
    have hi' : l[i]? = some o := by simpa using hi
    have hlt := (List.getElem?_eq_some_iff.1 hi').1
    have h1 := hall i (List.mem_range.2 (by simpa using hlt))
    simp only [hi, Bool.and_eq_true] at h1
    have haf := Array.all_eq_true'.1 h1.1.2
    refine Oper.wp_mono ?_ (step i o L a w' hi' hb hL he (fun e h2 h3 => ⟨(hdep e h2 h3).1, (hdep e h2 h3).2 (l[e.on]'(by have := haf e h2; rw [h3] at this; simp at this; omega)) (by simp) _ (.inr rfl)⟩))
    rintro a' w'' ⟨v, rfl, hE, hB⟩
    refine ⟨v, rfl, hE, fun o' ho' u hu => hB u ?_⟩
    obtain rfl : o = o' := Option.some.inj (hi'.symm.trans ho')
    cases hd : o.dst with
    | none => exact .inl rfl
    | some d =>
      right
      have h5 := h1.1.1.2
      rw [hd] at h5
      rw [hsl i o hi', hd, Option.getD_some, put_at v (by rw [hb.size]; simpa using h5)] at hu
      simpa [hd] using hu
  · simp [unlisted]
  · intro i hi hl
    simp at hi
    simp [hi] at hl
theorem seen_val {R : World → World → Prop} {J : Act → World → Prop} {o : Oper} {a : Act} {w : World} {B : Value → World → Prop} (v : Value) (w' : World) (hr : (execOp a.eval o).run P w = .ok (.value v) w') (hE : R w w') (hJ : J (a.put o.dst v) w') (hB : ∀ u, (o.dst = none ∨ u = v) → B u w') : o.wp P a w (fun a' w'' => ∃ v, a' = a.put o.dst v ∧ (R w w'' ∧ J a' w'') ∧ ∀ u, (o.dst = none ∨ u = v) → B u w'') Q := by
  unfold Oper.wp
  rw [hr]
  exact ⟨v, rfl, ⟨hE, hJ⟩, hB⟩
end
end Go.Proofs.YtnkebhlkhpgghaaGreatDoor
