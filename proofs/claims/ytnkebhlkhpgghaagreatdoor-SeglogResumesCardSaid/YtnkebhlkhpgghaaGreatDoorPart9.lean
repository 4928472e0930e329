/- Part of a proof: the walks of the functions, and their plain laws: Log14, Log15, Fit, Form, Form2, Form3, Law1, From, Gets. -/
import Derived.Test.YtnkebhlkhpgghaaGreatDoorPart8
set_option linter.unusedVariables false
set_option linter.unusedSimpArgs false

/- seglog: Append, where nothing is refused: the walk. -/
namespace Go.Proofs.YtnkebhlkhpgghaaGreatDoor
open Go Go.RowKit Go.Deep Go.Sort

/-- What the operations of Append's region of the steps leave. -/
def abB (F : Nat → Prop) (g t x : Nat) : Nat → Value → World → Prop
  | 0, u, _ => u = .pointer (some ⟨g, 0, none⟩)
  | 1, u, _ => u = .func (.func 35) #[] #[.pointer (some ⟨t, 0, none⟩), .pointer (some ⟨x, 0, none⟩)]
  | 2, u, _ => u = .func (.func 38) #[] #[.pointer (some ⟨x, 0, none⟩), .pointer (some ⟨t, 0, none⟩)]
  | 3, u, w => ∃ b, u = .slice (some ⟨b, 0, none⟩) 2 2 ∧ Blk w b 73 #[.func (.func 35) #[] #[.pointer (some ⟨t, 0, none⟩), .pointer (some ⟨x, 0, none⟩)], .func (.func 38) #[] #[.pointer (some ⟨x, 0, none⟩), .pointer (some ⟨t, 0, none⟩)]] ∧ ¬ Fg F g b
  | 4, u, _ => u = .int .i64 0
  | 5, u, _ => u = .int .i64 0
  | _, u, _ => u = .int .i64 0
theorem abB_stab (F : Nat → Prop) (g t x : Nat) (i : Nat) (u : Value) (w w' : World) (hB : abB F g t x i u w) (e : Keep (Fg F g) w w') : abB F g t x i u w' := by
  rcases i with _ | _ | _ | _ | _ | _ | i <;> simp only [abB] at hB ⊢ <;> first | exact hB | (obtain ⟨b, h1, h2, h3⟩ := hB; exact ⟨b, h1, h2.keep e h3, h3⟩)
theorem turn_facts {m : Lg} (h : m.Ok) : m.turn.per = m.per ∧ m.turn.segs = m.segs ∧ m.turn.k.size = m.k.size ∧ m.turn.stop = 64 ∧ m.turn.k.pend = [] := by
  have k1 : m.keep.per = m.per ∧ m.keep.segs = m.segs ∧ m.keep.k.size = m.k.size := by unfold Lg.keep; split <;> exact ⟨rfl, rfl, rfl⟩
  have d1 : ∀ m : Lg, m.drop.per = m.per ∧ m.drop.segs = m.segs ∧ m.drop.k.size = m.k.size := by intro m; unfold Lg.drop; split <;> exact ⟨rfl, rfl, rfl⟩
  have e1 : ∀ m : Lg, m.dropOne.per = m.per ∧ m.dropOne.segs = m.segs ∧ m.dropOne.k.size = m.k.size := by intro m; unfold Lg.dropOne; split; exact ⟨rfl, rfl, rfl⟩; exact d1 m
  obtain ⟨a1, a2, a3⟩ := e1 m.keep
  refine ⟨?_, ?_, ?_, rfl, rfl⟩
  · show m.keep.dropOne.per = _; rw [a1, k1.1]
  · show m.keep.dropOne.segs = _; rw [a2, k1.2.1]
  · show (m.keep.dropOne.k.begin _ _ _).size = _; rw [begin_size, a3, k1.2.2]
theorem room_facts {m : Lg} (h : m.Ok) (ht : m.k.pend.length ≤ m.stop) {n : Nat} (hn : n ≤ m.per * m.k.size - 64) : (m.room n).k.pend.length ≤ (m.room n).stop ∧ (m.room n).stop + n ≤ (m.room n).per * (m.room n).k.size := by
  have h1 := h.e1
  have h2 := h.e2
  unfold Lg.room
  split
  · exact ⟨ht, by omega⟩
  · obtain ⟨a1, a2, a3, a4, a5⟩ := turn_facts h
    rw [a1, a3, a4, a5]
    exact ⟨by simp, by omega⟩
set_option maxRecDepth 8000 in
set_option maxHeartbeats 3200000 in
theorem logAppendYes_any {F : Nat → Prop} {g d : Nat} {m : Lg} (v : Value) (l : List Ev) (w : World) (h : Log F w g d m) (hR : Rd w 6 Ev.cells v l) (hl : l.length ≤ 1000000) (hin : ∀ x ∈ l, x.In) (hb : btIs (seqOf l) l = true) (hn : seqOf l = m.next) (hshort : (btText (seqOf l) l m.sum).length ≤ m.per * m.k.size - 64) (hT : Tab w) (hF0 : ¬ F 0) (hg0 : g ≠ 0) (htight : m.k.pend.length ≤ m.stop) (hseg : m.heads.length ≤ m.segs) :
    Calls Tryz.prog 13 #[.pointer (some ⟨g, 0, none⟩), v] w (DidL F w g d (.int .i64 0) (m.put l (btText (seqOf l) l m.sum))) := by
  have HS := Lib.hid (fun w' (e : Ext w w') => shut_any w' (h.ext e))
  have HBY := Lib.hid (fun w' (e : Ext w w') => logBytes_any w' (h.ext e))
  have HL := Lib.hid h
  have HNN := Lib.hid hn
  have HLG := Lib.hid hshort
  have HTB := Lib.hid (And.intro hT (And.intro hF0 hg0))
  have HTI := Lib.hid (And.intro htight hseg)
  clear hn hshort hT hF0 hg0 htight hseg
  obtain ⟨hb', ho, hc, h⟩ := h
  have HH := Lib.hid h
  have hsl := h.ok.sum
  have HLK := Lib.hid (fun w' (e : Ext w w') => (link_any m.sum v l w' (hR.ext e) hl hin hsl).mono (fun e w2 hh => by
    obtain ⟨hE, h1 | h1⟩ := hh
    · exact (show Ext w' w2 ∧ ∃ A c, e = .returned (.tuple #[.agg (btCells (seqOf l) (.slice A l.length c) m.sum).toArray, .string (bs (btText (seqOf l) l m.sum)), .int .i64 0]) from ⟨hE, h1.2⟩)
    · rw [hb] at h1; cases h1.1))
  have HDI := Lib.hid (show (Tryz.prog.info? 40).map (·.size) = some (bcells m.sum).length from by rw [show (bcells m.sum).length = 32 from by simp [bcells, h.ok.sum]]; kernel_rfl)
  have HSU := Lib.hid hsl
  have HBL := Lib.hid (show ∀ f A c, (btCells f (.slice A l.length c) m.sum).length = 34 from fun f A c => btCells_length _ _ hsl)
  obtain ⟨A0, c0, hv, _⟩ := hR
  clear h hin hb hsl
  obtain ⟨w1, hw1⟩ : ∃ w1, w1 = w.alloc (.cells #[.pointer (some ⟨g, 0, none⟩)] 30) := ⟨_, rfl⟩
  have HE1 := Lib.hid (show Ext w w1 from by rw [hw1]; exact (Ext.refl w).alloc _)
  have HBb := Lib.hid (show Blk w1 w.heap.size 30 #[.pointer (some ⟨g, 0, none⟩)] from by rw [hw1]; exact Blk.new _ _ _)
  have cb1 : w1.cell? ⟨w.heap.size, 0, none⟩ = some (.pointer (some ⟨g, 0, none⟩)) := HBb.out.cell 0
  have HSZ := Lib.hid (show (Tryz.prog.info? 83).map (·.size) = some 34 from by kernel_rfl)
  have hal := fun W => alloc_bt W
  subst hv
  have hzb : ((bs (btText (seqOf l) l m.sum)).size : Int) = ((btText (seqOf l) l m.sum).length : Int) := by rw [bs_size]
  generalize hbt : btText (seqOf l) l m.sum = T at *
  generalize hbz : bs T = z at *
  have HBZ := Lib.hid (And.intro hbt hbz)
  clear hbt hbz
  have HSQ := Lib.hid (show seqOf l = seqOf l from rfl)
  generalize hsq : seqOf l = sq at *
  have HSQ2 := Lib.hid hsq
  clear hsq
  go_enter Tryz.func13, Tryz.ntmps13
  go_wp2_with (first | (have hs := cb1; rw [← hw1]; clear hw1) | (go_at_call 32; refine (HS.out _ HE1.out).mono ?_; rintro e w2 ⟨rfl, hE2⟩; have HE2 := Lib.hid (HE1.out.trans hE2); have cb2 := hE2.cell_some cb1; have HBb2 := Lib.hid (HBb.out.ext hE2); clear hE2) | (have hg := HE2; refine wpList_load_mid rfl 40 (.tmp 19) rfl g 75 rfl (bcells m.sum) _ (sum_range (HH.out.ext HE2.out)) Tryz.underlying40 rfl HDI.out ?_) | (go_at_call 33; refine (HLK.out _ HE2.out).mono ?_; rintro e w3 ⟨hE3, A, c, rfl⟩; have HE3 := Lib.hid (HE2.out.trans hE3); have HBb3 := Lib.hid (HBb2.out.ext hE3); clear hE3) | (have hg := HE3; refine wpList_store_blk rfl 83 (.tmp 6) (.tmp 23) rfl w3.heap.size 83 zc34 (btCells sq (.slice A l.length c) m.sum) rfl rfl (show Blk _ _ _ zc34.toArray from (Blk.new _ _ _).alloc _) (HBL.out _ _ _).symm (by rw [HBL.out]; exact HSZ.out) (bt_one _ _ _ rfl) ?_; intro w4 hB4 hK4; have HE4 := Lib.hid ((HE3.out.alloc2 _ _).keep hK4 (fun i hi => by have h1 := HE3.out.size; have h2 : i = w3.heap.size := hi; omega)); have hB7 := Blk.keep (Blk.new' (by simp) : Blk ((w3.alloc (.cells bt0 83)).alloc (.cells #[.string (bs [])] 9)) (w3.heap.size + 1) 9 #[.string (bs [])]) hK4 (by simp [One]); have c7 := hB7.cell 0; have cf7 := hB7.frozen 0; simp at c7 cf7; have HB4 := Lib.hid hB4; have HBb4 := Lib.hid (((HBb3.out.alloc _).alloc _).keep hK4 (by have h1 := HBb3.out.lt; simp [One]; omega)); obtain ⟨w5, hw5⟩ : ∃ w5, w5 = w4.setCell ⟨w3.heap.size + 1, 0, none⟩ (.string z) := ⟨_, rfl⟩; have HT5 := Lib.hid (show Blk w5 (w3.heap.size + 1) 9 #[.string z] from by rw [hw5]; exact hB7.set 0 _); have HB5 := Lib.hid (show Blk w5 w3.heap.size 83 (btCells sq (.slice A l.length c) m.sum).toArray from by rw [hw5]; exact hB4.far (by simp) _); have HBb5 := Lib.hid (show Blk w5 w.heap.size 30 #[.pointer (some ⟨g, 0, none⟩)] from by rw [hw5]; exact HBb4.out.far (by have h1 := HBb3.out.lt; simp; omega) _); have HE5 := Lib.hid (show Ext w w5 from by rw [hw5]; exact HE4.out.setCell (p := ⟨w3.heap.size + 1, 0, none⟩) (show w.heap.size ≤ w3.heap.size + 1 from by have := HE3.out.size; omega) _); have d0 : w5.cell? ⟨w3.heap.size, 0, none⟩ = some (.int .u64 sq) := HB5.out.cell 0; have d7 : w5.cell? ⟨w3.heap.size + 1, 0, none⟩ = some (.string z) := HT5.out.cell 0; have db : w5.cell? ⟨w.heap.size, 0, none⟩ = some (.pointer (some ⟨g, 0, none⟩)) := HBb5.out.cell 0; have d107 := (HH.out.ext HE5.out).c107; clear hB4 hK4 hB7) | (have hg := HT5; rw [← hw5]; clear hw5))
  have hbn : (sq != m.next) = false := by simp [HNN.out]
  go_quiet (fail)
  go_wp2_with fail
  obtain ⟨w6, hw6⟩ : ∃ w6, w6 = w5.drewN nq := ⟨_, rfl⟩
  have HE6 := Lib.hid (show Ext w w6 from by rw [hw6]; exact HE5.out.drewN _)
  have HT6 := Lib.hid (show Blk w6 (w3.heap.size + 1) 9 #[.string z] from by rw [hw6]; exact HT5.out.drewN _)
  have HB6 := Lib.hid (show Blk w6 w3.heap.size 83 (btCells sq (.slice A l.length c) m.sum).toArray from by rw [hw6]; exact HB5.out.drewN _)
  have HBb6 := Lib.hid (show Blk w6 w.heap.size 30 #[.pointer (some ⟨g, 0, none⟩)] from by rw [hw6]; exact HBb5.out.drewN _)
  rw [← hw6]
  clear hw6 hbn d0 d7 db d107 c7 cf7
  have he2 := HH.out.ok.e2
  have hcap := HH.out.ok.cap
  have HQ := Lib.hid (show m.per * m.k.size = m.per * m.k.size from rfl)
  generalize hq : m.per * m.k.size = q at *
  have HQ2 := Lib.hid hq
  clear hq
  have hq64 : IntKind.i64.wrap ((q : Int) - 64) = (q : Int) - 64 := IntWalk.i64_in _ (by omega)
  refine wp_region_free Ext ((Ext.refl _).drew) Ext.trans (by kernel_rfl) (by kernel_rfl) (a9B g z T.length q) (a9B_stab g z T.length q) ?_ ?_
  · intro i o a w' hi hbs he hd
    have e2 : a.eval (.tmp 2) = .pointer (some ⟨w.heap.size, 0, none⟩) := hbs.outer 2 (by kernel_rfl)
    have e7 : a.eval (.tmp 7) = .pointer (some ⟨w3.heap.size + 1, 0, none⟩) := hbs.outer 7 (by kernel_rfl)
    have cT : w'.cell? ⟨w3.heap.size + 1, 0, none⟩ = some (.string z) := he.cell_some (HT6.out.cell 0)
    have cb : w'.cell? ⟨w.heap.size, 0, none⟩ = some (.pointer (some ⟨g, 0, none⟩)) := he.cell_some (HBb6.out.cell 0)
    rcases i with _ | _ | _ | _ | _ | _ | i
    · obtain rfl := Option.some.inj hi
      refine free_val (.string z) w' ?_ (Ext.refl _) rfl (by simp)
      have ec : ∀ v, a.eval (.const v) = v := fun _ => rfl
      generalize a.eval = ρ at *
      simp [go_sem, ec, e7, cT]
    · obtain rfl := Option.some.inj hi
      have h36 : a.eval (.tmp 36) = _ := hd ⟨0, .data⟩ (by simp) rfl
      refine free_val (.int .i64 (T.length : Int)) w' ?_ (Ext.refl _) rfl (by simp)
      have ec : ∀ v, a.eval (.const v) = v := fun _ => rfl
      generalize a.eval = ρ at *
      simp [go_sem, h36, ec, hzb]
    · obtain rfl := Option.some.inj hi
      refine free_val (.pointer (some ⟨g, 0, none⟩)) w' ?_ (Ext.refl _) rfl (by simp)
      have ec : ∀ v, a.eval (.const v) = v := fun _ => rfl
      generalize a.eval = ρ at *
      simp [go_sem, ec, e2, cb]
    · obtain rfl := Option.some.inj hi
      have h38 : a.eval (.tmp 38) = _ := hd ⟨2, .data⟩ (by simp) rfl
      refine free_call 34 #[.pointer (some ⟨g, 0, none⟩)] ?_ ((HBY.out w' (HE6.out.trans he)).mono (fun e w2 h => ⟨_, h.1, h.2, rfl⟩)) (by simp)
      have ec : ∀ v, a.eval (.const v) = v := fun _ => rfl
      have ef : ∀ f, a.eval (.func f) = .func (.func f) #[] #[] := fun _ => rfl
      generalize a.eval = ρ at *
      simp [go_sem, ef, ec, h38]
    · obtain rfl := Option.some.inj hi
      have h39 : a.eval (.tmp 39) = _ := hd ⟨3, .data⟩ (by simp) rfl
      refine free_val (.int .i64 ((q : Int) - 64)) w' ?_ (Ext.refl _) rfl (by simp)
      have ec : ∀ v, a.eval (.const v) = v := fun _ => rfl
      generalize a.eval = ρ at *
      simp [go_sem, h39, ec, hq64]
    · obtain rfl := Option.some.inj hi
      have h37 : a.eval (.tmp 37) = _ := hd ⟨1, .data⟩ (by simp) rfl
      have h40 : a.eval (.tmp 40) = _ := hd ⟨4, .data⟩ (by simp) rfl
      refine free_val (.bool (decide ((q : Int) - 64 < (T.length : Int)))) w' ?_ (Ext.refl _) rfl (by simp)
      have ec : ∀ v, a.eval (.const v) = v := fun _ => rfl
      generalize a.eval = ρ at *
      simp [go_sem, h37, h40, ec]
    · cases hi
  · intro a w7 hbs hE7 hA
    have h41 : a.eval (.tmp 41) = .bool (decide ((q : Int) - 64 < T.length)) := hA 5 (by decide)
    have g2 : a.eval (.tmp 2) = .pointer (some ⟨w.heap.size, 0, none⟩) := hbs.outer 2 (by kernel_rfl)
    have g4 : a.eval (.tmp 4) = .int .i64 0 := hbs.outer 4 (by kernel_rfl)
    have g6 : a.eval (.tmp 6) = .pointer (some ⟨w3.heap.size, 0, none⟩) := hbs.outer 6 (by kernel_rfl)
    have g7 : a.eval (.tmp 7) = .pointer (some ⟨w3.heap.size + 1, 0, none⟩) := hbs.outer 7 (by kernel_rfl)
    rw [act_lit (n := 72) hbs.size, hbs.defers]
    simp only [show List.range 72 = [0, 1, 2, 3, 4, 5, 6, 7, 8, 9, 10, 11, 12, 13, 14, 15, 16, 17, 18, 19, 20, 21, 22, 23, 24, 25, 26, 27, 28, 29, 30, 31, 32, 33, 34, 35, 36, 37, 38, 39, 40, 41, 42, 43, 44, 45, 46, 47, 48, 49, 50, 51, 52, 53, 54, 55, 56, 57, 58, 59, 60, 61, 62, 63, 64, 65, 66, 67, 68, 69, 70, 71] from rfl, List.map_cons, List.map_nil, g2, g4, g6, g7, h41]
    have HE7 := Lib.hid (HE6.out.trans hE7)
    have HT7 := Lib.hid (HT6.out.ext hE7)
    have HB7 := Lib.hid (HB6.out.ext hE7)
    have HBb7 := Lib.hid (HBb6.out.ext hE7)
    clear hA g2 g4 g6 g7 h41 hbs hE7
    generalize a.eval = ρ
    have hd : decide ((q : Int) - 64 < T.length) = false := decide_eq_false (by have := HLG.out; have := HH.out.ok.e1; omega)
    rw [hd]
    clear hd
    go_wp2_with fail
    have hszT : T.length ≤ 1000000 := by have := HLG.out; omega
    have hrf := room_facts HH.out.ok HTI.out.1 (n := T.length) (by rw [HQ2.out]; exact HLG.out)
    have hFg : ∀ i, Fg F g i → i < w.heap.size := fun i hi => by
      rcases hi with h1 | h1
      · exact HH.out.disk.sz i h1
      · have := HH.out.blk.lt; omega
    have HFG := Lib.hid hFg
    have hwt : w.heap.size ≤ w3.heap.size := HE3.out.size
    have HWT := Lib.hid hwt
    obtain ⟨J, hJd⟩ : ∃ J : Bool → World → Prop, J = fun b w' => (b = false → Log F w' g d m ∧ Ext w7 w') ∧ (b = true → ∃ F', Log F' w' g d ((m.room T.length).lay T) ∧ Moves (Fg F g) w7 (Fg F' g) w') := ⟨_, rfl⟩
    have hJK : ∀ b w', J b w' → Keep (Fg F g) w7 w' := by
      intro b w' hJ
      rw [hJd] at hJ
      cases b with
      | false => exact Keep.of_ext (hJ.1 rfl).2
      | true => obtain ⟨F', _, h2⟩ := hJ.2 rfl; exact h2.1
    have HJK := Lib.hid hJK
    have HJE := Lib.hid (fun (b : Bool) (w' w'' : World) (hJ : J b w') (e : Ext w' w'') => (show J b w'' from by
      rw [hJd] at hJ ⊢
      exact ⟨fun hb => ⟨(hJ.1 hb).1.ext e, (hJ.1 hb).2.trans e⟩, fun hb => by obtain ⟨F', h1, h2⟩ := hJ.2 hb; exact ⟨F', h1.ext e, h2.ext e⟩⟩))
    have HNF := Lib.hid (fun (b : Bool) (w' : World) (hJ : J b w') => (show ¬ Fg F g w'.heap.size from fun hh => by
      have h1 := hFg _ hh; have h2 := (hJK b w' hJ).size; have h3 := HE7.out.size; omega))
    have HIO := Lib.hid (fun (b : Nat) (w' : World) (hJ : J false w') (hB : Blk w' b 73 #[.func (.func 35) #[] #[.pointer (some ⟨w3.heap.size + 1, 0, none⟩), .pointer (some ⟨w.heap.size, 0, none⟩)], .func (.func 38) #[] #[.pointer (some ⟨w.heap.size, 0, none⟩), .pointer (some ⟨w3.heap.size + 1, 0, none⟩)]]) (hnb : ¬ Fg F g b) =>
      (show Calls Tryz.prog 21 #[.slice (some ⟨b, 0, none⟩) 2 2] w' fun e w2 => e = .returned (.int .i64 0) ∧ Keep (Fg F g) w' w2 ∧ J true w2 from by
        have hJ2 := hJ
        rw [hJd] at hJ
        obtain ⟨hL7, hE7⟩ := hJ.1 rfl
        have hT' := HT7.out.ext hE7
        rw [← HBZ.out.2] at hT'
        have hB' := HBb7.out.ext hE7
        have nT : ¬ Fg F g (w3.heap.size + 1) := fun hh => by have := hFg _ hh; omega
        have nB : ¬ Fg F g w.heap.size := fun hh => by have := hFg _ hh; omega
        refine (inOrderL_any (F := F) (g := g) (d := d) b 2 [⟨35, #[], #[.pointer (some ⟨w3.heap.size + 1, 0, none⟩), .pointer (some ⟨w.heap.size, 0, none⟩)]⟩, ⟨38, #[], #[.pointer (some ⟨w.heap.size, 0, none⟩), .pointer (some ⟨w3.heap.size + 1, 0, none⟩)]⟩]
          (fun i => match i with | 0 => m | 1 => m.room T.length | _ => (m.room T.length).lay T) w' hB hnb hL7
          (fun i c F' w'' hci hL hM => by
            match i, hci with
            | 0, hci => obtain rfl := Option.some.inj hci; exact append1_any T w'' hL HTI.out.2 hszT (hT'.keep hM.1 nT) (hB'.keep hM.1 nB)
            | 1, hci => obtain rfl := Option.some.inj hci; exact append2_any T w'' hL hrf.1 hrf.2 (hT'.keep hM.1 nT) (hB'.keep hM.1 nB)
            | n + 2, hci => cases hci)
          (fun i c w'' hci => by
            match i, hci with
            | 0, hci => obtain rfl := Option.some.inj hci; rfl
            | 1, hci => obtain rfl := Option.some.inj hci; rfl
            | n + 2, hci => cases hci)
          (by simp) (by simp) (by decide)).mono ?_
        rintro e w2 ⟨rfl, F', hL2, hM2⟩
        refine ⟨rfl, hM2.1, ?_⟩
        rw [hJd]
        exact ⟨fun hb => (by cases hb), fun _ => ⟨F', hL2, hM2.pre hE7⟩⟩))
    have HJD := Lib.hid hJd
    have hJ0 : J false w7.drew := by rw [hJd]; exact ⟨fun _ => ⟨HL.out.ext (HE7.out.drew), (Ext.refl _).drew⟩, fun hb => by cases hb⟩
    have HRF := Lib.hid hrf
    have HSZT := Lib.hid hszT
    clear hszT hrf hFg hwt hJd hJK
    refine wp_region_once (Keep (Fg F g)) 4 (by decide) J hJ0 (by kernel_rfl) (by kernel_rfl) (abB F g (w3.heap.size + 1) w.heap.size) (abB_stab F g (w3.heap.size + 1) w.heap.size) ?_ ?_
    · intro i o a w' hi hbs b hbk hJ hd
      have hk := HJK.out b w' hJ
      have e2 : a.eval (.tmp 2) = .pointer (some ⟨w.heap.size, 0, none⟩) := hbs.outer 2 (by kernel_rfl)
      have e7 : a.eval (.tmp 7) = .pointer (some ⟨w3.heap.size + 1, 0, none⟩) := hbs.outer 7 (by kernel_rfl)
      have e9 : a.eval (.tmp 9) = .func (.func 35) #[] #[.pointer (some ⟨w3.heap.size + 1, 0, none⟩), .pointer (some ⟨w.heap.size, 0, none⟩)] := hbs.outer 9 (by kernel_rfl)
      have cb : w'.cell? ⟨w.heap.size, 0, none⟩ = some (.pointer (some ⟨g, 0, none⟩)) := (HBb7.out.keep hk (fun hh => by have := HFG.out _ hh; omega)).cell 0
      rcases i with _ | _ | _ | _ | _ | _ | _ | i
      · obtain rfl := Option.some.inj hi
        refine once_val (.pointer (some ⟨g, 0, none⟩)) w' ?_ (Keep.refl _ _) hJ rfl rfl (by simp)
        have ec : ∀ v, a.eval (.const v) = v := fun _ => rfl
        generalize a.eval = ρ at *
        simp [go_sem, ec, e2, cb]
      · obtain rfl := Option.some.inj hi
        refine once_val (.func (.func 35) #[] #[.pointer (some ⟨(w3.heap.size + 1), 0, none⟩), .pointer (some ⟨w.heap.size, 0, none⟩)]) w' ?_ (Keep.refl _ _) hJ rfl rfl (by simp)
        have ec : ∀ v, a.eval (.const v) = v := fun _ => rfl
        generalize a.eval = ρ at *
        simp [go_sem, ec, e9]
      · obtain rfl := Option.some.inj hi
        refine once_val (.func (.func 38) #[] #[.pointer (some ⟨w.heap.size, 0, none⟩), .pointer (some ⟨(w3.heap.size + 1), 0, none⟩)]) w' ?_ (Keep.refl _ _) hJ rfl rfl (by simp)
        have ec : ∀ v, a.eval (.const v) = v := fun _ => rfl
        generalize a.eval = ρ at *
        simp [go_sem, ec, e2, e7]
      · obtain rfl := Option.some.inj hi
        have h44 : a.eval (.tmp 44) = _ := hd ⟨1, .data⟩ (by simp) rfl
        have h45 : a.eval (.tmp 45) = _ := hd ⟨2, .data⟩ (by simp) rfl
        refine once_val (.slice (some ⟨w'.heap.size, 0, none⟩) 2 2) (w'.alloc (.cells #[.func (.func 35) #[] #[.pointer (some ⟨(w3.heap.size + 1), 0, none⟩), .pointer (some ⟨w.heap.size, 0, none⟩)], .func (.func 38) #[] #[.pointer (some ⟨w.heap.size, 0, none⟩), .pointer (some ⟨(w3.heap.size + 1), 0, none⟩)]] 73)) ?_ ((Keep.refl _ _).alloc _) (HJE.out b w' _ hJ ((Ext.refl _).alloc _)) rfl ⟨w'.heap.size, rfl, Blk.new _ _ _, HNF.out b w' hJ⟩ (by simp)
        have ec : ∀ v, a.eval (.const v) = v := fun _ => rfl
        generalize a.eval = ρ at *
        simp [go_sem, h44, h45, ec]
      · obtain rfl := Option.some.inj hi
        obtain ⟨g46, h46, b46⟩ := hd ⟨3, .data⟩ (by simp) rfl
        have h46 : a.eval (.tmp 46) = _ := h46
        obtain rfl := hbk rfl
        refine once_call 21 #[.slice (some ⟨g46, 0, none⟩) 2 2] ?_ ((HIO.out g46 w' hJ b46.1 b46.2).mono (fun e w2 hh => by obtain ⟨h1, h2, h3⟩ := hh; exact ⟨_, h1, ⟨h2, h3⟩, rfl⟩)) (by simp)
        have ec : ∀ v, a.eval (.const v) = v := fun _ => rfl
        have ef : ∀ f, a.eval (.func f) = .func (.func f) #[] #[] := fun _ => rfl
        generalize a.eval = ρ at *
        simp [go_sem, ef, ec, h46]
      · obtain rfl := Option.some.inj hi
        have h43 : a.eval (.tmp 43) = _ := hd ⟨0, .data⟩ (by simp) rfl
        have h47 : a.eval (.tmp 47) = _ := hd ⟨4, .data⟩ (by simp) rfl
        refine once_call 37 #[.pointer (some ⟨g, 0, none⟩), .int .i64 0] ?_ ((told_any g w').mono (fun e w2 hh => ⟨_, hh.1, ⟨Keep.of_ext hh.2, by simpa using HJE.out b w' _ hJ hh.2⟩, rfl⟩)) (by simp)
        have ec : ∀ v, a.eval (.const v) = v := fun _ => rfl
        have ef : ∀ f, a.eval (.func f) = .func (.func f) #[] #[] := fun _ => rfl
        generalize a.eval = ρ at *
        simp [go_sem, ef, ec, h43, h47]
      · obtain rfl := Option.some.inj hi
        have h48 : a.eval (.tmp 48) = _ := hd ⟨5, .data⟩ (by simp) rfl
        refine once_val (.int .i64 0) w' ?_ (Keep.refl _ _) hJ rfl rfl (by simp)
        have ec : ∀ v, a.eval (.const v) = v := fun _ => rfl
        generalize a.eval = ρ at *
        simp [go_sem, h48, ec]
      · cases hi
    · intro a w8 hbs hJ hA
      rw [HJD.out] at hJ
      obtain ⟨F', hL8, hM8⟩ := hJ.2 rfl
      have h10 : a.eval (.tmp 10) = .int .i64 0 := hA 6 (by decide)
      have g2 : a.eval (.tmp 2) = .pointer (some ⟨w.heap.size, 0, none⟩) := hbs.outer 2 (by kernel_rfl)
      have g6 : a.eval (.tmp 6) = .pointer (some ⟨w3.heap.size, 0, none⟩) := hbs.outer 6 (by kernel_rfl)
      have g7 : a.eval (.tmp 7) = .pointer (some ⟨w3.heap.size + 1, 0, none⟩) := hbs.outer 7 (by kernel_rfl)
      rw [act_lit (n := 72) hbs.size, hbs.defers]
      simp only [show List.range 72 = [0, 1, 2, 3, 4, 5, 6, 7, 8, 9, 10, 11, 12, 13, 14, 15, 16, 17, 18, 19, 20, 21, 22, 23, 24, 25, 26, 27, 28, 29, 30, 31, 32, 33, 34, 35, 36, 37, 38, 39, 40, 41, 42, 43, 44, 45, 46, 47, 48, 49, 50, 51, 52, 53, 54, 55, 56, 57, 58, 59, 60, 61, 62, 63, 64, 65, 66, 67, 68, 69, 70, 71] from rfl, List.map_cons, List.map_nil, g2, g6, g7, h10]
      have HM8 := Lib.hid (hM8.pre HE7.out)
      have HB8 := Lib.hid (HB7.out.keep hM8.1 (fun hh => by have := HFG.out _ hh; have := HWT.out; omega))
      have HT8 := Lib.hid (HT7.out.keep hM8.1 (fun hh => by have := HFG.out _ hh; have := HWT.out; omega))
      have HBb8 := Lib.hid (HBb7.out.keep hM8.1 (fun hh => by have := HFG.out _ hh; omega))
      have HTB8 := Lib.hid ((HTB.out.1.ext HE7.out).keep hM8.1 (fun hh => by rcases hh with h1 | h1; exact HTB.out.2.1 h1; exact HTB.out.2.2 h1.symm))
      obtain ⟨hb8, ho8, hc8, hL8⟩ := hL8
      have HL8 := Lib.hid hL8
      clear hA g2 g6 g7 h10 hbs hJ hM8 hL8
      generalize a.eval = ρ3
      go_wp2_with fail
      generalize hM2 : (m.room T.length).lay T = m2 at *
      have cb8 : w8.cell? ⟨w.heap.size, 0, none⟩ = some (.pointer (some ⟨g, 0, none⟩)) := HBb8.out.cell 0
      have cT8 : w8.cell? ⟨w3.heap.size + 1, 0, none⟩ = some (.string z) := HT8.out.cell 0
      have ce8 := HL8.out.c74
      have cf8 := HL8.out.blk.frozen 74
      have hok2 := HL8.out.ok
      have hst2 : m2.stop + T.length ≤ m2.per * m2.k.size := by rw [← hM2]; show (m.room T.length).stop + T.length ≤ (m.room T.length).per * ((m.room T.length).k.put _ _ _).size; rw [put_size]; exact HRF.out.2
      have hw15 : IntKind.i64.wrap ((m2.stop : Int) + T.length) = ((m2.stop + T.length : Nat) : Int) := by rw [← Int.natCast_add]; exact IntWalk.i64_in _ (by have := hok2.cap; omega)
      have hge : 64 ≤ m2.stop + T.length := by have := hok2.e1; omega
      generalize hsN : m2.stop + T.length = sN at *
      have HSN := Lib.hid (And.intro hsN hge)
      clear hsN hge
      have HM2 := Lib.hid hM2
      have HST2 := Lib.hid hst2
      clear hM2 hok2 hst2
      have r1 := cell_regrown cb8
      have r2 := cell_regrown cT8
      have r3 := cell_regrown ce8
      refine wp_region_tail (C := fun w' => ∃ p : Regrown, w' = grow (redrawn w8 p.d) p.os) 7 (by kernel_rfl) (by kernel_rfl) (regrown_start w8) ?_
      simp only [List.take_succ_cons, List.take_zero, List.drop_succ_cons, List.drop_zero]
      quiet_step (fail)
      quiet_step (fail)
      quiet_step (fail)
      quiet_step (fail)
      quiet_step (fail)
      quiet_step (fail)
      quiet_step (fail)
      refine wpQuiet_nil ?_
      intro w9 hw9
      have hE9 := regrown_ext hw9
      have HE9 := Lib.hid hE9
      have ce9 := (HL8.out.ext hE9).c74
      have cf9 := (HL8.out.ext hE9).blk.frozen 74
      clear hw9 r1 r2 r3 cb8 cT8 ce8 cf8
      obtain ⟨w10, hw10⟩ : ∃ w10, w10 = w9.setCell ⟨g, 74, none⟩ (.int .i64 ((sN : Nat) : Int)) := ⟨_, rfl⟩
      have hK10 : Keep (One g) w9 w10 := by rw [hw10]; exact (Keep.refl (One g) w9).setIn (g := g) (show One g g from rfl) 74 _
      have hB10 := (HL8.out.ext hE9).blk.set 74 (.int .i64 ((sN : Nat) : Int))
      rw [lg_set74 (Sp.cells_length HL8.out.ok.x), ← hw10] at hB10
      have HL10 := Lib.hid ((HL8.out.ext hE9).var (m' := { m2 with stop := sN }) hK10 hB10 rfl rfl ⟨HL8.out.ok.s1, HL8.out.ok.s2, HL8.out.ok.p1, HL8.out.ok.fit, HL8.out.ok.sz, HL8.out.ok.cap, HL8.out.ok.x, HL8.out.ok.hds, HL8.out.ok.h1, HL8.out.ok.h2, HL8.out.ok.sum, HL8.out.ok.n0, HL8.out.ok.n1, HSN.out.2, HST2.out, HL8.out.ok.pn⟩)
      have HM10 := Lib.hid ((HM8.out.ext hE9).trans (fg_keep hK10))
      have hgx : w.heap.size ≠ g := by have := HFG.out g (.inr rfl); omega
      have hgy : w3.heap.size ≠ g := by have := HFG.out g (.inr rfl); have := HWT.out; omega
      have hgz : w3.heap.size + 1 ≠ g := by have := HFG.out g (.inr rfl); have := HWT.out; omega
      have HBb10 := Lib.hid ((HBb8.out.ext hE9).keep hK10 hgx)
      have HT10 := Lib.hid ((HT8.out.ext hE9).keep hK10 hgz)
      have HB10 := Lib.hid ((HB8.out.ext hE9).keep hK10 hgy)
      have HTB10 := Lib.hid ((HTB8.out.ext hE9).keep hK10 (fun hh => HTB.out.2.2 hh.symm))
      have HGX := Lib.hid (And.intro hgx (And.intro hgy hgz))
      clear hK10 hB10 hE9 hgx hgy hgz
      go_wp2_with (rw [← hw10]; clear hw10 ce9 cf9)
      have r1 := cell_regrown (show w10.cell? ⟨w.heap.size, 0, none⟩ = some (.pointer (some ⟨g, 0, none⟩)) from HBb10.out.cell 0)
      have r2 := cell_regrown (show w10.cell? ⟨w3.heap.size + 1, 0, none⟩ = some (.string z) from HT10.out.cell 0)
      refine wp_region_tail (C := fun w' => ∃ p : Regrown, w' = grow (redrawn w10 p.d) p.os) 3 (by kernel_rfl) (by kernel_rfl) (regrown_start w10) ?_
      simp only [List.take_succ_cons, List.take_zero, List.drop_succ_cons, List.drop_zero]
      quiet_step (fail)
      quiet_step (fail)
      quiet_step ((go_at_call 40; exact Calls.regrown_of (digestOf_any z _ (HTB10.out.ext (regrown_ext ⟨_, rfl⟩)) (by have := HSZT.out; omega))))
      refine wpQuiet_nil ?_
      intro w11 hw11
      have hE11 := regrown_ext hw11
      have HL11 := Lib.hid (HL10.out.ext hE11)
      have HM11 := Lib.hid (HM10.out.ext hE11)
      have HBb11 := Lib.hid (HBb10.out.ext hE11)
      have HB11 := Lib.hid (HB10.out.ext hE11)
      clear hw11 r1 r2 hE11
      have hlz : lb z = T := by rw [← HBZ.out.2]; simp
      have HSHL := Lib.hid (show (bcells (sha T)).length = 32 from by simp [bcells, sha_length])
      have HSUI := Lib.hid (show (Tryz.prog.info? 40).map (·.size) = some (bcells (sha T)).length from by rw [HSHL.out]; kernel_rfl)
      have HLEN := Lib.hid (show (lgA d { m2 with stop := sN } ++ m2.x.cells ++ [Value.slice (some ⟨hb8, ho8, none⟩) m2.heads.length hc8, Value.int .i64 sN]).length = 75 from by simp [lgA, Sp.cells_length HL8.out.ok.x])
      rw [hlz]
      clear hlz
      go_wp2_with (have hg := HL11; refine wpList_store_part rfl 40 (.tmp 65) (.tmp 63) rfl g 77 (lgA d { m2 with stop := sN } ++ m2.x.cells ++ [.slice (some ⟨hb8, ho8, none⟩) m2.heads.length hc8, .int .i64 sN]) (bcells m2.sum) (lgE m2) (bcells (sha T)) (by rw [HLEN.out]; rfl) rfl (by have h9 := HL11.out.blk; simpa [lgCells, lgE, lgA] using h9) (by rw [HSHL.out]; simp [bcells, HL8.out.ok.sum]) HSUI.out (bcells_one _) ?_; intro w12 hB12 hK12; have HB12 := Lib.hid hB12; have HK12 := Lib.hid hK12; clear hB12 hK12)
      have hHB12 := HB12.out
      have HBx12 := Lib.hid (HB11.out.keep HK12.out HGX.out.2.1)
      have HBb12 := Lib.hid (HBb11.out.keep HK12.out HGX.out.1)
      clear hHB12
      have r1 := cell_regrown (show w12.cell? ⟨w.heap.size, 0, none⟩ = some (.pointer (some ⟨g, 0, none⟩)) from HBb12.out.cell 0)
      refine wp_region_tail (C := fun w' => ∃ p : Regrown, w' = grow (redrawn w12 p.d) p.os) 4 (by kernel_rfl) (by kernel_rfl) (regrown_start w12) ?_
      simp only [List.take_succ_cons, List.take_zero, List.drop_succ_cons, List.drop_zero]
      quiet_step (fail)
      refine wq_load_blk rfl 83 (.tmp 6) rfl w3.heap.size 83 (btCells sq (.slice A l.length c) m.sum) rfl (fun w' hw' => HBx12.out.ext (regrown_ext hw')) _ Tryz.underlying83 rfl (by rw [HBL.out]; exact HSZ.out) ?_
      simp only [Act.put, List.setIfInBounds_toArray, List.set_cons_zero, List.set_cons_succ]
      quiet_step ((go_at_call 41; exact Calls.regrown_of (batchLast_any sq _ m.sum l.length A c _ rfl HSU.out)))
      quiet_step (fail)
      refine wpQuiet_nil ?_
      intro w13 hw13
      have hE13 := regrown_ext hw13
      clear hw13 r1
      have HB13 := Lib.hid (HB12.out.ext hE13)
      have HE13 := Lib.hid hE13
      clear hE13
      obtain ⟨nx, hnx⟩ : ∃ nx, nx = IntKind.u64.wrap (IntKind.u64.wrap (IntKind.u64.wrap (sq + IntKind.u64.wrap (l.length : Int)) - 1) + 1) := ⟨_, rfl⟩
      have hMP : m.put l T = { m2 with stop := sN, sum := sha T, next := nx } := by
        rw [hnx, ← HSN.out.1, ← HM2.out, ← HSQ2.out]
        rfl
      generalize hAA : (lgA d { m2 with stop := sN } ++ m2.x.cells ++ [Value.slice (some ⟨hb8, ho8, none⟩) m2.heads.length hc8, Value.int .i64 sN]) = AA at *
      have hl75 : AA.length = 75 := HLEN.out
      have hl107 : (AA ++ bcells (sha T)).length = 107 := by rw [List.length_append, hl75, HSHL.out]
      have c13 : w13.cell? ⟨g, 107, none⟩ = some (.int .u64 m2.next) := by
        rw [HB13.out.cell, List.getElem?_toArray, List.getElem?_append_right (by omega), hl107]
        rfl
      have f13 : w13.frozen? ⟨g, 107, none⟩ = false := HB13.out.frozen 107
      obtain ⟨w14, hw14⟩ : ∃ w14, w14 = w13.setCell ⟨g, 107, none⟩ (.int .u64 nx) := ⟨_, rfl⟩
      have hK14 : Keep (One g) w13 w14 := by rw [hw14]; exact (Keep.refl (One g) w13).setIn (g := g) (show One g g from rfl) 107 _
      have hB14 := HB13.out.set 107 (.int .u64 nx)
      rw [← hw14, List.setIfInBounds_toArray, List.set_append_right _ _ (by omega), hl107] at hB14
      have hK4 : Keep (One g) w11 w14 := (HK12.out.trans (Keep.of_ext HE13.out)).trans hK14
      have HL14 := Lib.hid (HL11.out.var (m' := { m2 with stop := sN, sum := sha T, next := nx }) hK4 (by rw [← hAA] at hB14; simpa [lgCells, lgE, lgA] using hB14) rfl rfl ⟨HL8.out.ok.s1, HL8.out.ok.s2, HL8.out.ok.p1, HL8.out.ok.fit, HL8.out.ok.sz, HL8.out.ok.cap, HL8.out.ok.x, HL8.out.ok.hds, HL8.out.ok.h1, HL8.out.ok.h2, sha_length T, by rw [hnx]; exact (wrap_in _).1, by rw [hnx]; exact (wrap_in _).2, HSN.out.2, HST2.out, HL8.out.ok.pn⟩)
      have HM14 := Lib.hid (HM11.out.trans (fg_keep hK4))
      have HMP := Lib.hid hMP
      have HNX := Lib.hid hnx
      have hwl : IntKind.u64.wrap (l.length : Int) = l.length := IntWalk.u64_in _ (by omega)
      rw [hnx, hwl] at hw14
      clear hwl
      clear hMP hnx hAA hl75 hl107 hK14 hB14 hK4
      go_wp2_with (first | (rw [← hw14]; clear hw14 c13 f13))
      go_ret
      refine ⟨rfl, F', ?_, HM14.out⟩
      rw [HMP.out]
      exact ⟨hb8, ho8, hc8, HL14.out⟩
end Go.Proofs.YtnkebhlkhpgghaaGreatDoor
/- seglog.Append: all cases. -/
namespace Go.Proofs.YtnkebhlkhpgghaaGreatDoor
open Go Go.RowKit Go.Deep Go.Sort

theorem logAppend_any {F : Nat → Prop} {g d : Nat} {m : Lg} (v : Value) (l : List Ev) (w : World) (h : Log F w g d m) (hR : Rd w 6 Ev.cells v l) (hl : l.length ≤ 1000000) (hin : ∀ x ∈ l, x.In) (hT : Tab w) (hF0 : ¬ F 0) (hg0 : g ≠ 0) (htight : m.k.pend.length ≤ m.stop) (hseg : m.heads.length ≤ m.segs) :
    Calls Tryz.prog 13 #[.pointer (some ⟨g, 0, none⟩), v] w (DidL F w g d (.int .i64 (m.append l).1) (m.append l).2) := by
  rcases hb : btIs (seqOf l) l with _ | _
  · have e : m.append l = (1, m) := by unfold Lg.append; rw [if_pos hb]
    rw [e]
    exact logAppendNo_any v l w h hR hl hin hb
  · by_cases hn : seqOf l = m.next
    · by_cases hs : m.per * m.k.size - 64 < (btText (seqOf l) l m.sum).length
      · have e : m.append l = (2, m) := by unfold Lg.append; rw [if_neg (by rw [hb]; decide), if_neg (by simpa using hn), if_pos hs]
        rw [e]
        exact logAppendLong_any v l w h hR hl hin hb hn hs
      · have e : m.append l = (0, m.put l (btText (seqOf l) l m.sum)) := by unfold Lg.append; rw [if_neg (by rw [hb]; decide), if_neg (by simpa using hn), if_neg hs]
        rw [e]
        exact logAppendYes_any v l w h hR hl hin hb hn (by omega) hT hF0 hg0 htight hseg
    · have e : m.append l = (1, m) := by unfold Lg.append; rw [if_neg (by rw [hb]; decide), if_pos hn]
      rw [e]
      exact logAppendSeq_any v l w h hR hl hin hb hn
end Go.Proofs.YtnkebhlkhpgghaaGreatDoor
/- slots.Fit, seglog.Fit: whatever the disk. -/
namespace Go.Proofs.YtnkebhlkhpgghaaGreatDoor
open Go Go.RowKit Go.Deep Go.Sort

theorem slotsFitNil_any (w : World) : Calls Tryz.prog 50 #[.pointer none] w (Ret (.int .i64 5) w) := by
  go_enter Tryz.func50, Tryz.ntmps50
  go_wp2_with fail
  go_ret
  exact ⟨rfl, Ext.refl _⟩
theorem slotsFitNo_any {F : Nat → Prop} {d : Nat} {k : Dk} (w : World) (hD : Disk F w d k) (h : k.many < 2 ∨ k.size < 256) : Calls Tryz.prog 50 #[.pointer (some ⟨d, 0, none⟩)] w (Ret (.int .i64 1) w) := by
  have HS := Lib.hid (size_any w hD)
  by_cases h2 : k.many < 2
  · have d1 : decide ((k.many : Int) < 2) = true := decide_eq_true (by omega)
    clear hD h h2
    go_enter Tryz.func50, Tryz.ntmps50
    go_wp2_with (go_at_call 44; refine HS.out.mono ?_; rintro e w1 ⟨rfl, hE1⟩; have HE1 := Lib.hid hE1; clear hE1)
    go_ret
    exact ⟨rfl, HE1.out⟩
  · have d1 : decide ((k.many : Int) < 2) = false := decide_eq_false (by omega)
    have d2 : decide ((k.size : Int) < 256) = true := decide_eq_true (by omega)
    clear hD h h2
    go_enter Tryz.func50, Tryz.ntmps50
    go_wp2_with (go_at_call 44; refine HS.out.mono ?_; rintro e w1 ⟨rfl, hE1⟩; have HE1 := Lib.hid hE1; clear hE1)
    go_ret
    exact ⟨rfl, HE1.out⟩
/-- A log fits the disk. -/
def fits (k : Dk) (per segs : Int) : Bool := decide (2 ≤ k.many) && decide (256 ≤ k.size) && shOk per segs && decide (2 + per * segs ≤ k.many)
theorem fitNil_any (w : World) (per segs : Int) : Calls Tryz.prog 20 #[.pointer none, .agg #[.int .i64 per, .int .i64 segs]] w (Ret (.int .i64 5) w) := by
  have HF := Lib.hid (fun w' => slotsFitNil_any w')
  go_enter Tryz.func20, Tryz.ntmps20
  go_wp2_with (go_at_call 50; refine (HF.out _).mono ?_; rintro e w1 ⟨rfl, hE1⟩; have HE1 := Lib.hid (((Ext.refl w).alloc _).trans hE1); clear hE1)
  go_ret
  exact ⟨rfl, HE1.out⟩
theorem fitSmall_any {F : Nat → Prop} {d : Nat} {k : Dk} (w : World) (per segs : Int) (hD : Disk F w d k) (h : k.many < 2 ∨ k.size < 256) : Calls Tryz.prog 20 #[.pointer (some ⟨d, 0, none⟩), .agg #[.int .i64 per, .int .i64 segs]] w (Ret (.int .i64 1) w) := by
  have HF := Lib.hid (fun w' (e : Ext w w') => slotsFitNo_any w' (hD.ext e) h)
  clear hD h
  go_enter Tryz.func20, Tryz.ntmps20
  go_wp2_with (go_at_call 50; refine (HF.out _ ((Ext.refl w).alloc _)).mono ?_; rintro e w1 ⟨rfl, hE1⟩; have HE1 := Lib.hid (((Ext.refl w).alloc _).trans hE1); clear hE1)
  go_ret
  exact ⟨rfl, HE1.out⟩
set_option maxRecDepth 8000 in
set_option maxHeartbeats 800000 in
theorem fitShape_any {F : Nat → Prop} {d : Nat} {k : Dk} (w : World) (per segs : Int) (hD : Disk F w d k) (hm : 2 ≤ k.many) (hz : 256 ≤ k.size) :
    Calls Tryz.prog 20 #[.pointer (some ⟨d, 0, none⟩), .agg #[.int .i64 per, .int .i64 segs]] w (Ret (.int .i64 (if fits k per segs then 0 else 1)) w) := by
  have HF := Lib.hid (fun w' (e : Ext w w') => slotsFit_any w' (hD.ext e) hm hz)
  have HS := Lib.hid (fun w' (e : Ext w w') => size_any w' (hD.ext e))
  have HSH := Lib.hid (fun w' => shaped_any per segs w')
  have hmm := hD.ok.m2
  have hfit : fits k per segs = (shOk per segs && decide (2 + per * segs ≤ k.many)) := by simp [fits, hm, hz]
  obtain ⟨w1, hw1⟩ : ∃ w1, w1 = w.alloc (.cells #[.int .i64 per, .int .i64 segs] 23) := ⟨_, rfl⟩
  have HE1 := Lib.hid (show Ext w w1 from by rw [hw1]; exact (Ext.refl w).alloc _)
  have HB1 := Lib.hid (show Blk w1 w.heap.size 23 #[.int .i64 per, .int .i64 segs] from by rw [hw1]; exact Blk.new _ _ _)
  have HI := Lib.hid sh_info
  rw [hfit]
  clear hfit hD hm hz
  rcases hsh : shOk per segs with _ | _
  · rw [hsh] at HSH
    clear hsh
    go_enter Tryz.func20, Tryz.ntmps20
    go_wp2_with (first | (have hs := HB1; rw [← hw1]; clear hw1) | (go_at_call 50; refine (HF.out _ HE1.out).mono ?_; rintro e w2 ⟨rfl, hE2⟩; have HE2 := Lib.hid (HE1.out.trans hE2); have HB2 := Lib.hid (HB1.out.ext hE2); clear hE2) | (go_at_call 44; refine (HS.out _ HE2.out).mono ?_; rintro e w3 ⟨rfl, hE3⟩; have HE3 := Lib.hid (HE2.out.trans hE3); have HB3 := Lib.hid (HB2.out.ext hE3); clear hE3) | (refine wpList_load_blk rfl 23 (.tmp 3) rfl w.heap.size 23 [.int .i64 per, .int .i64 segs] rfl HB3.out _ Tryz.underlying23 rfl HI.out ?_) | (go_at_call 51; refine (HSH.out _).mono ?_; rintro e w4 ⟨rfl, hE4⟩; have HE4 := Lib.hid (HE3.out.trans hE4); clear hE4))
    go_ret
    exact ⟨by simp, HE4.out⟩
  · have hb := hsh
    simp only [shOk, Bool.and_eq_true, decide_eq_true_eq] at hb
    obtain ⟨⟨⟨b1, b2⟩, b3⟩, b4⟩ := hb
    have hmul : 0 ≤ per * segs ∧ per * segs ≤ 262144 := by
      obtain ⟨a, rfl⟩ : ∃ a : Nat, per = a := ⟨per.toNat, by omega⟩
      obtain ⟨b, rfl⟩ : ∃ b : Nat, segs = b := ⟨segs.toNat, by omega⟩
      have : a * b ≤ 4096 * 64 := Nat.mul_le_mul (by omega) (by omega)
      rw [← Int.natCast_mul]
      omega
    obtain ⟨q, hq0⟩ : ∃ q, q = per * segs := ⟨_, rfl⟩
    rw [← hq0] at hmul ⊢
    have hw : IntKind.i64.wrap (per * segs) = q := by rw [← hq0]; exact IntWalk.i64_in _ (by omega)
    rw [hsh] at HSH
    clear hsh b1 b2 b3 b4 hq0
    have hw2 : IntKind.i64.wrap (2 + q) = 2 + q := IntWalk.i64_in _ (by omega)
    by_cases hq : 2 + q ≤ k.many
    · have hd : decide (2 + q ≤ (k.many : Int)) = true := decide_eq_true hq
      have hd2 : ¬ (k.many : Int) < 2 + q := by omega
      rw [hd]
      clear hd hq hmul hmm
      go_enter Tryz.func20, Tryz.ntmps20
      go_wp2_with (first | (have hs := HB1; rw [← hw1]; clear hw1) | (go_at_call 50; refine (HF.out _ HE1.out).mono ?_; rintro e w2 ⟨rfl, hE2⟩; have HE2 := Lib.hid (HE1.out.trans hE2); have HB2 := Lib.hid (HB1.out.ext hE2); clear hE2) | (go_at_call 44; refine (HS.out _ HE2.out).mono ?_; rintro e w3 ⟨rfl, hE3⟩; have HE3 := Lib.hid (HE2.out.trans hE3); have HB3 := Lib.hid (HB2.out.ext hE3); clear hE3) | (refine wpList_load_blk rfl 23 (.tmp 3) rfl w.heap.size 23 [.int .i64 per, .int .i64 segs] rfl HB3.out _ Tryz.underlying23 rfl HI.out ?_) | (go_at_call 51; refine (HSH.out _).mono ?_; rintro e w4 ⟨rfl, hE4⟩; have HE4 := Lib.hid (HE3.out.trans hE4); have c0 := (HB3.out.ext hE4).cell 0; have c1 := (HB3.out.ext hE4).cell 1; simp at c0 c1; clear hE4))
      go_ret
      exact ⟨rfl, HE4.out⟩
    · have hd : decide (2 + q ≤ (k.many : Int)) = false := decide_eq_false hq
      have hd2 : (k.many : Int) < 2 + q := by omega
      rw [hd]
      clear hd hq hmul hmm
      go_enter Tryz.func20, Tryz.ntmps20
      go_wp2_with (first | (have hs := HB1; rw [← hw1]; clear hw1) | (go_at_call 50; refine (HF.out _ HE1.out).mono ?_; rintro e w2 ⟨rfl, hE2⟩; have HE2 := Lib.hid (HE1.out.trans hE2); have HB2 := Lib.hid (HB1.out.ext hE2); clear hE2) | (go_at_call 44; refine (HS.out _ HE2.out).mono ?_; rintro e w3 ⟨rfl, hE3⟩; have HE3 := Lib.hid (HE2.out.trans hE3); have HB3 := Lib.hid (HB2.out.ext hE3); clear hE3) | (refine wpList_load_blk rfl 23 (.tmp 3) rfl w.heap.size 23 [.int .i64 per, .int .i64 segs] rfl HB3.out _ Tryz.underlying23 rfl HI.out ?_) | (go_at_call 51; refine (HSH.out _).mono ?_; rintro e w4 ⟨rfl, hE4⟩; have HE4 := Lib.hid (HE3.out.trans hE4); have c0 := (HB3.out.ext hE4).cell 0; have c1 := (HB3.out.ext hE4).cell 1; simp at c0 c1; clear hE4))
      go_ret
      exact ⟨rfl, HE4.out⟩
end Go.Proofs.YtnkebhlkhpgghaaGreatDoor
/- seglog.Format's steps: the walks. -/
namespace Go.Proofs.YtnkebhlkhpgghaaGreatDoor
open Go Go.RowKit Go.Deep Go.Sort

theorem format1_any {F : Nat → Prop} {d b : Nat} {k : Dk} (w : World) (hD : Disk F w d k) (hm : 2 ≤ k.many) (hz : 256 ≤ k.size) (hp : k.pend.length ≤ 100000) (hB : Blk w b 26 #[.pointer (some ⟨d, 0, none⟩)]) :
    Calls Tryz.prog 22 #[.pointer (some ⟨b, 0, none⟩)] w (Did F w d (.int .i64 0) k.clear) := by
  have HC := Lib.hid (clear_any w hD hm hz hp)
  have c : w.cell? ⟨b, 0, none⟩ = some (.pointer (some ⟨d, 0, none⟩)) := hB.cell 0
  clear hD hm hz hp hB
  go_enter Tryz.func22, Tryz.ntmps22
  go_wp2_with (go_at_call 23; refine HC.out.mono ?_; rintro e w1 ⟨rfl, F', hL, hM⟩; have HL := Lib.hid (And.intro hL hM); clear hL hM)
  go_ret
  exact ⟨rfl, F', HL.out⟩
theorem format2_any {F : Nat → Prop} {d b s h : Nat} {k : Dk} (per segs : Nat) (x : Hd) (w : World) (hD : Disk F w d k) (s1 : 2 ≤ segs) (s2 : segs ≤ 64) (p1 : 1 ≤ per) (hf : 2 + per * segs ≤ k.many) (hi : x.In) (hp : k.pend.length + per * k.size ≤ 1000000)
    (hB : Blk w b 26 #[.pointer (some ⟨d, 0, none⟩)]) (hS : Blk w s 23 #[.int .i64 per, .int .i64 segs]) (hH : Blk w h 70 x.cells.toArray) :
    Calls Tryz.prog 24 #[.pointer (some ⟨b, 0, none⟩), .pointer (some ⟨s, 0, none⟩), .pointer (some ⟨h, 0, none⟩)] w (Did F w d (.int .i64 0) (k.begin (placeOf per segs x.id) per x)) := by
  have HC := Lib.hid (logBegin_any per segs x w hD s1 s2 p1 hf hi hp)
  have c : w.cell? ⟨b, 0, none⟩ = some (.pointer (some ⟨d, 0, none⟩)) := hB.cell 0
  have HS := Lib.hid hS
  have HH := Lib.hid hH
  have HHI := Lib.hid (hd_info hi)
  have HSI := Lib.hid sh_info
  clear hD s1 s2 p1 hf hi hp hB hS hH
  go_enter Tryz.func24, Tryz.ntmps24
  go_wp2_with (first | (go_at_call 25; refine HC.out.mono ?_; rintro e w1 ⟨rfl, F', hL, hM⟩; have HL := Lib.hid (And.intro hL hM); clear hL hM) | (refine wpList_load_blk rfl 23 (.tmp 1) rfl s 23 [.int .i64 per, .int .i64 segs] rfl HS.out _ Tryz.underlying23 rfl HSI.out ?_) | (refine wpList_load_blk rfl 70 (.tmp 2) rfl h 70 x.cells rfl HH.out _ Tryz.underlying70 rfl HHI.out ?_))
  go_ret
  exact ⟨rfl, F', HL.out⟩
theorem format3_any {F : Nat → Prop} {d b s : Nat} {k : Dk} (x : Sp) (w : World) (hD : Disk F w d k) (hm : 2 ≤ k.many) (hz : 256 ≤ k.size) (hp : k.pend.length ≤ 100000) (hx : x.In) (hB : Blk w b 26 #[.pointer (some ⟨d, 0, none⟩)]) (hS : Blk w s 42 x.cells.toArray) :
    Calls Tryz.prog 26 #[.pointer (some ⟨b, 0, none⟩), .pointer (some ⟨s, 0, none⟩)] w (Did F w d (.int .i64 0) (k.super x)) := by
  have HC := Lib.hid (slotsWrite_any x w hD hm hz hp hx)
  have c : w.cell? ⟨b, 0, none⟩ = some (.pointer (some ⟨d, 0, none⟩)) := hB.cell 0
  have HS := Lib.hid hS
  have HXI := Lib.hid (sp_infoOf hx)
  have hk : (k.write (x.epoch % 2).toNat (padTo x.text k.size)).flush = k.super x := rfl
  rw [hk] at HC
  clear hD hm hz hp hx hB hS hk
  go_enter Tryz.func26, Tryz.ntmps26
  go_wp2_with (first | (go_at_call 27; refine HC.out.mono ?_; rintro e w1 ⟨rfl, F', hL, hM⟩; have HL := Lib.hid (And.intro hL hM); clear hL hM) | (refine wpList_load_blk rfl 42 (.tmp 1) rfl s 42 x.cells rfl HS.out _ Tryz.underlying42 rfl HXI.out ?_))
  go_ret
  exact ⟨rfl, F', HL.out⟩

set_option maxRecDepth 8000 in
set_option maxHeartbeats 800000 in
theorem formatNo_any (p : Option Addr) (per segs e : Int) (he : e ≠ 0) (w : World) (hF : ∀ w', Ext w w' → Calls Tryz.prog 20 #[.pointer p, .agg #[.int .i64 per, .int .i64 segs]] w' (Ret (.int .i64 e) w')) :
    Calls Tryz.prog 7 #[.pointer p, .agg #[.int .i64 per, .int .i64 segs]] w (Ret (.tuple #[.pointer none, .int .i64 e]) w) := by
  have HF := Lib.hid hF
  have HI := Lib.hid sh_info
  have hb : (e != 0) = true := by simpa using he
  obtain ⟨w1, hw1⟩ : ∃ w1, w1 = (w.alloc (.cells #[.pointer p] 26)).alloc (.cells #[.int .i64 per, .int .i64 segs] 23) := ⟨_, rfl⟩
  have HE1 := Lib.hid (show Ext w w1 from by rw [hw1]; exact ((Ext.refl w).alloc _).alloc _)
  have HB1 := Lib.hid (show Blk w1 w.heap.size 26 #[.pointer p] from by rw [hw1]; exact (Blk.new _ _ _).alloc _)
  have HS1 := Lib.hid (show Blk w1 (w.heap.size + 1) 23 #[.int .i64 per, .int .i64 segs] from by rw [hw1]; exact Blk.new' (by simp))
  have cb : w1.cell? ⟨w.heap.size, 0, none⟩ = some (.pointer p) := HB1.out.cell 0
  clear hF he
  go_enter Tryz.func7, Tryz.ntmps7
  go_wp2_with (first | (have hs := cb; rw [← hw1]; clear hw1) | (refine wpList_load_blk rfl 23 (.tmp 3) rfl (w.heap.size + 1) 23 [.int .i64 per, .int .i64 segs] rfl HS1.out _ Tryz.underlying23 rfl HI.out ?_) | (go_at_call 20; refine (HF.out _ HE1.out).mono ?_; rintro e w2 ⟨rfl, hE2⟩; have HE2 := Lib.hid (HE1.out.trans hE2); clear hE2))
  go_ret2
  exact ⟨rfl, HE2.out⟩
end Go.Proofs.YtnkebhlkhpgghaaGreatDoor
/- seglog.Format, where it goes well: the walk. -/
namespace Go.Proofs.YtnkebhlkhpgghaaGreatDoor
open Go Go.RowKit Go.Deep Go.Sort

def z32 : Bytes := List.replicate 32 0
def x0 : Sp := ⟨1, 0, 0, z32, 0, 64, 0, z32⟩
def h0 : Hd := ⟨0, 0, z32⟩
theorem x0_in : x0.In := ⟨by decide, rfl, rfl⟩
theorem h0_in : h0.In := ⟨by decide, by decide, by decide, by decide, rfl⟩
def Lg.new (k : Dk) (per segs : Nat) : Lg := ⟨(k.clear.begin (placeOf per segs 0) per h0).super x0, per, segs, x0, [h0], 64, z32, 0⟩
theorem build_x0 (w : World) : (Instr.build 42 #[(0, .int .u64 1), (5, .int .u64 64)]).run Tryz.prog w = .ok (.agg x0.cells.toArray) w := by kernel_rfl
theorem build_h0 (w : World) : (Instr.build 70 #[]).run Tryz.prog w = .ok (.agg h0.cells.toArray) w := by kernel_rfl
theorem Lg.Ok.new {k : Dk} {per segs : Nat} (h : k.Ok) (s1 : 2 ≤ segs) (s2 : segs ≤ 64) (p1 : 1 ≤ per) (hf : 2 + per * segs ≤ k.many) (hz : 256 ≤ k.size) (hc : per * k.size ≤ 90000) : (Lg.new k per segs).Ok := by
  have e1 : (Lg.new k per segs).k.many = k.many := by simp [Lg.new, Dk.clear]
  have e2 : (Lg.new k per segs).k.size = k.size := by simp [Lg.new, Dk.clear]
  have h64 : 64 ≤ per * k.size := Nat.le_trans (by omega : 64 ≤ 1 * k.size) (Nat.mul_le_mul_right _ p1)
  refine ⟨s1, s2, p1, by rw [e1]; exact hf, by rw [e2]; exact hz, by rw [e2]; exact hc, x0_in, ?_, by simp [Lg.new], by simp [Lg.new], rfl, by simp [Lg.new], by simp [Lg.new], by simp [Lg.new], by rw [e2]; exact h64, by simp [Lg.new]⟩
  intro x hx
  have : x = h0 := by simpa [Lg.new] using hx
  subst this
  exact h0_in
set_option maxRecDepth 8000 in
theorem formatSteps_any {F : Nat → Prop} {d b s hh xx sb : Nat} {k : Dk} (per segs : Nat) (w : World) (hD : Disk F w d k) (s1 : 2 ≤ segs) (s2 : segs ≤ 64) (p1 : 1 ≤ per) (hf : 2 + per * segs ≤ k.many) (hz : 256 ≤ k.size) (hc : per * k.size ≤ 90000) (hp : k.pend.length ≤ 90000)
    (hB : Blk w b 26 #[.pointer (some ⟨d, 0, none⟩)]) (hS : Blk w s 23 #[.int .i64 per, .int .i64 segs]) (hH : Blk w hh 70 h0.cells.toArray) (hX : Blk w xx 42 x0.cells.toArray) (nB : ¬ F b) (nS : ¬ F s) (nH : ¬ F hh) (nX : ¬ F xx) (nb : ¬ F sb)
    (hsb : Blk w sb 73 #[.func (.func 22) #[] #[.pointer (some ⟨b, 0, none⟩)], .func (.func 24) #[] #[.pointer (some ⟨b, 0, none⟩), .pointer (some ⟨s, 0, none⟩), .pointer (some ⟨hh, 0, none⟩)], .func (.func 26) #[] #[.pointer (some ⟨b, 0, none⟩), .pointer (some ⟨xx, 0, none⟩)]]) :
    Calls Tryz.prog 21 #[.slice (some ⟨sb, 0, none⟩) 3 3] w (Did F w d (.int .i64 0) (Lg.new k per segs).k) := by
  have hm2 : 2 ≤ k.many := by omega
  have e1 : k.clear.many = k.many := by simp [Dk.clear]
  have e2 : k.clear.size = k.size := by simp [Dk.clear]
  have e3 : k.clear.pend = [] := rfl
  let cs : List Clo := [⟨22, #[], #[.pointer (some ⟨b, 0, none⟩)]⟩, ⟨24, #[], #[.pointer (some ⟨b, 0, none⟩), .pointer (some ⟨s, 0, none⟩), .pointer (some ⟨hh, 0, none⟩)]⟩, ⟨26, #[], #[.pointer (some ⟨b, 0, none⟩), .pointer (some ⟨xx, 0, none⟩)]⟩]
  let ks : Nat → Dk := fun i => match i with | 0 => k | 1 => k.clear | 2 => k.clear.begin (placeOf per segs 0) per h0 | _ => (Lg.new k per segs).k
  refine (inOrder_any sb 0 3 cs (fun i w' => ∃ F', Disk F' w' d (ks i) ∧ Moves F w F' w') w ?_ ?_ ?_ ⟨F, hD, Moves.refl _ _⟩ (by simp [cs]) (by simp [cs]) (by decide)).mono ?_
  · rintro i w' ⟨F', _, hM⟩ j c hj
    have h1 := (hsb.keep hM.1 nb).cell j
    rw [Nat.zero_add, h1]
    match j, hj with
    | 0, hj => obtain rfl := Option.some.inj hj; rfl
    | 1, hj => obtain rfl := Option.some.inj hj; rfl
    | 2, hj => obtain rfl := Option.some.inj hj; rfl
    | n + 3, hj => cases hj
  · rintro i w' c ⟨F', hD', hM⟩ hc'
    match i, hc' with
    | 0, hc' =>
      obtain rfl := Option.some.inj hc'
      refine (format1_any w' hD' hm2 hz (by show k.pend.length ≤ 100000; omega) (hB.keep hM.1 nB)).mono ?_
      rintro e w2 ⟨rfl, F'', h1, h2⟩
      exact ⟨rfl, F'', h1, hM.trans h2⟩
    | 1, hc' =>
      obtain rfl := Option.some.inj hc'
      refine (format2_any per segs h0 w' hD' s1 s2 p1 (by show _ ≤ k.clear.many; rw [e1]; exact hf) h0_in (by show k.clear.pend.length + per * k.clear.size ≤ 1000000; rw [e2, e3]; simp; omega) (hB.keep hM.1 nB) (hS.keep hM.1 nS) (hH.keep hM.1 nH)).mono ?_
      rintro e w2 ⟨rfl, F'', h1, h2⟩
      exact ⟨rfl, F'', h1, hM.trans h2⟩
    | 2, hc' =>
      obtain rfl := Option.some.inj hc'
      refine (format3_any x0 w' hD' (by show 2 ≤ (k.clear.begin _ _ _).many; rw [begin_many, e1]; exact hm2) (by show 256 ≤ (k.clear.begin _ _ _).size; rw [begin_size, e2]; exact hz) (by show (k.clear.begin _ _ _).pend.length ≤ 100000; simp) x0_in (hB.keep hM.1 nB) (hX.keep hM.1 nX)).mono ?_
      rintro e w2 ⟨rfl, F'', h1, h2⟩
      exact ⟨rfl, F'', h1, hM.trans h2⟩
    | n + 3, hc' => cases hc'
  · intro i c w' hc'
    match i, hc' with
    | 0, hc' => obtain rfl := Option.some.inj hc'; rfl
    | 1, hc' => obtain rfl := Option.some.inj hc'; rfl
    | 2, hc' => obtain rfl := Option.some.inj hc'; rfl
    | n + 3, hc' => cases hc'
  · rintro e w' ⟨rfl, F', h1, h2⟩
    exact ⟨rfl, F', h1, h2⟩
end Go.Proofs.YtnkebhlkhpgghaaGreatDoor
/- seglog.Format, where it goes well: the walk. -/
namespace Go.Proofs.YtnkebhlkhpgghaaGreatDoor
open Go Go.RowKit Go.Deep Go.Sort

theorem build_lg (k : Dk) (d gg per segs : Nat) (w : World) : (Instr.build 77 #[(0, .pointer (some ⟨d, 0, none⟩)), (1, .agg #[.int .i64 per, .int .i64 segs]), (2, .agg x0.cells.toArray), (3, .slice (some ⟨gg, 0, none⟩) 1 1), (4, .int .i64 64)]).run Tryz.prog w = .ok (.agg (lgCells d (.slice (some ⟨gg, 0, none⟩) 1 1) (Lg.new k per segs)).toArray) w := by kernel_rfl
set_option maxRecDepth 8000 in
set_option maxHeartbeats 3200000 in
theorem formatYes_any {F : Nat → Prop} {d : Nat} {k : Dk} (per segs : Nat) (w : World) (hD : Disk F w d k) (s1 : 2 ≤ segs) (s2 : segs ≤ 64) (p1 : 1 ≤ per) (hf : 2 + per * segs ≤ k.many) (hz : 256 ≤ k.size) (hc : per * k.size ≤ 90000) (hp : k.pend.length ≤ 90000) :
    Calls Tryz.prog 7 #[.pointer (some ⟨d, 0, none⟩), .agg #[.int .i64 per, .int .i64 segs]] w fun e w' => ∃ F' g, e = .returned (.tuple #[.pointer (some ⟨g, 0, none⟩), .int .i64 0]) ∧ Log F' w' g d (Lg.new k per segs) ∧ Moves F w F' w' ∧ w.heap.size ≤ g := by
  have hfit : fits k per segs = true := by
    have : per ≤ 4096 := by have := hD.ok.m2; have := Nat.mul_le_mul_left per s1; omega
    simp [fits, shOk]
    refine ⟨⟨⟨by omega, hz⟩, by omega⟩, ?_⟩
    rw [← Int.natCast_mul]
    omega
  have HF := Lib.hid (fun w' (e : Ext w w') => fitShape_any w' per segs (hD.ext e) (by omega) hz)
  rw [hfit] at HF
  have HI := Lib.hid sh_info
  have HX0I := Lib.hid (sp_infoOf x0_in)
  have HH0I := Lib.hid (hd_info h0_in)
  obtain ⟨w1, hw1⟩ : ∃ w1, w1 = (w.alloc (.cells #[.pointer (some ⟨d, 0, none⟩)] 26)).alloc (.cells #[.int .i64 per, .int .i64 segs] 23) := ⟨_, rfl⟩
  have HE1 := Lib.hid (show Ext w w1 from by rw [hw1]; exact ((Ext.refl w).alloc _).alloc _)
  have HB1 := Lib.hid (show Blk w1 w.heap.size 26 #[.pointer (some ⟨d, 0, none⟩)] from by rw [hw1]; exact (Blk.new _ _ _).alloc _)
  have HS1 := Lib.hid (show Blk w1 (w.heap.size + 1) 23 #[.int .i64 per, .int .i64 segs] from by rw [hw1]; exact Blk.new' (by simp))
  have cb : w1.cell? ⟨w.heap.size, 0, none⟩ = some (.pointer (some ⟨d, 0, none⟩)) := HB1.out.cell 0
  have HD := Lib.hid (And.intro hD (And.intro s1 (And.intro s2 (And.intro p1 (And.intro hf (And.intro hz (And.intro hc hp)))))))
  have HNF := Lib.hid (fun i (hi : w.heap.size ≤ i) => (show ¬ F i from fun hh => by have := hD.sz i hh; omega))
  clear hfit hD s1 s2 p1 hf hz hc hp
  have hb0 : ∀ w, (Instr.build 42 #[(0, .int .u64 1), (5, .int .u64 64)]).run Tryz.prog w = .ok (.agg x0.cells.toArray) w := build_x0
  go_enter Tryz.func7, Tryz.ntmps7
  go_wp2_with (first | (have hs := cb; rw [← hw1]; clear hw1) | (refine wpList_load_blk rfl 23 (.tmp 3) rfl (w.heap.size + 1) 23 [.int .i64 per, .int .i64 segs] rfl HS1.out _ Tryz.underlying23 rfl HI.out ?_) | (go_at_call 20; refine (HF.out _ HE1.out).mono ?_; rintro e w2 ⟨rfl, hE2⟩; have HE2 := Lib.hid (HE1.out.trans hE2); have HB2 := Lib.hid (HB1.out.ext hE2); have HS2 := Lib.hid (HS1.out.ext hE2); clear hE2) | (have hg := HE2; refine Great.wpList_readTo rfl (some 16) rfl (.agg x0.cells.toArray) (by kernel_rfl) ?_) | (have hg := HE2; refine wpList_store_blk rfl 42 (.tmp 7) (.tmp 16) rfl w2.heap.size 42 zs70 x0.cells rfl rfl (by rw [← zc_sp]; exact Blk.new _ _ _) rfl HX0I.out (Sp.cells_one _) ?_; intro w3 hB3 hK3; have hE3 := ((Ext.refl w2).alloc _).keep hK3 (fun i hi => by cases hi; exact Nat.le_refl _); have HE3 := Lib.hid (HE2.out.trans hE3); have HX3 := Lib.hid hB3; have HB3 := Lib.hid (HB2.out.ext hE3); have HS3 := Lib.hid (HS2.out.ext hE3); have HSZ3 := Lib.hid hE3.size; clear hB3 hK3 hE3) | (have hg := HE3; refine Great.wpList_readTo rfl (some 17) rfl (.agg h0.cells.toArray) (by kernel_rfl) ?_) | (have hg := HE3; refine wpList_store_blk rfl 70 (.tmp 8) (.tmp 17) rfl w3.heap.size 70 zs34 h0.cells rfl rfl (show Blk _ _ _ zs34.toArray from Blk.new _ _ _) rfl HH0I.out (hd_one _) ?_; intro w4 hB4 hK4; have hE4 := ((Ext.refl w3).alloc _).keep hK4 (fun i hi => by cases hi; exact Nat.le_refl _); have HE4 := Lib.hid (HE3.out.trans hE4); have HH4 := Lib.hid hB4; have HX4 := Lib.hid (HX3.out.ext hE4); have HB4 := Lib.hid (HB3.out.ext hE4); have HS4 := Lib.hid (HS3.out.ext hE4); have HSZ4 := Lib.hid hE4.size; clear hB4 hK4 hE4) | (go_at_call 21; refine (formatSteps_any (F := F) (d := d) (k := k) (b := w.heap.size) (s := w.heap.size + 1) (hh := w3.heap.size) (xx := w2.heap.size) (sb := w4.heap.size) per segs _ (HD.out.1.ext (HE4.out.alloc _)) HD.out.2.1 HD.out.2.2.1 HD.out.2.2.2.1 HD.out.2.2.2.2.1 HD.out.2.2.2.2.2.1 HD.out.2.2.2.2.2.2.1 HD.out.2.2.2.2.2.2.2 (HB4.out.alloc _) (HS4.out.alloc _) (HH4.out.alloc _) (HX4.out.alloc _) (HNF.out _ (Nat.le_refl _)) (HNF.out _ (Nat.le_succ _)) (HNF.out _ HE3.out.size) (HNF.out _ HE2.out.size) (HNF.out _ HE4.out.size) (Blk.new _ _ _)).mono ?_; rintro e w5 ⟨rfl, F', hD5, hM5⟩; have HB5 := Lib.hid ((HB4.out.alloc _).keep hM5.1 (HNF.out _ (Nat.le_refl _))); have HS5 := Lib.hid ((HS4.out.alloc _).keep hM5.1 (HNF.out _ (Nat.le_succ _))); have HH5 := Lib.hid ((HH4.out.alloc _).keep hM5.1 (HNF.out _ HE3.out.size)); have HX5 := Lib.hid ((HX4.out.alloc _).keep hM5.1 (HNF.out _ HE2.out.size)); have HM5 := Lib.hid (And.intro hD5 (hM5.pre (HE4.out.alloc _))); have cb5 : w5.cell? ⟨w.heap.size, 0, none⟩ = some (.pointer (some ⟨d, 0, none⟩)) := HB5.out.cell 0; clear hD5 hM5) | (have hg := HM5; refine wpList_load_blk rfl 23 (.tmp 3) rfl (w.heap.size + 1) 23 [.int .i64 per, .int .i64 segs] rfl HS5.out _ Tryz.underlying23 rfl HI.out ?_; refine wpList_load_blk rfl 42 (.tmp 7) rfl w2.heap.size 42 x0.cells rfl HX5.out _ Tryz.underlying42 rfl HX0I.out ?_; refine wpList_load_blk rfl 70 (.tmp 8) rfl w3.heap.size 70 h0.cells rfl HH5.out _ Tryz.underlying70 rfl HH0I.out ?_; go_loud (refine Great.wpList_runTo rfl (some 30) rfl (.slice (some ⟨w5.heap.size, 0, none⟩) 1 1) (w5.alloc (.cells h0.cells.toArray 70)) (by have h9 := slice_hd h0 w5 rfl; unfold execOp; simp only [List.map_toArray, List.map_cons, List.map_nil, Sem.run_bind]; erw [h9]; rfl) ?_); go_loud (refine Great.wpList_readTo rfl (some 31) rfl (.agg (lgCells d (.slice (some ⟨w5.heap.size, 0, none⟩) 1 1) (Lg.new k per segs)).toArray) (by have h9 := build_lg k d w5.heap.size per segs (w5.alloc (.cells h0.cells.toArray 70)); unfold execOp; simp only [List.map_toArray, List.map_cons, List.map_nil, Sem.run_bind]; erw [h9]; rfl) ?_)))
  go_ret2
  have hk := HD.out.1.ok
  have hE : Ext w5 ((w5.alloc (.cells h0.cells.toArray 70)).alloc (.cells (lgCells d (.slice (some ⟨w5.heap.size, 0, none⟩) 1 1) (Lg.new k per segs)).toArray 77)) := ((Ext.refl w5).alloc _).alloc _
  have hsz := HM5.out.1.sz
  have hw5 := HM5.out.2.size
  refine ⟨F', w5.heap.size + 1, by simp, ⟨w5.heap.size, 0, 1, Lg.Ok.new hk HD.out.2.1 HD.out.2.2.1 HD.out.2.2.2.1 HD.out.2.2.2.2.1 HD.out.2.2.2.2.2.1 HD.out.2.2.2.2.2.2.1, Blk.new' (by simp), HM5.out.1.ext hE, ?_, by simp [Lg.new], by decide, fun hh => by have := hsz _ hh; omega, fun hh => by have := hsz _ hh; omega, by omega⟩, HM5.out.2.ext hE, by omega⟩
  intro i x hx j u hu
  have hB : Blk ((w5.alloc (.cells h0.cells.toArray 70)).alloc (.cells (lgCells d (.slice (some ⟨w5.heap.size, 0, none⟩) 1 1) (Lg.new k per segs)).toArray 77)) w5.heap.size 70 h0.cells.toArray := (Blk.new _ _ _).alloc _
  match i, hx with
  | 0, hx =>
    obtain rfl := Option.some.inj hx
    have := hB.cell j
    simpa using this.trans (by simpa using hu)
  | n + 1, hx => cases hx
end Go.Proofs.YtnkebhlkhpgghaaGreatDoor
/- The plain law of SeglogSteps: what a step keeps. -/
namespace Go.Proofs.YtnkebhlkhpgghaaGreatDoor
open Go Go.RowKit Go.Deep Go.Sort

theorem wrap_id {n : Int} (h0 : 0 ≤ n) (h1 : n < 18446744073709551616) : IntKind.u64.wrap n = n := IntWalk.u64_in _ (by omega)
/-- The super is as it was, or of a later Epoch, by at most c. -/
def Later (m m' : Lg) (c : Int) : Prop := (m'.x = m.x ∨ m.x.epoch < m'.x.epoch) ∧ m'.x.epoch ≤ m.x.epoch + c ∧ (m'.x.next = m.x.next ∨ m'.x.next = m.next) ∧ m'.next = m.next
theorem Later.refl (m : Lg) : Later m m 0 := ⟨.inl rfl, by omega, .inl rfl, rfl⟩
theorem Later.trans {m m' m'' : Lg} {c c' : Int} (h : Later m m' c) (h' : Later m' m'' c') : Later m m'' (c + c') := by
  obtain ⟨a1, a2, a3, a4⟩ := h
  obtain ⟨b1, b2, b3, b4⟩ := h'
  refine ⟨?_, by omega, ?_, by omega⟩
  · rcases b1 with b1 | b1
    · rw [b1]; exact a1
    · rcases a1 with a1 | a1
      · rw [a1] at b1; exact .inr b1
      · exact .inr (by omega)
  · rcases b3 with b3 | b3
    · rw [b3]; exact a3
    · exact .inr (by omega)
theorem Later.mono {m m' : Lg} {c c' : Int} (h : Later m m' c) (hc : c ≤ c') : Later m m' c' := ⟨h.1, by have := h.2.1; omega, h.2.2⟩
theorem epoch_lo {m : Lg} (h : m.Ok) : 0 ≤ m.x.epoch := (h.x.nums m.x.epoch (by simp [Sp.nums])).1
theorem keep_later {m : Lg} (h : m.Ok) (he : m.x.epoch < 1000000) : Later m m.keep 1 := by
  have h0 := epoch_lo h
  unfold Lg.keep
  split
  · exact (Later.refl m).mono (by omega)
  · have e : (m.flush.write m.asked.newer).x.epoch = m.x.epoch + 1 := wrap_id (by show 0 ≤ m.x.epoch + 1; omega) (by show m.x.epoch + 1 < _; omega)
    exact ⟨.inr (by omega), by omega, .inr rfl, rfl⟩
theorem drop_later {m : Lg} (h : m.Ok) (he : m.x.epoch < 1000000) : Later m m.drop 1 := by
  have h0 := epoch_lo h
  unfold Lg.drop
  split
  · rename_i h1 h2 r hh
    have e : (m.x.dropped h2).epoch = m.x.epoch + 1 := wrap_id (by omega) (by omega)
    exact ⟨.inr (by show m.x.epoch < (m.x.dropped h2).epoch; omega), by show (m.x.dropped h2).epoch ≤ _; omega, .inl rfl, rfl⟩
  · exact (Later.refl m).mono (by omega)
theorem dropOne_later {m : Lg} (h : m.Ok) (he : m.x.epoch < 1000000) : Later m m.dropOne 1 := by
  unfold Lg.dropOne
  split
  · exact (Later.refl m).mono (by omega)
  · exact drop_later h he
theorem follow_later (m : Lg) : Later m m.follow 0 := ⟨.inl rfl, by show m.x.epoch ≤ _; omega, .inl rfl, rfl⟩
theorem turn_later {m : Lg} (h : m.Ok) (he : m.x.epoch < 100000) : Later m m.turn 2 := by
  have k := keep_later h (by omega)
  have d := dropOne_later h.keep (by have := k.2.1; omega)
  exact ((k.trans d).trans (follow_later _)).mono (by omega)
theorem room_later {m : Lg} (h : m.Ok) (he : m.x.epoch < 100000) (n : Nat) : Later m (m.room n) 2 := by
  unfold Lg.room
  split
  · exact (Later.refl m).mono (by omega)
  · exact turn_later h he
theorem turn_seg {m : Lg} (h : m.Ok) (hl : m.heads.length ≤ m.segs) : m.turn.heads.length ≤ m.turn.segs := by
  have h1 := dropOne_lt (m := m.keep) h.keep (by rw [keep_heads, keep_segs]; exact hl)
  show (m.keep.dropOne.heads ++ [m.keep.dropOne.nextHead]).length ≤ m.keep.dropOne.segs
  simp
  omega
theorem room_seg {m : Lg} (h : m.Ok) (hl : m.heads.length ≤ m.segs) (n : Nat) : (m.room n).heads.length ≤ (m.room n).segs := by
  unfold Lg.room
  split
  · exact hl
  · exact turn_seg h hl
theorem keep_pend (m : Lg) : m.keep.k.pend.length ≤ m.k.pend.length ∧ m.keep.stop = m.stop := by
  unfold Lg.keep
  split
  · exact ⟨Nat.le_refl _, rfl⟩
  · exact ⟨by simp [Lg.write, Dk.super, Dk.flush], rfl⟩

/-- What holds ahead of a script's step of this number. -/
structure Lg.Inv (m : Lg) (i : Int) : Prop where
  tight : m.k.pend.length ≤ m.stop
  seg : m.heads.length ≤ m.segs
  xn : m.x.next ≤ m.next
  nx : m.next ≤ 260 * i
  ep : m.x.epoch ≤ 1 + 2 * i
theorem Lg.Inv.step {m : Lg} {i : Int} (h : m.Inv i) : m.Inv (i + 1) := ⟨h.tight, h.seg, h.xn, by have := h.nx; omega, by have := h.ep; omega⟩
/-- What the law asks of a super behind a step, and of the next number. -/
def Kept (m m' : Lg) : Prop := (m'.x = m.x ∨ m.x.epoch < m'.x.epoch) ∧ m'.x.next ≤ m'.next
theorem Lg.Inv.keep {m : Lg} {i : Int} (h : m.Inv i) (ok : m.Ok) (hi : i ≤ 40) : m.keep.Inv (i + 1) ∧ Kept m m.keep := by
  have l := keep_later ok (by have := h.ep; omega)
  have p := keep_pend m
  have xn : m.keep.x.next ≤ m.keep.next := by
    have h1 := h.xn
    rw [l.2.2.2]
    rcases l.2.2.1 with h2 | h2 <;> omega
  exact ⟨⟨by have := h.tight; omega, by rw [keep_heads, keep_segs]; exact h.seg, xn, by have := h.nx; rw [l.2.2.2]; omega, by have := l.2.1; have := h.ep; omega⟩, l.1, xn⟩
theorem btIs_pos {f : Int} {l : List Ev} (h : btIs f l = true) : 1 ≤ l.length := by
  rcases l with _ | ⟨x, l⟩
  · simp [btIs, headIs] at h
  · simp
theorem Lg.Inv.append {m : Lg} {i : Int} (h : m.Inv i) (ok : m.Ok) (hi : i ≤ 40) (l : List Ev) (hl : l.length ≤ 260) (h0 : (m.append l).1 = 0) : (m.append l).2.Inv (i + 1) ∧ Kept m (m.append l).2 ∧ (m.append l).2.next = m.next + l.length := by
  unfold Lg.append at h0 ⊢
  by_cases hb : btIs (seqOf l) l = false
  · rw [if_pos hb] at h0; exact absurd h0 (by simp)
  · rw [if_neg hb] at h0 ⊢
    by_cases hn : seqOf l ≠ m.next
    · rw [if_pos hn] at h0; exact absurd h0 (by simp)
    · rw [if_neg hn] at h0 ⊢
      by_cases hs : m.per * m.k.size - 64 < (btText (seqOf l) l m.sum).length
      · rw [if_pos hs] at h0; exact absurd h0 (by simp)
      · rw [if_neg hs]
        have hn : seqOf l = m.next := Decidable.of_not_not hn
        have hp := btIs_pos (by simpa using hb)
        have n0 := ok.n0
        have nx := h.nx
        generalize btText (seqOf l) l m.sum = t at *
        have hnext : (m.put l t).next = m.next + l.length := by
          show IntKind.u64.wrap (IntKind.u64.wrap (IntKind.u64.wrap (seqOf l + IntKind.u64.wrap l.length) - 1) + 1) = _
          rw [hn, wrap_id (n := (l.length : Int)) (by omega) (by omega), wrap_id (n := m.next + l.length) (by omega) (by omega), wrap_id (n := m.next + l.length - 1) (by omega) (by omega), wrap_id (by omega) (by omega)]
          omega
        have L := room_later ok (by have := h.ep; omega) t.length
        have R := room_facts ok h.tight (n := t.length) (by omega)
        have S := room_seg ok h.seg t.length
        have P := put_pend (placeOf (m.room t.length).per (m.room t.length).segs (lastId (m.room t.length).heads)) t.length (m.room t.length).k (m.room t.length).stop t
        have hx : (m.put l t).x = (m.room t.length).x := rfl
        have xn : (m.put l t).x.next ≤ (m.put l t).next := by
          rw [hnext, hx]
          have := h.xn
          rcases L.2.2.1 with h2 | h2 <;> omega
        have hz : 0 < (m.room t.length).k.size := by
          unfold Lg.room
          split
          · have := ok.sz; omega
          · obtain ⟨_, _, a3, _, _⟩ := turn_facts ok
            rw [a3]
            have := ok.sz; omega
        have P1 := P hz (Nat.le_refl _)
        refine ⟨⟨?_, S, xn, by rw [hnext]; omega, ?_⟩, ⟨?_, xn⟩, hnext⟩
        · show ((m.room t.length).k.put _ _ t).pend.length ≤ (m.room t.length).stop + t.length
          omega
        · rw [hx]; have := L.2.1; have := h.ep; omega
        · rw [hx]; exact L.1
theorem append_no (m : Lg) (l : List Ev) (h0 : (m.append l).1 ≠ 0) : (m.append l).2 = m := by
  unfold Lg.append at h0 ⊢
  split
  · rfl
  · split
    · rfl
    · split
      · rfl
      · rename_i h1 h2 h3
        rw [if_neg h1, if_neg h2, if_neg h3] at h0
        exact absurd rfl h0
end Go.Proofs.YtnkebhlkhpgghaaGreatDoor
/- law 12: from, few: the walks. -/
namespace Go.Proofs.YtnkebhlkhpgghaaGreatDoor
open Go Go.RowKit Go.Deep

def fromEv (seq kind : Int) (n : Nat) : List Ev := (List.range n).map (fun (i : Nat) => ⟨IntKind.u64.wrap (seq + i), i, -1, kind, 0, 0⟩)
theorem fromEv_succ (seq kind : Int) (n : Nat) : fromEv seq kind (n + 1) = fromEv seq kind n ++ [⟨IntKind.u64.wrap (seq + n), n, -1, kind, 0, 0⟩] := by simp [fromEv, List.range_succ]
theorem fromEv_length (seq kind : Int) (n : Nat) : (fromEv seq kind n).length = n := by simp [fromEv]
theorem rows_snoc {α : Type} (enc : α → List Value) (l : List α) (x : α) : rows enc (l ++ [x]) = rows enc l ++ enc x := by simp [rows]
theorem build_ev (s t k : Int) (w : World) : (Instr.build 91 #[(0, .int .u64 s), (3, .int .i64 k), (2, .int .i64 (-1)), (1, .int .i64 t)]).run Tryz.prog w = .ok (.agg (Ev.cells ⟨s, t, -1, k, 0, 0⟩).toArray) w := by kernel_rfl
theorem slice_ev (x : Ev) (w : World) : (Instr.buildSlice 47 1 #[(0, .agg x.cells.toArray)]).run Tryz.prog w = .ok (.slice (some ⟨w.heap.size, 0, none⟩) 1 1) (w.alloc (.cells x.cells.toArray 91)) := by
  obtain ⟨s, t, p, k, a, b⟩ := x
  kernel_rfl

set_option maxHeartbeats 800000 in
theorem from_any (seq many kind : Int) (w : World) (hm : many ≤ 1000) : Calls Tryz.prog 14 #[.int .u64 seq, .int .i64 many, .int .i64 kind] w fun e w' => ∃ v, e = .returned v ∧ Rd w' 6 Ev.cells v (fromEv seq kind many.toNat) ∧ Ext w w' := by
  go_enter Tryz.func14, Tryz.ntmps14
  go_wp2_with fail
  obtain ⟨w0, rfl⟩ : ∃ w0 : World, w0 = w := ⟨_, rfl⟩
  go_loopw [8, 7] (fun ti tl wr => ∃ n : Nat, n ≤ many.toNat ∧ ti = .int .i64 n ∧ wr.ownsRow w0.heap.size 91 6 tl n (rows Ev.cells (fromEv seq kind n)) ∧ Ext w0 wr) (fun ti _ _ => many.toNat - (intOf ti).toNat)
  case atStart => exact ⟨0, by omega, rfl, own_none _ _ _ _, Ext.refl _⟩
  case round =>
    obtain ⟨n, hn, rfl, hO, hE⟩ := hrel
    obtain ⟨A, c, rfl⟩ := own_slice hO
    by_cases hlt : (n : Int) < many
    · have hn2 : n < many.toNat := by omega
      have hw1 : IntKind.u64.wrap (n : Int) = n := IntWalk.u64_in _ (by omega)
      have HS := Lib.hid (show rows Ev.cells (fromEv seq kind (n + 1)) = rows Ev.cells (fromEv seq kind n) ++ Ev.cells ⟨IntKind.u64.wrap (seq + n), n, -1, kind, 0, 0⟩ from by rw [fromEv_succ, rows_snoc])
      have HO := Lib.hid hO
      have HE := Lib.hid hE
      clear hO hE
      go_wp2_with (at_builtin; go_loud (refine wpList_append1 w0.heap.size rfl (.tmp 14) (.tmp 22) 47 91 _ 6 48 rfl Tryz.underlying47 info_ev rfl (by decide) (by decide) (.slice A n c) n (rows Ev.cells (fromEv seq kind n)) (Ev.cells ⟨IntKind.u64.wrap (seq + n), n, -1, kind, 0, 0⟩) rfl rfl rfl (Ev.cells_one _) HO.out HE.out.size (by omega) ?_; intro A' c' w1 hO1 hK1 hb1; have HO1 := Lib.hid hO1; have HE1 := Lib.hid (HE.out.keep hK1 (fun i hi => own_base HO.out _ hi)); clear hO1 hK1 hb1))
      go_roundw
      case rel => exact ⟨n + 1, by omega, by go_num, by rw [HS.out]; exact HO1.out, HE1.out⟩
      case measure => simp [intOf]; omega
    · obtain rfl : many.toNat = n := by omega
      have HR := Lib.hid (rd_of_own ev_six hO (fromEv_length _ _ _).symm (by decide))
      have HE := Lib.hid hE
      clear hO hE
      go_wp2_with fail
      go_ret
      exact ⟨_, rfl, HR.out, HE.out⟩

/-! ### few -/
/-- A step of a script. -/
structure Stp where
  kind : Int
  n : Int
  of_ : Int
  off : Int
  kA : Option Addr
  kl : Nat
  kc : Nat
def Stp.cells (x : Stp) : List Value := [.int .i64 x.kind, .int .i64 x.n, .int .i64 x.of_, .int .u64 x.off, .slice x.kA x.kl x.kc]
theorem rd_at {α : Type} {w : World} {sz : Nat} {enc : α → List Value} {v : Value} {l : List α} (h : Rd w sz enc v l) {i : Nat} {x : α} (hi : l[i]? = some x) : ∃ b off c, v = .slice (some ⟨b, off, none⟩) l.length c ∧ l.length ≤ c ∧ ∀ (j : Nat) (u : Value), (enc x)[j]? = some u → w.cell? ⟨b, off + i * sz + j, none⟩ = some u := by
  obtain ⟨A, c, hv, h1, h2, h3⟩ := h
  have hl := (List.getElem?_eq_some_iff.1 hi).1
  obtain ⟨b, off, hA, _, hc⟩ := h3 (by omega)
  exact ⟨b, off, c, by rw [hv, hA], h1, fun j u hu => hc i x hi j u hu⟩
def FewP (n : Nat) (many size : Int) (w : World) : Ending → World → Prop := fun e w' => ∃ b, e = .returned (.bool b) ∧ w' = w ∧ (b = true → n ≤ 40 ∧ many ≤ 40 ∧ size ≤ 1024)
set_option maxHeartbeats 800000 in
theorem few_any (many size : Int) (v : Value) (l : List Stp) (w : World) (h : Rd w 5 Stp.cells v l) (hl : l.length ≤ 9223372036854775807) : Calls Tryz.prog 5 #[.int .i64 many, .int .i64 size, v] w (FewP l.length many size w) := by
  have HR := Lib.hid h
  obtain ⟨A, c, rfl, hc, hc2, _⟩ := h
  go_enter Tryz.func5, Tryz.ntmps5
  go_wp2_with fail
  obtain ⟨w0, rfl⟩ : ∃ w0 : World, w0 = w := ⟨_, rfl⟩
  go_loop [8, 7] (fun ti tn => ∃ (i : Nat) (q : Int), i ≤ l.length ∧ ti = .int .i64 i ∧ tn = .int .i64 q) (fun ti _ => l.length - (intOf ti).toNat)
  case atStart => exact ⟨0, 0, by omega, rfl, rfl⟩
  case round =>
    obtain ⟨i, q, hi, rfl, rfl⟩ := hrel
    by_cases h40 : l.length ≤ 40
    · have d40 : decide ((l.length : Int) ≤ 40) = true := decide_eq_true (by omega)
      by_cases hlt : i < l.length
      · have dlt : decide ((i : Int) < l.length) = true := decide_eq_true (by omega)
        obtain ⟨x, hx⟩ : ∃ x, l[i]? = some x := ⟨_, List.getElem?_eq_getElem hlt⟩
        obtain ⟨b, off, c', hv, _, hcell⟩ := rd_at HR.out hx
        obtain ⟨rfl, rfl⟩ : A = some ⟨b, off, none⟩ ∧ c = c' := by injection hv with h1 h2 h3; exact ⟨h1, h3⟩
        have c4 := hcell 4 _ rfl
        have i0 : (0 : Int) ≤ i := by omega
        have i1 : (i : Int) < l.length := by omega
        clear hv hcell hx HR
        go_wp2_with fail
        exact ⟨⟨i + 1, _, by omega, by go_num, rfl⟩, by simp [intOf]; omega⟩
      · have dlt : decide ((i : Int) < l.length) = false := decide_eq_false (by omega)
        clear HR
        rcases e2 : decide (q ≤ 1000) with _ | _ <;> rcases e3 : decide (many ≤ 40) with _ | _ <;> rcases e4 : decide (size ≤ 1024) with _ | _
        all_goals go_wp2_with fail
        all_goals go_ret
        all_goals exact ⟨_, rfl, rfl, by simp at e2 e3 e4 ⊢ <;> omega⟩
    · have d40 : decide ((l.length : Int) ≤ 40) = false := decide_eq_false (by omega)
      clear HR
      rcases dlt : decide ((i : Int) < l.length) with _ | _
      all_goals go_wp2_with fail
      all_goals go_ret
      all_goals exact ⟨_, rfl, rfl, by simp⟩
end Go.Proofs.YtnkebhlkhpgghaaGreatDoor
/- header, read: number, digest, each: the walks. -/
namespace Go.Proofs.YtnkebhlkhpgghaaGreatDoor
open Go Go.RowKit Go.Deep

set_option maxHeartbeats 400000 in
theorem number_any (r : Nat) (s : ByteArray) (w : World) (hB : Blk w r 146 #[.string s]) (h8 : 8 ≤ s.size) (hs : s.size ≤ 140737488355328) :
    Calls Tryz.prog 88 #[.pointer (some ⟨r, 0, none⟩)] w fun e w' => e = .returned (.int .u64 (be 0 ((lb s).take 8))) ∧ Blk w' r 146 #[.string (bs ((lb s).drop 8))] ∧ Keep (One r) w w' := by
  have HT := Lib.hid (fun w' => (show Calls Tryz.prog 108 #[.string s, .int .i64 8] w' (Ret (.tuple #[.int .u64 (be 0 ((lb s).take 8)), .string (bs ((lb s).drop 8)), .int .i64 0]) w') from takeFixed_any s 8 w' (by omega) (by omega) (by omega) hs))
  have c0 : w.cell? ⟨r, 0, none⟩ = some (.string s) := hB.cell 0
  have HB := Lib.hid hB
  clear hB h8 hs
  generalize be 0 ((lb s).take 8) = x at *
  generalize bs ((lb s).drop 8) = z at *
  go_enter Tryz.func88, Tryz.ntmps88
  go_wp2_with (go_at_call 108; refine (HT.out _).mono ?_; rintro e w1 ⟨rfl, hE1⟩; have HB1 := Lib.hid (HB.out.ext hE1); have c1 : w1.cell? ⟨r, 0, none⟩ = some (.string s) := HB1.out.cell 0; have f1 : w1.frozen? ⟨r, 0, none⟩ = false := HB1.out.frozen 0; have HE1 := Lib.hid hE1; clear hE1)
  go_ret
  exact ⟨rfl, HB1.out.set 0 _, (Keep.of_ext HE1.out).setIn (One.self r) 0 _⟩

/-! ### each -/
def eachC (cs : Array Value) : List Nat → Bytes → Array Value
  | [], _ => cs
  | o :: os, l => eachC (cs.setIfInBounds o (.int .u64 (be 0 (l.take 8)))) os (l.drop 8)
theorem eachC_size : ∀ (os : List Nat) (cs : Array Value) (l : Bytes), (eachC cs os l).size = cs.size
  | [], _, _ => rfl
  | o :: os, cs, l => by rw [eachC, eachC_size os]; simp
theorem eachC_snoc : ∀ (os : List Nat) (cs : Array Value) (o : Nat) (l : Bytes), eachC cs (os ++ [o]) l = (eachC cs os l).setIfInBounds o (.int .u64 (be 0 ((l.drop (8 * os.length)).take 8)))
  | [], _, _, _ => rfl
  | p :: os, cs, o, l => by
    rw [List.cons_append, eachC, eachC_snoc os, eachC, List.drop_drop, List.length_cons, show 8 + 8 * os.length = 8 * (os.length + 1) from by omega]
theorem eachC_take {offs : List Nat} {k : Nat} (h : k < offs.length) (cs : Array Value) (l : Bytes) : eachC cs (offs.take (k + 1)) l = (eachC cs (offs.take k) l).setIfInBounds offs[k] (.int .u64 (be 0 ((l.drop (8 * k)).take 8))) := by
  rw [List.take_succ_eq_append_getElem h, eachC_snoc, List.length_take, Nat.min_eq_left (by omega)]
def Two (r X : Nat) : Nat → Prop := fun i => i = r ∨ i = X
set_option maxHeartbeats 800000 in
theorem each_any (r X vb : Nat) (t : TypeId) (offs : List Nat) (cs : Array Value) (s : ByteArray) (w : World) (hR : Blk w r 146 #[.string s]) (hX : Blk w X t cs) (hV : Blk w vb 149 (offs.map (fun o => Value.pointer (some ⟨X, o, none⟩))).toArray)
    (hrX : r ≠ X) (hrv : r ≠ vb) (hXv : X ≠ vb) (ho : ∀ o ∈ offs, o < cs.size) (h8 : 8 * offs.length ≤ s.size) (hs : s.size ≤ 140737488355328) :
    Calls Tryz.prog 87 #[.pointer (some ⟨r, 0, none⟩), .func (.func 88) #[] #[], .slice (some ⟨vb, 0, none⟩) offs.length offs.length] w fun e w' => e = .returned (.tuple #[]) ∧ Blk w' r 146 #[.string (bs ((lb s).drop (8 * offs.length)))] ∧ Blk w' X t (eachC cs offs (lb s)) ∧ Keep (Two r X) w w' := by
  have HN := Lib.hid (fun (s' : ByteArray) w' (h : Blk w' r 146 #[.string s']) => number_any r s' w' h)
  have HR := Lib.hid hR
  have HX := Lib.hid hX
  have HV := Lib.hid hV
  have HO := Lib.hid ho
  have hl48 : offs.length ≤ 140737488355328 := by omega
  clear hR hX hV ho
  go_enter Tryz.func87, Tryz.ntmps87
  go_wp2_with fail
  obtain ⟨w0, rfl⟩ : ∃ w0 : World, w0 = w := ⟨_, rfl⟩
  go_loopw [10, 7] (fun i v7 wr => ∃ k : Nat, k ≤ offs.length ∧ i = .int .i64 k ∧ Blk wr r 146 #[.string (bs ((lb s).drop (8 * k)))] ∧ Blk wr X t (eachC cs (offs.take k) (lb s)) ∧ Keep (Two r X) w0 wr) (fun i _ _ => offs.length - (intOf i).toNat)
  case atStart => exact ⟨0, by omega, rfl, by simpa using HR.out, HX.out, Keep.refl _ _⟩
  case round =>
    obtain ⟨k, hk, rfl, hR1, hX1, hK1⟩ := hrel
    by_cases hlt : k < offs.length
    · have hsz : (bs ((lb s).drop (8 * k))).size = s.size - 8 * k := by rw [bs_size, List.length_drop, lb_length]
      have HN1 := Lib.hid (HN.out _ _ hR1 (by omega) (by omega))
      have cv : wr.cell? ⟨vb, k, none⟩ = some (.pointer (some ⟨X, offs[k], none⟩)) := by
        rw [(HV.out.keep hK1 (fun h => h.elim (fun h => hrv h.symm) (fun h => hXv h.symm))).cell]; simp [hlt]
      have hst := eachC_take hlt cs (lb s)
      have hox := HO.out _ (List.getElem_mem hlt)
      have HST := Lib.hid hst
      have HK1 := Lib.hid hK1
      have HR1 := Lib.hid hR1
      have HX1 := Lib.hid hX1
      have HOX := Lib.hid hox
      rw [lb_bs, List.drop_drop] at HN1
      have HD := Lib.hid (show 8 * k + 8 = 8 * (k + 1) from by omega)
      clear hR1 hX1 hK1 hst hox hsz
      generalize offs[k] = o at *
      generalize be 0 (((lb s).drop (8 * k)).take 8) = x at *
      go_wp2_with (go_at_call 88; go_loud (refine HN1.out.mono ?_; rintro e w1 ⟨rfl, hR2, hK2⟩; have HR2 := Lib.hid hR2; have HX2 := Lib.hid (HX1.out.keep hK2 (fun h => hrX h.symm)); have HK2 := Lib.hid (HK1.out.trans (hK2.mono (fun i _ hi => Or.inl hi))); have cx := (HX2.out.cell o).trans (Array.getElem?_eq_getElem (by rw [eachC_size]; exact HOX.out)); have fx : w1.frozen? ⟨X, o, none⟩ = false := HX2.out.frozen o; clear hR2 hK2))
      go_roundw
      case rel => exact ⟨k + 1, by omega, by go_num, by rw [← HD.out]; exact HR2.out.far (by simpa using hrX) _, by rw [HST.out]; exact HX2.out.set o _, HK2.out.setIn (Or.inr rfl) o _⟩
      case measure => simp [intOf]; omega
    · obtain rfl : k = offs.length := by omega
      rw [List.take_length] at hX1
      have HH := Lib.hid (And.intro hR1 (And.intro hX1 hK1))
      clear hR1 hX1 hK1
      go_wp2_with fail
      go_end0
      exact ⟨rfl, HH.out⟩
end Go.Proofs.YtnkebhlkhpgghaaGreatDoor
