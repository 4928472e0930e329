/- Part of a proof: the walks of the functions, and their plain laws: Same, Rsms. -/
import Derived.Test.YtnkebhlkhpgghaaGreatDoorPart13
set_option linter.unusedVariables false
set_option linter.unusedSimpArgs false

/- The law's same: a log as the reference's is. WRITTEN by wip/tools/gen_same.py. -/
namespace Go.Proofs.YtnkebhlkhpgghaaGreatDoor
open Go Go.RowKit Go.Deep Go.Sort

theorem lgAll_low {x : Sp} (p : Value) (per segs : Int) (s e : Value) (next : Int) : (lgAll p per segs x s e next)[0]? = some p := by simp [lgAll]
theorem lgAll_hi {x : Sp} (hx : x.In) (p : Value) (per segs : Int) (s e : Value) (next : Int) (i : Nat) : (lgAll p per segs x s e next)[107 + i]? = [Value.int .u64 next, .bool false][i]? := by
  have hl := Sp.cells_length hx
  have hs : (bcells x.sum).length = 32 := by simp [bcells, hx.s]
  have h : lgAll p per segs x s e next = ([p, .int .i64 per, .int .i64 segs] ++ x.cells ++ [s, e] ++ bcells x.sum) ++ [.int .u64 next, .bool false] := by simp [lgAll]
  have h2 : ([p, .int .i64 per, .int .i64 segs] ++ x.cells ++ [s, e] ++ bcells x.sum).length = 107 := by simp [hl, hs]
  rw [h, List.getElem?_append_right (by omega), h2, Nat.add_sub_cancel_left]
def smB (g gr d r hb n c : Nat) (x : Sp) (hs : List Hd) (S : ByteArray) : Nat → Value → World → Prop
  | 0, v, _ => v = .pointer (some ⟨g, 0, none⟩)
  | 1, v, _ => v = .agg x.cells.toArray
  | 2, v, _ => v = .pointer (some ⟨gr, 0, none⟩)
  | 3, v, _ => v = .pointer (some ⟨gr, 0, none⟩)
  | 4, v, _ => v = .pointer (some ⟨gr, 3, none⟩)
  | 5, v, _ => v = .agg x.cells.toArray
  | 6, v, _ => v = .bool true
  | 7, v, _ => v = .bool true
  | 8, v, _ => v = .pointer (some ⟨g, 0, none⟩)
  | 9, v, _ => v = .int .u64 x.next
  | 10, v, _ => v = .pointer (some ⟨gr, 0, none⟩)
  | 11, v, _ => v = .pointer (some ⟨gr, 0, none⟩)
  | 12, v, _ => v = .pointer (some ⟨gr, 107, none⟩)
  | 13, v, _ => v = .int .u64 x.next
  | 14, v, _ => v = .bool true
  | 15, v, _ => v = .bool true
  | 16, v, _ => v = .bool true
  | 17, v, _ => v = .pointer (some ⟨g, 0, none⟩)
  | 18, v, _ => v = .bool false
  | 19, v, _ => v = .pointer (some ⟨gr, 0, none⟩)
  | 20, v, _ => v = .pointer (some ⟨gr, 0, none⟩)
  | 21, v, _ => v = .pointer (some ⟨gr, 108, none⟩)
  | 22, v, _ => v = .bool false
  | 23, v, _ => v = .bool true
  | 24, v, _ => v = .bool true
  | 25, v, _ => v = .bool true
  | 26, v, _ => v = .pointer (some ⟨g, 0, none⟩)
  | 27, v, w => ∃ gg c', v = .slice (some ⟨gg, 0, none⟩) n c' ∧ HdS w (some ⟨gg, 0, none⟩) hs
  | 28, v, _ => v = .pointer (some ⟨gr, 0, none⟩)
  | 29, v, _ => v = .pointer (some ⟨gr, 0, none⟩)
  | 30, v, _ => v = .pointer (some ⟨gr, 73, none⟩)
  | 31, v, _ => v = .slice (some ⟨hb, 0, none⟩) n c
  | 32, v, _ => v = .bool true
  | 33, v, _ => v = .bool true
  | 34, v, _ => v = .bool true
  | 35, v, _ => v = .pointer (some ⟨d, 0, none⟩)
  | 36, v, _ => v = .string S
  | 37, v, _ => v = .pointer (some ⟨gr, 0, none⟩)
  | 38, v, _ => v = .pointer (some ⟨gr, 0, none⟩)
  | 39, v, _ => v = .pointer (some ⟨gr, 0, none⟩)
  | 40, v, _ => v = .pointer (some ⟨r, 0, none⟩)
  | 41, v, _ => v = .string S
  | 42, v, _ => v = .bool true
  | 43, v, _ => v = .bool true
  | 44, v, _ => v = .bool true
  | 45, v, _ => v = .pointer (some ⟨d, 0, none⟩)
  | 46, v, _ => v = .int .i64 0
  | 47, v, _ => v = .pointer (some ⟨gr, 0, none⟩)
  | 48, v, _ => v = .pointer (some ⟨gr, 0, none⟩)
  | 49, v, _ => v = .pointer (some ⟨gr, 0, none⟩)
  | 50, v, _ => v = .pointer (some ⟨r, 0, none⟩)
  | 51, v, _ => v = .pointer (some ⟨r, 0, none⟩)
  | 52, v, _ => v = .pointer (some ⟨r, 3, none⟩)
  | 53, v, _ => v = .slice none 0 0
  | 54, v, _ => v = .int .i64 0
  | 55, v, _ => v = .bool true
  | 56, v, _ => v = .bool true
  | _, v, _ => v = .bool true
set_option maxHeartbeats 3200000 in
theorem smB_stab (g gr d r hb n c : Nat) (x : Sp) (hs : List Hd) (S : ByteArray) (i : Nat) (v : Value) (w w' : World) (hB : smB g gr d r hb n c x hs S i v w) (e : Ext w w') : smB g gr d r hb n c x hs S i v w' := by
  rcases i with _ | _ | _ | _ | _ | _ | _ | _ | _ | _ | _ | _ | _ | _ | _ | _ | _ | _ | _ | _ | _ | _ | _ | _ | _ | _ | _ | _ | _ | _ | _ | _ | _ | _ | _ | _ | _ | _ | _ | _ | _ | _ | _ | _ | _ | _ | _ | _ | _ | _ | _ | _ | _ | _ | _ | _ | _ | i <;> first | exact hB | (obtain ⟨gg, c', h1, h2⟩ := hB; exact ⟨gg, c', h1, h2.ext e⟩)
set_option maxRecDepth 16000 in
set_option maxHeartbeats 6400000 in
theorem same_any {F : Nat → Prop} {g d gr r n0 z : Nat} {m : Lg} (w : World) (hL : Log F w g d m) (hR : RLog w gr r m.per m.segs m.x m.heads) (hrb : RefB w r n0 z) (hk : m.k = Dk.new n0 z) (hnx : m.next = m.x.next) :
    Calls Tryz.prog 19 #[.pointer (some ⟨g, 0, none⟩), .pointer (some ⟨gr, 0, none⟩), .pointer (some ⟨d, 0, none⟩)] w (Ret (.bool true) w) := by
  have hok := hL.ok
  have hdk : Disk F w d m.k := by obtain ⟨hb, ho, hc, h⟩ := hL; exact h.disk
  have hkz : n0 ≤ 4096 ∧ z ≤ 1024 := by have h := hdk.ok; rw [hk] at h; exact ⟨h.m2, h.s2⟩
  obtain ⟨hb, c, hB, hH⟩ := hR
  obtain ⟨x, hx⟩ : ∃ x, x = m.x := ⟨_, rfl⟩
  obtain ⟨hs, hhs⟩ : ∃ hs, hs = m.heads := ⟨_, rfl⟩
  obtain ⟨n, hn⟩ : ∃ n, n = m.heads.length := ⟨_, rfl⟩
  obtain ⟨S, hS⟩ : ∃ S, S = bs (zeros (n0 * z)) := ⟨_, rfl⟩
  have hB' := hB
  rw [← hn, ← hx] at hB'
  have HX := Lib.hid (show x.In from by rw [hx]; exact hok.x)
  have HXI := Lib.hid (sp_infoOf HX.out)
  have HSU := Lib.hid (fun w' (e : Ext w w') => (show Calls Tryz.prog 10 #[.pointer (some ⟨g, 0, none⟩)] w' (Ret (.agg x.cells.toArray) w') from by rw [hx]; exact logSuper_any w' (hL.ext e)))
  have HNX := Lib.hid (fun w' (e : Ext w w') => (show Calls Tryz.prog 9 #[.pointer (some ⟨g, 0, none⟩)] w' (Ret (.int .u64 x.next) w') from by rw [hx, ← hnx]; exact logNext_any w' (hL.ext e)))
  have HDN := Lib.hid (fun w' (e : Ext w w') => logDown_any w' (hL.ext e))
  have HHE := Lib.hid (fun w' (e : Ext w w') => (show Calls Tryz.prog 48 #[.pointer (some ⟨g, 0, none⟩)] w' (fun e w2 => ∃ gg c', e = .returned (.slice (some ⟨gg, 0, none⟩) n c') ∧ HdS w2 (some ⟨gg, 0, none⟩) hs ∧ Ext w' w2) from by rw [hn, hhs]; exact logHeads_any w' (hL.ext e)))
  have HSM := Lib.hid (fun w' (e : Ext w w') (gg c' : Nat) (hA : HdS w' (some ⟨gg, 0, none⟩) hs) => (show Calls Tryz.prog 47 #[.slice (some ⟨gg, 0, none⟩) n c', .slice (some ⟨hb, 0, none⟩) n c] w' (Ret (.bool true) w') from by rw [hn]; rw [hhs] at hA; exact sameHeads_any gg hb 0 0 c' c m.heads w' hok.hds (Nat.le_trans hok.h2 (by decide)) hA (hH.ext e)))
  have HIM := Lib.hid (fun w' (e : Ext w w') => (show Calls Tryz.prog 11 #[.pointer (some ⟨d, 0, none⟩)] w' (Ret (.string S) w') from by have h := image_any w' (hdk.ext e); rw [hk] at h; rw [hS]; exact h))
  have HRI := Lib.hid (fun w' (e : Ext w w') => (show Calls Tryz.prog 49 #[.pointer (some ⟨r, 0, none⟩)] w' (Ret (.string S) w') from by rw [hS]; exact refImage_any w' (hrb.ext e) hkz.1 hkz.2))
  have HPE := Lib.hid (fun w' (e : Ext w w') => (show Calls Tryz.prog 12 #[.pointer (some ⟨d, 0, none⟩)] w' (Ret (.int .i64 0) w') from by have h := pending_any w' (hdk.ext e); rw [hk] at h; exact h))
  have HC0 := Lib.hid (fun w' (e : Ext w w') => (show w'.cell? ⟨gr, 0, none⟩ = some (.pointer (some ⟨r, 0, none⟩)) from ((hB'.ext e).cell 0).trans (by rw [List.getElem?_toArray]; exact lgAll_low _ _ _ _ _ _)))
  have HC73 := Lib.hid (fun w' (e : Ext w w') => (show w'.cell? ⟨gr, 73, none⟩ = some (.slice (some ⟨hb, 0, none⟩) n c) from ((hB'.ext e).cell 73).trans (by rw [List.getElem?_toArray]; exact lgAll_73 HX.out _ _ _ _ _ _)))
  have HC107 := Lib.hid (fun w' (e : Ext w w') => (show w'.cell? ⟨gr, 107, none⟩ = some (.int .u64 x.next) from ((hB'.ext e).cell 107).trans (by rw [List.getElem?_toArray]; exact lgAll_hi HX.out _ _ _ _ _ _ 0)))
  have HC108 := Lib.hid (fun w' (e : Ext w w') => (show w'.cell? ⟨gr, 108, none⟩ = some (.bool false) from ((hB'.ext e).cell 108).trans (by rw [List.getElem?_toArray]; exact lgAll_hi HX.out _ _ _ _ _ _ 1)))
  have HCR := Lib.hid (fun w' (e : Ext w w') => (show w'.cell? ⟨r, 3, none⟩ = some (.slice none 0 0) from by obtain ⟨A0, c0, hB0, _⟩ := hrb; exact (hB0.ext e).cell 3))
  have HXR := Lib.hid (fun w' (e : Ext w w') => (show w'.rangeAt gr 3 x.cells from Blk.rangeAt (A := [.pointer (some ⟨r, 0, none⟩), .int .i64 m.per, .int .i64 m.segs]) (B := x.cells) (C := [.slice (some ⟨hb, 0, none⟩) n c, .int .u64 x.en] ++ bcells x.sum ++ [.int .u64 x.next, .bool false]) (by have h := hB'.ext e; simpa [lgAll] using h)))
  have hc64 := True.intro
  clear hL hB hB' hH hrb hk hnx hok hdk hkz hx hhs hn hS
  go_enter Tryz.func19, Tryz.ntmps19
  go_wp2_with fail
  refine wp_region_freeG Ext ((Ext.refl _).drew) Ext.trans (by kernel_rfl) (by kernel_rfl) (smB g gr d r hb n c x hs S) (smB_stab g gr d r hb n c x hs S) ?_ ?_ ?_
  · intro i o a w' hi hb' hd
    rcases i with _ | _ | _ | _ | _ | _ | _ | _ | _ | _ | _ | _ | _ | _ | _ | _ | _ | _ | _ | _ | _ | _ | _ | _ | _ | _ | _ | _ | _ | _ | _ | _ | _ | _ | _ | _ | _ | _ | _ | _ | _ | _ | _ | _ | _ | _ | _ | _ | _ | _ | _ | _ | _ | _ | _ | _ | _ | _ | i
    · simp only [List.getElem?_cons_zero, List.getElem?_cons_succ, Option.some.injEq] at hi
      subst hi
      exact wanted_none rfl
    · simp only [List.getElem?_cons_zero, List.getElem?_cons_succ, Option.some.injEq] at hi
      subst hi
      exact wanted_none rfl
    · simp only [List.getElem?_cons_zero, List.getElem?_cons_succ, Option.some.injEq] at hi
      subst hi
      exact wanted_none rfl
    · simp only [List.getElem?_cons_zero, List.getElem?_cons_succ, Option.some.injEq] at hi
      subst hi
      exact wanted_none rfl
    · simp only [List.getElem?_cons_zero, List.getElem?_cons_succ, Option.some.injEq] at hi
      subst hi
      exact wanted_none rfl
    · simp only [List.getElem?_cons_zero, List.getElem?_cons_succ, Option.some.injEq] at hi
      subst hi
      exact wanted_none rfl
    · simp only [List.getElem?_cons_zero, List.getElem?_cons_succ, Option.some.injEq] at hi
      subst hi
      exact wanted_none rfl
    · simp only [List.getElem?_cons_zero, List.getElem?_cons_succ, Option.some.injEq] at hi
      subst hi
      exact wanted_none rfl
    · simp only [List.getElem?_cons_zero, List.getElem?_cons_succ, Option.some.injEq] at hi
      subst hi
      exact wanted_yes (d := 14) rfl rfl (hd ⟨7, .guard⟩ (by simp) rfl)
    · simp only [List.getElem?_cons_zero, List.getElem?_cons_succ, Option.some.injEq] at hi
      subst hi
      exact wanted_yes (d := 14) rfl rfl (hd ⟨7, .guard⟩ (by simp) rfl)
    · simp only [List.getElem?_cons_zero, List.getElem?_cons_succ, Option.some.injEq] at hi
      subst hi
      exact wanted_yes (d := 14) rfl rfl (hd ⟨7, .guard⟩ (by simp) rfl)
    · simp only [List.getElem?_cons_zero, List.getElem?_cons_succ, Option.some.injEq] at hi
      subst hi
      exact wanted_yes (d := 14) rfl rfl (hd ⟨7, .guard⟩ (by simp) rfl)
    · simp only [List.getElem?_cons_zero, List.getElem?_cons_succ, Option.some.injEq] at hi
      subst hi
      exact wanted_yes (d := 14) rfl rfl (hd ⟨7, .guard⟩ (by simp) rfl)
    · simp only [List.getElem?_cons_zero, List.getElem?_cons_succ, Option.some.injEq] at hi
      subst hi
      exact wanted_yes (d := 14) rfl rfl (hd ⟨7, .guard⟩ (by simp) rfl)
    · simp only [List.getElem?_cons_zero, List.getElem?_cons_succ, Option.some.injEq] at hi
      subst hi
      exact wanted_yes (d := 14) rfl rfl (hd ⟨7, .guard⟩ (by simp) rfl)
    · simp only [List.getElem?_cons_zero, List.getElem?_cons_succ, Option.some.injEq] at hi
      subst hi
      exact wanted_none rfl
    · simp only [List.getElem?_cons_zero, List.getElem?_cons_succ, Option.some.injEq] at hi
      subst hi
      exact wanted_none rfl
    · simp only [List.getElem?_cons_zero, List.getElem?_cons_succ, Option.some.injEq] at hi
      subst hi
      exact wanted_yes (d := 23) rfl rfl (hd ⟨16, .guard⟩ (by simp) rfl)
    · simp only [List.getElem?_cons_zero, List.getElem?_cons_succ, Option.some.injEq] at hi
      subst hi
      exact wanted_yes (d := 23) rfl rfl (hd ⟨16, .guard⟩ (by simp) rfl)
    · simp only [List.getElem?_cons_zero, List.getElem?_cons_succ, Option.some.injEq] at hi
      subst hi
      exact wanted_yes (d := 23) rfl rfl (hd ⟨16, .guard⟩ (by simp) rfl)
    · simp only [List.getElem?_cons_zero, List.getElem?_cons_succ, Option.some.injEq] at hi
      subst hi
      exact wanted_yes (d := 23) rfl rfl (hd ⟨16, .guard⟩ (by simp) rfl)
    · simp only [List.getElem?_cons_zero, List.getElem?_cons_succ, Option.some.injEq] at hi
      subst hi
      exact wanted_yes (d := 23) rfl rfl (hd ⟨16, .guard⟩ (by simp) rfl)
    · simp only [List.getElem?_cons_zero, List.getElem?_cons_succ, Option.some.injEq] at hi
      subst hi
      exact wanted_yes (d := 23) rfl rfl (hd ⟨16, .guard⟩ (by simp) rfl)
    · simp only [List.getElem?_cons_zero, List.getElem?_cons_succ, Option.some.injEq] at hi
      subst hi
      exact wanted_yes (d := 23) rfl rfl (hd ⟨16, .guard⟩ (by simp) rfl)
    · simp only [List.getElem?_cons_zero, List.getElem?_cons_succ, Option.some.injEq] at hi
      subst hi
      exact wanted_none rfl
    · simp only [List.getElem?_cons_zero, List.getElem?_cons_succ, Option.some.injEq] at hi
      subst hi
      exact wanted_none rfl
    · simp only [List.getElem?_cons_zero, List.getElem?_cons_succ, Option.some.injEq] at hi
      subst hi
      exact wanted_yes (d := 32) rfl rfl (hd ⟨25, .guard⟩ (by simp) rfl)
    · simp only [List.getElem?_cons_zero, List.getElem?_cons_succ, Option.some.injEq] at hi
      subst hi
      exact wanted_yes (d := 32) rfl rfl (hd ⟨25, .guard⟩ (by simp) rfl)
    · simp only [List.getElem?_cons_zero, List.getElem?_cons_succ, Option.some.injEq] at hi
      subst hi
      exact wanted_yes (d := 32) rfl rfl (hd ⟨25, .guard⟩ (by simp) rfl)
    · simp only [List.getElem?_cons_zero, List.getElem?_cons_succ, Option.some.injEq] at hi
      subst hi
      exact wanted_yes (d := 32) rfl rfl (hd ⟨25, .guard⟩ (by simp) rfl)
    · simp only [List.getElem?_cons_zero, List.getElem?_cons_succ, Option.some.injEq] at hi
      subst hi
      exact wanted_yes (d := 32) rfl rfl (hd ⟨25, .guard⟩ (by simp) rfl)
    · simp only [List.getElem?_cons_zero, List.getElem?_cons_succ, Option.some.injEq] at hi
      subst hi
      exact wanted_yes (d := 32) rfl rfl (hd ⟨25, .guard⟩ (by simp) rfl)
    · simp only [List.getElem?_cons_zero, List.getElem?_cons_succ, Option.some.injEq] at hi
      subst hi
      exact wanted_yes (d := 32) rfl rfl (hd ⟨25, .guard⟩ (by simp) rfl)
    · simp only [List.getElem?_cons_zero, List.getElem?_cons_succ, Option.some.injEq] at hi
      subst hi
      exact wanted_none rfl
    · simp only [List.getElem?_cons_zero, List.getElem?_cons_succ, Option.some.injEq] at hi
      subst hi
      exact wanted_none rfl
    · simp only [List.getElem?_cons_zero, List.getElem?_cons_succ, Option.some.injEq] at hi
      subst hi
      exact wanted_yes (d := 41) rfl rfl (hd ⟨34, .guard⟩ (by simp) rfl)
    · simp only [List.getElem?_cons_zero, List.getElem?_cons_succ, Option.some.injEq] at hi
      subst hi
      exact wanted_yes (d := 41) rfl rfl (hd ⟨34, .guard⟩ (by simp) rfl)
    · simp only [List.getElem?_cons_zero, List.getElem?_cons_succ, Option.some.injEq] at hi
      subst hi
      exact wanted_yes (d := 41) rfl rfl (hd ⟨34, .guard⟩ (by simp) rfl)
    · simp only [List.getElem?_cons_zero, List.getElem?_cons_succ, Option.some.injEq] at hi
      subst hi
      exact wanted_yes (d := 41) rfl rfl (hd ⟨34, .guard⟩ (by simp) rfl)
    · simp only [List.getElem?_cons_zero, List.getElem?_cons_succ, Option.some.injEq] at hi
      subst hi
      exact wanted_yes (d := 41) rfl rfl (hd ⟨34, .guard⟩ (by simp) rfl)
    · simp only [List.getElem?_cons_zero, List.getElem?_cons_succ, Option.some.injEq] at hi
      subst hi
      exact wanted_yes (d := 41) rfl rfl (hd ⟨34, .guard⟩ (by simp) rfl)
    · simp only [List.getElem?_cons_zero, List.getElem?_cons_succ, Option.some.injEq] at hi
      subst hi
      exact wanted_yes (d := 41) rfl rfl (hd ⟨34, .guard⟩ (by simp) rfl)
    · simp only [List.getElem?_cons_zero, List.getElem?_cons_succ, Option.some.injEq] at hi
      subst hi
      exact wanted_yes (d := 41) rfl rfl (hd ⟨34, .guard⟩ (by simp) rfl)
    · simp only [List.getElem?_cons_zero, List.getElem?_cons_succ, Option.some.injEq] at hi
      subst hi
      exact wanted_none rfl
    · simp only [List.getElem?_cons_zero, List.getElem?_cons_succ, Option.some.injEq] at hi
      subst hi
      exact wanted_none rfl
    · simp only [List.getElem?_cons_zero, List.getElem?_cons_succ, Option.some.injEq] at hi
      subst hi
      exact wanted_yes (d := 51) rfl rfl (hd ⟨44, .guard⟩ (by simp) rfl)
    · simp only [List.getElem?_cons_zero, List.getElem?_cons_succ, Option.some.injEq] at hi
      subst hi
      exact wanted_yes (d := 51) rfl rfl (hd ⟨44, .guard⟩ (by simp) rfl)
    · simp only [List.getElem?_cons_zero, List.getElem?_cons_succ, Option.some.injEq] at hi
      subst hi
      exact wanted_yes (d := 51) rfl rfl (hd ⟨44, .guard⟩ (by simp) rfl)
    · simp only [List.getElem?_cons_zero, List.getElem?_cons_succ, Option.some.injEq] at hi
      subst hi
      exact wanted_yes (d := 51) rfl rfl (hd ⟨44, .guard⟩ (by simp) rfl)
    · simp only [List.getElem?_cons_zero, List.getElem?_cons_succ, Option.some.injEq] at hi
      subst hi
      exact wanted_yes (d := 51) rfl rfl (hd ⟨44, .guard⟩ (by simp) rfl)
    · simp only [List.getElem?_cons_zero, List.getElem?_cons_succ, Option.some.injEq] at hi
      subst hi
      exact wanted_yes (d := 51) rfl rfl (hd ⟨44, .guard⟩ (by simp) rfl)
    · simp only [List.getElem?_cons_zero, List.getElem?_cons_succ, Option.some.injEq] at hi
      subst hi
      exact wanted_yes (d := 51) rfl rfl (hd ⟨44, .guard⟩ (by simp) rfl)
    · simp only [List.getElem?_cons_zero, List.getElem?_cons_succ, Option.some.injEq] at hi
      subst hi
      exact wanted_yes (d := 51) rfl rfl (hd ⟨44, .guard⟩ (by simp) rfl)
    · simp only [List.getElem?_cons_zero, List.getElem?_cons_succ, Option.some.injEq] at hi
      subst hi
      exact wanted_yes (d := 51) rfl rfl (hd ⟨44, .guard⟩ (by simp) rfl)
    · simp only [List.getElem?_cons_zero, List.getElem?_cons_succ, Option.some.injEq] at hi
      subst hi
      exact wanted_yes (d := 51) rfl rfl (hd ⟨44, .guard⟩ (by simp) rfl)
    · simp only [List.getElem?_cons_zero, List.getElem?_cons_succ, Option.some.injEq] at hi
      subst hi
      exact wanted_yes (d := 51) rfl rfl (hd ⟨44, .guard⟩ (by simp) rfl)
    · simp only [List.getElem?_cons_zero, List.getElem?_cons_succ, Option.some.injEq] at hi
      subst hi
      exact wanted_none rfl
    · simp only [List.getElem?_cons_zero, List.getElem?_cons_succ, Option.some.injEq] at hi
      subst hi
      exact wanted_none rfl
    · simp at hi
  · intro i o a w' hi hb' he hd
    have e0 : a.eval (.tmp 0) = .pointer (some ⟨g, 0, none⟩) := hb'.outer 0 (by kernel_rfl)
    have e1 : a.eval (.tmp 1) = .pointer (some ⟨gr, 0, none⟩) := hb'.outer 1 (by kernel_rfl)
    have e2 : a.eval (.tmp 2) = .pointer (some ⟨d, 0, none⟩) := hb'.outer 2 (by kernel_rfl)
    rcases i with _ | _ | _ | _ | _ | _ | _ | _ | _ | _ | _ | _ | _ | _ | _ | _ | _ | _ | _ | _ | _ | _ | _ | _ | _ | _ | _ | _ | _ | _ | _ | _ | _ | _ | _ | _ | _ | _ | _ | _ | _ | _ | _ | _ | _ | _ | _ | _ | _ | _ | _ | _ | _ | _ | _ | _ | _ | _ | i
    · simp only [List.getElem?_cons_zero, List.getElem?_cons_succ, Option.some.injEq] at hi
      subst hi
      refine free_val (.pointer (some ⟨g, 0, none⟩)) w' ?_ (Ext.refl _) rfl (by simp)
      have ec : ∀ v, a.eval (.const v) = v := fun _ => rfl
      generalize a.eval = ρ at *
      simp [go_sem, ec, e0, hc64]
    · simp only [List.getElem?_cons_zero, List.getElem?_cons_succ, Option.some.injEq] at hi
      subst hi
      have h7 : a.eval (.tmp 7) = .pointer (some ⟨g, 0, none⟩) := hd ⟨0, .data⟩ (by simp) rfl
      refine free_call 10 #[.pointer (some ⟨g, 0, none⟩)] ?_ ((HSU.out w' he).mono (fun e w2 h => ⟨_, h.1, h.2, rfl⟩)) (by simp)
      have ec : ∀ v, a.eval (.const v) = v := fun _ => rfl
      have ef : ∀ f, a.eval (.func f) = .func (.func f) #[] #[] := fun _ => rfl
      generalize a.eval = ρ at *
      simp [go_sem, ef, ec, h7, hc64]
    · simp only [List.getElem?_cons_zero, List.getElem?_cons_succ, Option.some.injEq] at hi
      subst hi
      refine free_val (.pointer (some ⟨gr, 0, none⟩)) w' ?_ (Ext.refl _) rfl (by simp)
      have ec : ∀ v, a.eval (.const v) = v := fun _ => rfl
      generalize a.eval = ρ at *
      simp [go_sem, ec, e1, hc64]
    · simp only [List.getElem?_cons_zero, List.getElem?_cons_succ, Option.some.injEq] at hi
      subst hi
      have h9 : a.eval (.tmp 9) = .pointer (some ⟨gr, 0, none⟩) := hd ⟨2, .data⟩ (by simp) rfl
      refine free_val (.pointer (some ⟨gr, 0, none⟩)) w' ?_ (Ext.refl _) rfl (by simp)
      have ec : ∀ v, a.eval (.const v) = v := fun _ => rfl
      generalize a.eval = ρ at *
      simp [go_sem, ec, h9, hc64]
    · simp only [List.getElem?_cons_zero, List.getElem?_cons_succ, Option.some.injEq] at hi
      subst hi
      have h10 : a.eval (.tmp 10) = .pointer (some ⟨gr, 0, none⟩) := hd ⟨3, .data⟩ (by simp) rfl
      refine free_val (.pointer (some ⟨gr, 3, none⟩)) w' ?_ (Ext.refl _) rfl (by simp)
      have ec : ∀ v, a.eval (.const v) = v := fun _ => rfl
      generalize a.eval = ρ at *
      simp [go_sem, ec, h10, hc64]
    · simp only [List.getElem?_cons_zero, List.getElem?_cons_succ, Option.some.injEq] at hi
      subst hi
      have h11 : a.eval (.tmp 11) = .pointer (some ⟨gr, 3, none⟩) := hd ⟨4, .data⟩ (by simp) rfl
      refine free_val (.agg x.cells.toArray) w' ?_ (Ext.refl _) rfl (by simp)
      simp only [execOp, Instr.loadAt, h11, Instr.sureAddr, Sem.run_bind, Sem.run_pure, Result.andThen_ok, run_loadVar_mid w' gr 3 42 x.cells _ (HXR.out w' he) Tryz.underlying42 rfl HXI.out]
    · simp only [List.getElem?_cons_zero, List.getElem?_cons_succ, Option.some.injEq] at hi
      subst hi
      have h8 : a.eval (.tmp 8) = .agg x.cells.toArray := hd ⟨1, .data⟩ (by simp) rfl
      have h12 : a.eval (.tmp 12) = .agg x.cells.toArray := hd ⟨5, .data⟩ (by simp) rfl
      refine free_val (.bool true) w' ?_ (Ext.refl _) rfl (by simp)
      simp only [execOp, h8, h12, Sem.run_bind, sp_guard, Result.andThen_ok, sp_eql _ _ w' HX.out HX.out, Sem.run_pure]
      simp
    · simp only [List.getElem?_cons_zero, List.getElem?_cons_succ, Option.some.injEq] at hi
      subst hi
      have h13 : a.eval (.tmp 13) = .bool true := hd ⟨6, .data⟩ (by simp) rfl
      refine free_val (.bool true) w' ?_ (Ext.refl _) rfl (by simp)
      have ec : ∀ v, a.eval (.const v) = v := fun _ => rfl
      generalize a.eval = ρ at *
      simp [go_sem, ec, h13, hc64]
    · simp only [List.getElem?_cons_zero, List.getElem?_cons_succ, Option.some.injEq] at hi
      subst hi
      refine free_val (.pointer (some ⟨g, 0, none⟩)) w' ?_ (Ext.refl _) rfl (by simp)
      have ec : ∀ v, a.eval (.const v) = v := fun _ => rfl
      generalize a.eval = ρ at *
      simp [go_sem, ec, e0, hc64]
    · simp only [List.getElem?_cons_zero, List.getElem?_cons_succ, Option.some.injEq] at hi
      subst hi
      have h15 : a.eval (.tmp 15) = .pointer (some ⟨g, 0, none⟩) := hd ⟨8, .data⟩ (by simp) rfl
      refine free_call 9 #[.pointer (some ⟨g, 0, none⟩)] ?_ ((HNX.out w' he).mono (fun e w2 h => ⟨_, h.1, h.2, rfl⟩)) (by simp)
      have ec : ∀ v, a.eval (.const v) = v := fun _ => rfl
      have ef : ∀ f, a.eval (.func f) = .func (.func f) #[] #[] := fun _ => rfl
      generalize a.eval = ρ at *
      simp [go_sem, ef, ec, h15, hc64]
    · simp only [List.getElem?_cons_zero, List.getElem?_cons_succ, Option.some.injEq] at hi
      subst hi
      refine free_val (.pointer (some ⟨gr, 0, none⟩)) w' ?_ (Ext.refl _) rfl (by simp)
      have ec : ∀ v, a.eval (.const v) = v := fun _ => rfl
      generalize a.eval = ρ at *
      simp [go_sem, ec, e1, hc64]
    · simp only [List.getElem?_cons_zero, List.getElem?_cons_succ, Option.some.injEq] at hi
      subst hi
      have h17 : a.eval (.tmp 17) = .pointer (some ⟨gr, 0, none⟩) := hd ⟨10, .data⟩ (by simp) rfl
      refine free_val (.pointer (some ⟨gr, 0, none⟩)) w' ?_ (Ext.refl _) rfl (by simp)
      have ec : ∀ v, a.eval (.const v) = v := fun _ => rfl
      generalize a.eval = ρ at *
      simp [go_sem, ec, h17, hc64]
    · simp only [List.getElem?_cons_zero, List.getElem?_cons_succ, Option.some.injEq] at hi
      subst hi
      have h18 : a.eval (.tmp 18) = .pointer (some ⟨gr, 0, none⟩) := hd ⟨11, .data⟩ (by simp) rfl
      refine free_val (.pointer (some ⟨gr, 107, none⟩)) w' ?_ (Ext.refl _) rfl (by simp)
      have ec : ∀ v, a.eval (.const v) = v := fun _ => rfl
      generalize a.eval = ρ at *
      simp [go_sem, ec, h18, hc64]
    · simp only [List.getElem?_cons_zero, List.getElem?_cons_succ, Option.some.injEq] at hi
      subst hi
      have h19 : a.eval (.tmp 19) = .pointer (some ⟨gr, 107, none⟩) := hd ⟨12, .data⟩ (by simp) rfl
      have cc := HC107.out w' he
      refine free_val (.int .u64 x.next) w' ?_ (Ext.refl _) rfl (by simp)
      have ec : ∀ v, a.eval (.const v) = v := fun _ => rfl
      generalize a.eval = ρ at *
      simp [go_sem, ec, h19, cc, hc64]
    · simp only [List.getElem?_cons_zero, List.getElem?_cons_succ, Option.some.injEq] at hi
      subst hi
      have h16 : a.eval (.tmp 16) = .int .u64 x.next := hd ⟨9, .data⟩ (by simp) rfl
      have h20 : a.eval (.tmp 20) = .int .u64 x.next := hd ⟨13, .data⟩ (by simp) rfl
      refine free_val (.bool true) w' ?_ (Ext.refl _) rfl (by simp)
      have ec : ∀ v, a.eval (.const v) = v := fun _ => rfl
      generalize a.eval = ρ at *
      simp [go_sem, ec, h16, h20, hc64]
    · simp only [List.getElem?_cons_zero, List.getElem?_cons_succ, Option.some.injEq] at hi
      subst hi
      have h14 : a.eval (.tmp 14) = .bool true := hd ⟨7, .data⟩ (by simp) rfl
      have h21 : a.eval (.tmp 21) = .bool true := hd ⟨14, .data⟩ (by simp) rfl
      refine free_val (.bool true) w' ?_ (Ext.refl _) rfl (by simp)
      have ec : ∀ v, a.eval (.const v) = v := fun _ => rfl
      generalize a.eval = ρ at *
      simp [go_sem, ec, h14, h21, hc64]
    · simp only [List.getElem?_cons_zero, List.getElem?_cons_succ, Option.some.injEq] at hi
      subst hi
      have h22 : a.eval (.tmp 22) = .bool true := hd ⟨15, .data⟩ (by simp) rfl
      refine free_val (.bool true) w' ?_ (Ext.refl _) rfl (by simp)
      have ec : ∀ v, a.eval (.const v) = v := fun _ => rfl
      generalize a.eval = ρ at *
      simp [go_sem, ec, h22, hc64]
    · simp only [List.getElem?_cons_zero, List.getElem?_cons_succ, Option.some.injEq] at hi
      subst hi
      refine free_val (.pointer (some ⟨g, 0, none⟩)) w' ?_ (Ext.refl _) rfl (by simp)
      have ec : ∀ v, a.eval (.const v) = v := fun _ => rfl
      generalize a.eval = ρ at *
      simp [go_sem, ec, e0, hc64]
    · simp only [List.getElem?_cons_zero, List.getElem?_cons_succ, Option.some.injEq] at hi
      subst hi
      have h24 : a.eval (.tmp 24) = .pointer (some ⟨g, 0, none⟩) := hd ⟨17, .data⟩ (by simp) rfl
      refine free_call 31 #[.pointer (some ⟨g, 0, none⟩)] ?_ ((HDN.out w' he).mono (fun e w2 h => ⟨_, h.1, h.2, rfl⟩)) (by simp)
      have ec : ∀ v, a.eval (.const v) = v := fun _ => rfl
      have ef : ∀ f, a.eval (.func f) = .func (.func f) #[] #[] := fun _ => rfl
      generalize a.eval = ρ at *
      simp [go_sem, ef, ec, h24, hc64]
    · simp only [List.getElem?_cons_zero, List.getElem?_cons_succ, Option.some.injEq] at hi
      subst hi
      refine free_val (.pointer (some ⟨gr, 0, none⟩)) w' ?_ (Ext.refl _) rfl (by simp)
      have ec : ∀ v, a.eval (.const v) = v := fun _ => rfl
      generalize a.eval = ρ at *
      simp [go_sem, ec, e1, hc64]
    · simp only [List.getElem?_cons_zero, List.getElem?_cons_succ, Option.some.injEq] at hi
      subst hi
      have h26 : a.eval (.tmp 26) = .pointer (some ⟨gr, 0, none⟩) := hd ⟨19, .data⟩ (by simp) rfl
      refine free_val (.pointer (some ⟨gr, 0, none⟩)) w' ?_ (Ext.refl _) rfl (by simp)
      have ec : ∀ v, a.eval (.const v) = v := fun _ => rfl
      generalize a.eval = ρ at *
      simp [go_sem, ec, h26, hc64]
    · simp only [List.getElem?_cons_zero, List.getElem?_cons_succ, Option.some.injEq] at hi
      subst hi
      have h27 : a.eval (.tmp 27) = .pointer (some ⟨gr, 0, none⟩) := hd ⟨20, .data⟩ (by simp) rfl
      refine free_val (.pointer (some ⟨gr, 108, none⟩)) w' ?_ (Ext.refl _) rfl (by simp)
      have ec : ∀ v, a.eval (.const v) = v := fun _ => rfl
      generalize a.eval = ρ at *
      simp [go_sem, ec, h27, hc64]
    · simp only [List.getElem?_cons_zero, List.getElem?_cons_succ, Option.some.injEq] at hi
      subst hi
      have h28 : a.eval (.tmp 28) = .pointer (some ⟨gr, 108, none⟩) := hd ⟨21, .data⟩ (by simp) rfl
      have cc := HC108.out w' he
      refine free_val (.bool false) w' ?_ (Ext.refl _) rfl (by simp)
      have ec : ∀ v, a.eval (.const v) = v := fun _ => rfl
      generalize a.eval = ρ at *
      simp [go_sem, ec, h28, cc, hc64]
    · simp only [List.getElem?_cons_zero, List.getElem?_cons_succ, Option.some.injEq] at hi
      subst hi
      have h25 : a.eval (.tmp 25) = .bool false := hd ⟨18, .data⟩ (by simp) rfl
      have h29 : a.eval (.tmp 29) = .bool false := hd ⟨22, .data⟩ (by simp) rfl
      refine free_val (.bool true) w' ?_ (Ext.refl _) rfl (by simp)
      have ec : ∀ v, a.eval (.const v) = v := fun _ => rfl
      generalize a.eval = ρ at *
      simp [go_sem, ec, h25, h29, hc64]
    · simp only [List.getElem?_cons_zero, List.getElem?_cons_succ, Option.some.injEq] at hi
      subst hi
      have h23 : a.eval (.tmp 23) = .bool true := hd ⟨16, .data⟩ (by simp) rfl
      have h30 : a.eval (.tmp 30) = .bool true := hd ⟨23, .data⟩ (by simp) rfl
      refine free_val (.bool true) w' ?_ (Ext.refl _) rfl (by simp)
      have ec : ∀ v, a.eval (.const v) = v := fun _ => rfl
      generalize a.eval = ρ at *
      simp [go_sem, ec, h23, h30, hc64]
    · simp only [List.getElem?_cons_zero, List.getElem?_cons_succ, Option.some.injEq] at hi
      subst hi
      have h31 : a.eval (.tmp 31) = .bool true := hd ⟨24, .data⟩ (by simp) rfl
      refine free_val (.bool true) w' ?_ (Ext.refl _) rfl (by simp)
      have ec : ∀ v, a.eval (.const v) = v := fun _ => rfl
      generalize a.eval = ρ at *
      simp [go_sem, ec, h31, hc64]
    · simp only [List.getElem?_cons_zero, List.getElem?_cons_succ, Option.some.injEq] at hi
      subst hi
      refine free_val (.pointer (some ⟨g, 0, none⟩)) w' ?_ (Ext.refl _) rfl (by simp)
      have ec : ∀ v, a.eval (.const v) = v := fun _ => rfl
      generalize a.eval = ρ at *
      simp [go_sem, ec, e0, hc64]
    · simp only [List.getElem?_cons_zero, List.getElem?_cons_succ, Option.some.injEq] at hi
      subst hi
      have h33 : a.eval (.tmp 33) = .pointer (some ⟨g, 0, none⟩) := hd ⟨26, .data⟩ (by simp) rfl
      refine free_call 48 #[.pointer (some ⟨g, 0, none⟩)] ?_ ((HHE.out w' he).mono (fun e w2 h => by obtain ⟨gg, c', h1, h2, h3⟩ := h; exact ⟨_, h1, h3, gg, c', rfl, h2⟩)) (by simp)
      have ec : ∀ v, a.eval (.const v) = v := fun _ => rfl
      have ef : ∀ f, a.eval (.func f) = .func (.func f) #[] #[] := fun _ => rfl
      generalize a.eval = ρ at *
      simp [go_sem, ef, ec, h33, hc64]
    · simp only [List.getElem?_cons_zero, List.getElem?_cons_succ, Option.some.injEq] at hi
      subst hi
      refine free_val (.pointer (some ⟨gr, 0, none⟩)) w' ?_ (Ext.refl _) rfl (by simp)
      have ec : ∀ v, a.eval (.const v) = v := fun _ => rfl
      generalize a.eval = ρ at *
      simp [go_sem, ec, e1, hc64]
    · simp only [List.getElem?_cons_zero, List.getElem?_cons_succ, Option.some.injEq] at hi
      subst hi
      have h35 : a.eval (.tmp 35) = .pointer (some ⟨gr, 0, none⟩) := hd ⟨28, .data⟩ (by simp) rfl
      refine free_val (.pointer (some ⟨gr, 0, none⟩)) w' ?_ (Ext.refl _) rfl (by simp)
      have ec : ∀ v, a.eval (.const v) = v := fun _ => rfl
      generalize a.eval = ρ at *
      simp [go_sem, ec, h35, hc64]
    · simp only [List.getElem?_cons_zero, List.getElem?_cons_succ, Option.some.injEq] at hi
      subst hi
      have h36 : a.eval (.tmp 36) = .pointer (some ⟨gr, 0, none⟩) := hd ⟨29, .data⟩ (by simp) rfl
      refine free_val (.pointer (some ⟨gr, 73, none⟩)) w' ?_ (Ext.refl _) rfl (by simp)
      have ec : ∀ v, a.eval (.const v) = v := fun _ => rfl
      generalize a.eval = ρ at *
      simp [go_sem, ec, h36, hc64]
    · simp only [List.getElem?_cons_zero, List.getElem?_cons_succ, Option.some.injEq] at hi
      subst hi
      have h37 : a.eval (.tmp 37) = .pointer (some ⟨gr, 73, none⟩) := hd ⟨30, .data⟩ (by simp) rfl
      have cc := HC73.out w' he
      refine free_val (.slice (some ⟨hb, 0, none⟩) n c) w' ?_ (Ext.refl _) rfl (by simp)
      have ec : ∀ v, a.eval (.const v) = v := fun _ => rfl
      generalize a.eval = ρ at *
      simp [go_sem, ec, h37, cc, hc64]
    · simp only [List.getElem?_cons_zero, List.getElem?_cons_succ, Option.some.injEq] at hi
      subst hi
      obtain ⟨gg, c', h34, b34⟩ := hd ⟨27, .data⟩ (by simp) rfl
      have h34 : a.eval (.tmp 34) = .slice (some ⟨gg, 0, none⟩) n c' := h34
      have h38 : a.eval (.tmp 38) = .slice (some ⟨hb, 0, none⟩) n c := hd ⟨31, .data⟩ (by simp) rfl
      refine free_call 47 #[.slice (some ⟨gg, 0, none⟩) n c', .slice (some ⟨hb, 0, none⟩) n c] ?_ ((HSM.out w' he gg c' b34).mono (fun e w2 h => ⟨_, h.1, h.2, rfl⟩)) (by simp)
      have ec : ∀ v, a.eval (.const v) = v := fun _ => rfl
      have ef : ∀ f, a.eval (.func f) = .func (.func f) #[] #[] := fun _ => rfl
      generalize a.eval = ρ at *
      simp [go_sem, ef, ec, h34, h38, hc64]
    · simp only [List.getElem?_cons_zero, List.getElem?_cons_succ, Option.some.injEq] at hi
      subst hi
      have h32 : a.eval (.tmp 32) = .bool true := hd ⟨25, .data⟩ (by simp) rfl
      have h39 : a.eval (.tmp 39) = .bool true := hd ⟨32, .data⟩ (by simp) rfl
      refine free_val (.bool true) w' ?_ (Ext.refl _) rfl (by simp)
      have ec : ∀ v, a.eval (.const v) = v := fun _ => rfl
      generalize a.eval = ρ at *
      simp [go_sem, ec, h32, h39, hc64]
    · simp only [List.getElem?_cons_zero, List.getElem?_cons_succ, Option.some.injEq] at hi
      subst hi
      have h40 : a.eval (.tmp 40) = .bool true := hd ⟨33, .data⟩ (by simp) rfl
      refine free_val (.bool true) w' ?_ (Ext.refl _) rfl (by simp)
      have ec : ∀ v, a.eval (.const v) = v := fun _ => rfl
      generalize a.eval = ρ at *
      simp [go_sem, ec, h40, hc64]
    · simp only [List.getElem?_cons_zero, List.getElem?_cons_succ, Option.some.injEq] at hi
      subst hi
      refine free_val (.pointer (some ⟨d, 0, none⟩)) w' ?_ (Ext.refl _) rfl (by simp)
      have ec : ∀ v, a.eval (.const v) = v := fun _ => rfl
      generalize a.eval = ρ at *
      simp [go_sem, ec, e2, hc64]
    · simp only [List.getElem?_cons_zero, List.getElem?_cons_succ, Option.some.injEq] at hi
      subst hi
      have h42 : a.eval (.tmp 42) = .pointer (some ⟨d, 0, none⟩) := hd ⟨35, .data⟩ (by simp) rfl
      refine free_call 11 #[.pointer (some ⟨d, 0, none⟩)] ?_ ((HIM.out w' he).mono (fun e w2 h => ⟨_, h.1, h.2, rfl⟩)) (by simp)
      have ec : ∀ v, a.eval (.const v) = v := fun _ => rfl
      have ef : ∀ f, a.eval (.func f) = .func (.func f) #[] #[] := fun _ => rfl
      generalize a.eval = ρ at *
      simp [go_sem, ef, ec, h42, hc64]
    · simp only [List.getElem?_cons_zero, List.getElem?_cons_succ, Option.some.injEq] at hi
      subst hi
      refine free_val (.pointer (some ⟨gr, 0, none⟩)) w' ?_ (Ext.refl _) rfl (by simp)
      have ec : ∀ v, a.eval (.const v) = v := fun _ => rfl
      generalize a.eval = ρ at *
      simp [go_sem, ec, e1, hc64]
    · simp only [List.getElem?_cons_zero, List.getElem?_cons_succ, Option.some.injEq] at hi
      subst hi
      have h44 : a.eval (.tmp 44) = .pointer (some ⟨gr, 0, none⟩) := hd ⟨37, .data⟩ (by simp) rfl
      refine free_val (.pointer (some ⟨gr, 0, none⟩)) w' ?_ (Ext.refl _) rfl (by simp)
      have ec : ∀ v, a.eval (.const v) = v := fun _ => rfl
      generalize a.eval = ρ at *
      simp [go_sem, ec, h44, hc64]
    · simp only [List.getElem?_cons_zero, List.getElem?_cons_succ, Option.some.injEq] at hi
      subst hi
      have h45 : a.eval (.tmp 45) = .pointer (some ⟨gr, 0, none⟩) := hd ⟨38, .data⟩ (by simp) rfl
      refine free_val (.pointer (some ⟨gr, 0, none⟩)) w' ?_ (Ext.refl _) rfl (by simp)
      have ec : ∀ v, a.eval (.const v) = v := fun _ => rfl
      generalize a.eval = ρ at *
      simp [go_sem, ec, h45, hc64]
    · simp only [List.getElem?_cons_zero, List.getElem?_cons_succ, Option.some.injEq] at hi
      subst hi
      have h46 : a.eval (.tmp 46) = .pointer (some ⟨gr, 0, none⟩) := hd ⟨39, .data⟩ (by simp) rfl
      have cc := HC0.out w' he
      refine free_val (.pointer (some ⟨r, 0, none⟩)) w' ?_ (Ext.refl _) rfl (by simp)
      have ec : ∀ v, a.eval (.const v) = v := fun _ => rfl
      generalize a.eval = ρ at *
      simp [go_sem, ec, h46, cc, hc64]
    · simp only [List.getElem?_cons_zero, List.getElem?_cons_succ, Option.some.injEq] at hi
      subst hi
      have h47 : a.eval (.tmp 47) = .pointer (some ⟨r, 0, none⟩) := hd ⟨40, .data⟩ (by simp) rfl
      refine free_call 49 #[.pointer (some ⟨r, 0, none⟩)] ?_ ((HRI.out w' he).mono (fun e w2 h => ⟨_, h.1, h.2, rfl⟩)) (by simp)
      have ec : ∀ v, a.eval (.const v) = v := fun _ => rfl
      have ef : ∀ f, a.eval (.func f) = .func (.func f) #[] #[] := fun _ => rfl
      generalize a.eval = ρ at *
      simp [go_sem, ef, ec, h47, hc64]
    · simp only [List.getElem?_cons_zero, List.getElem?_cons_succ, Option.some.injEq] at hi
      subst hi
      have h43 : a.eval (.tmp 43) = .string S := hd ⟨36, .data⟩ (by simp) rfl
      have h48 : a.eval (.tmp 48) = .string S := hd ⟨41, .data⟩ (by simp) rfl
      refine free_val (.bool true) w' ?_ (Ext.refl _) rfl (by simp)
      have ec : ∀ v, a.eval (.const v) = v := fun _ => rfl
      generalize a.eval = ρ at *
      simp [go_sem, ec, h43, h48, hc64]
    · simp only [List.getElem?_cons_zero, List.getElem?_cons_succ, Option.some.injEq] at hi
      subst hi
      have h41 : a.eval (.tmp 41) = .bool true := hd ⟨34, .data⟩ (by simp) rfl
      have h49 : a.eval (.tmp 49) = .bool true := hd ⟨42, .data⟩ (by simp) rfl
      refine free_val (.bool true) w' ?_ (Ext.refl _) rfl (by simp)
      have ec : ∀ v, a.eval (.const v) = v := fun _ => rfl
      generalize a.eval = ρ at *
      simp [go_sem, ec, h41, h49, hc64]
    · simp only [List.getElem?_cons_zero, List.getElem?_cons_succ, Option.some.injEq] at hi
      subst hi
      have h50 : a.eval (.tmp 50) = .bool true := hd ⟨43, .data⟩ (by simp) rfl
      refine free_val (.bool true) w' ?_ (Ext.refl _) rfl (by simp)
      have ec : ∀ v, a.eval (.const v) = v := fun _ => rfl
      generalize a.eval = ρ at *
      simp [go_sem, ec, h50, hc64]
    · simp only [List.getElem?_cons_zero, List.getElem?_cons_succ, Option.some.injEq] at hi
      subst hi
      refine free_val (.pointer (some ⟨d, 0, none⟩)) w' ?_ (Ext.refl _) rfl (by simp)
      have ec : ∀ v, a.eval (.const v) = v := fun _ => rfl
      generalize a.eval = ρ at *
      simp [go_sem, ec, e2, hc64]
    · simp only [List.getElem?_cons_zero, List.getElem?_cons_succ, Option.some.injEq] at hi
      subst hi
      have h52 : a.eval (.tmp 52) = .pointer (some ⟨d, 0, none⟩) := hd ⟨45, .data⟩ (by simp) rfl
      refine free_call 12 #[.pointer (some ⟨d, 0, none⟩)] ?_ ((HPE.out w' he).mono (fun e w2 h => ⟨_, h.1, h.2, rfl⟩)) (by simp)
      have ec : ∀ v, a.eval (.const v) = v := fun _ => rfl
      have ef : ∀ f, a.eval (.func f) = .func (.func f) #[] #[] := fun _ => rfl
      generalize a.eval = ρ at *
      simp [go_sem, ef, ec, h52, hc64]
    · simp only [List.getElem?_cons_zero, List.getElem?_cons_succ, Option.some.injEq] at hi
      subst hi
      refine free_val (.pointer (some ⟨gr, 0, none⟩)) w' ?_ (Ext.refl _) rfl (by simp)
      have ec : ∀ v, a.eval (.const v) = v := fun _ => rfl
      generalize a.eval = ρ at *
      simp [go_sem, ec, e1, hc64]
    · simp only [List.getElem?_cons_zero, List.getElem?_cons_succ, Option.some.injEq] at hi
      subst hi
      have h54 : a.eval (.tmp 54) = .pointer (some ⟨gr, 0, none⟩) := hd ⟨47, .data⟩ (by simp) rfl
      refine free_val (.pointer (some ⟨gr, 0, none⟩)) w' ?_ (Ext.refl _) rfl (by simp)
      have ec : ∀ v, a.eval (.const v) = v := fun _ => rfl
      generalize a.eval = ρ at *
      simp [go_sem, ec, h54, hc64]
    · simp only [List.getElem?_cons_zero, List.getElem?_cons_succ, Option.some.injEq] at hi
      subst hi
      have h55 : a.eval (.tmp 55) = .pointer (some ⟨gr, 0, none⟩) := hd ⟨48, .data⟩ (by simp) rfl
      refine free_val (.pointer (some ⟨gr, 0, none⟩)) w' ?_ (Ext.refl _) rfl (by simp)
      have ec : ∀ v, a.eval (.const v) = v := fun _ => rfl
      generalize a.eval = ρ at *
      simp [go_sem, ec, h55, hc64]
    · simp only [List.getElem?_cons_zero, List.getElem?_cons_succ, Option.some.injEq] at hi
      subst hi
      have h56 : a.eval (.tmp 56) = .pointer (some ⟨gr, 0, none⟩) := hd ⟨49, .data⟩ (by simp) rfl
      have cc := HC0.out w' he
      refine free_val (.pointer (some ⟨r, 0, none⟩)) w' ?_ (Ext.refl _) rfl (by simp)
      have ec : ∀ v, a.eval (.const v) = v := fun _ => rfl
      generalize a.eval = ρ at *
      simp [go_sem, ec, h56, cc, hc64]
    · simp only [List.getElem?_cons_zero, List.getElem?_cons_succ, Option.some.injEq] at hi
      subst hi
      have h57 : a.eval (.tmp 57) = .pointer (some ⟨r, 0, none⟩) := hd ⟨50, .data⟩ (by simp) rfl
      refine free_val (.pointer (some ⟨r, 0, none⟩)) w' ?_ (Ext.refl _) rfl (by simp)
      have ec : ∀ v, a.eval (.const v) = v := fun _ => rfl
      generalize a.eval = ρ at *
      simp [go_sem, ec, h57, hc64]
    · simp only [List.getElem?_cons_zero, List.getElem?_cons_succ, Option.some.injEq] at hi
      subst hi
      have h58 : a.eval (.tmp 58) = .pointer (some ⟨r, 0, none⟩) := hd ⟨51, .data⟩ (by simp) rfl
      refine free_val (.pointer (some ⟨r, 3, none⟩)) w' ?_ (Ext.refl _) rfl (by simp)
      have ec : ∀ v, a.eval (.const v) = v := fun _ => rfl
      generalize a.eval = ρ at *
      simp [go_sem, ec, h58, hc64]
    · simp only [List.getElem?_cons_zero, List.getElem?_cons_succ, Option.some.injEq] at hi
      subst hi
      have h59 : a.eval (.tmp 59) = .pointer (some ⟨r, 3, none⟩) := hd ⟨52, .data⟩ (by simp) rfl
      have cc := HCR.out w' he
      refine free_val (.slice none 0 0) w' ?_ (Ext.refl _) rfl (by simp)
      have ec : ∀ v, a.eval (.const v) = v := fun _ => rfl
      generalize a.eval = ρ at *
      simp [go_sem, ec, h59, cc, hc64]
    · simp only [List.getElem?_cons_zero, List.getElem?_cons_succ, Option.some.injEq] at hi
      subst hi
      have h60 : a.eval (.tmp 60) = .slice none 0 0 := hd ⟨53, .data⟩ (by simp) rfl
      refine free_val (.int .i64 0) w' ?_ (Ext.refl _) rfl (by simp)
      have ec : ∀ v, a.eval (.const v) = v := fun _ => rfl
      generalize a.eval = ρ at *
      simp [go_sem, ec, h60, hc64]
    · simp only [List.getElem?_cons_zero, List.getElem?_cons_succ, Option.some.injEq] at hi
      subst hi
      have h53 : a.eval (.tmp 53) = .int .i64 0 := hd ⟨46, .data⟩ (by simp) rfl
      have h61 : a.eval (.tmp 61) = .int .i64 0 := hd ⟨54, .data⟩ (by simp) rfl
      refine free_val (.bool true) w' ?_ (Ext.refl _) rfl (by simp)
      have ec : ∀ v, a.eval (.const v) = v := fun _ => rfl
      generalize a.eval = ρ at *
      simp [go_sem, ec, h53, h61, hc64]
    · simp only [List.getElem?_cons_zero, List.getElem?_cons_succ, Option.some.injEq] at hi
      subst hi
      have h51 : a.eval (.tmp 51) = .bool true := hd ⟨44, .data⟩ (by simp) rfl
      have h62 : a.eval (.tmp 62) = .bool true := hd ⟨55, .data⟩ (by simp) rfl
      refine free_val (.bool true) w' ?_ (Ext.refl _) rfl (by simp)
      have ec : ∀ v, a.eval (.const v) = v := fun _ => rfl
      generalize a.eval = ρ at *
      simp [go_sem, ec, h51, h62, hc64]
    · simp only [List.getElem?_cons_zero, List.getElem?_cons_succ, Option.some.injEq] at hi
      subst hi
      have h63 : a.eval (.tmp 63) = .bool true := hd ⟨56, .data⟩ (by simp) rfl
      refine free_val (.bool true) w' ?_ (Ext.refl _) rfl (by simp)
      have ec : ∀ v, a.eval (.const v) = v := fun _ => rfl
      generalize a.eval = ρ at *
      simp [go_sem, ec, h63, hc64]
    · simp at hi
  · intro a w3 hb' hE3 hA
    have h6 : a.eval (.tmp 6) = .bool true := hA 57 (by decide)
    have HE := Lib.hid hE3
    rw [act_lit (n := 64) hb'.size, hb'.defers]
    simp only [show List.range 64 = [0, 1, 2, 3, 4, 5, 6, 7, 8, 9, 10, 11, 12, 13, 14, 15, 16, 17, 18, 19, 20, 21, 22, 23, 24, 25, 26, 27, 28, 29, 30, 31, 32, 33, 34, 35, 36, 37, 38, 39, 40, 41, 42, 43, 44, 45, 46, 47, 48, 49, 50, 51, 52, 53, 54, 55, 56, 57, 58, 59, 60, 61, 62, 63] from rfl, List.map_cons, List.map_nil, h6]
    clear hA hb' h6 hE3
    generalize a.eval = ρ
    go_wp2_with fail
    go_ret
    exact ⟨rfl, HE.out⟩
end Go.Proofs.YtnkebhlkhpgghaaGreatDoor
/- The law SeglogResumes: the walk. WRITTEN by wip/tools/gen_rsms.py. -/
namespace Go.Proofs.YtnkebhlkhpgghaaGreatDoor
open Go Go.RowKit Go.Deep Go.Sort

theorem rlog_ext {w w' : World} {g r p s : Nat} {x : Sp} {hs : List Hd} (h : RLog w g r p s x hs) (e : Ext w w') : RLog w' g r p s x hs := by
  obtain ⟨hb, c', h1, h2⟩ := h
  exact ⟨hb, c', h1.ext e, h2.ext e⟩
theorem rresA_any {r n0 z : Nat} (p s : Nat) (x : Sp) (A : Option Addr) (c : Nat) (hs : List Hd) (w : World) (hx : x.In) (hi : ∀ h ∈ hs, h.In) (hl : hs.length ≤ 100) (hS : HdS w A hs) (hR : RefB w r n0 z) (hn0 : n0 ≤ 4096) (hf : fits (Dk.new n0 z) p s = true) (hcap : p * z ≤ 90000) :
    Calls Tryz.prog 18 #[.pointer (some ⟨r, 0, none⟩), .agg #[.int .i64 p, .int .i64 s], .agg x.cells.toArray, .slice A hs.length c] w (RRes w r p s z x hs) := by
  by_cases h : hs.length < 1 ∨ s < hs.length ∨ x.en < 64 ∨ ((p * z : Nat) : Int) < x.en
  · refine (rresShort_any p s x A c hs w hx hl hR hn0 hf hcap h).mono ?_
    rintro e w' ⟨he, hE⟩
    refine .inl ⟨?_, he, hE⟩
    cases hr : rsm p s z x hs with
    | false => rfl
    | true =>
      simp only [rsm, ← Int.natCast_mul, Bool.and_eq_true, decide_eq_true_eq] at hr
      obtain ⟨⟨hlk, h64⟩, hle⟩ := hr
      have hL : Lnk s x hs := by simpa [lnk] using hlk
      have h1 := hL.l1
      have h2 := hL.l2
      omega
  · have h1 : 1 ≤ hs.length := by omega
    obtain ⟨f, hf0⟩ : ∃ f, hs[0]? = some f := ⟨_, List.getElem?_eq_getElem h1⟩
    obtain ⟨hb, ho, rfl, _⟩ := hS 0 f hf0
    exact rresLong_any p s x hb ho c hs w hx hi hl hS hR hn0 hf hcap h1 (by omega) (by omega) (by omega)
set_option maxRecDepth 8000 in
set_option maxHeartbeats 6400000 in
theorem resumes_any (many size per segs : Int) (x : Sp) (A : Option Addr) (c : Nat) (hs : List Hd) (w : World) (hT : Tab w) (hx : x.In) (hi : ∀ h ∈ hs, h.In) (hc : hs.length ≤ c) (hc2 : c ≤ 9223372036854775807) (hS : HdS w A hs) :
    Calls Tryz.prog 4 #[.int .i64 many, .int .i64 size, .agg #[.int .i64 per, .int .i64 segs], .agg x.cells.toArray, .slice A hs.length c] w (Ret (.bool true) w) := by
  have HLG := Lib.hid (fun w' (e : Ext w w') => logged_any w' (hT.ext e))
  have HI := Lib.hid sh_info
  have HX := Lib.hid hx
  have HXI := Lib.hid (sp_infoOf hx)
  obtain ⟨w1, hw1⟩ : ∃ w1, w1 = (w.alloc (.cells #[.int .i64 per, .int .i64 segs] 23)).alloc (.cells x.cells.toArray 42) := ⟨_, rfl⟩
  have HE1 := Lib.hid (show Ext w w1 from by rw [hw1]; exact ((Ext.refl w).alloc _).alloc _)
  have HS1 := Lib.hid (show Blk w1 w.heap.size 23 #[.int .i64 per, .int .i64 segs] from by rw [hw1]; exact (Blk.new _ _ _).alloc _)
  have HX1 := Lib.hid (show Blk w1 (w.heap.size + 1) 42 x.cells.toArray from by rw [hw1]; exact Blk.new' (by simp))
  have HH := Lib.hid (And.intro hi (And.intro hc (And.intro hc2 hS)))
  have G0a := Lib.hid True.intro
  have G0b := Lib.hid True.intro
  have G1a := Lib.hid True.intro
  have G1b := Lib.hid True.intro
  obtain ⟨n, hn⟩ : ∃ n, n = hs.length := ⟨_, rfl⟩
  clear hT hx hi hc hc2 hS
  rw [← hn]
  have HN := Lib.hid hn
  clear hn
  by_cases h40 : (40 : Int) < many
  · rw [hw1] at HE1
    clear hw1
    go_enter Tryz.func4, Tryz.ntmps4
    go_wp2_with fail
    go_ret
    exact ⟨rfl, HE1.out⟩
  · by_cases h100 : (100 : Int) < n
    · rw [hw1] at HE1
      clear hw1
      go_enter Tryz.func4, Tryz.ntmps4
      go_wp2_with fail
      go_ret
      exact ⟨rfl, HE1.out⟩
    · have hl : hs.length ≤ 100 := by rw [← HN.out]; omega
      have HHL := Lib.hid hl
      clear hl
      by_cases hnew : newOk many size = true
      · obtain ⟨n0, rfl⟩ : ∃ n0 : Nat, many = n0 := ⟨many.toNat, by simp only [newOk, Bool.and_eq_true, decide_eq_true_eq] at hnew; omega⟩
        obtain ⟨z, rfl⟩ : ∃ z : Nat, size = z := ⟨size.toNat, by simp only [newOk, Bool.and_eq_true, decide_eq_true_eq] at hnew; omega⟩
        have HNW := Lib.hid hnew
        have HNN := Lib.hid (show n0 ≤ 4096 from by omega)
        have HNZ := Lib.hid (show z ≤ 1024 from by simp only [newOk, Bool.and_eq_true, decide_eq_true_eq] at hnew; omega)
        clear hnew
        rcases hf : fits (Dk.new n0 z) per segs with _ | _
        · have HFT := Lib.hid hf
          clear hf
          go_enter Tryz.func4, Tryz.ntmps4
          go_wp2_with (first | (have hg := HS1; rw [← hw1]; clear hw1) | (go_at_call 6; refine (newYes_any n0 z _ HNW.out).mono ?_; rintro e w2 ⟨F, d, rfl, hD2, hE2, hF2⟩; have HD2 := Lib.hid hD2; have HE2 := Lib.hid (HE1.out.trans hE2); have HS2 := Lib.hid (HS1.out.ext hE2); have HX2 := Lib.hid (HX1.out.ext hE2); clear hD2 hE2 hF2) | (go_at_call 16; refine (refNewYes_any n0 z _ HNW.out).mono ?_; rintro e w3 ⟨r, rfl, hR3, hE3⟩; have HR3 := Lib.hid hR3; have HD3 := Lib.hid (HD2.out.ext hE3); have HE3 := Lib.hid (HE2.out.trans hE3); have HS3 := Lib.hid (HS2.out.ext hE3); have HX3 := Lib.hid (HX2.out.ext hE3); clear hR3 hE3) | (have hg := HS3; clear G0a; refine wpList_load_blk rfl 23 (.tmp 7) rfl w.heap.size 23 [.int .i64 per, .int .i64 segs] rfl HS3.out _ Tryz.underlying23 rfl HI.out ?_) | (have hg := HX3; clear G0b; refine wpList_load_blk rfl 42 (.tmp 8) rfl (w.heap.size + 1) 42 x.cells rfl HX3.out _ Tryz.underlying42 rfl HXI.out ?_) | (go_at_call 17; refine (resumeNo_any per segs x A n c _ HX.out HD3.out HFT.out).mono ?_; rintro e w4 ⟨rfl, hE4⟩; have HE4 := Lib.hid (HE3.out.trans hE4); have HS4 := Lib.hid (HS3.out.ext hE4); have HX4 := Lib.hid (HX3.out.ext hE4); have HR4 := Lib.hid (HR3.out.ext hE4); clear hE4) | (have hg := HS4; clear G1a; refine wpList_load_blk rfl 23 (.tmp 7) rfl w.heap.size 23 [.int .i64 per, .int .i64 segs] rfl HS4.out _ Tryz.underlying23 rfl HI.out ?_) | (have hg := HX4; clear G1b; refine wpList_load_blk rfl 42 (.tmp 8) rfl (w.heap.size + 1) 42 x.cells rfl HX4.out _ Tryz.underlying42 rfl HXI.out ?_) | (go_at_call 18; refine (rresNo_any per segs x A n c _ HX.out HR4.out HNN.out HFT.out).mono ?_; rintro e w5 ⟨rfl, hE5⟩; have HE5 := Lib.hid (HE4.out.trans hE5); clear hE5) | (go_at_call 8; refine (HLG.out _ HE5.out).mono ?_; rintro e w6 ⟨rfl, hE6⟩; have HE6 := Lib.hid (HE5.out.trans hE6); clear hE6))
          go_ret
          exact ⟨rfl, HE6.out⟩
        · obtain ⟨p, s, rfl, rfl, s1, s2, p1, hfm, hz⟩ := fits_nat hf
          have hcap : p * z ≤ 90000 := by
            have h1 := Nat.mul_le_mul_left p s1
            have h2 : (Dk.new n0 z).many = n0 := rfl
            rw [h2] at hfm
            have h3 : p ≤ 40 := by omega
            have h4 := Nat.mul_le_mul h3 HNZ.out
            omega
          have hS1 := fun w' (e : Ext w w') => HH.out.2.2.2.ext e
          cases hr : rsm p s z x hs with
          | false =>
            have HRS := Lib.hid (fun (F : Nat → Prop) (d : Nat) (w' : World) (hD : Disk F w' d (Dk.new n0 z)) (e : Ext w w') => (show Calls Tryz.prog 17 #[.pointer (some ⟨d, 0, none⟩), .agg #[.int .i64 p, .int .i64 s], .agg x.cells.toArray, .slice A n c] w' (Ret (.tuple #[.pointer none, .int .i64 11]) w') from by rw [HN.out]; exact resumeBad_any p s x A c hs w' HX.out HH.out.1 HHL.out HH.out.2.1 HH.out.2.2.1 (hS1 w' e) hD hf hcap hr))
            have HRR := Lib.hid (fun (r : Nat) (w' : World) (hR : RefB w' r n0 z) (e : Ext w w') => (show Calls Tryz.prog 18 #[.pointer (some ⟨r, 0, none⟩), .agg #[.int .i64 p, .int .i64 s], .agg x.cells.toArray, .slice A n c] w' (Ret (.tuple #[.pointer none, .int .i64 11]) w') from by
              rw [HN.out]
              refine (rresA_any p s x A c hs w' HX.out HH.out.1 HHL.out (hS1 w' e) hR HNN.out hf hcap).mono ?_
              rintro e2 w2 (⟨_, h1, h2⟩ | ⟨h0, _⟩)
              · exact ⟨h1, h2⟩
              · rw [hr] at h0; cases h0))
            clear hr hcap hf s1 s2 p1 hfm hz hS1
            go_enter Tryz.func4, Tryz.ntmps4
            go_wp2_with (first | (have hg := HS1; rw [← hw1]; clear hw1) | (go_at_call 6; refine (newYes_any n0 z _ HNW.out).mono ?_; rintro e w2 ⟨F, d, rfl, hD2, hE2, hF2⟩; have HD2 := Lib.hid hD2; have HE2 := Lib.hid (HE1.out.trans hE2); have HS2 := Lib.hid (HS1.out.ext hE2); have HX2 := Lib.hid (HX1.out.ext hE2); clear hD2 hE2 hF2) | (go_at_call 16; refine (refNewYes_any n0 z _ HNW.out).mono ?_; rintro e w3 ⟨r, rfl, hR3, hE3⟩; have HR3 := Lib.hid hR3; have HD3 := Lib.hid (HD2.out.ext hE3); have HE3 := Lib.hid (HE2.out.trans hE3); have HS3 := Lib.hid (HS2.out.ext hE3); have HX3 := Lib.hid (HX2.out.ext hE3); clear hR3 hE3) | (have hg := HS3; clear G0a; refine wpList_load_blk rfl 23 (.tmp 7) rfl w.heap.size 23 [.int .i64 p, .int .i64 s] rfl HS3.out _ Tryz.underlying23 rfl HI.out ?_) | (have hg := HX3; clear G0b; refine wpList_load_blk rfl 42 (.tmp 8) rfl (w.heap.size + 1) 42 x.cells rfl HX3.out _ Tryz.underlying42 rfl HXI.out ?_) | (go_at_call 17; refine (HRS.out _ _ _ HD3.out HE3.out).mono ?_; rintro e w4 ⟨rfl, hE4⟩; have HE4 := Lib.hid (HE3.out.trans hE4); have HS4 := Lib.hid (HS3.out.ext hE4); have HX4 := Lib.hid (HX3.out.ext hE4); have HR4 := Lib.hid (HR3.out.ext hE4); clear hE4) | (have hg := HS4; clear G1a; refine wpList_load_blk rfl 23 (.tmp 7) rfl w.heap.size 23 [.int .i64 p, .int .i64 s] rfl HS4.out _ Tryz.underlying23 rfl HI.out ?_) | (have hg := HX4; clear G1b; refine wpList_load_blk rfl 42 (.tmp 8) rfl (w.heap.size + 1) 42 x.cells rfl HX4.out _ Tryz.underlying42 rfl HXI.out ?_) | (go_at_call 18; refine (HRR.out _ _ HR4.out HE4.out).mono ?_; rintro e w5 ⟨rfl, hE5⟩; have HE5 := Lib.hid (HE4.out.trans hE5); clear hE5) | (go_at_call 8; refine (HLG.out _ HE5.out).mono ?_; rintro e w6 ⟨rfl, hE6⟩; have HE6 := Lib.hid (HE5.out.trans hE6); clear hE6))
            go_ret
            exact ⟨rfl, HE6.out⟩
          | true =>
            have HRS := Lib.hid (fun (F : Nat → Prop) (d : Nat) (w' : World) (hD : Disk F w' d (Dk.new n0 z)) (e : Ext w w') => (show Calls Tryz.prog 17 #[.pointer (some ⟨d, 0, none⟩), .agg #[.int .i64 p, .int .i64 s], .agg x.cells.toArray, .slice A n c] w' (fun e w2 => ∃ g, e = .returned (.tuple #[.pointer (some ⟨g, 0, none⟩), .int .i64 0]) ∧ Log F w2 g d ⟨Dk.new n0 z, p, s, x, hs, x.en.toNat, x.sum, x.next⟩ ∧ Ext w' w2 ∧ w'.heap.size ≤ g) from by rw [HN.out]; exact resumeYes_any p s x A c hs w' HX.out HH.out.1 HHL.out HH.out.2.1 HH.out.2.2.1 (hS1 w' e) hD hf hcap (by simp [Dk.new]) hr))
            have HRR := Lib.hid (fun (r : Nat) (w' : World) (hR : RefB w' r n0 z) (e : Ext w w') => (show Calls Tryz.prog 18 #[.pointer (some ⟨r, 0, none⟩), .agg #[.int .i64 p, .int .i64 s], .agg x.cells.toArray, .slice A n c] w' (fun e w2 => ∃ g, e = .returned (.tuple #[.pointer (some ⟨g, 0, none⟩), .int .i64 0]) ∧ RLog w2 g r p s x hs ∧ Ext w' w2) from by
              rw [HN.out]
              refine (rresA_any p s x A c hs w' HX.out HH.out.1 HHL.out (hS1 w' e) hR HNN.out hf hcap).mono ?_
              rintro e2 w2 (⟨h0, _⟩ | ⟨_, h1⟩)
              · rw [hr] at h0; cases h0
              · exact h1))
            clear hr hcap hf s1 s2 p1 hfm hz hS1
            go_enter Tryz.func4, Tryz.ntmps4
            go_wp2_with (first | (have hg := HS1; rw [← hw1]; clear hw1) | (go_at_call 6; refine (newYes_any n0 z _ HNW.out).mono ?_; rintro e w2 ⟨F, d, rfl, hD2, hE2, hF2⟩; have HD2 := Lib.hid hD2; have HE2 := Lib.hid (HE1.out.trans hE2); have HS2 := Lib.hid (HS1.out.ext hE2); have HX2 := Lib.hid (HX1.out.ext hE2); clear hD2 hE2 hF2) | (go_at_call 16; refine (refNewYes_any n0 z _ HNW.out).mono ?_; rintro e w3 ⟨r, rfl, hR3, hE3⟩; have HR3 := Lib.hid hR3; have HD3 := Lib.hid (HD2.out.ext hE3); have HE3 := Lib.hid (HE2.out.trans hE3); have HS3 := Lib.hid (HS2.out.ext hE3); have HX3 := Lib.hid (HX2.out.ext hE3); clear hR3 hE3) | (have hg := HS3; clear G0a; refine wpList_load_blk rfl 23 (.tmp 7) rfl w.heap.size 23 [.int .i64 p, .int .i64 s] rfl HS3.out _ Tryz.underlying23 rfl HI.out ?_) | (have hg := HX3; clear G0b; refine wpList_load_blk rfl 42 (.tmp 8) rfl (w.heap.size + 1) 42 x.cells rfl HX3.out _ Tryz.underlying42 rfl HXI.out ?_) | (go_at_call 17; refine (HRS.out _ _ _ HD3.out HE3.out).mono ?_; rintro e w4 ⟨g, rfl, hL4, hE4, _⟩; have HE4 := Lib.hid (HE3.out.trans hE4); have HS4 := Lib.hid (HS3.out.ext hE4); have HX4 := Lib.hid (HX3.out.ext hE4); have HR4 := Lib.hid (HR3.out.ext hE4); have HL4 := Lib.hid hL4; clear hE4 hL4) | (have hg := HS4; clear G1a; refine wpList_load_blk rfl 23 (.tmp 7) rfl w.heap.size 23 [.int .i64 p, .int .i64 s] rfl HS4.out _ Tryz.underlying23 rfl HI.out ?_) | (have hg := HX4; clear G1b; refine wpList_load_blk rfl 42 (.tmp 8) rfl (w.heap.size + 1) 42 x.cells rfl HX4.out _ Tryz.underlying42 rfl HXI.out ?_) | (go_at_call 18; refine (HRR.out _ _ HR4.out HE4.out).mono ?_; rintro e w5 ⟨gr, rfl, hL5, hE5⟩; have HE5 := Lib.hid (HE4.out.trans hE5); have HL5 := Lib.hid (HL4.out.ext hE5); have HR5 := Lib.hid (HR4.out.ext hE5); have HRL5 := Lib.hid hL5; clear hE5 hL5) | (go_at_call 8; refine (HLG.out _ HE5.out).mono ?_; rintro e w6 ⟨rfl, hE6⟩; have HE6 := Lib.hid (HE5.out.trans hE6); have HSA := Lib.hid (And.intro (HL5.out.ext hE6) (And.intro (rlog_ext HRL5.out hE6) (HR5.out.ext hE6))); clear hE6) | (go_at_call 19; refine (same_any _ HSA.out.1 HSA.out.2.1 HSA.out.2.2 rfl rfl).mono ?_; rintro e w7 ⟨rfl, hE7⟩; have HE7 := Lib.hid (HE6.out.trans hE7); clear hE7))
            go_ret
            exact ⟨rfl, HE7.out⟩
      · have HNW := Lib.hid (show newOk many size = false from by simpa using hnew)
        clear hnew
        go_enter Tryz.func4, Tryz.ntmps4
        go_wp2_with (first | (have hg := HS1; rw [← hw1]; clear hw1) | (go_at_call 6; refine (newNo_any many size _ HNW.out).mono ?_; rintro e w2 ⟨rfl, hE2⟩; have HE2 := Lib.hid (HE1.out.trans hE2); have HS2 := Lib.hid (HS1.out.ext hE2); have HX2 := Lib.hid (HX1.out.ext hE2); clear hE2) | (go_at_call 16; refine (refNewNo_any many size _ HNW.out).mono ?_; rintro e w3 ⟨rfl, hE3⟩; have HE3 := Lib.hid (HE2.out.trans hE3); have HS3 := Lib.hid (HS2.out.ext hE3); have HX3 := Lib.hid (HX2.out.ext hE3); clear hE3) | (have hg := HS3; clear G0a; refine wpList_load_blk rfl 23 (.tmp 7) rfl w.heap.size 23 [.int .i64 per, .int .i64 segs] rfl HS3.out _ Tryz.underlying23 rfl HI.out ?_) | (have hg := HX3; clear G0b; refine wpList_load_blk rfl 42 (.tmp 8) rfl (w.heap.size + 1) 42 x.cells rfl HX3.out _ Tryz.underlying42 rfl HXI.out ?_) | (go_at_call 17; refine (resumeNil_any per segs x A n c _ HX.out).mono ?_; rintro e w4 ⟨rfl, hE4⟩; have HE4 := Lib.hid (HE3.out.trans hE4); have HS4 := Lib.hid (HS3.out.ext hE4); have HX4 := Lib.hid (HX3.out.ext hE4); clear hE4) | (have hg := HS4; clear G1a; refine wpList_load_blk rfl 23 (.tmp 7) rfl w.heap.size 23 [.int .i64 per, .int .i64 segs] rfl HS4.out _ Tryz.underlying23 rfl HI.out ?_) | (have hg := HX4; clear G1b; refine wpList_load_blk rfl 42 (.tmp 8) rfl (w.heap.size + 1) 42 x.cells rfl HX4.out _ Tryz.underlying42 rfl HXI.out ?_) | (go_at_call 18; refine (rresNil_any per segs x A n c _ HX.out).mono ?_; rintro e w5 ⟨rfl, hE5⟩; have HE5 := Lib.hid (HE4.out.trans hE5); clear hE5) | (go_at_call 8; refine (HLG.out _ HE5.out).mono ?_; rintro e w6 ⟨rfl, hE6⟩; have HE6 := Lib.hid (HE5.out.trans hE6); clear hE6))
        go_ret
        exact ⟨rfl, HE6.out⟩
end Go.Proofs.YtnkebhlkhpgghaaGreatDoor
