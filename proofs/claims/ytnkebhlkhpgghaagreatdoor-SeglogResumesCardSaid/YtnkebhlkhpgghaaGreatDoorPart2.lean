/- Part of a proof: the walks of the functions, and their plain laws: Dige, Wire, Event, Put, Run, Logm, Quiet, Batch. -/
import Derived.Test.YtnkebhlkhpgghaaGreatDoorPart1
import Derived.Deep.OwnRows
import Derived.Deep.RegionLaw
import Derived.StillTailTactics
import Derived.Deep.Quiet
import Derived.Lib.QuietBelow
set_option linter.unusedVariables false
set_option linter.unusedSimpArgs false

/- digest.End, Of: the walks. -/
namespace Go.Proofs.YtnkebhlkhpgghaaGreatDoor
open Go Go.RowKit

theorem own_size {w : World} {base n : Nat} {e : TypeId} {size : Nat} {v : Value} {xs : List Value} (h : w.ownsRow base e size v n xs) (hn : 0 < n) : base < w.heap.size := by
  obtain ⟨g, cap, _, hb, hlt⟩ := h.form hn
  omega
theorem own_lit {W : World} {base g : Nat} {e : TypeId} (cs : List Value) (n : Nat) (hg : g = W.heap.size) (hb : base ≤ W.heap.size) (hn : cs.length = n) (hm : n ≤ maxLen) :
    (W.alloc (.cells cs.toArray e)).ownsRow base e 1 (.slice (some ⟨g, 0, none⟩) n n) n cs := by
  subst hg
  have := World.ownsRow_lit (base := base) (e := e) (size := 1) W cs.toArray n hb hm (by simpa using hn)
  simpa using this
def lenOf : Value → Nat
  | .slice _ n _ => n
  | _ => 0
theorem info_u8 : (Tryz.prog.info? 5).map (fun i => (i.zero, i.size, i.bytes)) = some (some (.int .u8 0), 1, 1) := by kernel_rfl
theorem nums_bytes (l : Bytes) : strOfNums (l.map fun c => (c.toNat : Int)) = bs l := by
  unfold strOfNums bs
  congr 2
  rw [List.map_map]
  conv => rhs; rw [← List.map_id l]
  apply List.map_congr_left
  intro c _
  simp
/-- string(v), v a row of bytes of the call's own. -/
theorem own_string {P : Program} {w : World} {base n : Nat} {e' src dst e : TypeId} {v : Value} {l : Bytes} (hs : P.underlying src = some (.slice e)) (he : P.underlying e = some (.int .u8)) (hd : P.underlying dst = some .string)
    (h : w.ownsRow base e' 1 v n (bcells l)) : (convert src dst v).run P w = .ok (.string (bs l)) w := by
  have hl : l.length = n := by have := h.1; simp [bcells] at this; exact this
  rcases h.2 with ⟨rfl, rfl⟩ | ⟨g, cap, cur, rfl, _⟩
  · obtain rfl : l = [] := List.eq_nil_of_length_eq_zero hl
    exact run_convert_bytes_nil w src e hs he 0 0 dst hd
  · rw [run_convert_bytes_arg w src e hs he g 0 n cap (l.map fun c => (c.toNat : Int)) (by simpa using hl) (fun i hi => ?_) dst hd, nums_bytes]
    have hc := h.cells (g := g) rfl i (.int .u8 ((l.map fun c => (c.toNat : Int)).getD i 0)) (by simp [bcells, List.getD_eq_getElem?_getD, hl, hi])
    have ha : (⟨g, 0, none⟩ : Addr).add i = ⟨g, 0 + i, none⟩ := Addr.add_mid g 0 i
    rwa [ha] at hc

def tailOf (j : Nat) : Bytes := 128 :: List.replicate j 0
theorem tailOf_succ (j : Nat) : tailOf (j + 1) = tailOf j ++ [0] := by simp [tailOf, List.replicate_succ']
def tail2 (r : Nat) (m : Int) (i : Nat) : Bytes := tailOf (padN r) ++ (List.range i).map fun i => UInt8.ofNat (m / 2 ^ (56 - 8 * i) % 256).toNat
theorem tail2_succ (r : Nat) (m : Int) (i : Nat) : tail2 r m (i + 1) = tail2 r m i ++ [UInt8.ofNat (m / 2 ^ (56 - 8 * i) % 256).toNat] := by
  simp [tail2, List.range_succ]
theorem u8_of (x : Int) : (((UInt8.ofNat (x % 256).toNat).toNat : Nat) : Int) = x % 256 := by
  rw [UInt8.toNat_ofNat']
  have : (x % 256).toNat < 256 := by omega
  rw [Nat.mod_eq_of_lt this]
  omega
theorem bytesOf_take (s : S8) (k : Nat) (hk : k < 32) : ((digestBytes s).take k ++ List.replicate (32 - k) 0).set k (UInt8.ofNat (word s (k / 4) / 2 ^ (24 - 8 * (k % 4)) % 256).toNat) = (digestBytes s).take (k + 1) ++ List.replicate (32 - (k + 1)) 0 := by
  have hl : (digestBytes s).length = 32 := by simp [digestBytes]
  rw [List.set_append_right _ _ (by rw [List.length_take, hl]; omega), List.length_take, hl, show k - min k 32 = 0 from by omega, show 32 - k = (32 - (k + 1)) + 1 from by omega, List.replicate_succ, List.set_cons_zero,
    List.take_succ_eq_append_getElem (by omega), List.append_assoc]
  congr 1
  simp [digestBytes]
theorem bcells_set (l : Bytes) (k : Nat) (c : UInt8) : (bcells l).toArray.setIfInBounds k (.int .u8 c.toNat) = (bcells (l.set k c)).toArray := by
  simp [bcells, List.map_set]
theorem St_word (h : S8) (n : Int) (r : ByteArray) (i : Nat) (hi : i < 8) : (St h n r).toArray[i]? = some (.int .u32 (word h i)) := by
  match i, hi with
  | 0, _ => rfl
  | 1, _ => rfl
  | 2, _ => rfl
  | 3, _ => rfl
  | 4, _ => rfl
  | 5, _ => rfl
  | 6, _ => rfl
  | 7, _ => rfl
theorem word_range {h : S8} (hi : h.In) (i : Nat) : 0 ≤ word h i ∧ word h i < 4294967296 := by
  obtain ⟨h1, h2, h3, h4, h5, h6, h7, h8⟩ := hi
  unfold word
  rw [List.getD_eq_getElem?_getD]
  rcases hx : [h.a, h.b, h.c, h.d, h.e, h.f, h.g, h.h][i]? with _ | x
  · simp
  · have := List.mem_of_getElem? hx
    simp at this
    rcases this with rfl | rfl | rfl | rfl | rfl | rfl | rfl | rfl <;> assumption

set_option maxRecDepth 100000 in
set_option maxHeartbeats 2000000 in
theorem end_any (h : S8) (n : Int) (rest : ByteArray) (w : World) (hT : Tab w) (hi : h.In) (n0 : 0 ≤ n) (n1 : n < 18446744073709551616) (hr : rest.size < 64) :
    Calls Tryz.prog 69 #[.agg #[.int .u32 h.a, .int .u32 h.b, .int .u32 h.c, .int .u32 h.d, .int .u32 h.e, .int .u32 h.f, .int .u32 h.g, .int .u32 h.h, .int .u64 n, .string rest]] w
      (Ret (.agg (bcells (shaEnd h n (lb rest))).toArray) w) := by
  have HT := Lib.hid hT
  have HI := Lib.hid hi
  clear hT hi
  go_enter Tryz.func69, Tryz.ntmps69
  go_wp2_with fail
  go_loopw [3] (fun v wr => ∃ (j : Nat) (A : Option Addr) (c : Nat), j ≤ padN rest.size ∧ v = .slice A (j + 1) c ∧ wr.ownsRow (w.heap.size + 2) 5 1 v (j + 1) (bcells (tailOf j)) ∧ Blk wr w.heap.size 130 (St h n rest).toArray ∧ Blk wr (w.heap.size + 1) 40 (bcells (List.replicate 32 0)).toArray ∧ Ext w wr) (fun v wr => 65 - lenOf v)
  case atStart =>
    exact ⟨0, _, _, by omega, rfl, own_lit [.int .u8 128] 1 (by simp) (by simp) rfl (by decide),
      by exact ((Blk.new _ _ _).alloc _).alloc _, by exact (Blk.new' (by simp)).alloc _, (((Ext.refl _).alloc _).alloc _).alloc _⟩
  case round =>
    obtain ⟨j, A, c, hj, rfl, hO, hB, hZ, hE⟩ := hrel
    have hc9 : wr.cell? ⟨w.heap.size, 9, none⟩ = some (.string rest) := hB.cell 9
    have hc8 : wr.cell? ⟨w.heap.size, 8, none⟩ = some (.int .u64 n) := hB.cell 8
    have hp : padN rest.size = (119 - rest.size) % 64 := rfl
    have hsz := own_size hO (by omega)
    have HB := Lib.hid hB
    have HZ := Lib.hid hZ
    have HE := Lib.hid hE
    have HO := Lib.hid hO
    clear hB hZ hE hO
    have hj64 : j < 64 := by omega
    by_cases hlt : j < padN rest.size
    · have ht : (((rest.size : Int) + ((j : Int) + 1)) % 64 != 56) = true := by rw [bne_iff_ne]; omega
      have HLT := Lib.hid hlt
      clear hp hlt hj
      go_wp2_with (at_builtin; refine wpList_append1 (w.heap.size + 2) rfl (.tmp 17) (.tmp 18) 62 5 _ 1 1 rfl Tryz.underlying62 info_u8 rfl (by decide) (by decide) (.slice A (j + 1) c) (j + 1) (bcells (tailOf j)) [Value.int .u8 0] rfl rfl rfl (by intro u hu; simp at hu; subst hu; rfl) HO.out (by omega) (by omega) ?_; intro A' c' w1 hO1 hK1 hb1)
      go_roundw
      case rel =>
        exact ⟨j + 1, A', c', HLT.out, rfl, by rw [tailOf_succ, bcells_append]; exact hO1, HB.out.keep hK1 (fun hh => by have := own_base HO.out _ hh; omega), HZ.out.keep hK1 (fun hh => by have := own_base HO.out _ hh; omega), HE.out.keep hK1 (fun i hh => by have := own_base HO.out _ hh; omega)⟩
      case measure => simp only [lenOf]; omega
    · obtain rfl : j = padN rest.size := by omega
      have ht : (((rest.size : Int) + (((padN rest.size : Nat) : Int) + 1)) % 64 != 56) = false := by rw [bne_eq_false_iff_eq]; omega
      clear hp hlt hj
      go_wp2_with fail
      have hmg : IntKind.u64.wrap (n * 8) = n * 8 % 18446744073709551616 := IntKind.wrap_u64 _
      have hm0 : 0 ≤ IntKind.u64.wrap (n * 8) := by omega
      have hm1 : IntKind.u64.wrap (n * 8) < 18446744073709551616 := by omega
      have HMG := Lib.hid hmg
      clear hmg
      generalize IntKind.u64.wrap (n * 8) = m at *
      go_loopw [5, 3] (fun t v wr => ∃ (i : Nat) (A : Option Addr) (c : Nat), i ≤ 8 ∧ t = .int .i64 (56 - 8 * (i : Int)) ∧ v = .slice A (padN rest.size + 1 + i) c ∧ wr.ownsRow (w.heap.size + 2) 5 1 v (padN rest.size + 1 + i) (bcells (tail2 rest.size m i)) ∧ Blk wr w.heap.size 130 (St h n rest).toArray ∧ Blk wr (w.heap.size + 1) 40 (bcells (List.replicate 32 0)).toArray ∧ Ext w wr) (fun t v wr => (intOf t + 8).toNat)
      case atStart => exact ⟨0, A, c, by omega, rfl, rfl, by simpa [tail2] using HO.out, HB.out, HZ.out, HE.out⟩
      case round =>
        clear HB HZ HE HO hsz
        obtain ⟨i, A, c, hi8, rfl, rfl, hO, hB, hZ, hE⟩ := hrel
        have hsz := own_size hO (by omega)
        have HB := Lib.hid hB
        have HZ := Lib.hid hZ
        have HE := Lib.hid hE
        have HO := Lib.hid hO
        clear hB hZ hE hO
        by_cases hlt : i < 8
        · have t0 : (0 : Int) ≤ 56 - 8 * (i : Int) := by omega
          have t1 : 56 - 8 * (i : Int) ≤ 56 := by omega
          have t2 : (56 - 8 * (i : Int)).toNat = 56 - 8 * i := by omega
          go_wp2_with (at_builtin; refine wpList_append1 (w.heap.size + 2) rfl (.tmp 27) (.tmp 32) 62 5 _ 1 1 rfl Tryz.underlying62 info_u8 rfl (by decide) (by decide) (.slice A (padN rest.size + 1 + i) c) (padN rest.size + 1 + i) (bcells (tail2 rest.size m i)) [Value.int .u8 (m / 2 ^ (56 - 8 * i) % 256)] rfl rfl rfl (by intro u hu; simp at hu; subst hu; rfl) HO.out (by omega) (by omega) ?_; intro A' c' w1 hO1 hK1 hb1)
          go_roundw
          case rel =>
            exact ⟨i + 1, A', c', by omega, val_int (by omega), rfl, by rw [tail2_succ, bcells_append]; have hu := u8_of (m / 2 ^ (56 - 8 * i)); simp only [bcells, List.map_cons, List.map_nil] at hO1 ⊢; rw [hu]; exact hO1, HB.out.keep hK1 (fun hh => by have := own_base HO.out _ hh; omega), HZ.out.keep hK1 (fun hh => by have := own_base HO.out _ hh; omega), HE.out.keep hK1 (fun i hh => by have := own_base HO.out _ hh; omega)⟩
          case measure => simp only [intOf]; omega
        · obtain rfl : i = 8 := by omega
          have hcv := own_string (P := Tryz.prog) (src := 62) (dst := 9) Tryz.underlying62 Tryz.underlying5 Tryz.underlying9 HO.out
          have htl : (bs (tail2 rest.size m 8)).size ≤ 140737488355000 := by
            rw [bs_size]; have := HO.out.1; rw [bcells_length] at this; omega
          have hin := absorb_in HI.out (lb rest ++ lb (bs (tail2 rest.size m 8)))
          have hfin : shaEnd h n (lb rest) = digestBytes (absorb h (lb rest ++ lb (bs (tail2 rest.size m 8)))).1 := by
            rw [lb_bs, HMG.out]; simp only [shaEnd, pad, lb_length, tail2, tailOf]
          generalize bs (tail2 rest.size m 8) = tl at *
          have HFIN := Lib.hid hfin
          have HIN := Lib.hid hin
          clear hfin hin
          go_wp2_with (first
            | (refine wpList_load_blk rfl 130 (.tmp 1) rfl w.heap.size 130 (St h n rest) rfl HB.out _ Tryz.underlying130 rfl (by kernel_rfl) ?_)
            | (go_at_call 70; refine (add_any h n rest tl _ (HT.out.ext HE.out) HI.out n0 n1 (by omega) htl).mono ?_; rintro e w3 ⟨rfl, hE3⟩)
            | (refine wpList_store_blk rfl 130 (.tmp 1) (.tmp 37) rfl w.heap.size 130 (St h n rest) (St (absorb h (lb rest ++ lb tl)).1 ((n + tl.size) % 18446744073709551616) (bs (absorb h (lb rest ++ lb tl)).2)) rfl rfl (HB.out.ext hE3) rfl (by kernel_rfl) (St_one _ _ _) ?_; intro w4 hB4 hK4))
          generalize (absorb h (lb rest ++ lb tl)).1 = hs at *
          generalize (n + tl.size) % 18446744073709551616 = n' at *
          generalize bs (absorb h (lb rest ++ lb tl)).2 = r' at *
          have hZ4 := ((HZ.out.ext hE3).keep hK4 (by simp only [One]; omega)).alloc (.cells (bcells (List.replicate 32 0)).toArray 40)
          have hE4 := ((HE.out.trans hE3).keep hK4 (fun i hi => by cases hi; exact Nat.le_refl _)).alloc (.cells (bcells (List.replicate 32 0)).toArray 40)
          have hB5 := hB4.alloc (.cells (bcells (List.replicate 32 0)).toArray 40)
          have hD5 := Blk.new w4 40 (bcells (List.replicate 32 0)).toArray
          have hq1 : w.heap.size + 1 < w4.heap.size := by have := (HZ.out.ext hE3).lt; have := hK4.size; omega
          have HZ4 := Lib.hid hZ4
          have HE4 := Lib.hid hE4
          have HB5 := Lib.hid hB5
          have HD5 := Lib.hid hD5
          clear HB HZ HE HO hcv hE3 hK4 hZ4 hE4 hB5 hD5 hB4 hc8 hc9 hsz
          generalize w4.heap.size = q at *
          go_loopw [38, 7] (fun v v7 wr => ∃ k : Nat, k ≤ 32 ∧ v = .int .i64 k ∧ Blk wr q 40 (bcells ((digestBytes hs).take k ++ List.replicate (32 - k) 0)).toArray ∧ Blk wr w.heap.size 130 (St hs n' r').toArray ∧ Blk wr (w.heap.size + 1) 40 (bcells (List.replicate 32 0)).toArray ∧ Ext w wr) (fun v v7 wr => 32 - (intOf v).toNat)
          case atStart => exact ⟨0, by omega, rfl, HD5.out, HB5.out, HZ4.out, HE4.out⟩
          case round =>
            clear HZ4 HE4 HB5 HD5
            obtain ⟨k, hk, rfl, hD, hB, hZ, hE⟩ := hrel
            by_cases hlt : k < 32
            · have hcw : wr.cell? ⟨w.heap.size, k / 4, none⟩ = some (.int .u32 (word hs (k / 4))) := by rw [hB.cell, St_word _ _ _ _ (by omega)]
              have hwr := word_range HIN.out (k / 4)
              have hst := bytesOf_take hs k hlt
              have hu := u8_of (word hs (k / 4) / 2 ^ (24 - 8 * (k % 4)))
              have hcd : (wr.cell? ⟨q, k, none⟩).isSome = true := by rw [hD.cell]; simp [bcells, digestBytes]; omega
              obtain ⟨vd, hcd⟩ := Option.isSome_iff_exists.1 hcd
              have hfd := hD.frozen k
              generalize word hs (k / 4) = x at *
              have HST := Lib.hid hst
              have HU := Lib.hid hu
              have HD := Lib.hid hD
              have HB := Lib.hid hB
              have HZ := Lib.hid hZ
              have HE := Lib.hid hE
              clear hD hB hZ hE hst hu
              have t0 : (0 : Int) ≤ 24 - 8 * ((k : Int) % 4) := by omega
              have t1 : 24 - 8 * ((k : Int) % 4) ≤ 24 := by omega
              have t2 : (24 - 8 * ((k : Int) % 4)).toNat = 24 - 8 * (k % 4) := by omega
              have t3 : ((k : Int) / 4).toNat = k / 4 := by omega
              have t4 : (0 : Int) ≤ (k : Int) / 4 := by omega
              have t5 : (k : Int) / 4 < 8 := by omega
              go_wp2_with fail
              go_roundw
              case rel =>
                exact ⟨k + 1, by omega, by go_num, by rw [← HST.out, ← bcells_set, HU.out]; exact HD.out.set k _, HB.out.far (p := ⟨q, k, none⟩) (by simp only []; omega) _, HZ.out.far (p := ⟨q, k, none⟩) (by simp only []; omega) _, HE.out.setCell (p := ⟨q, k, none⟩) (by simp only []; omega) _⟩
              case measure => simp only [intOf]; omega
            · obtain rfl : k = 32 := by omega
              have hl : (digestBytes hs).length = 32 := by simp [digestBytes]
              have hfull : (digestBytes hs).take 32 ++ List.replicate (32 - 32) 0 = digestBytes hs := by rw [List.take_of_length_le (by omega)]; simp
              rw [hfull] at hD
              have HD := Lib.hid hD
              have HZ := Lib.hid hZ
              have HE := Lib.hid hE
              have HL := Lib.hid hl
              clear hD hB hZ hE hfull hl
              go_wp2_with (first
                | (refine wpList_load_blk rfl 40 (.tmp 6) rfl q 40 (bcells (digestBytes hs)) rfl HD.out _ Tryz.underlying40 rfl (by rw [bcells_length, HL.out]; kernel_rfl) ?_)
                | (refine wpList_store_blk rfl 40 (.tmp 2) (.tmp 55) rfl (w.heap.size + 1) 40 (bcells (List.replicate 32 0)) (bcells (digestBytes hs)) rfl rfl HZ.out (by rw [bcells_length, bcells_length, HL.out]; rfl) (by rw [bcells_length, HL.out]; kernel_rfl) (bcells_one _) ?_; intro w6 hB6 hK6))
              exact bodyPost_ret (results_blk (t := 0) rfl _ (w.heap.size + 1) rfl hB6 Tryz.underlying40 rfl (by rw [bcells_length, HL.out]; kernel_rfl)) rfl ⟨by rw [HFIN.out], HE.out.keep hK6 (fun i hi => by cases hi; exact Nat.le_succ _)⟩

set_option maxRecDepth 100000 in
set_option maxHeartbeats 1000000 in
theorem digestOf_any (b : ByteArray) (w : World) (hT : Tab w) (hb : b.size ≤ 140737488355000) :
    Calls Tryz.prog 40 #[.string b] w (Ret (.agg (bcells (sha (lb b))).toArray) w) := by
  have HT := Lib.hid hT
  clear hT
  have hl : (absorb S8.start ([] ++ lb b)).2.length < 64 := absorb_length _ _
  have HL := Lib.hid hl
  have hin := absorb_in S8.start_in ([] ++ lb b)
  have HIN := Lib.hid hin
  have hsh : sha (lb b) = shaEnd (absorb S8.start ([] ++ lb b)).1 b.size (lb (bs (absorb S8.start ([] ++ lb b)).2)) := by rw [lb_bs]; simp only [sha, List.nil_append, lb_length]
  have HSH := Lib.hid hsh
  clear hl hin hsh
  have hn : (0 + (b.size : Int)) % 18446744073709551616 = b.size := by omega
  have HN := Lib.hid hn
  clear hn
  go_enter Tryz.func40, Tryz.ntmps40
  go_wp2_with (first
    | (go_at_call 71; refine (start_any _).mono ?_; rintro e w1 ⟨rfl, hE1⟩)
    | (go_at_call 70; refine (add_any S8.start 0 ByteArray.empty b _ (HT.out.ext (((Ext.refl w).alloc _).trans hE1)) S8.start_in (by omega) (by omega) (by decide) hb).mono ?_; rintro e w2 ⟨rfl, hE2⟩))
  rw [show (b.size : Int) % 18446744073709551616 = b.size from by omega, show lb ByteArray.empty = [] from rfl]
  have hZ := ((Blk.new w 40 (bcells (List.replicate 32 0)).toArray).ext hE1).ext hE2
  have hE := (((Ext.refl w).alloc (.cells (bcells (List.replicate 32 0)).toArray 40)).trans hE1).trans hE2
  have HZ := Lib.hid hZ
  have HE := Lib.hid hE
  clear hZ hE hE1 hE2
  generalize absorb S8.start ([] ++ lb b) = p at *
  obtain ⟨s, r⟩ := p
  dsimp only at *
  refine (end_any s b.size (bs r) _ (HT.out.ext HE.out) HIN.out (by omega) (by omega) (by rw [bs_size]; exact HL.out)).mono ?_
  rintro e w3 ⟨rfl, hE3⟩
  rw [← HSH.out]
  have hl := sha_length (lb b)
  have HL2 := Lib.hid hl
  clear hl
  go_wp2_with (refine wpList_store_blk rfl 40 (.tmp 2) (.tmp 6) rfl w.heap.size 40 (bcells (List.replicate 32 0)) (bcells (sha (lb b))) rfl rfl (HZ.out.ext hE3) (by rw [bcells_length, bcells_length, HL2.out]; rfl) (by rw [bcells_length, HL2.out]; kernel_rfl) (bcells_one _) ?_; intro w6 hB6 hK6)
  exact bodyPost_ret (results_blk (t := 0) rfl _ w.heap.size rfl hB6 Tryz.underlying40 rfl (by rw [bcells_length, HL2.out]; kernel_rfl)) rfl ⟨rfl, (HE.out.trans hE3).keep hK6 (fun i hi => by cases hi; exact Nat.le_refl _)⟩
end Go.Proofs.YtnkebhlkhpgghaaGreatDoor
/- wire: the walks. -/
namespace Go.Proofs.YtnkebhlkhpgghaaGreatDoor
open Go Go.RowKit Go.Deep

/-- A number by sevens of its bits. -/
def vput (n : Nat) : Bytes := if n < 128 then [UInt8.ofNat n] else UInt8.ofNat (n % 128 + 128) :: vput (n / 128)
  termination_by n
  decreasing_by omega
theorem vput_less {n : Nat} (h : n < 128) : vput n = [UInt8.ofNat n] := by rw [vput, if_pos h]
theorem vput_more {n : Nat} (h : ¬ n < 128) : vput n = UInt8.ofNat (n % 128 + 128) :: vput (n / 128) := by rw [vput, if_neg h]
theorem vput_length_le (k : Nat) : ∀ n, n < 128 ^ (k + 1) → (vput n).length ≤ k + 1 := by
  induction k with
  | zero => intro n h; rw [vput_less (by omega)]; simp
  | succ k ih =>
    intro n h
    by_cases hl : n < 128
    · rw [vput_less hl]; simp
    · rw [vput_more hl]
      have := ih (n / 128) (by rw [Nat.pow_succ] at h; omega)
      simp; omega
theorem vput_ten {n : Nat} (h : n < 18446744073709551616) : (vput n).length ≤ 10 := vput_length_le 9 n (by omega)
theorem vput_pos (n : Nat) : 0 < (vput n).length := by rw [vput]; split <;> simp
theorem or128 : ∀ x : Fin 256, bits .or .u8 (x.val : Int) 128 = (x.val : Int) % 128 + 128 := by decide +kernel
theorem or128' (m : Int) : bits .or .u8 (m % 256) 128 = m % 128 + 128 := by
  have h := or128 ⟨(m % 256).toNat, by omega⟩
  simp only at h
  rw [Int.toNat_of_nonneg (by omega)] at h
  omega

theorem mk10 (W : World) : (Instr.makeSlice 62 (.int .i64 0) (.int .i64 10)).run Tryz.prog W = .ok (.slice (some ⟨W.heap.size, 0, none⟩) 0 10) (W.alloc (.cells #[.int .u8 0, .int .u8 0, .int .u8 0, .int .u8 0, .int .u8 0, .int .u8 0, .int .u8 0, .int .u8 0, .int .u8 0, .int .u8 0] 5)) := by kernel_rfl

theorem own_made0 {W : World} {base g : Nat} {e : TypeId} (cs : Array Value) (hg : g = W.heap.size) (hb : base ≤ W.heap.size) (hm : cs.size ≤ maxLen) :
    (W.alloc (.cells cs e)).ownsRow base e 1 (.slice (some ⟨g, 0, none⟩) 0 cs.size) 0 [] := by
  subst hg
  refine ⟨by simp, .inr ⟨W.heap.size, cs.size, cs, rfl, hb, heap_alloc_new W _, by omega, hm, by simp, by simp⟩⟩
theorem ret_str {a b : ByteArray} (h : a = b) : Ending.returned (.string a) = .returned (.string b) := by rw [h]
set_option maxHeartbeats 1000000 in
theorem wirePut_any (n : Int) (w : World) (n0 : 0 ≤ n) (n1 : n < 18446744073709551616) : Calls Tryz.prog 91 #[.int .u64 n] w (Ret (.string (bs (vput n.toNat))) w) := by
  have hmk := mk10
  have hten := vput_ten (n := n.toNat) (by omega)
  go_enter Tryz.func91, Tryz.ntmps91
  go_wp2_with fail
  refine wp_scope_jumps 0 (fun a wr => ∃ (m : Int) (acc : Bytes) (A : Option Addr) (c : Nat) (u4 u5 u6 u7 u8 u9 u10 u11 u12 u13 u14 : Value), a = { tmps := #[.int .u64 m, undef, .string ⟨#[]⟩, .slice A acc.length c, u4, u5, u6, u7, u8, u9, u10, u11, u12, u13, u14, undef, undef, undef, undef, undef, undef], defers := [] } ∧
      0 ≤ m ∧ m < 128 ∧ acc ++ vput m.toNat = vput n.toNat ∧ wr.ownsRow w.heap.size 5 1 (.slice A acc.length c) acc.length (bcells acc) ∧ w.heap.size < wr.heap.size ∧ Ext w wr) (fun _ _ => 0) (by rfl) ?first ?pass
  case first =>
    go_wp2_with fail
    go_loopw [0, 3] (fun t0 t3 wr => ∃ (m : Int) (acc : Bytes) (A : Option Addr) (c : Nat), t0 = .int .u64 m ∧ t3 = .slice A acc.length c ∧ 0 ≤ m ∧ m < 18446744073709551616 ∧ acc ++ vput m.toNat = vput n.toNat ∧ wr.ownsRow w.heap.size 5 1 (.slice A acc.length c) acc.length (bcells acc) ∧ w.heap.size < wr.heap.size ∧ Ext w wr) (fun t0 _ _ => (intOf t0).toNat)
    case atStart =>
      refine ⟨n, [], some ⟨w.heap.size, 0, none⟩, 10, rfl, rfl, n0, n1, rfl, ?_, by simp, (Ext.refl _).alloc _⟩
      exact own_made0 (base := w.heap.size) #[.int .u8 0, .int .u8 0, .int .u8 0, .int .u8 0, .int .u8 0, .int .u8 0, .int .u8 0, .int .u8 0, .int .u8 0, .int .u8 0] rfl (Nat.le_refl _) (by decide)
    case round =>
      obtain ⟨m, acc, A, c, rfl, rfl, m0, m1, hv, hO, hsz, hE⟩ := hrel
      have hal : acc.length ≤ 10 := by have := congrArg List.length hv; simp at this; omega
      have HV := Lib.hid hv
      have HO := Lib.hid hO
      have HE := Lib.hid hE
      clear hv hO hE
      by_cases hlt : m < 128
      · go_wp2_with fail
        exact wp_goto ⟨rfl, m, acc, A, c, _, _, _, _, _, _, _, _, _, _, _, rfl, m0, hlt, HV.out, HO.out, hsz, HE.out⟩
      · have hor := or128' m
        have hv2 := vput_more (n := m.toNat) (by omega)
        have HV2 := Lib.hid hv2
        clear hv2
        go_wp2_with (at_builtin; refine wpList_append1 w.heap.size rfl (.tmp 7) (.tmp 11) 62 5 _ 1 1 rfl Tryz.underlying62 info_u8 rfl (by decide) (by decide) (.slice A acc.length c) acc.length (bcells acc) [Value.int .u8 (m % 128 + 128)] rfl rfl rfl (by intro u hu; simp at hu; subst hu; rfl) HO.out (by omega) (by omega) ?_; intro A' c' w1 hO1 hK1 hb1)
        go_roundw
        case rel =>
          refine ⟨m / 128, acc ++ [UInt8.ofNat (m.toNat % 128 + 128)], A', c', rfl, by simp, by omega, by omega, ?_, ?_, by have := hK1.size; omega, HE.out.keep hK1 (fun i hh => own_base HO.out _ hh)⟩
          · rw [← HV.out, HV2.out, List.append_assoc, show (m / 128).toNat = m.toNat / 128 from by omega]; rfl
          · rw [bcells_append, List.length_append, List.length_singleton]
            simp only [bcells, List.map_cons, List.map_nil] at hO1 ⊢
            rw [show (UInt8.ofNat (m.toNat % 128 + 128)).toNat = m.toNat % 128 + 128 from by rw [UInt8.toNat_ofNat']; omega, show ((m.toNat % 128 + 128 : Nat) : Int) = m % 128 + 128 from by omega]
            exact hO1
        case measure => simp only [intOf]; omega
  case pass =>
    rintro a wr ⟨m, acc, A, c, u4, u5, u6, u7, u8, u9, u10, u11, u12, u13, u14, rfl, m0, m1, hv, hO, hsz, hE⟩
    have hal : acc.length ≤ 10 := by have := congrArg List.length hv; simp at this; omega
    have hv2 := vput_less (n := m.toNat) (by omega)
    have HV2 := Lib.hid hv2
    have HV := Lib.hid hv
    have HO := Lib.hid hO
    have HE := Lib.hid hE
    clear hv hO hE hmk hv2
    have hcv : ∀ A' c' w1, w1.ownsRow w.heap.size 5 1 (.slice A' (acc.length + 1) c') (acc.length + 1) (bcells acc ++ [Value.int .u8 m]) → (convert 62 9 (.slice A' (acc.length + 1) c')).run Tryz.prog w1 = .ok (.string (bs (vput n.toNat))) w1 := by
      intro A' c' w1 hO1
      have h := own_string (P := Tryz.prog) (src := 62) (dst := 9) (l := vput n.toNat) Tryz.underlying62 Tryz.underlying5 Tryz.underlying9 (w := w1) (base := w.heap.size) (n := acc.length + 1) (e' := 5) (v := .slice A' (acc.length + 1) c') (by
        rw [← HV.out, HV2.out, bcells_append]
        simp only [bcells, List.map_cons, List.map_nil] at hO1 ⊢
        rw [show (UInt8.ofNat m.toNat).toNat = m.toNat from by rw [UInt8.toNat_ofNat']; omega, Int.toNat_of_nonneg m0]
        exact hO1)
      exact h
    have HCV := Lib.hid hcv
    clear hcv
    go_wp2_with (at_builtin; refine wpList_append1 w.heap.size rfl (.tmp 15) (.tmp 18) 62 5 _ 1 1 rfl Tryz.underlying62 info_u8 rfl (by decide) (by decide) (.slice A acc.length c) acc.length (bcells acc) [Value.int .u8 m] rfl rfl rfl (by intro u hu; simp at hu; subst hu; rfl) HO.out (by omega) (by omega) ?_; intro A' c' w1 hO1 hK1 hb1; have hcv1 := HCV.out A' c' w1 hO1)
    exact bodyPost_ret (fn := Tryz.f91) (results_tmp rfl _ _ _) rfl ⟨rfl, HE.out.keep hK1 (fun i hh => own_base HO.out _ hh)⟩

/-! ### cut, fits, Fixed, TakeFixed -/
theorem cut_any (s : ByteArray) (k : Int) (w : World) (k0 : 0 ≤ k) (k1 : k ≤ s.size) (hs : s.size ≤ 140737488355328) :
    Calls Tryz.prog 128 #[.string s, .int .i64 k] w (Ret (.tuple #[.string (bs ((lb s).take k.toNat)), .string (bs ((lb s).drop k.toNat))]) w) := by
  obtain ⟨n, rfl⟩ := Int.eq_ofNat_of_zero_le k0
  have h1 : bs ((lb s).take (n : Int).toNat) = s.extract 0 n := by rw [← bs_lb (s.extract 0 n), lb_extract]; simp
  have h2 : bs ((lb s).drop (n : Int).toNat) = s.extract n s.size := by
    rw [← bs_lb (s.extract n s.size), lb_extract, List.take_of_length_le (by rw [List.length_drop, lb_length]; exact Nat.le_refl _)]; simp
  rw [h1, h2]
  clear h1 h2
  go_enter Tryz.func128, Tryz.ntmps128
  go_wp2_with fail
  go_quiet (fail)
  go_wp2_with fail
  go_ret2
  exact ⟨rfl, (Ext.refl w).drewN _⟩


theorem fits_any (k : Int) (w : World) : Calls Tryz.prog 112 #[.int .i64 k] w fun e w' => e = .returned (.bool (decide (1 ≤ k) && decide (k ≤ 8))) ∧ w = w' := by
  by_cases h1 : 1 ≤ k
  · have h1' : decide (1 ≤ k) = true := decide_eq_true h1
    go_enter Tryz.func112, Tryz.ntmps112
    go_wp2_with fail
    go_ret
    exact ⟨by simp [h1], rfl⟩
  · have h1' : decide (1 ≤ k) = false := decide_eq_false h1
    go_enter Tryz.func112, Tryz.ntmps112
    go_wp2_with fail
    go_ret
    exact ⟨by simp [h1], rfl⟩

def fixedB (n : Int) (k : Nat) : Bytes := (List.range k).map fun i => UInt8.ofNat (n / 2 ^ (8 * (k - 1 - i)) % 256).toNat
theorem fixedB_length (n : Int) (k : Nat) : (fixedB n k).length = k := by simp [fixedB]
theorem fixedB_take (n : Int) (k i : Nat) (hi : i < k) : ((fixedB n k).take i ++ List.replicate (k - i) 0).set i (UInt8.ofNat (n / 2 ^ (8 * (k - 1 - i)) % 256).toNat) = (fixedB n k).take (i + 1) ++ List.replicate (k - (i + 1)) 0 := by
  have hl := fixedB_length n k
  rw [List.set_append_right _ _ (by rw [List.length_take, hl]; omega), List.length_take, hl, show i - min i k = 0 from by omega, show k - i = (k - (i + 1)) + 1 from by omega, List.replicate_succ, List.set_cons_zero,
    List.take_succ_eq_append_getElem (by omega), List.append_assoc]
  congr 1
  simp [fixedB]
theorem madeCells_bytes (k : Nat) : madeCells #[Value.int .u8 0] k = (bcells (List.replicate k 0)).toArray := by
  apply Array.ext
  · simp [size_madeCells, bcells]
  · intro i h1 h2
    simp [madeCells, bcells, Nat.mod_one]
theorem blk_string {P : Program} {w : World} {g c : Nat} {t src dst e : TypeId} {l : Bytes} (hs : P.underlying src = some (.slice e)) (he : P.underlying e = some (.int .u8)) (hd : P.underlying dst = some .string)
    (h : Blk w g t (bcells l).toArray) : (convert src dst (.slice (some ⟨g, 0, none⟩) l.length c)).run P w = .ok (.string (bs l)) w := by
  rw [run_convert_bytes_arg w src e hs he g 0 l.length c (l.map fun c => (c.toNat : Int)) (by simp) (fun i hi => ?_) dst hd, nums_bytes]
  rw [Nat.zero_add, h.cell]
  simp [bcells, List.getD_eq_getElem?_getD, hi]
theorem makeBytes (k : Nat) (W : World) (hk : k ≤ 140737488355328) : (Instr.makeSlice 62 (.int .i64 (k : Int)) (.int .i64 (k : Int))).run Tryz.prog W = .ok (.slice (some ⟨W.heap.size, 0, none⟩) k k) (W.alloc (.cells (bcells (List.replicate k 0)).toArray 5)) := by
  rw [← madeCells_bytes]
  exact run_make_row' 62 5 (.int .u8 0) 1 Tryz.underlying62 info_u8 rfl .i64 .i64 k (by omega) (by omega) W

set_option maxHeartbeats 1000000 in
theorem fixed_any (n k : Int) (w : World) (n0 : 0 ≤ n) (n1 : n < 18446744073709551616) (k1 : 1 ≤ k) (k8 : k ≤ 8) :
    Calls Tryz.prog 94 #[.int .u64 n, .int .i64 k] w (Ret (.string (bs (fixedB n k.toNat))) w) := by
  obtain ⟨m, rfl⟩ := Int.eq_ofNat_of_zero_le (show 0 ≤ k by omega)
  rw [Int.toNat_natCast]
  have hd : (decide ((1 : Int) ≤ (m : Int)) && decide ((m : Int) ≤ 8)) = true := by simp; omega
  have hmk := fun W => makeBytes m W (by omega)
  go_enter Tryz.func94, Tryz.ntmps94
  go_wp2_with (go_at_call 112; refine (fits_any _ _).mono ?_; rw [hd]; rintro e w1 ⟨rfl, rfl⟩)
  go_loopw [14, 6] (fun t v6 wr => ∃ i : Nat, i ≤ m ∧ t = .int .i64 i ∧ Blk wr w.heap.size 5 (bcells ((fixedB n m).take i ++ List.replicate (m - i) 0)).toArray ∧ Ext w wr) (fun t _ _ => m - (intOf t).toNat)
  case atStart => exact ⟨0, by omega, rfl, Blk.new _ _ _, (Ext.refl _).alloc _⟩
  case round =>
    obtain ⟨i, hi, rfl, hB, hE⟩ := hrel
    clear hmk hd
    by_cases hlt : i < m
    · have hst := fixedB_take n m i hlt
      have hu := u8_of (n / 2 ^ (8 * (m - 1 - i)))
      have hcd : (wr.cell? ⟨w.heap.size, i, none⟩).isSome = true := by rw [hB.cell]; simp [bcells, fixedB]; omega
      obtain ⟨vd, hcd⟩ := Option.isSome_iff_exists.1 hcd
      have hfd := hB.frozen i
      have HST := Lib.hid hst
      have HU := Lib.hid hu
      have HB := Lib.hid hB
      have HE := Lib.hid hE
      clear hB hE hst hu
      have t0 : (0 : Int) ≤ 8 * ((m : Int) - 1 - (i : Int)) := by omega
      have t1 : 8 * ((m : Int) - 1 - (i : Int)) ≤ 56 := by omega
      have t2 : (8 * ((m : Int) - 1 - (i : Int))).toNat = 8 * (m - 1 - i) := by omega
      go_wp2_with fail
      go_roundw
      case rel => exact ⟨i + 1, by omega, by go_num, by rw [← HST.out, ← bcells_set, HU.out]; exact HB.out.set i _, HE.out.setCell (p := ⟨w.heap.size, i, none⟩) (Nat.le_refl _) _⟩
      case measure => simp only [intOf]; omega
    · obtain rfl : i = m := by omega
      have hfull : (fixedB n i).take i ++ List.replicate (i - i) 0 = fixedB n i := by rw [List.take_of_length_le (by rw [fixedB_length]; exact Nat.le_refl _)]; simp
      rw [hfull] at hB
      have hcv := blk_string (P := Tryz.prog) (src := 62) (dst := 9) (c := i) Tryz.underlying62 Tryz.underlying5 Tryz.underlying9 hB
      rw [fixedB_length] at hcv
      have HE := Lib.hid hE
      clear hB hE hfull
      go_wp2_with fail
      go_ret
      exact ⟨rfl, HE.out⟩

/-- The number that bytes tell, the highest one first. -/
def be (x : Int) : Bytes → Int
  | [] => x
  | c :: l => be (x * 256 + c.toNat) l
theorem be_snoc (x : Int) (l : Bytes) (c : UInt8) : be x (l ++ [c]) = be x l * 256 + c.toNat := by
  induction l generalizing x with
  | nil => rfl
  | cons a l ih => exact ih _
theorem be_nonneg {x : Int} (h : 0 ≤ x) (l : Bytes) : 0 ≤ be x l := by
  induction l generalizing x with
  | nil => exact h
  | cons a l ih => exact ih (by omega)
theorem be_lt (l : Bytes) : be 0 l < 256 ^ l.length := by
  have key : ∀ (n : Nat) (l : Bytes), l.length = n → be 0 l < 256 ^ n := by
    intro n
    induction n with
    | zero => intro l hl; rw [List.length_eq_zero_iff.1 hl]; simp [be]
    | succ n ih =>
      intro l hl
      obtain ⟨l', c, rfl⟩ : ∃ l' c, l = l' ++ [c] := ⟨l.dropLast, l.getLast (by intro h; simp [h] at hl), (List.dropLast_concat_getLast _).symm⟩
      rw [be_snoc]
      have := ih l' (by simpa using hl)
      have h2 := u8_le c
      rw [Int.pow_succ]
      omega
  exact key _ l rfl
theorem or_be (x c : Int) (h0 : 0 ≤ x) (h1 : x < 72057594037927936) (c0 : 0 ≤ c) (c1 : c ≤ 255) : bits .or .u64 (x * 256) c = x * 256 + c := by
  exact bits_join .u64 64 (by decide) (fun n a b => by rw [IntKind.wrap_u64]; omega) 8 (x * 256) c (by omega) (by omega) (by omega) (by omega) (by omega) (by omega)

set_option maxRecDepth 100000 in
set_option maxHeartbeats 1000000 in
theorem takeFixed_any (s : ByteArray) (k : Int) (w : World) (k1 : 1 ≤ k) (k8 : k ≤ 8) (hk : k ≤ s.size) (hs : s.size ≤ 140737488355328) :
    Calls Tryz.prog 108 #[.string s, .int .i64 k] w (Ret (.tuple #[.int .u64 (be 0 ((lb s).take k.toNat)), .string (bs ((lb s).drop k.toNat)), .int .i64 0]) w) := by
  obtain ⟨m, rfl⟩ := Int.eq_ofNat_of_zero_le (show 0 ≤ k by omega)
  simp only [Int.toNat_natCast]
  have hd : (decide ((1 : Int) ≤ (m : Int)) && decide ((m : Int) ≤ 8)) = true := by simp; omega
  obtain ⟨t, ht⟩ : ∃ t, t = bs ((lb s).take m) := ⟨_, rfl⟩
  have hlt : lb t = (lb s).take m := by rw [ht, lb_bs]
  have hts : t.size = m := by rw [ht, bs_size, List.length_take, lb_length]; omega
  rw [← hlt]
  have HD := Lib.hid hd
  have HTS := Lib.hid hts
  have HT := Lib.hid ht
  clear hd hts ht hlt
  go_enter Tryz.func108, Tryz.ntmps108
  go_wp2_with (first | (go_at_call 112; refine (fits_any _ _).mono ?_; rw [HD.out]; rintro e w1 ⟨rfl, rfl⟩) | (go_at_call 128; refine (cut_any _ _ _ (by omega) hk hs).mono ?_; rw [Int.toNat_natCast, ← HT.out]; rintro e w1 ⟨rfl, hE1⟩; have kb := Lib.run_convert_string_bytes (P := Tryz.prog) w1 9 62 5 t Tryz.underlying9 Tryz.underlying62 Tryz.underlying5))
  clear kb
  have hE2 := hE1.trans (bytes_ext w1 5 t)
  have hbc := Lib.bytesWorld_cell w1 5 t
  have HE := Lib.hid hE2
  have HBC := Lib.hid hbc
  clear hE1 hE2 hbc
  generalize Lib.bytesWorld w1 5 t = wb at *
  generalize w1.heap.size = q at *
  go_loop [9, 28] (fun v i => ∃ j : Nat, j ≤ t.size ∧ i = .int .i64 j ∧ v = .int .u64 (be 0 ((lb t).take j))) (fun _ i => t.size - (intOf i).toNat)
  case atStart => exact ⟨0, by omega, rfl, rfl⟩
  case round =>
    obtain ⟨j, hj, rfl, rfl⟩ := hrel
    have ht8 : t.size ≤ 8 := by have := HTS.out; omega
    by_cases hlt : j < t.size
    · have hc : wb.cell? ⟨q, j, none⟩ = some (.int .u8 ((t[j]).toNat : Int)) := by
        rw [HBC.out j hlt]
        exact congrArg (fun c : UInt8 => some (Value.int .u8 (c.toNat : Int))) (lb_getD t j hlt)
      have hst := (congrArg (be 0) (take_lb t j hlt)).trans (be_snoc 0 _ _)
      have c0 := u8_ge t[j]
      have c1 := u8_le t[j]
      have b0 := be_nonneg (Int.le_refl 0) ((lb t).take j)
      have b1 : be 0 ((lb t).take j) < 72057594037927936 := by
        have h := be_lt ((lb t).take j)
        have hl : ((lb t).take j).length ≤ 7 := by rw [List.length_take]; omega
        generalize ((lb t).take j).length = n at h hl
        have hn : n = 0 ∨ n = 1 ∨ n = 2 ∨ n = 3 ∨ n = 4 ∨ n = 5 ∨ n = 6 ∨ n = 7 := by omega
        rcases hn with rfl | rfl | rfl | rfl | rfl | rfl | rfl | rfl <;> omega
      have hor := or_be _ _ b0 b1 c0 c1
      rw [← hst] at hor
      generalize ((t[j]).toNat : Int) = c at *
      have HOR := Lib.hid hor
      clear hor hst
      generalize be 0 ((lb t).take j) = x at *
      go_wp2_with fail
      go_round
      case rel => exact ⟨j + 1, by omega, by go_num, by rw [← HOR.out]⟩
      case measure => simp only [intOf]; omega
    · obtain rfl : j = t.size := by omega
      go_wp2_with fail
      go_ret3
      exact ⟨by rw [take_all]; rfl, HE.out⟩
end Go.Proofs.YtnkebhlkhpgghaaGreatDoor
/- event: the walks. -/
namespace Go.Proofs.YtnkebhlkhpgghaaGreatDoor
open Go Go.RowKit Go.Deep

/-- A slice that reads as a list: sz cells an element. -/
def Rd {α : Type} (w : World) (sz : Nat) (enc : α → List Value) (v : Value) (l : List α) : Prop :=
  ∃ (A : Option Addr) (c : Nat), v = .slice A l.length c ∧ l.length ≤ c ∧ c ≤ 9223372036854775807 ∧
    (0 < l.length → ∃ b off, A = some ⟨b, off, none⟩ ∧ b < w.heap.size ∧ ∀ (i : Nat) (x : α), l[i]? = some x → ∀ (j : Nat) (u : Value), (enc x)[j]? = some u → w.cell? ⟨b, off + i * sz + j, none⟩ = some u)
theorem Rd.ext {α : Type} {w w' : World} {sz : Nat} {enc : α → List Value} {v : Value} {l : List α} (h : Rd w sz enc v l) (k : Ext w w') : Rd w' sz enc v l := by
  obtain ⟨A, c, hv, h1, h2, h3⟩ := h
  refine ⟨A, c, hv, h1, h2, fun hl => ?_⟩
  obtain ⟨b, off, hA, hb, hc⟩ := h3 hl
  exact ⟨b, off, hA, Nat.lt_of_lt_of_le hb k.size, fun i x hx j u hu => k.cell_some (hc i x hx j u hu)⟩
theorem Rd.keep {α : Type} {S : Nat → Prop} {w w' : World} {sz : Nat} {enc : α → List Value} {v : Value} {l : List α} (h : Rd w sz enc v l) (k : Keep S w w') (hs : ∀ g, v.ownBlock = some g → ¬ S g) : Rd w' sz enc v l := by
  obtain ⟨A, c, hv, h1, h2, h3⟩ := h
  refine ⟨A, c, hv, h1, h2, fun hl => ?_⟩
  obtain ⟨b, off, hA, hb, hc⟩ := h3 hl
  exact ⟨b, off, hA, Nat.lt_of_lt_of_le hb k.size, fun i x hx j u hu => k.cell_some (hc i x hx j u hu) (hs b (by rw [hv, hA]; rfl))⟩
theorem Rd.none {α : Type} (w : World) (sz : Nat) (enc : α → List Value) : Rd w sz enc (.slice none 0 0) [] := ⟨Option.none, 0, rfl, by simp, by decide, fun h => absurd h (by simp)⟩

structure Ev where
  seq : Int
  tick : Int
  part : Int
  kind : Int
  a : Int
  b : Int
  deriving DecidableEq
def Ev.cells (x : Ev) : List Value := [.int .u64 x.seq, .int .i64 x.tick, .int .i64 x.part, .int .i64 x.kind, .int .i64 x.a, .int .i64 x.b]
theorem Ev.cells_one (x : Ev) : ∀ v ∈ x.cells, v.oneCell' = true := by intro v hv; simp [Ev.cells] at hv; rcases hv with rfl | rfl | rfl | rfl | rfl | rfl <;> rfl
/-- The numbers are of their kinds. -/
def Ev.In (x : Ev) : Prop := (0 ≤ x.seq ∧ x.seq < 18446744073709551616) ∧ (-9223372036854775808 ≤ x.tick ∧ x.tick < 9223372036854775808) ∧ (-9223372036854775808 ≤ x.part ∧ x.part < 9223372036854775808) ∧
  (-9223372036854775808 ≤ x.kind ∧ x.kind < 9223372036854775808) ∧ (-9223372036854775808 ≤ x.a ∧ x.a < 9223372036854775808) ∧ (-9223372036854775808 ≤ x.b ∧ x.b < 9223372036854775808)
def wi (n lo hi : Int) : Bool := decide (lo ≤ n) && decide (n ≤ hi)
theorem wi_iff {n lo hi : Int} : wi n lo hi = true ↔ lo ≤ n ∧ n ≤ hi := by simp [wi]
def Ev.is (x : Ev) : Bool := wi x.kind 1 8 && wi x.tick 0 1099511627776 && wi x.part (-1) 31 && wi x.a 0 4294967295 && wi x.b 0 4294967295

theorem within_any (n lo hi : Int) (w : World) : Calls Tryz.prog 130 #[.int .i64 n, .int .i64 lo, .int .i64 hi] w fun e w' => e = .returned (.bool (wi n lo hi)) ∧ w = w' := by
  by_cases h1 : lo ≤ n
  · have h1' : decide (lo ≤ n) = true := decide_eq_true h1
    go_enter Tryz.func130, Tryz.ntmps130
    go_wp2_with fail
    go_ret
    exact ⟨by simp [wi, h1], rfl⟩
  · have h1' : decide (lo ≤ n) = false := decide_eq_false h1
    go_enter Tryz.func130, Tryz.ntmps130
    go_wp2_with fail
    go_ret
    exact ⟨by unfold wi; rw [h1']; rfl, rfl⟩

set_option maxHeartbeats 400000 in
theorem eventIs_any (x : Ev) (w : World) : Calls Tryz.prog 110 #[.agg x.cells.toArray] w (Ret (.bool x.is) w) := by
  obtain ⟨s, t, p, k, a, b⟩ := x
  have hi : Ev.is ⟨s, t, p, k, a, b⟩ = (wi k 1 8 && wi t 0 1099511627776 && wi p (-1) 31 && wi a 0 4294967295 && wi b 0 4294967295) := rfl
  rw [hi]
  clear hi
  generalize h1 : wi k 1 8 = b1
  generalize h2 : wi t 0 1099511627776 = b2
  generalize h3 : wi p (-1) 31 = b3
  generalize h4 : wi a 0 4294967295 = b4
  generalize h5 : wi b 0 4294967295 = b5
  have H1 := Lib.hid h1
  have H2 := Lib.hid h2
  have H3 := Lib.hid h3
  have H4 := Lib.hid h4
  have H5 := Lib.hid h5
  clear h1 h2 h3 h4 h5
  unfold Ev.cells
  cases b1 <;> cases b2 <;> cases b3 <;> cases b4 <;> (
    go_enter Tryz.func110, Tryz.ntmps110
    go_wp2_with (go_at_call 130; refine (within_any _ _ _ _).mono ?_; (first | rw [H1.out] | rw [H2.out] | rw [H3.out] | rw [H4.out] | rw [H5.out]); rintro e w' ⟨rfl, rfl⟩)
    go_ret
    exact ⟨by simp, (Ext.refl w).alloc _⟩)
end Go.Proofs.YtnkebhlkhpgghaaGreatDoor
/- event.Put, wire.Text: the walks. -/
namespace Go.Proofs.YtnkebhlkhpgghaaGreatDoor
open Go Go.RowKit Go.Deep

/-- 'append(v, s...)', s a string. -/
theorem wpList_appendS {P : Program} {ops : Array Oper} {rest : List Oper} {o : Oper} {a : Act} {Q : Exit → Act → World → Prop} {W : World} (base : Nat) (hgd : o.guard = none) (sl x : Operand) (t u e : TypeId)
    (ho : o.op = .call { callee := .builtin .append, args := #[sl, x], argTypes := #[t, u] })
    (ht : P.underlying t = some (.slice e)) (hu : P.underlying u = some .string) (hinfo : (P.info? e).map (fun i => (i.zero, i.size, i.bytes)) = some (some (.int .u8 0), 1, 1))
    (v : Value) (n : Nat) (xs : List Value) (hs : a.eval sl = v) (s : ByteArray) (hx : a.eval x = .string s) (HO : W.ownsRow base e 1 v n xs) (hbase : base ≤ W.heap.size) (hl : n + s.size ≤ 140737488355328)
    (h : ∀ A c w1, w1.ownsRow base e 1 (.slice A (n + s.size) c) (n + s.size) (xs ++ bcells (lb s)) → Keep (Of v) W w1 → wpList P ops Q rest (a.put o.dst (.slice A (n + s.size) c)) w1) :
    wpList P ops Q (o :: rest) a W := by
  obtain ⟨i0, hi, hzz⟩ := Option.map_eq_some_iff.1 hinfo
  simp only [Prod.mk.injEq] at hzz
  obtain ⟨hz0, hz1, hz2⟩ := hzz
  refine Lib.wpList_append_own_string W hgd sl x t u ho base e i0 ht hu hi hz0 hz1 hz2 v n xs hs HO s hx (by simp only [maxLen]; omega) hl hbase ?_
  intro v1 w1 hown hg _
  obtain ⟨A, c, rfl⟩ := own_slice hown
  exact h A c w1 hown ((Keep.refl _ _).grown hg (fun k hk => Or.inl hk))

/-- append, as a step of a region that draws, out of its run. -/
theorem step_append_run {P : Program} {ops : Array Oper} {o : Oper} {a : Act} {w : World} {K : Act → World → Prop} {Q : Exit → Act → World → Prop} {E : Prop} (hgd : o.guard = none) (s x : Operand) (ts : Array TypeId)
    (ho : o.op = .call { callee := .builtin .append, args := #[s, x], argTypes := ts }) {v : Value} {w' : World} (hr : (Builtin.append_ ts o.type #[a.eval s, a.eval x]).run P w = .ok v w') (hK : K (a.put o.dst v) w') :
    if Region.wanted o (yielded ops a.tmps) = true then Oper.wp P o a w K Q else E := by
  have hw : Region.wanted o (yielded ops a.tmps) = true := by simp [Region.wanted, hgd]
  rw [if_pos hw]
  unfold Oper.wp execOp
  simp only [ho, resolve, invoke, builtin, Sem.run_bind, Sem.run_pure, Result.andThen_ok, List.map_toArray, List.map_cons, List.map_nil, hr]
  exact hK

/-- A variable that holds a row of bytes of the call's own. -/
def BV (w : World) (base B : Nat) (l : Bytes) : Prop := ∃ A c, Blk w B 62 #[.slice A l.length c] ∧ w.ownsRow base 5 1 (.slice A l.length c) l.length (bcells l) ∧ base ≤ B
def From (base : Nat) : Nat → Prop := fun k => base ≤ k
theorem own_other {w : World} {base n : Nat} {e t : TypeId} {size : Nat} {v : Value} {xs : List Value} {B : Nat} {cs : Array Value} (h : w.ownsRow base e size v n xs) (hB : Blk w B t cs) (hne : t ≠ e) : ∀ k, v.ownBlock = some k → k ≠ B := by
  intro k hk hkB
  subst hkB
  rcases h.2 with ⟨rfl, _⟩ | ⟨g, cap, cur, rfl, _, hg, _⟩
  · simp [Value.ownBlock] at hk
  · simp [Value.ownBlock] at hk
    subst hk
    rw [Blk, hg] at hB
    simp at hB
    exact hne hB.2.symm
theorem BV.ext {w w' : World} {base B : Nat} {l : Bytes} (h : BV w base B l) (k : Ext w w') : BV w' base B l := by
  obtain ⟨A, c, hB, hO, hb⟩ := h
  exact ⟨A, c, hB.ext k, own_ext hO k, hb⟩

theorem put1_append (l : Bytes) (base B : Nat) (A : Option Addr) (c : Nat) (w w1 : World) (p : Bytes) (hB : Blk w B 62 #[.slice A l.length c]) (hO : w.ownsRow base 5 1 (.slice A l.length c) l.length (bcells l)) (hb : base ≤ B)
    (hl : l.length + p.length ≤ 140737488355328) (hE : Ext w w1) : ∃ A' c' w2, (Builtin.append_ #[62, 9] 62 #[.slice A l.length c, .string (bs p)]).run Tryz.prog w1 = .ok (.slice A' (l ++ p).length c') w2 ∧
      w2.cell? ⟨B, 0, none⟩ = some (.slice A l.length c) ∧ w2.frozen? ⟨B, 0, none⟩ = false ∧
      Hid (BV (w2.setCell ⟨B, 0, none⟩ (.slice A' (l ++ p).length c')) base B (l ++ p) ∧ Keep (From base) w (w2.setCell ⟨B, 0, none⟩ (.slice A' (l ++ p).length c'))) := by
  obtain ⟨i0, hi, hzz⟩ := Option.map_eq_some_iff.1 info_u8
  simp only [Prod.mk.injEq] at hzz
  obtain ⟨hz0, hz1, hz2⟩ := hzz
  have hB1 := hB.ext hE
  have hO1 := own_ext hO hE
  have hps : (bs p).size = p.length := by simp [bs, ByteArray.size]
  obtain ⟨v', w2, hr, h2, h3, h4⟩ := Lib.run_append_own_string (P := Tryz.prog) w1 base 62 9 62 5 i0 Tryz.underlying62 Tryz.underlying9 hi hz0 hz1 hz2 (.slice A l.length c) l.length (bcells l) hO1 (bs p) (by simp only [maxLen]; omega) (by omega) (by have := hB1.lt; omega)
  obtain ⟨A', c', rfl⟩ := own_slice h2
  have hn : l.length + (bs p).size = (l ++ p).length := by rw [hps, List.length_append]
  have hcells : bcells l ++ Lib.strCells (bs p) = bcells (l ++ p) := by rw [bcells_append]; rfl
  rw [hn, hcells] at h2
  rw [hn] at hr
  have hK : Keep (Of (.slice A l.length c)) w1 w2 := (Keep.refl _ _).grown h3 (fun k hk => Or.inl hk)
  have hne := own_other hO1 hB1 (by decide)
  have hB2 := hB1.keep hK (fun h => hne B h rfl)
  have hne2 := own_other h2 hB2 (by decide)
  refine ⟨A', c', w2, hr, by rw [hB2.cell]; rfl, hB2.frozen 0, ⟨A', c', hB2.set 0 _, own_keep h2 ((Keep.refl (One B) w2).setIn rfl 0 _) (fun g hg hgB => hne2 g hg hgB), hb⟩, ?_⟩
  exact ((Keep.of_ext hE).then hK (fun i hi => Or.inl (own_base hO1 i hi))).setIn hb 0 _

set_option maxHeartbeats 400000 in
theorem put1_any (n : Int) (l : Bytes) (base B : Nat) (w : World) (n0 : 0 ≤ n) (n1 : n < 18446744073709551616) (hV : BV w base B l) (hl : l.length ≤ 1000000) :
    Calls Tryz.prog 111 #[.int .u64 n, .pointer (some ⟨B, 0, none⟩)] w fun e w' => e = .returned (.tuple #[]) ∧ BV w' base B (l ++ vput n.toNat) ∧ Keep (From base) w w' := by
  obtain ⟨A, c, hB, hO, hb⟩ := hV
  have hten := vput_ten (n := n.toNat) (by omega)
  have cB : w.cell? ⟨B, 0, none⟩ = some (.slice A l.length c) := by rw [hB.cell]; rfl
  have fB : w.frozen? ⟨B, 0, none⟩ = false := hB.frozen 0
  have HF := Lib.hid (fun w1 hE => put1_append l base B A c w w1 (vput n.toNat) hB hO hb (by omega) hE)
  have HC := Lib.hid (fun w => wirePut_any n w n0 n1)
  clear hB hO hten hl n0 n1
  generalize vput n.toNat = p at HF HC ⊢
  generalize hq : (l ++ p).length = q at HF
  clear hq
  go_enter Tryz.func111, Tryz.ntmps111
  go_wp2_with fail
  go_region_law (first | (have hr2 := hr; refine step_append_run rfl (.tmp 3) (.tmp 5) #[62, 9] rfl hr ?_) | (go_simp; go_at_call 91; refine (HC.out _).mono ?_; rintro e w1 ⟨rfl, hE1⟩; have cB1 := hE1.cell_some cB; obtain ⟨A', c', w2, hr, cB2, fB2, HP⟩ := HF.out w1 ((Ext.refl w).drew.trans hE1); dsimp only))
  all_goals (go_end0; exact ⟨rfl, HP.out.1, HP.out.2⟩)

def Ev.put (x : Ev) : Bytes := UInt8.ofNat x.kind.toNat :: (vput x.seq.toNat ++ vput x.tick.toNat ++ vput (x.part + 1).toNat ++ vput x.a.toNat ++ vput x.b.toNat)

/-- What stands while an event is put: its own cells, and the bytes so far. -/
structure PS (w : World) (G base B : Nat) (x : Ev) (j : Nat) (w' : World) (L : Bytes) : Prop where
  bv : BV w' base B L
  blk : Blk w' G 91 x.cells.toArray
  ext : Ext w w'
  hG : G < base
  hb : w.heap.size ≤ G
  len : L.length ≤ 1 + 10 * j
theorem PS.step {w : World} {G base B : Nat} {x : Ev} {j : Nat} {w' : World} {L : Bytes} (h : PS w G base B x j w' L) (n : Int) (n0 : 0 ≤ n) (n1 : n < 18446744073709551616) (hj : j ≤ 10) :
    Calls Tryz.prog 111 #[.int .u64 n, .pointer (some ⟨B, 0, none⟩)] w' fun e w'' => e = .returned (.tuple #[]) ∧ PS w G base B x (j + 1) w'' (L ++ vput n.toNat) := by
  refine (put1_any n L base B w' n0 n1 h.bv (by have := h.len; omega)).mono ?_
  rintro e w'' ⟨rfl, h1, h2⟩
  have hten := vput_ten (n := n.toNat) (by omega)
  exact ⟨rfl, h1, h.blk.keep h2 (by have := h.hG; simp only [From]; omega), h.ext.keep h2 (by intro i hi; have := h.hG; have := h.hb; simp only [From] at hi; omega), h.hG, h.hb, by have := h.len; rw [List.length_append]; omega⟩

theorem PS.start {w w1 : World} {x : Ev} (k0 : 1 ≤ x.kind) (k1 : x.kind ≤ 8) (hE : Ext (w.alloc (.cells x.cells.toArray 91)) w1) :
    PS w w.heap.size w1.heap.size (w1.heap.size + 1) x 0 ((w1.alloc (.cells #[.int .u8 x.kind] 5)).alloc (.cells #[.slice (some ⟨w1.heap.size, 0, none⟩) 1 1] 62)) [UInt8.ofNat x.kind.toNat] := by
  have hB := (Blk.new w 91 x.cells.toArray).ext hE
  have hc : bcells [UInt8.ofNat x.kind.toNat] = [Value.int .u8 x.kind] := by
    simp only [bcells, List.map_cons, List.map_nil]
    rw [show ((UInt8.ofNat x.kind.toNat).toNat : Int) = x.kind from by rw [UInt8.toNat_ofNat']; omega]
  refine ⟨⟨some ⟨w1.heap.size, 0, none⟩, 1, Blk.new' (by simp), ?_, by omega⟩, (hB.alloc _).alloc _, ((((Ext.refl w).alloc _).trans hE).alloc _).alloc _, hB.lt, Nat.le_refl _, by simp⟩
  rw [hc]
  exact (own_lit [Value.int .u8 x.kind] 1 rfl (Nat.le_refl _) rfl (by decide)).alloc _
theorem PS.load {w : World} {G base B : Nat} {x : Ev} {j : Nat} {w' : World} {L : Bytes} (h : PS w G base B x j w' L) : w'.cell? ⟨G, 0, none⟩ = some (.int .u64 x.seq) ∧ w'.cell? ⟨G, 1, none⟩ = some (.int .i64 x.tick) ∧
    w'.cell? ⟨G, 2, none⟩ = some (.int .i64 x.part) ∧ w'.cell? ⟨G, 4, none⟩ = some (.int .i64 x.a) ∧ w'.cell? ⟨G, 5, none⟩ = some (.int .i64 x.b) :=
  ⟨h.blk.cell 0, h.blk.cell 1, h.blk.cell 2, h.blk.cell 4, h.blk.cell 5⟩
theorem PS.last {w : World} {G base B : Nat} {x : Ev} {j : Nat} {w' : World} {L : Bytes} (h : PS w G base B x j w' L) : ∃ (m : Nat) (z : ByteArray) (A : Option Addr) (c : Nat), Hid (z = bs L) ∧ w'.cell? ⟨B, 0, none⟩ = some (.slice A m c) ∧ (convert 62 9 (.slice A m c)).run Tryz.prog w' = .ok (.string z) w' := by
  obtain ⟨A, c, hB, hO, _⟩ := h.bv
  exact ⟨_, _, A, c, Lib.hid rfl, by rw [hB.cell]; rfl, own_string (e' := 5) Tryz.underlying62 Tryz.underlying5 Tryz.underlying9 hO⟩

set_option maxHeartbeats 800000 in
theorem eventPut_any (x : Ev) (w : World) (s0 : 0 ≤ x.seq) (s1 : x.seq < 18446744073709551616) : Calls Tryz.prog 92 #[.agg x.cells.toArray] w (Ret (.tuple (if x.is then #[.string (bs x.put), .int .i64 0] else #[.string (bs []), .int .i64 1])) w) := by
  have HI := Lib.hid (eventIs_any x)
  by_cases hx : x.is = true
  · rw [hx] at HI
    rw [if_pos hx]
    have hb := hx
    simp only [Ev.is, Bool.and_eq_true, wi_iff] at hb
    have hx2 : PS (w := w) = PS (w := w) := rfl
    have hput : x.put = [UInt8.ofNat x.kind.toNat] ++ vput x.seq.toNat ++ vput x.tick.toNat ++ vput (x.part + 1).toNat ++ vput x.a.toNat ++ vput x.b.toNat := by simp [Ev.put]
    generalize x.put = bytes at hput ⊢
    have HPUT := Lib.hid hput
    clear hput hx hx2
    obtain ⟨⟨⟨⟨⟨k0, k1⟩, t0, t1⟩, p0, p1⟩, a0, a1⟩, b0, b1⟩ := hb
    have HS := Lib.hid (fun (w1 : World) (hE : Ext (w.alloc (.cells x.cells.toArray 91)) w1) => PS.start k0 k1 hE)
    have HN := Lib.hid (fun (B base : Nat) (j : Nat) (w' : World) (L : Bytes) (h : PS w w.heap.size base B x j w' L) (n : Int) => h.step n)
    obtain ⟨s, t, p, k, a, b⟩ := x
    simp only at HPUT s0 s1 k0 k1 t0 t1 p0 p1 a0 a1 b0 b1
    simp only [Ev.cells] at HI HS ⊢
    go_enter Tryz.func92, Tryz.ntmps92
    go_wp2_with (first | (go_at_call 110; refine (HI.out _).mono ?_; rintro e w1 ⟨rfl, hE1⟩; have hP := HS.out w1 hE1; obtain ⟨c0, c1, c2, c4, c5⟩ := hP.load; simp only at c0; have c3 := (Blk.ext (Blk.new _ _ _) hE1).cell 3; have HP := Lib.hid hP; clear hP hE1) | (go_at_call 111; refine (HN.out _ _ _ _ _ HP.out _ (by omega) (by omega) (by omega)).mono ?_; rintro e w1 ⟨rfl, hP⟩; obtain ⟨c0, c1, c2, c4, c5⟩ := hP.load; obtain ⟨m, z, A, c, hz, cb, kb⟩ := hP.last; have HP := Lib.hid hP; clear hP))
    go_ret2
    exact ⟨by rw [HPUT.out, ← hz.out]; rfl, HP.out.ext⟩
  · have hx' : x.is = false := by simpa using hx
    rw [hx'] at HI
    rw [if_neg hx]
    clear hx hx'
    obtain ⟨s, t, p, k, a, b⟩ := x
    simp only [Ev.cells] at HI ⊢
    go_enter Tryz.func92, Tryz.ntmps92
    go_wp2_with (go_at_call 110; refine (HI.out _).mono ?_; rintro e w1 ⟨rfl, hE1⟩; have HE1 := Lib.hid hE1; clear hE1)
    go_ret2
    exact ⟨rfl, ((Ext.refl w).alloc _).trans HE1.out⟩

theorem wireText_any (t : ByteArray) (w : World) (ht : t.size ≤ 140737488355328) : Calls Tryz.prog 93 #[.string t] w (Ret (.tuple (if t.size ≤ 65536 then #[.string (bs (vput t.size ++ lb t)), .int .i64 0] else #[.string (bs []), .int .i64 2])) w) := by
  by_cases h : t.size ≤ 65536
  · rw [if_pos h]
    have h2 : bs (vput t.size ++ lb t) = bs (vput t.size) ++ t := by rw [← bs_append, bs_lb]
    rw [h2]
    have HC := Lib.hid (fun w => wirePut_any (t.size : Int) w (by omega) (by omega))
    simp only [Int.toNat_natCast] at HC
    clear h2
    have hm : (t.size : Int) ≤ 65536 := by omega
    have hc : ¬ 9223372036854775807 < (vput t.size).length + t.size := by have := vput_ten (n := t.size) (by omega); omega
    go_enter Tryz.func93, Tryz.ntmps93
    go_wp2_with (go_at_call 91; refine (HC.out _).mono ?_; rintro e w1 ⟨rfl, hE1⟩; have HE1 := Lib.hid hE1; clear hE1)
    go_ret2
    exact ⟨rfl, HE1.out⟩
  · rw [if_neg h]
    have hm : ¬ (t.size : Int) ≤ 65536 := by omega
    go_enter Tryz.func93, Tryz.ntmps93
    go_wp2_with fail
    go_ret2
    exact ⟨rfl, Ext.refl w⟩
end Go.Proofs.YtnkebhlkhpgghaaGreatDoor
/- event.follows, Run: the walks. -/
namespace Go.Proofs.YtnkebhlkhpgghaaGreatDoor
open Go Go.RowKit Go.Deep

def follow (x y : Ev) : Bool := decide (y.seq ≠ 0) && decide (y.seq - 1 = x.seq)
def runFrom : Option Ev → List Ev → Bool
  | _, [] => true
  | none, y :: l => y.is && runFrom (some y) l
  | some x, y :: l => y.is && follow x y && runFrom (some y) l

theorem follows_any (b off : Nat) (x y : Int) (w : World) (hx : w.cell? ⟨b, off, none⟩ = some (.int .u64 x)) (hy : w.cell? ⟨b, off + 6, none⟩ = some (.int .u64 y)) (x0 : 0 ≤ x) (y0 : 0 ≤ y) (y1 : y < 18446744073709551616) :
    Calls Tryz.prog 129 #[.slice (some ⟨b, off, none⟩) 2 2] w (Ret (.bool (decide (y ≠ 0) && decide (y - 1 = x))) w) := by
  by_cases h : y = 0
  · subst h
    go_enter Tryz.func129, Tryz.ntmps129
    go_wp2_with fail
    go_quiet (fail)
    go_wp2_with fail
    go_ret
    exact ⟨by simp, (Ext.refl w).drewN _⟩
  · have hw : IntKind.u64.wrap (y - 1) = y - 1 := IntWalk.u64_in _ (by omega)
    have hd : decide (y = 0) = false := decide_eq_false h
    go_enter Tryz.func129, Tryz.ntmps129
    go_wp2_with fail
    go_quiet (fail)
    go_wp2_with fail
    go_ret
    have h2 : (y != 0) = true := by simpa using h
    have h3 : (y - 1 == x) = decide (y - 1 = x) := rfl
    exact ⟨by simp [h, h2, h3], (Ext.refl w).drewN _⟩

def prevOf (l : List Ev) (i : Nat) : Option Ev := if i = 0 then none else l[i - 1]?
theorem runFrom_step {l : List Ev} {i : Nat} {x : Ev} (h : l[i]? = some x) : runFrom (prevOf l i) (l.drop i) = (x.is && (match prevOf l i with | none => true | some y => follow y x) && runFrom (prevOf l (i + 1)) (l.drop (i + 1))) := by
  have hl := (List.getElem?_eq_some_iff.1 h).1
  have hd : l.drop i = x :: l.drop (i + 1) := by rw [List.drop_eq_getElem_cons hl, (List.getElem?_eq_some_iff.1 h).2]
  have hp : prevOf l (i + 1) = some x := by simp [prevOf, h]
  rw [hd, hp]
  cases prevOf l i <;> simp [runFrom]

set_option maxHeartbeats 800000 in
theorem run_any (v : Value) (l : List Ev) (w : World) (h : Rd w 6 Ev.cells v l) (hl : l.length ≤ 1000000) (hin : ∀ x ∈ l, x.In) : Calls Tryz.prog 109 #[v] w (Ret (.bool (runFrom none l)) w) := by
  obtain ⟨A, c, rfl, hc, hc2, hA⟩ := h
  have HA := Lib.hid hA
  have HI := Lib.hid hin
  clear hA hin
  generalize hm : l.length = m at *
  have HM := Lib.hid hm
  clear hm
  go_enter Tryz.func109, Tryz.ntmps109
  go_wp2_with fail
  obtain ⟨w0, rfl⟩ : ∃ w0 : World, w0 = w := ⟨_, rfl⟩
  go_loopw [7] (fun t7 wr => ∃ (i : Nat), t7 = .int .i64 i ∧ i ≤ m ∧ runFrom none l = runFrom (prevOf l i) (l.drop i) ∧ Ext w0 wr) (fun t7 _ => m - (intOf t7).toNat)
  case atStart => exact ⟨0, rfl, by omega, by simp [prevOf], Ext.refl _⟩
  case round =>
    obtain ⟨i, rfl, hi, hr, hE⟩ := hrel
    have HE := Lib.hid hE
    have HR := Lib.hid hr
    clear hE hr
    by_cases hlt : i < m
    · obtain ⟨b, off, rfl, hb, hcell⟩ := HA.out (by omega)
      obtain ⟨x, hx⟩ : ∃ x, l[i]? = some x := ⟨_, List.getElem?_eq_getElem (by rw [HM.out]; exact hlt)⟩
      have hst := runFrom_step hx
      have hcx : ∀ (j : Nat) (u : Value), x.cells[j]? = some u → wr.cell? ⟨b, off + i * 6 + j, none⟩ = some u := fun j u hu => HE.out.cell_some (hcell i x hx j u hu)
      have hsx : 0 ≤ x.seq ∧ x.seq < 18446744073709551616 := (HI.out x (List.mem_of_getElem? hx)).1
      have hcy : ∀ k, i = k + 1 → ∃ y : Ev, prevOf l i = some y ∧ 0 ≤ y.seq ∧ wr.cell? ⟨b, off + k * 6, none⟩ = some (.int .u64 y.seq) := by
        intro k hk
        obtain ⟨y, hy⟩ : ∃ y, l[k]? = some y := ⟨_, List.getElem?_eq_getElem (by rw [HM.out]; omega)⟩
        exact ⟨y, by rw [hk]; simp [prevOf, hy], (HI.out y (List.mem_of_getElem? hy)).1.1, HE.out.cell_some (hcell k y hy 0 _ rfl)⟩
      clear hcell HA HI
      have HP := Lib.hid (eventIs_any x)
      have c0 := hcx 0 _ rfl
      have c1 := hcx 1 _ rfl
      have c2 := hcx 2 _ rfl
      have c3 := hcx 3 _ rfl
      have c4 := hcx 4 _ rfl
      have c5 := hcx 5 _ rfl
      simp only [Nat.add_zero] at c0
      have HX := Lib.hid hst
      have HY := Lib.hid hcy
      have hn1 : (i : Int) < m := by omega
      clear hcx hst hcy hx
      have hput : x.cells = x.cells := rfl
      generalize hxs : x.is = bx at *
      have HXS := Lib.hid hxs
      clear hxs hput
      obtain ⟨s, t, p, kd, a, bb⟩ := x
      simp only [Ev.cells] at HP
      simp only at hsx c0
      obtain ⟨s0, s1⟩ := hsx
      cases bx with
      | false =>
        go_wp2_with (go_at_call 110; refine (HP.out _).mono ?_; rintro e w1 ⟨rfl, hE1⟩; have HE1 := Lib.hid hE1; clear hE1)
        go_ret
        exact ⟨by rw [HR.out, HX.out]; rfl, (HE.out.alloc _).trans HE1.out⟩
      | true =>
        rcases i with _ | k
        · simp only [Nat.zero_mul, Nat.add_zero] at c0 c1 c2 c3 c4 c5
          go_wp2_with (go_at_call 110; refine (HP.out _).mono ?_; rintro e w1 ⟨rfl, hE1⟩; have HE1 := Lib.hid hE1; clear hE1)
          go_roundw
          case rel => exact ⟨1, rfl, by omega, by rw [HR.out, HX.out]; simp [prevOf], (HE.out.alloc _).trans HE1.out⟩
          case measure => simp [intOf]; omega
        · obtain ⟨y, hy, y0, cy⟩ := HY.out k rfl
          rw [hy] at HX
          have HY2 := Lib.hid hy
          clear hy HY
          have d0 : wr.cell? ⟨b, off + k * 6 + 6, none⟩ = some (.int .u64 s) := by rw [← c0]; congr 2; omega
          have HF := Lib.hid (follows_any b (off + k * 6) y.seq s)
          have hbs : b < wr.heap.size := Nat.lt_of_lt_of_le hb HE.out.size
          generalize hq : y.seq = q at *
          have hfq : follow y ⟨s, t, p, kd, a, bb⟩ = (decide (s ≠ 0) && decide (s - 1 = q)) := by rw [← hq]; rfl
          have HX2 := HX.out
          simp only [Bool.true_and] at HX2
          rw [hfq] at HX2
          clear HX
          have HX := Lib.hid HX2
          clear HX2
          generalize hbf : (decide (s ≠ 0) && decide (s - 1 = q)) = bf at *
          clear hfq hq hbf
          have k0 : (0 : Int) ≤ (k : Int) := by omega
          have k1 : (k : Int) + 2 ≤ m := by omega
          cases bf with
          | true =>
            go_wp2_with (first | (go_at_call 110; refine (HP.out _).mono ?_; rintro e w1 ⟨rfl, hE1⟩; have hE2 := ((Ext.refl wr).alloc _).trans hE1; have HE1 := Lib.hid hE2; clear hE1 hE2) | (go_at_call 129; rw [show k + 1 + 1 - k = 2 from by omega]; refine (HF.out _ (HE1.out.cell_some cy) (HE1.out.cell_some d0) y0 s0 s1).mono ?_; rintro e w2 ⟨rfl, hE3⟩; have HE3 := Lib.hid hE3; clear hE3))
            go_roundw
            case rel => exact ⟨k + 2, by go_num, by omega, by rw [HR.out, HY2.out, HX.out]; simp, (HE.out.trans HE1.out).trans HE3.out⟩
            case measure => simp [intOf]; omega
          | false =>
            go_wp2_with (first | (go_at_call 110; refine (HP.out _).mono ?_; rintro e w1 ⟨rfl, hE1⟩; have hE2 := ((Ext.refl wr).alloc _).trans hE1; have HE1 := Lib.hid hE2; clear hE1 hE2) | (go_at_call 129; rw [show k + 1 + 1 - k = 2 from by omega]; refine (HF.out _ (HE1.out.cell_some cy) (HE1.out.cell_some d0) y0 s0 s1).mono ?_; rintro e w2 ⟨rfl, hE3⟩; have HE3 := Lib.hid hE3; clear hE3))
            go_ret
            exact ⟨by rw [HR.out, HY2.out, HX.out]; simp, (HE.out.trans HE1.out).trans HE3.out⟩
    · have hn1 : ¬ (i : Int) < m := by omega
      go_wp2_with fail
      go_ret
      exact ⟨by rw [HR.out, List.drop_of_length_le (by rw [HM.out]; omega)]; cases prevOf l i <;> rfl, HE.out⟩
end Go.Proofs.YtnkebhlkhpgghaaGreatDoor
/- The log as plain data: a disk of sectors, areas, supers, heads, and what the log's functions make of them. Plain definitions and lemmas; no program is in sight. -/
namespace Go.Proofs.YtnkebhlkhpgghaaGreatDoor
open Go Go.RowKit

/-! ### A disk -/
structure Dk where
  many : Nat
  size : Nat
  last : Bytes
  pend : List (Nat × Bytes)
structure Dk.Ok (k : Dk) : Prop where
  m1 : 1 ≤ k.many
  m2 : k.many ≤ 4096
  s1 : 64 ≤ k.size
  s2 : k.size ≤ 1024
  len : k.last.length = k.many * k.size
  pend : ∀ p ∈ k.pend, p.1 < k.many ∧ p.2.length = k.size
def zeros (n : Nat) : Bytes := List.replicate n 0
@[simp] theorem zeros_length (n : Nat) : (zeros n).length = n := by simp [zeros]
def lay (l : Bytes) (o : Nat) (b : Bytes) : Bytes := l.take o ++ b ++ l.drop (o + b.length)
theorem lay_length {l : Bytes} {o : Nat} {b : Bytes} (h : o + b.length ≤ l.length) : (lay l o b).length = l.length := by simp [lay]; omega
def Dk.new (many size : Nat) : Dk := ⟨many, size, zeros (many * size), []⟩
def Dk.sec (k : Dk) (s : Nat) : Bytes := (k.last.drop (s * k.size)).take k.size
def lastW (l : List (Nat × Bytes)) (s : Nat) : Option Bytes := (l.reverse.find? (fun p => p.1 == s)).map (·.2)
def Dk.read (k : Dk) (s : Nat) : Bytes := (lastW k.pend s).getD (k.sec s)
def Dk.write (k : Dk) (s : Nat) (b : Bytes) : Dk := { k with pend := k.pend ++ [(s, b)] }
def Dk.flush (k : Dk) : Dk := { k with last := k.pend.foldl (fun l p => lay l (p.1 * k.size) p.2) k.last, pend := [] }
@[simp] theorem Dk.write_many (k : Dk) (s : Nat) (b : Bytes) : (k.write s b).many = k.many := rfl
@[simp] theorem Dk.write_size (k : Dk) (s : Nat) (b : Bytes) : (k.write s b).size = k.size := rfl
@[simp] theorem Dk.flush_many (k : Dk) : k.flush.many = k.many := rfl
@[simp] theorem Dk.flush_size (k : Dk) : k.flush.size = k.size := rfl
theorem Dk.new_ok {many size : Nat} (h1 : 1 ≤ many) (h2 : many ≤ 4096) (h3 : 64 ≤ size) (h4 : size ≤ 1024) : (Dk.new many size).Ok := ⟨h1, h2, h3, h4, by simp [Dk.new], by simp [Dk.new]⟩
theorem Dk.Ok.write {k : Dk} (h : k.Ok) {s : Nat} {b : Bytes} (hs : s < k.many) (hb : b.length = k.size) : (k.write s b).Ok :=
  ⟨h.m1, h.m2, h.s1, h.s2, h.len, fun p hp => by
    rcases List.mem_append.1 hp with hp | hp
    · exact h.pend p hp
    · simp at hp; subst hp; exact ⟨hs, hb⟩⟩
theorem fit_mul {a m z : Nat} (h : a < m) : a * z + z ≤ m * z := by
  rw [← Nat.succ_mul]; exact Nat.mul_le_mul_right z h
theorem lays_length {z m : Nat} : ∀ (ps : List (Nat × Bytes)) (l : Bytes), l.length = m * z → (∀ p ∈ ps, p.1 < m ∧ p.2.length = z) → (ps.foldl (fun l p => lay l (p.1 * z) p.2) l).length = m * z
  | [], l, h, _ => h
  | p :: ps, l, h, hp => by
    have h1 := hp p (by simp)
    exact lays_length ps _ ((lay_length (by rw [h, h1.2]; exact fit_mul h1.1)).trans h) (fun q hq => hp q (List.mem_cons_of_mem _ hq))
theorem Dk.Ok.flush {k : Dk} (h : k.Ok) : k.flush.Ok :=
  ⟨h.m1, h.m2, h.s1, h.s2, lays_length k.pend k.last h.len h.pend, by simp [Dk.flush]⟩
theorem Dk.Ok.sec_length {k : Dk} (h : k.Ok) {s : Nat} (hs : s < k.many) : (k.sec s).length = k.size := by
  have := fit_mul (z := k.size) hs
  simp [Dk.sec, h.len]; omega
theorem lastW_snoc (l : List (Nat × Bytes)) (s t : Nat) (b : Bytes) : lastW (l ++ [(s, b)]) t = if s = t then some b else lastW l t := by
  unfold lastW
  rw [List.reverse_append]
  by_cases h : s = t <;> simp [h]
theorem lastW_mem {l : List (Nat × Bytes)} {s : Nat} {b : Bytes} (h : lastW l s = some b) : (s, b) ∈ l := by
  unfold lastW at h
  obtain ⟨p, hp, rfl⟩ := Option.map_eq_some_iff.1 h
  have h1 := List.mem_of_find?_eq_some hp
  have h2 := List.find?_some hp
  simp at h1 h2
  subst h2
  exact h1
theorem Dk.Ok.read_length {k : Dk} (h : k.Ok) {s : Nat} (hs : s < k.many) : (k.read s).length = k.size := by
  unfold Dk.read
  cases hl : lastW k.pend s with
  | none => exact h.sec_length hs
  | some b => exact (h.pend _ (lastW_mem hl)).2
theorem Dk.read_write (k : Dk) (s t : Nat) (b : Bytes) : (k.write s b).read t = if s = t then b else k.read t := by
  unfold Dk.read Dk.write
  rw [lastW_snoc]
  by_cases h : s = t <;> simp [h, Dk.sec]
theorem lay_same {l : Bytes} {o : Nat} {b : Bytes} (h : o + b.length ≤ l.length) : ((lay l o b).drop o).take b.length = b := by
  have h1 : (l.take o).length = o := by simp; omega
  unfold lay
  rw [List.append_assoc, List.drop_append_of_le_length (by omega), List.drop_of_length_le (by omega), List.nil_append, List.take_append_of_le_length (by omega)]
  exact List.take_of_length_le (by omega)
theorem lay_get {l : Bytes} {o : Nat} {b : Bytes} (h : o + b.length ≤ l.length) (i : Nat) : (lay l o b)[i]? = if o ≤ i ∧ i < o + b.length then b[i - o]? else l[i]? := by
  have h1 : (l.take o).length = o := by simp; omega
  unfold lay
  by_cases ha : i < o
  · rw [List.append_assoc, List.getElem?_append_left (by omega), if_neg (by omega), List.getElem?_take_of_lt ha]
  · by_cases hb : i < o + b.length
    · rw [List.append_assoc, List.getElem?_append_right (by omega), h1, List.getElem?_append_left (by omega), if_pos (by omega)]
    · rw [List.getElem?_append_right (by simp; omega), if_neg (by omega), List.getElem?_drop]
      congr 1
      simp; omega
theorem lay_other {l : Bytes} {z s t : Nat} {b : Bytes} (h : s * z + b.length ≤ l.length) (hb : b.length = z) (hne : s ≠ t) : ((lay l (s * z) b).drop (t * z)).take z = (l.drop (t * z)).take z := by
  apply List.ext_getElem?
  intro i
  by_cases hi : i < z
  · rw [List.getElem?_take_of_lt hi, List.getElem?_take_of_lt hi, List.getElem?_drop, List.getElem?_drop, lay_get h, if_neg]
    intro hc
    rcases Nat.lt_or_ge s t with hlt | hge
    · have := fit_mul (z := z) hlt; omega
    · have := fit_mul (z := z) (show t < s by omega); omega
  · rw [List.getElem?_eq_none (by simp; omega), List.getElem?_eq_none (by simp; omega)]
theorem lays_sec {z m : Nat} : ∀ (ps : List (Nat × Bytes)) (l : Bytes), l.length = m * z → (∀ p ∈ ps, p.1 < m ∧ p.2.length = z) → ∀ t, t < m →
    ((ps.foldl (fun l p => lay l (p.1 * z) p.2) l).drop (t * z)).take z = (lastW ps t).getD ((l.drop (t * z)).take z) := by
  intro ps
  rw [← List.reverse_reverse ps]
  generalize ps.reverse = rs
  induction rs with
  | nil => intro l _ _ t _; rfl
  | cons p rs ih =>
    intro l h hp t ht
    rw [List.reverse_cons] at hp ⊢
    have h1 := hp p (by simp)
    have h2 := ih l h (fun q hq => hp q (List.mem_append_left _ hq)) t ht
    have hl := lays_length rs.reverse l h (fun q hq => hp q (List.mem_append_left _ hq))
    obtain ⟨s, b⟩ := p
    simp only at h1
    rw [List.foldl_append, List.foldl_cons, List.foldl_nil, lastW_snoc]
    have hfit : s * z + b.length ≤ (rs.reverse.foldl (fun l p => lay l (p.1 * z) p.2) l).length := by rw [hl, h1.2]; exact fit_mul h1.1
    by_cases hst : s = t
    · subst hst
      rw [if_pos rfl, Option.getD_some]
      have := lay_same hfit
      rw [h1.2] at this
      exact this
    · rw [if_neg hst, lay_other hfit h1.2 hst, h2]
theorem Dk.Ok.read_flush {k : Dk} (h : k.Ok) {s : Nat} (hs : s < k.many) : k.flush.read s = k.read s := by
  unfold Dk.read Dk.flush
  simp only [lastW, List.reverse_nil, List.find?_nil, Option.map_none, Option.getD_none, Dk.sec]
  exact lays_sec k.pend k.last h.len h.pend s hs

/-! ### Bytes laid into an area -/
def aput (frm : Nat) : Nat → Dk → Nat → Bytes → Dk
  | 0, k, _, _ => k
  | f + 1, k, at_, b =>
    if b = [] then k else
      let s := frm + at_ / k.size
      let low := at_ % k.size
      let m := min (k.size - low) b.length
      let t := if m < k.size then (k.read s).take low ++ b.take m ++ (k.read s).drop (low + m) else b.take m
      aput frm f (k.write s t) (at_ + m) (b.drop m)
def Dk.put (k : Dk) (frm at_ : Nat) (b : Bytes) : Dk := aput frm b.length k at_ b
theorem aput_nil (frm f : Nat) (k : Dk) (at_ : Nat) : aput frm f k at_ [] = k := by cases f <;> simp [aput]
/-- One piece. -/
def piece (k : Dk) (frm at_ : Nat) (b : Bytes) : Bytes :=
  let s := frm + at_ / k.size
  let low := at_ % k.size
  let m := min (k.size - low) b.length
  if m < k.size then (k.read s).take low ++ b.take m ++ (k.read s).drop (low + m) else b.take m
theorem aput_step (frm f : Nat) (k : Dk) (at_ : Nat) (b : Bytes) (hb : b ≠ []) : aput frm (f + 1) k at_ b = aput frm f (k.write (frm + at_ / k.size) (piece k frm at_ b)) (at_ + min (k.size - at_ % k.size) b.length) (b.drop (min (k.size - at_ % k.size) b.length)) := by
  rw [aput, if_neg hb]; rfl
theorem aput_fuel (frm : Nat) : ∀ (f g : Nat) (k : Dk) (at_ : Nat) (b : Bytes), 0 < k.size → b.length ≤ f → b.length ≤ g → aput frm f k at_ b = aput frm g k at_ b
  | 0, g, k, at_, b, _, h, _ => by
    obtain rfl := List.eq_nil_of_length_eq_zero (by omega : b.length = 0)
    rw [aput_nil, aput_nil]
  | f + 1, 0, k, at_, b, _, _, h => by
    obtain rfl := List.eq_nil_of_length_eq_zero (by omega : b.length = 0)
    rw [aput_nil, aput_nil]
  | f + 1, g + 1, k, at_, b, hz, h1, h2 => by
    by_cases hb : b = []
    · subst hb; rw [aput_nil, aput_nil]
    · have hl : 0 < b.length := List.length_pos_iff.2 hb
      have hm : 0 < min (k.size - at_ % k.size) b.length := by have := Nat.mod_lt at_ hz; omega
      rw [aput_step _ _ _ _ _ hb, aput_step _ _ _ _ _ hb]
      exact aput_fuel frm f g _ _ _ hz (by simp; omega) (by simp; omega)
theorem put_step (k : Dk) (frm at_ : Nat) (b : Bytes) (hz : 0 < k.size) (hb : b ≠ []) : k.put frm at_ b = (k.write (frm + at_ / k.size) (piece k frm at_ b)).put frm (at_ + min (k.size - at_ % k.size) b.length) (b.drop (min (k.size - at_ % k.size) b.length)) := by
  have hl : 0 < b.length := List.length_pos_iff.2 hb
  unfold Dk.put
  rw [show b.length = (b.length - 1) + 1 from by omega, aput_step _ _ _ _ _ hb]
  have hm : 0 < min (k.size - at_ % k.size) b.length := by have := Nat.mod_lt at_ hz; omega
  rw [show b.length - 1 + 1 = b.length from by omega]
  exact aput_fuel frm _ _ _ _ _ hz (by simp; omega) (by simp)
theorem put_nil (k : Dk) (frm at_ : Nat) : k.put frm at_ [] = k := aput_nil _ _ _ _
theorem piece_length {k : Dk} (h : k.Ok) {frm at_ : Nat} {b : Bytes} (hs : frm + at_ / k.size < k.many) : (piece k frm at_ b).length = k.size := by
  have hr := h.read_length hs
  have hz := Nat.mod_lt at_ (show 0 < k.size by have := h.s1; omega)
  unfold piece
  simp only
  split <;> simp [hr] <;> omega
/-- Putting keeps the disk's shape, and all sectors outside. -/
theorem put_keeps (frm n : Nat) : ∀ (f : Nat) (k : Dk) (at_ : Nat) (b : Bytes), k.Ok → frm + n ≤ k.many → at_ + b.length ≤ n * k.size → b.length ≤ f →
    (k.put frm at_ b).Ok ∧ (k.put frm at_ b).many = k.many ∧ (k.put frm at_ b).size = k.size ∧ ∀ s, (s < frm ∨ frm + n ≤ s) → (k.put frm at_ b).read s = k.read s := by
  intro f
  induction f with
  | zero =>
    intro k at_ b h _ _ hl
    obtain rfl := List.eq_nil_of_length_eq_zero (by omega : b.length = 0)
    rw [put_nil]; exact ⟨h, rfl, rfl, fun _ _ => rfl⟩
  | succ f ih =>
    intro k at_ b h hm hfit hl
    by_cases hb : b = []
    · subst hb; rw [put_nil]; exact ⟨h, rfl, rfl, fun _ _ => rfl⟩
    · have hz : 0 < k.size := by have := h.s1; omega
      have hbl : 0 < b.length := List.length_pos_iff.2 hb
      have hmod := Nat.mod_lt at_ hz
      have hsec : at_ / k.size < n := by rw [Nat.div_lt_iff_lt_mul hz]; omega
      rw [put_step k frm at_ b hz hb]
      have hs : frm + at_ / k.size < k.many := by omega
      obtain ⟨i1, i2, i3, i4⟩ := ih (k.write (frm + at_ / k.size) (piece k frm at_ b)) (at_ + min (k.size - at_ % k.size) b.length) (b.drop (min (k.size - at_ % k.size) b.length)) (h.write hs (piece_length h hs)) hm (by simp; omega) (by simp; omega)
      refine ⟨i1, i2, i3, fun s hs2 => ?_⟩
      have hne : frm + at_ / k.size ≠ s := by
        generalize at_ / k.size = q at *
        omega
      rw [i4 s hs2, Dk.read_write, if_neg hne]
end Go.Proofs.YtnkebhlkhpgghaaGreatDoor
/- A region that draws its order: the head only reads, and calls that make memory; the tail is forced: one walk in the order of the text serves every order. Over any program. (After the library's rule for a head that leaves the world alone.) -/
namespace Go.Proofs.YtnkebhlkhpgghaaGreatDoor
open Go Go.RowKit Go.Sort
section
variable {P : Program} {ops : Array Oper} {md : Region.Mode} {C : World → Prop}

def wpHead (P : Program) (md : Region.Mode) (ops : Array Oper) (C : World → Prop) (n : Nat) (L : Array Bool → Act → Prop) : Nat → Array Bool → Act → Prop
  | 0, listed, a => L listed a
  | f + 1, listed, a => Region.ready md ops listed ≠ [] ∧ ∀ i ∈ Region.ready md ops listed, i < n ∧ qOp P ops C i (wpHead P md ops C n L f (listed.setIfInBounds i true)) a

theorem wpAny_of_wpHead {n g : Nat} {L : Array Bool → Act → Prop} {Q' : Exit → Act → World → Prop} (hL : ∀ listed a w, C w → L listed a → wpAny P md ops Q' g listed a w) :
    ∀ (f : Nat) (listed : Array Bool) (a : Act) (w : World), C w → wpHead P md ops C n L f listed a → wpAny P md ops Q' (f + g) listed a w
  | 0, listed, a, w, hw, h => by rw [Nat.zero_add]; exact hL _ _ _ hw h
  | f + 1, listed, a, w, hw, h => by
    rw [show f + 1 + g = (f + g) + 1 by omega]
    exact ⟨fun h0 => absurd h0 h.1, fun i hi => wpOp_of_qOp hw (fun a' w' hw' h' => wpAny_of_wpHead hL f _ a' w' hw' h') (h.2 i hi).2⟩

theorem wpHead_first {n i : Nat} {oi : Oper} {v : Value} {L : Array Bool → Act → Prop} (hi : ops[i]? = some oi) (hsel : ∀ (j : Nat) (o : Oper) cs b, ops[j]? = some o → o.op ≠ .select cs b)
    (hs : Region.sinkB md ops n = true) (hc : Region.chainB md ops n = true) (hn : n < ops.size) (hin : i < n)
    (hdone : ∀ listed a, L listed a → ∀ j ∈ Region.ready md ops listed, n ≤ j) :
    ∀ (f : Nat) (listed : Array Bool) (a : Act), HeadInv md ops n listed →
      (∀ j oj, ops[j]? = some oj → j ≠ i → listed.getD j true = false → (∀ e ∈ oj.after, Region.binds md e = true → e.on ≠ i) → oi.apart ops oj = true) →
      i ∈ Region.ready md ops listed → YieldsIn P ops C oi v a →
      wpHead P md ops C n L f (listed.setIfInBounds i true) (a.put oi.dst v) → wpHead P md ops C n L (f + 1) listed a := by
  intro f
  induction f with
  | zero =>
    intro listed a inv _ hr hy H
    have hun := (mem_ready.1 hr).1
    refine ⟨fun h => (by rw [h] at hr; cases hr), fun j hj => ?_⟩
    have hjn : j < n := by
      rcases Nat.lt_or_ge j n with h | h
      · exact h
      · exact absurd hj (tail_waits hs hc hn inv _ i rfl hin hun j h)
    refine ⟨hjn, ?_⟩
    by_cases hji : j = i
    · subst hji; exact hy.qOp hi H
    · have := hdone _ _ H j (ready_mono hj hji)
      omega
  | succ f ih =>
    intro listed a inv hfree hr hy H
    have hun := (mem_ready.1 hr).1
    refine ⟨fun h => (by rw [h] at hr; cases hr), fun j hj => ?_⟩
    have hjn : j < n := by
      rcases Nat.lt_or_ge j n with h | h
      · exact h
      · exact absurd hj (tail_waits hs hc hn inv _ i rfl hin hun j h)
    refine ⟨hjn, ?_⟩
    by_cases hji : j = i
    · subst hji; exact hy.qOp hi H
    · have h1 := (H.2 j (ready_mono hj hji)).2
      obtain ⟨hjun, oj, hoj, hall⟩ := mem_ready.1 hj
      have hnot : ∀ e ∈ oj.after, Region.binds md e = true → e.on ≠ i := fun e he hb heq => by
        have h1 := hall e he hb
        rw [heq, getD_both hun] at h1
        cases h1
      have h2 := qOp_put hoj (hfree j oj hoj hji hjun hnot) (fun cs b => hsel i oi cs b hi) (fun cs b => hsel j oj cs b hoj) hy h1
      have hfree' : ∀ k ok, ops[k]? = some ok → k ≠ i → (listed.setIfInBounds j true).getD k true = false →
          (∀ e ∈ ok.after, Region.binds md e = true → e.on ≠ i) → oi.apart ops ok = true := fun k ok hk hki hun hno => by
        refine hfree k ok hk hki ?_ hno
        by_cases hjk : j = k
        · subst hjk; exact hjun
        · rw [getD_set_ne true hjk] at hun; exact hun
      refine qOp_mono (fun a' h3 => ih (listed.setIfInBounds j true) a' (inv.set hj hjn) hfree' (ready_mono hr (Ne.symm hji)) h3.1 ?_) h2
      rw [Array.setIfInBounds_comm _ _ hji]
      exact h3.2

theorem wpHead_lex {n g : Nat} {Lq : Act → Prop} (hsel : Region.noSelect ops = true) (hs : Region.sinkB md ops n = true) (hc : Region.chainB md ops n = true) (hn : n < ops.size) :
    ∀ (l : List Oper) (k : Nat) (listed : Array Bool) (a : Act), (∀ j, j < l.length → l[j]? = ops[k + j]?) → k + l.length = n → HeadInv md ops n listed →
    Region.lexHead md ops g l.length k listed = true → wpQuiet P ops C Lq l a →
    wpHead P md ops C n (fun listed' a' => Region.seqB md ops g n listed' = true ∧ Lq a') l.length listed a
  | [], k, listed, a, _, hk, _, hB, h => by
    have : k = n := by simpa using hk
    subst this
    exact ⟨by simpa [Region.lexHead] using hB, h⟩
  | o :: l, k, listed, a, hl, hk, inv, hB, h => by
    have h0 : ops[k]? = some o := by simpa using (hl 0 (by simp)).symm
    simp only [List.length_cons, Region.lexHead, Bool.and_eq_true] at hB
    obtain ⟨⟨hr, hf⟩, hB'⟩ := hB
    have hkn : k < n := by simp only [List.length_cons] at hk; omega
    have hr' : k ∈ Region.ready md ops listed := by simpa using hr
    have hst : qOp P ops C k (wpQuiet P ops C Lq l) a := by unfold qOp; simp only [h0]; exact h
    obtain ⟨v, hy, hK⟩ := yieldsIn_of_qOp h0 hst
    exact wpHead_first h0 (Region.noSelect_spec hsel) hs hc hn hkn (fun listed' a' hL => seqB_ready hL.1) l.length listed a inv (Region.free_spec h0 hf) hr' hy
      (wpHead_lex hsel hs hc hn l (k + 1) _ _ (fun j hj => by have := hl (j + 1) (by simp; omega); simpa [Nat.add_assoc, Nat.add_comm 1 j] using this) (by simp only [List.length_cons] at hk; omega) (inv.set hr' hkn) hB' hK)

/-- The head reads, and calls what makes memory; the tail is walked in its order. -/
theorem wp_region_tail {id : Nat} {Q : Exit → Act → World → Prop} {a : Act} {w : World} {l : List Oper} (n : Nat) (hm : P.follows .mixedOrders = true) (hB : Region.lexTailB .any l.toArray n = true) (hC : C w.drew)
    (h : wpQuiet P l.toArray C (fun a' => ∀ w', C w' → wpList P l.toArray Q (l.drop n) a' w') (l.take n) a) : (Code.region id l.toArray true).wp P Q a w := by
  simp only [Region.lexTailB, Bool.and_eq_true, decide_eq_true_eq] at hB
  obtain ⟨⟨⟨⟨hsel, hn⟩, hs⟩, hc⟩, hlex⟩ := hB
  have hn' : n < l.length := by simpa using hn
  have htl : (l.take n).length = n := by simp; omega
  have hdl : (l.drop n).length = l.toArray.size - n := by simp
  have inv0 : HeadInv .any l.toArray n (Array.replicate l.toArray.size false) :=
    ⟨by simp, fun j oj _ hl => (by rw [getD_replicate_false] at hl; cases hl), fun t _ ht => getD_in (by simpa using ht) (getD_replicate_false _ _)⟩
  have H := wpHead_lex (md := .any) (g := l.toArray.size - n) hsel hs hc hn (l.take n) 0 _ a (fun j hj => by
    have hj' : j < n := by rw [htl] at hj; exact hj
    simp [hj']) (by simpa using htl) inv0 (by rw [htl]; exact hlex) h
  refine wp_region_any hm ?_
  have := wpAny_of_wpHead (Q' := Q) (g := l.toArray.size - n) (fun listed a' w' hw' hL => by
    have := wpAny_of_seq (md := .any) (Q' := Q) (l.drop n) n listed a' w' (fun j => by simp [List.getElem?_drop]) (by rw [hdl]; exact hL.1) (hL.2 w' hw')
    rwa [hdl] at this) _ _ _ _ hC H
  rw [htl, show n + (l.toArray.size - n) = l.toArray.size by omega] at this
  exact this
end

/-! ### The class 'what was there stands' -/
def After (w : World) : World → Prop := fun w' => Ext w w'
section
variable {P : Program} {ops : Array Oper} {w : World} {Q : Act → Prop} {a : Act} {o : Oper} {rest : List Oper}
/-- A step of the head. -/
theorem wq_run {C : World → Prop} (hg : o.guard = none) (v : Value) (hr : ∀ w', C w' → (execOp a.eval o).run P w' = .ok (.value v) w') (h : wpQuiet P ops C Q rest (a.put o.dst v)) : wpQuiet P ops C Q (o :: rest) a := by
  refine wpQuiet_step (fun K hK => ?_)
  rw [if_pos (by simp [Region.wanted, hg])]
  refine ⟨v, fun w' hw' => ?_, hK _ h⟩
  unfold Oper.quietAt
  rw [hr w' hw']
  exact ⟨rfl, rfl⟩
/-- A call of the head. -/
theorem wq_call (hg : o.guard = none) (f : FuncId) (args : Array Value) (v : Value) (hr : ∀ w', (execOp a.eval o).run P w' = .ok (.enter f args) w') (hc : ∀ w', Ext w w' → Calls P f args w' (Ret v w'))
    (h : wpQuiet P ops (After w) Q rest (a.put o.dst v)) : wpQuiet P ops (After w) Q (o :: rest) a := by
  refine wpQuiet_step (fun K hK => ?_)
  rw [if_pos (by simp [Region.wanted, hg])]
  refine ⟨v, fun w' hw' => ?_, hK _ h⟩
  unfold Oper.quietAt
  rw [hr w']
  exact ⟨rfl, (hc w' hw').mono fun e w'' h => ⟨h.1, Ext.trans hw' h.2⟩⟩
end
/-! ### The class of grown worlds -/
theorem regrown_start (w : World) : ∃ p : Regrown, w.drew = grow (redrawn w p.d) p.os := ⟨⟨w.drawn + 1, #[]⟩, by rw [Go.Sort.grow_empty]; rfl⟩
theorem regrown_ext {w w' : World} (h : ∃ p : Regrown, w' = grow (redrawn w p.d) p.os) : Ext w w' := by obtain ⟨p, rfl⟩ := h; exact below_regrown _ _ _
end Go.Proofs.YtnkebhlkhpgghaaGreatDoor
/- batch.Is, Last: the walks. -/
namespace Go.Proofs.YtnkebhlkhpgghaaGreatDoor
open Go Go.RowKit Go.Deep Go.Sort

/-- The cells of a batch: its number, its events, its digest. -/
def btCells (f : Int) (v : Value) (p : Bytes) : List Value := .int .u64 f :: v :: bcells p
theorem btCells_length (f : Int) (v : Value) {p : Bytes} (hp : p.length = 32) : (btCells f v p).length = 34 := by simp [btCells, bcells, hp]
theorem Rd.one {α : Type} {w : World} {sz : Nat} {enc : α → List Value} {v : Value} {l : List α} (h : Rd w sz enc v l) : v.oneCell' = true := by obtain ⟨A, c, rfl, _⟩ := h; rfl
def headIs (f : Int) : List Ev → Bool
  | [] => false
  | x :: _ => decide (x.seq = f)
def btIs (f : Int) (l : List Ev) : Bool := decide (l.length ≤ 256) && runFrom none l && headIs f l

set_option maxHeartbeats 800000 in
theorem batchIs_any (f : Int) (v : Value) (p : Bytes) (l : List Ev) (w : World) (h : Rd w 6 Ev.cells v l) (hl : l.length ≤ 1000000) (hin : ∀ x ∈ l, x.In) (hp : p.length = 32) :
    Calls Tryz.prog 90 #[.agg (btCells f v p).toArray] w (Ret (.bool (btIs f l)) w) := by
  have HR := Lib.hid (fun w' (h' : Rd w' 6 Ev.cells v l) => run_any v l w' h' hl hin)
  have h0 := h
  obtain ⟨A, c, rfl, hc, hc2, hA⟩ := h
  have hA1 : ∀ x l', l = x :: l' → ∃ b off, A = some ⟨b, off, none⟩ ∧ w.cell? ⟨b, off, none⟩ = some (.int .u64 x.seq) := by
    intro x l' hx
    obtain ⟨b, off, hA2, hb, hcell⟩ := hA (by rw [hx]; simp)
    exact ⟨b, off, hA2, by have := hcell 0 x (by rw [hx]; rfl) 0 _ rfl; simpa using this⟩
  have HA := Lib.hid hA1
  have H0 := Lib.hid h0
  clear hA hA1 h0 hin
  have c0 : (w.alloc (.cells (btCells f (.slice A l.length c) p).toArray 83)).cell? ⟨w.heap.size, 0, none⟩ = some (.int .u64 f) := (Blk.new _ _ _).cell 0
  have c1 : (w.alloc (.cells (btCells f (.slice A l.length c) p).toArray 83)).cell? ⟨w.heap.size, 1, none⟩ = some (.slice A l.length c) := (Blk.new _ _ _).cell 1
  have HS := Lib.hid (Blk.new w 83 (btCells f (.slice A l.length c) p).toArray)
  have hib : btIs f l = (decide (l.length ≤ 256) && runFrom none l && headIs f l) := rfl
  generalize hm : l.length = m at *
  rw [hib]
  generalize hrf : runFrom none l = rf at *
  clear hib
  have hm0 : (0 : Int) ≤ m := by omega
  rcases m with _ | k
  · have hl0 : l = [] := List.length_eq_zero_iff.1 hm
    subst hl0
    have hf : (decide (0 ≤ 256) && rf && headIs f []) = false := by simp [headIs]
    rw [hf]
    clear hm0
    go_enter Tryz.func90, Tryz.ntmps90
    go_wp2_with fail
    go_region
    go_wp2_with fail
    all_goals go_ret
    all_goals exact ⟨rfl, ((Ext.refl w).alloc _).drew⟩
  · obtain ⟨x, l', rfl⟩ : ∃ x l', l = x :: l' := by rcases l with _ | ⟨x, l'⟩; simp at hm; exact ⟨x, l', rfl⟩
    obtain ⟨b, off, rfl, cx⟩ := HA.out x l' rfl
    have hbw : b < w.heap.size := World.block_lt_of_cell? w ⟨b, off, none⟩ cx
    have cx2 : (w.alloc (.cells (btCells f (.slice (some ⟨b, off, none⟩) (k + 1) c) p).toArray 83)).cell? ⟨b, off, none⟩ = some (.int .u64 x.seq) := ((Ext.refl w).alloc _).cell_some cx
    have hH : headIs f (x :: l') = decide (x.seq = f) := rfl
    rw [hH]
    clear hH cx HA
    have H1 := Lib.hid (H0.out.ext ((Ext.refl w).alloc (.cells (btCells f (.slice (some ⟨b, off, none⟩) (k + 1) c) p).toArray 83)))
    clear H0
    generalize x.seq = q at *
    have H256 : (k + 1 ≤ 256) ↔ ((k : Int) + 1 ≤ 256) := by omega
    by_cases hk : k + 1 ≤ 256
    · have hk2 := H256.1 hk
      have hd : decide (k + 1 ≤ 256) = true := decide_eq_true hk
      rw [hd]
      clear H256 hd
      have hd1 : decide ((1 : Int) ≤ (k : Int) + 1) = true := decide_eq_true (by omega)
      have hd2 : decide ((k : Int) + 1 ≤ 256) = true := decide_eq_true hk2
      clear hk hk2 hm0
      go_enter Tryz.func90, Tryz.ntmps90
      go_wp2_with fail
      have r0 := cell_regrown c0
      have r1 := cell_regrown c1
      have r2 := cell_regrown cx2
      cases rf
      all_goals (
        refine wp_region_tail (C := fun w' => ∃ rg : Regrown, w' = grow (redrawn (w.alloc (.cells (btCells f (.slice (some ⟨b, off, none⟩) (k + 1) c) p).toArray 83)) rg.d) rg.os) 20 (by kernel_rfl) (by kernel_rfl) (regrown_start _) ?_
        simp only [List.take_succ_cons, List.take_zero, List.drop_succ_cons, List.drop_zero]
        repeat (go_big_quiet_step ((go_at_call 109; exact Calls.regrown_of (HR.out _ (H1.out.ext (below_regrown _ _ _))))))
        refine wpQuiet_nil ?_
        intro w3 hw3
        have hE3 := Lib.hid (regrown_ext hw3)
        clear hw3 r0 r1 r2 c0 c1 cx2
        go_wp2_with fail
        go_ret
        exact ⟨by simp; first | done | rfl, ((Ext.refl w).alloc _).trans hE3.out⟩)
    · have hk2 : ¬ (k : Int) + 1 ≤ 256 := by omega
      have hd : decide (k + 1 ≤ 256) = false := decide_eq_false hk
      rw [hd]
      clear H256 hd
      have hd1 : decide ((1 : Int) ≤ (k : Int) + 1) = true := decide_eq_true (by omega)
      have hd2 : decide ((k : Int) + 1 ≤ 256) = false := decide_eq_false hk2
      clear hk hk2 hm0
      go_enter Tryz.func90, Tryz.ntmps90
      go_wp2_with fail
      go_region
      all_goals (go_wp2_with fail; go_ret; exact ⟨rfl, ((Ext.refl w).alloc _).drew⟩)

theorem batchLast_any (f : Int) (v : Value) (p : Bytes) (n : Nat) (A : Option Addr) (c : Nat) (w : World) (hv : v = .slice A n c) (hp : p.length = 32) :
    Calls Tryz.prog 41 #[.agg (btCells f v p).toArray] w (Ret (.int .u64 (IntKind.u64.wrap (IntKind.u64.wrap (f + IntKind.u64.wrap n) - 1))) w) := by
  subst hv
  have c0 : (w.alloc (.cells (btCells f (.slice A n c) p).toArray 83)).cell? ⟨w.heap.size, 0, none⟩ = some (.int .u64 f) := (Blk.new _ _ _).cell 0
  have c1 : (w.alloc (.cells (btCells f (.slice A n c) p).toArray 83)).cell? ⟨w.heap.size, 1, none⟩ = some (.slice A n c) := (Blk.new _ _ _).cell 1
  go_enter Tryz.func41, Tryz.ntmps41
  go_wp2_with fail
  go_ret
  exact ⟨rfl, (Ext.refl w).alloc _⟩
end Go.Proofs.YtnkebhlkhpgghaaGreatDoor
