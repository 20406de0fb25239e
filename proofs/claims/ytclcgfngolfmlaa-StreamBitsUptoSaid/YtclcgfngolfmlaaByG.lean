/-
  The program's Bytes of bits.
-/
import Derived.Test.YtclcgfngolfmlaaByP
import Derived.Test.YtclcgfngolfmlaaBitsRef
import Derived.Test.YtclcgfngolfmlaaMade
import Derived.Test.YtclcgfngolfmlaaChunk
namespace Go.Proofs.Ytclcgfngolfmlaa
set_option linter.unusedSimpArgs false
set_option linter.unusedVariables false
open Go.RowKit Go.Shelf
attribute [local go_sem] Oper.semAt_some

theorem boxed_keep {A B : World} {row : Option Nat} {b : Nat} {t : TypeId} {v : Value} (h : Boxed A b t v) (hg : A.grownBy B row) (hr : ∀ r, row = some r → ∃ o : Obj, A.heap[r]? = some o ∧ o.isCells = false) : Boxed B b t v :=
  h.kept hg (fun e => by
    obtain ⟨o, ho, hc⟩ := hr b e.symm
    unfold Boxed at h
    rw [h] at ho
    injection ho with ho
    subst ho
    cases hc)
theorem shl_or (z : UInt8) (x : Nat) (hz : z.toNat ≤ 1) : bits .or .u8 (((UInt8.ofNat x).toNat : Int) * 2 % 256) (z.toNat : Int) = ((UInt8.ofNat (2 * x + z.toNat)).toNat : Int) := by
  have e : ((UInt8.ofNat x).toNat : Int) * 2 % 256 = ((UInt8.ofNat (2 * x)).toNat : Int) := by
    rw [UInt8.toNat_ofNat', UInt8.toNat_ofNat']
    omega
  rw [e, or_u8]
  congr 1
  rw [UInt8.toNat_or, UInt8.toNat_ofNat', UInt8.toNat_ofNat']
  have h : 2 * x % 2 ^ 8 = 2 * (x % 2 ^ 7) := by omega
  rw [h, show (2 * x + z.toNat) % 2 ^ 8 = 2 * (x % 2 ^ 7) + z.toNat from by omega]
  have h2 : z.toNat < 2 ^ 1 := by omega
  have h3 := Nat.two_pow_add_eq_or_of_lt h2 (x % 2 ^ 7)
  rw [Nat.pow_one] at h3
  exact h3.symm
theorem pieces8 (N : Nat) : pieces (8 * N) 8 = N := by unfold pieces; omega
theorem piece8 (b off N k : Nat) (h : k < N) : pieceV b off (8 * N) 8 k = .slice (some ⟨b, off + 8 * k, none⟩) 8 8 := by
  unfold pieceV
  rw [show min 8 (8 * N - k * 8) = 8 from by omega, Nat.mul_comm k 8]

/-- Six blocks, one behind the other. -/
theorem chain6 (w : World) (a0 a1 a2 a3 a4 a5 : Array Value) (t0 t1 t2 t3 t4 t5 : TypeId) : (Blk ((((((w.alloc (.cells a0 t0)).alloc (.cells a1 t1)).alloc (.cells a2 t2)).alloc (.cells a3 t3)).alloc (.cells a4 t4)).alloc (.cells a5 t5)) (w.heap.size) t0 a0 ∧ Blk ((((((w.alloc (.cells a0 t0)).alloc (.cells a1 t1)).alloc (.cells a2 t2)).alloc (.cells a3 t3)).alloc (.cells a4 t4)).alloc (.cells a5 t5)) (w.heap.size + 1) t1 a1 ∧ Blk ((((((w.alloc (.cells a0 t0)).alloc (.cells a1 t1)).alloc (.cells a2 t2)).alloc (.cells a3 t3)).alloc (.cells a4 t4)).alloc (.cells a5 t5)) (w.heap.size + 1 + 1) t2 a2 ∧ Blk ((((((w.alloc (.cells a0 t0)).alloc (.cells a1 t1)).alloc (.cells a2 t2)).alloc (.cells a3 t3)).alloc (.cells a4 t4)).alloc (.cells a5 t5)) (w.heap.size + 1 + 1 + 1) t3 a3 ∧ Blk ((((((w.alloc (.cells a0 t0)).alloc (.cells a1 t1)).alloc (.cells a2 t2)).alloc (.cells a3 t3)).alloc (.cells a4 t4)).alloc (.cells a5 t5)) (w.heap.size + 1 + 1 + 1 + 1) t4 a4 ∧ Blk ((((((w.alloc (.cells a0 t0)).alloc (.cells a1 t1)).alloc (.cells a2 t2)).alloc (.cells a3 t3)).alloc (.cells a4 t4)).alloc (.cells a5 t5)) (w.heap.size + 1 + 1 + 1 + 1 + 1) t5 a5) ∧ Below w.heap.size w ((((((w.alloc (.cells a0 t0)).alloc (.cells a1 t1)).alloc (.cells a2 t2)).alloc (.cells a3 t3)).alloc (.cells a4 t4)).alloc (.cells a5 t5)) ∧ ((((((w.alloc (.cells a0 t0)).alloc (.cells a1 t1)).alloc (.cells a2 t2)).alloc (.cells a3 t3)).alloc (.cells a4 t4)).alloc (.cells a5 t5)).heap.size = w.heap.size + 6 := by
  refine ⟨⟨?_, ?_, ?_, ?_, ?_, ?_⟩, ?_, by simp⟩
  · have := (((((Blk.new w t0 a0).alloc (.cells a1 t1)).alloc (.cells a2 t2)).alloc (.cells a3 t3)).alloc (.cells a4 t4)).alloc (.cells a5 t5)
    simpa using this
  · have := ((((Blk.new (w.alloc (.cells a0 t0)) t1 a1).alloc (.cells a2 t2)).alloc (.cells a3 t3)).alloc (.cells a4 t4)).alloc (.cells a5 t5)
    simpa using this
  · have := (((Blk.new ((w.alloc (.cells a0 t0)).alloc (.cells a1 t1)) t2 a2).alloc (.cells a3 t3)).alloc (.cells a4 t4)).alloc (.cells a5 t5)
    simpa using this
  · have := ((Blk.new (((w.alloc (.cells a0 t0)).alloc (.cells a1 t1)).alloc (.cells a2 t2)) t3 a3).alloc (.cells a4 t4)).alloc (.cells a5 t5)
    simpa using this
  · have := (Blk.new ((((w.alloc (.cells a0 t0)).alloc (.cells a1 t1)).alloc (.cells a2 t2)).alloc (.cells a3 t3)) t4 a4).alloc (.cells a5 t5)
    simpa using this
  · have := Blk.new (((((w.alloc (.cells a0 t0)).alloc (.cells a1 t1)).alloc (.cells a2 t2)).alloc (.cells a3 t3)).alloc (.cells a4 t4)) t5 a5
    simpa using this
  · exact ((((((Below.refl _ _).alloc (Nat.le_refl _) _).alloc (by simp) _).alloc (by simp; omega) _).alloc (by simp; omega) _).alloc (by simp; omega) _).alloc (by simp; omega) _

set_option maxRecDepth 100000 in
set_option maxHeartbeats 8000000 in
theorem pbytes_good (b off c N : Nat) (l : List UInt8) (w : World) (hl : l.length = 8 * N) (ha : Rd w (some ⟨b, off, none⟩) (bvs l)) (hN : 8 * N ≤ 1048576) (hc : 8 * N ≤ c) (hb : b < w.heap.size) :
    Calls Try.prog 22 #[.slice (some ⟨b, off, none⟩) (8 * N) c] w fun e w' => BytesRes w w' (bytesF l) e := by
  obtain ⟨i0, hi0, hz0, hz1, hz2⟩ := info_parts u8info
  have HL := Lib.hid hl
  have h8 : 8 * N % 8 = 0 := by omega
  have d8 : ((8 * (N : Int)) % 8 != 0) = false := by rw [bne_eq_false_iff_eq]; omega
  have e8 : (8 * (N : Int)) / 8 = (N : Int) := by omega
  have HBad := Lib.hid (fun (i : Nat) (h1 : i < 8 * N) (h2 : ¬ (l.getD i 0).toNat ≤ 1) => bytesF_bad hl h8 h1 h2)
  have HGood := Lib.hid (fun (hg : Good l (8 * N)) => bytesF_good hl h8 hg)
  have hmk := run_make_rowN (P := Try.prog) 22 5 i0 (.int .u8 0) Try.underlying22 hi0 hz0 .i64 .i64 0 N (Nat.zero_le _) (by rw [hz2]; omega) (by omega)
  rw [show ((0 : Nat) : Int) = 0 from rfl] at hmk
  generalize bytesF l = R at *
  clear hl h8
  refine (callsIn_wide (n := 4)).1 ?_
  have h1 : 1 ≤ 4 := by omega
  refine callsIn_of_wp_marks Try.func22 rfl trivial ?_ rfl
  simp only [Try.ntmps22, List.size_toArray, List.length_cons, List.length_nil, Nat.reduceAdd, Nat.reduceSub, Array.replicate_succ, Array.replicate_zero, List.push_toArray, List.append_toArray, List.nil_append, List.cons_append]
  gi_wp2_with fail
  refine ⟨trivial, (chunk_in Fence.wide 3 trivial rfl _ _ _ 8 (by omega) _).mono ?_⟩
  rintro e w' ⟨rfl, rfl⟩
  clear d8 e8 hmk
  obtain ⟨W0, hW0⟩ : ∃ W : World, W = (((((w.alloc (.cells #[.slice none 0 0] 22)).alloc (.cells #[.int .i64 0] 25)).alloc (.cells (madeCells #[.int .u8 0] N) 5)).alloc (.cells #[.slice (some ⟨w.heap.size + 1 + 1, 0, none⟩) 0 N] 22)).alloc (.cells #[.slice (some ⟨b, off, none⟩) (8 * N) c] 22)).alloc (.cells #[.int .i64 8] 3) := ⟨_, rfl⟩
  obtain ⟨⟨e0, e1, e2, e3, e4, e5⟩, hb0, hz0'⟩ := chain6 w #[.slice none 0 0] #[.int .i64 0] (madeCells #[.int .u8 0] N) #[.slice (some ⟨w.heap.size + 1 + 1, 0, none⟩) 0 N] #[.slice (some ⟨b, off, none⟩) (8 * N) c] #[.int .i64 8] 22 25 5 22 22 3
  rw [← hW0] at e0 e1 e2 e3 e4 e5 hb0 hz0'
  gi_wp2_with fail
  rw [← hW0]
  clear hW0
  have bR : Boxed W0 w.heap.size 22 (.slice none 0 0) := e0
  have bE : Boxed W0 (w.heap.size + 1) 25 (.int .i64 0) := e1
  have hM : Own W0 (w.heap.size + 2) 5 1 (some ⟨w.heap.size + 1 + 1, 0, none⟩) 0 N (bvs []) := Own.of_block e2 (by omega) rfl (Nat.zero_le _) (by unfold maxLen; omega) (by simp [size_madeCells]) (fun i u h => by simp [bvs] at h)
  have bV : Boxed W0 (w.heap.size + 1 + 1 + 1) 22 (.slice (some ⟨w.heap.size + 1 + 1, 0, none⟩) 0 N) := e3
  have bS : Boxed W0 (w.heap.size + 1 + 1 + 1 + 1) 22 (.slice (some ⟨b, off, none⟩) (8 * N) c) := e4
  have bN : Boxed W0 (w.heap.size + 1 + 1 + 1 + 1 + 1) 3 (.int .i64 8) := e5
  clear e0 e1 e2 e3 e4 e5
  have HK : ∀ k, k < N → Hid (pieceV b off (8 * N) 8 k = .slice (some ⟨b, off + 8 * k, none⟩) 8 8) := fun k hk => piece8 b off N k hk
  refine wpIn_rangeFunc_ownF rfl h1 (gf := 148) (lb := #[.pointer (some ⟨w.heap.size + 1 + 1 + 1 + 1, 0, none⟩), .pointer (some ⟨w.heap.size + 1 + 1 + 1 + 1 + 1, 0, none⟩)]) rfl trivial (enters_of Try.func148 (by kernel_rfl) rfl)
    (chunk_stops Fence.wide 3 trivial rfl (by omega) (w.heap.size + 1 + 1 + 1 + 1) (w.heap.size + 1 + 1 + 1 + 1 + 1) w.heap.size b off (8 * N) c 8 (by omega) (by omega) (by omega) hc W0 (by omega) (by omega) bS.cell bN.cell) KeepC.trans (keepC_b (by omega)) (Below.refl _ _) (fun _ => rfl)
    (fun pre W => ((Boxed W w.heap.size 22 (.slice none 0 0) ∧ Boxed W (w.heap.size + 1) 25 (.int .i64 0)) ∧ ∃ A c1, Boxed W (w.heap.size + 1 + 1 + 1) 22 (.slice A pre.length c1) ∧ Own W (w.heap.size + 2) 5 1 A pre.length c1 (bvs (pre.map fun x => byteK l x.val)) ∧ (∀ q, blk A = some q → q = w.heap.size + 1 + 1 ∨ W0.heap.size ≤ q) ∧ (∀ x ∈ pre, ∀ j, j < 8 → (l.getD (8 * x.val + j) 0).toNat ≤ 1) ∧ W0.heap.size ≤ W.heap.size) ∧ Below w.heap.size w W)
    (fun cc pre W => (cc = .ret ∧ Boxed W w.heap.size 22 (.slice none 0 0) ∧ Boxed W (w.heap.size + 1) 25 (.int .i64 2) ∧ ∃ i, i < 8 * N ∧ ¬ (l.getD i 0).toNat ≤ 1) ∧ Below w.heap.size w W)
    (OwnFrom.and (Own.from (fun s A B row hs hg hr => ⟨⟨boxed_keep hs.1.1 hg hr, boxed_keep hs.1.2 hg hr⟩, by
      obtain ⟨_, A1, c1, h1, h2, h3, h4, h5⟩ := hs
      exact ⟨A1, c1, boxed_keep h1 hg hr, h2.kept_in hg hr, h3, h4, Nat.le_trans h5 hg.size⟩⟩) _) (ownFrom_below (by omega) (by omega)))
    (fun cc => OwnFrom.and (Own.from (fun s A B row hs hg hr => ⟨hs.1, boxed_keep hs.2.1 hg hr, boxed_keep hs.2.2.1 hg hr, hs.2.2.2⟩) _) (ownFrom_below (by omega) (by omega)))
    ⟨⟨⟨bR, bE⟩, _, _, bV, hM, fun q hq => .inl (blk_lit hq), fun x hx => (by simp at hx), Nat.le_refl _⟩, hb0⟩
    (fun y => { tmps := #[.slice (some ⟨b, off, none⟩) (8 * N) c, undef, .pointer (some ⟨w.heap.size, 0, none⟩), .pointer (some ⟨w.heap.size + 1, 0, none⟩), .pointer (some ⟨w.heap.size + 1 + 1 + 1, 0, none⟩), pieceV b off (8 * N) 8 y.val, undef, undef, undef, .slice (some ⟨b, off, none⟩) (8 * N) c, .int .i64 (8 * (N : Int)), .int .i64 0, .bool false, .slice (some ⟨b, off, none⟩) (8 * N) c, .int .i64 (8 * (N : Int)), .int .i64 (N : Int), .slice (some ⟨w.heap.size + 1 + 1, 0, none⟩) 0 N, .slice (some ⟨b, off, none⟩) (8 * N) c, .func (.func 148) #[] #[.pointer (some ⟨w.heap.size + 1 + 1 + 1 + 1, 0, none⟩), .pointer (some ⟨w.heap.size + 1 + 1 + 1 + 1 + 1, 0, none⟩)], pieceV b off (8 * N) 8 y.val, undef, undef, undef, undef, undef, undef, undef, undef, undef, undef, undef, undef, undef, undef, undef, undef, undef, undef], defers := [] }) ?assign ?body ?done ?stop
  case assign =>
    intro l0 y W K hK
    gi_wp2
    exact hK
  case body =>
    rintro l0 pre ⟨y, hy⟩ W ⟨⟨⟨bR, bE⟩, A1, c1, bV, hO, hq, hg, hsz⟩, hB⟩ hlen
    have hyN : y < N := Nat.lt_of_lt_of_eq hy (pieces8 N)
    have hlN : pre.length < N := Nat.lt_of_lt_of_eq hlen (pieces8 N)
    have HP := HK y hyN
    dsimp only
    rw [HP.out]
    have haW := ha.below hB
    gi_wp2_with fail
    gi_loopw [6, 22] (fun xv jv wr => ∃ j : Nat, j ≤ 8 ∧ jv = .int .i64 (j : Int) ∧ xv = .int .u8 ((UInt8.ofNat (xn l y j)).toNat : Int) ∧ wr = W ∧ Hid (∀ t, t < j → (l.getD (8 * y + t) 0).toNat ≤ 1)) (fun _ jv _ => 8 - (intOf jv).toNat)
    case atStart => exact ⟨0, Nat.zero_le _, rfl, rfl, rfl, Lib.hid (fun t ht => by omega)⟩
    case round =>
      obtain ⟨j, hj, rfl, rfl, rfl, HJ⟩ := hrel
      by_cases h6 : j < 8
      · have hcx := haW.cell (bvs_get (k := 8 * y + j) (show 8 * y + j < l.length by rw [HL.out]; omega))
        rw [at_get, show off + (8 * y + j) = off + 8 * y + j from by omega] at hcx
        have HXS : Hid (xn l y (j + 1) = 2 * xn l y j + (l.getD (8 * y + j) 0).toNat) := Lib.hid rfl
        have h6i : (j : Int) < 8 := by omega
        by_cases hbit : (l.getD (8 * y + j) 0).toNat ≤ 1
        · have hgt : decide ((1 : Int) < ((l.getD (8 * y + j) 0).toNat : Int)) = false := decide_eq_false (by omega)
          have HJ2 : Hid (∀ t, t < j + 1 → (l.getD (8 * y + t) 0).toNat ≤ 1) := Lib.hid (fun t ht => by
            by_cases e : t = j
            · rw [e]; exact hbit
            · exact HJ.out t (by omega))
          have HO : Hid (bits .or .u8 (((UInt8.ofNat (xn l y j)).toNat : Int) * 2 % 256) ((l.getD (8 * y + j) 0).toNat : Int) = ((UInt8.ofNat (xn l y (j + 1))).toNat : Int)) := by
            show _ = _
            rw [HXS.out]
            exact shl_or (l.getD (8 * y + j) 0) (xn l y j) hbit
          generalize l.getD (8 * y + j) 0 = z at *
          generalize hx1 : UInt8.ofNat (xn l y (j + 1)) = x1 at *
          have HX1 := Lib.hid hx1
          clear hx1
          generalize UInt8.ofNat (xn l y j) = x0 at *
          have gx := byte_lt x0
          have gz := byte_lt z
          gi_wp2
          go_roundw
          case rel => exact ⟨j + 1, by omega, by go_num, by rw [HO.out, HX1.out], by first | rfl | trivial, HJ2⟩
          case measure => simp [intOf]; omega
        · have hgt : decide ((1 : Int) < ((l.getD (8 * y + j) 0).toNat : Int)) = true := decide_eq_true (by omega)
          have HI : Hid (∃ i, i < 8 * N ∧ ¬ (l.getD i 0).toNat ≤ 1) := Lib.hid ⟨8 * y + j, by omega, hbit⟩
          generalize l.getD (8 * y + j) 0 = z at *
          have gz := byte_lt z
          have cR := bR.cell
          have fR := bR.frozen
          have cE := bE.cell
          have fE := bE.frozen
          gi_wp2
          refine ⟨(KeepsOthers.setCell _ _ _).trans (KeepsOthers.setCell _ _ _), ⟨rfl, (bR.set _).kept (grownBy_setCell' _ _ _) (by simp), (bE.kept (grownBy_setCell' _ _ _) (by simp)).set _, HI.out⟩, (hB.setCell (p := ⟨w.heap.size, 0, none⟩) (Nat.le_refl _) _).setCell (p := ⟨w.heap.size + 1, 0, none⟩) (by simp) _⟩
      · obtain rfl : j = 8 := by omega
        rw [show ((8 : Nat) : Int) = 8 from rfl]
        have HBK : Hid (UInt8.ofNat (xn l y 8) = byteK l y) := Lib.hid rfl
        rw [HBK.out]
        generalize hbk : byteK l y = z at *
        have HZ := Lib.hid hbk
        clear hbk
        have cV := bV.cell
        have fV := bV.frozen
        have q2 : pre.length + 1 ≤ maxLen := by unfold maxLen; omega
        have q3 : (pre.length + 1) * 1 ≤ 140737488355328 := by omega
        have hOn := hO.alloc (.cells #[.int .u8 (z.toNat : Int)] 5)
        have hR1 := Rd_one wr (.int .u8 (z.toNat : Int)) 5
        have hbs : w.heap.size + 2 ≤ (wr.alloc (.cells #[.int .u8 (z.toNat : Int)] 5)).heap.size := by have := bV.lt; simp; omega
        have hVlt := bV.lt
        have Hz0 := Lib.hid hz0'
        have Hsz := Lib.hid hsz
        clear hsz
        have Hq := Lib.hid hq
        have Hg := Lib.hid hg
        have hneV : some (w.heap.size + 1 + 1 + 1) ≠ blk A1 := fun e => by have := hq _ e.symm; omega
        have HneV := Lib.hid hneV
        clear hq hg hz0' hneV hVlt HBad HGood HK
        obtain ⟨XS, hXS⟩ : ∃ XS, XS = bvs (pre.map fun x => byteK l x.val) := ⟨_, rfl⟩
        rw [← hXS] at hOn
        have HXS2 := Lib.hid hXS
        clear hXS
        obtain ⟨m, hm⟩ : ∃ m, m = pre.length := ⟨_, rfl⟩
        rw [← hm] at cV bV q2 q3 hOn hlN
        have HM := Lib.hid hm
        clear hm hO HBK haW ha
        gi_wp2_with (gi_at_builtin; refine wpListIn_append_Own (wr.alloc (.cells #[.int .u8 (z.toNat : Int)] 5)) rfl (.tmp 33) (.tmp 35) 22 rfl (w.heap.size + 2) 5 i0 _ 1 1 Try.underlying22 hi0 hz0 hz1 hz2 rfl A1 m c1 XS ?hs ?hown (some ⟨wr.heap.size, 0, none⟩) 1 1 [.int .u8 (z.toNat : Int)] ?hx ?hl ?hR ?h1 ?h63 ?hby ?hba ?hh; (case hs => (first | rfl | (simp [Act.eval, Act.put]; done))); (case hown => exact hOn); (case hx => (first | rfl | (simp [Act.eval, Act.put]; done))); (case hl => rfl); (case hR => exact hR1); (case h1 => exact fun u hu => (by simp at hu; subst hu; rfl)); (case h63 => exact q2); (case hby => exact q3); (case hba => exact hbs); intro A2 c2 w2 hO2 hg2 hor2; have bV2 := (bV.alloc (.cells #[.int .u8 (z.toNat : Int)] 5)).kept hg2 HneV.out; have cV2 := bV2.cell; have fV2 := bV2.frozen)
        have hq := Hq.out
        have hz0 := Hz0.out
        have hsz := Hsz.out
        have hm := HM.out
        have hxs := HXS2.out
        have hz := HZ.out
        have hW0 : w.heap.size ≤ wr.heap.size := by omega
        have hrow : ∀ (j : Nat) (o : Obj), blk A1 = some j → (wr.alloc (.cells #[.int .u8 (z.toNat : Int)] 5)).heap[j]? = some o → o.isCells = true := fun j o hj ho => by
          rcases A1 with _ | a
          · simp [blk] at hj
          · obtain ⟨cur, _, _, hh, _⟩ := hOn.at_ _ rfl
            have e1 : a.block = j := by simpa [blk] using hj
            rw [e1, ho] at hh
            injection hh with hh
            subst hh
            rfl
        have hne2 : blk A2 ≠ some (w.heap.size + 1 + 1 + 1) := fun e => by
          rcases hor2 with h | h
          · exact HneV.out (by rw [← h]; exact e.symm)
          · rw [e] at h
            simp at h
            omega
        have kc : KeepC w.heap.size (w.heap.size + 1 + 1 + 1 + 1) (w.heap.size + 1 + 1 + 1 + 1 + 1) wr (w2.setCell ⟨w.heap.size + 1 + 1 + 1, 0, none⟩ (.slice A2 (m + 1) c2)) :=
          ((KeepC.alloc wr hW0 _).trans (KeepC.grown hg2 (by simp; omega) (fun r hr => by have := hq r hr; omega))).trans (KeepC.set _ (by omega) (by omega) (by omega) _ _)
        have bR2 := ((bR.alloc (.cells #[.int .u8 (z.toNat : Int)] 5)).kept hg2 (fun e => by have := hq _ e.symm; omega)).kept (grownBy_setCell' w2 (w.heap.size + 1 + 1 + 1) (.slice A2 (m + 1) c2)) (by simp <;> omega)
        have bE2 := ((bE.alloc (.cells #[.int .u8 (z.toNat : Int)] 5)).kept hg2 (fun e => by have := hq _ e.symm; omega)).kept (grownBy_setCell' w2 (w.heap.size + 1 + 1 + 1) (.slice A2 (m + 1) c2)) (by simp <;> omega)
        have bV3 := bV2.set (.slice A2 (m + 1) c2)
        have hO3 := hO2.setFar (p := ⟨w.heap.size + 1 + 1 + 1, 0, none⟩) hne2 (.slice A2 (m + 1) c2)
        refine ⟨((KeepsOthers.alloc _ _).trans (KeepsOthers.of_grownBy hg2 hrow)).trans (KeepsOthers.setCell _ _ _), kc, ⟨⟨⟨bR2, bE2⟩, A2, c2, ?_, ?_, ?_, ?_, ?_⟩, hB.trans kc.1⟩⟩
        · rw [List.length_append, List.length_singleton, ← hm]
          exact bV3
        · rw [List.length_append, List.length_singleton, ← hm, List.map_append, bvs_append, ← hxs]
          show Own _ _ _ _ _ _ _ (XS ++ bvs [byteK l y])
          rw [hz]
          exact hO3
        · intro q hb2
          rcases hor2 with h | h
          · rw [h] at hb2
            exact hq q hb2
          · rw [h] at hb2
            injection hb2 with hb2
            right
            rw [← hb2]
            simp
            omega
        · intro x hx
          rcases List.mem_append.1 hx with h | h
          · exact Hg.out x h
          · obtain rfl := List.mem_singleton.1 h
            exact HJ.out
        · have := (KeepsOthers.setCell w2 ⟨w.heap.size + 1 + 1 + 1, 0, none⟩ (.slice A2 (m + 1) c2)).size
          have := hg2.size
          simp at this
          omega
  case done =>
    rintro D ys W hD hys ⟨⟨⟨bR, bE⟩, A1, c1, bV, hO, hq, hg, hsz⟩, hB⟩ hK
    have hyl : ys.length = N := by have := congrArg List.length hys; simpa [pieces8] using this
    have hOut : ys.map (fun x => byteK l x.val) = packB l N := by
      have e : ys.map (fun x => byteK l x.val) = (ys.map Fin.val).map (byteK l) := by rw [List.map_map]; rfl
      rw [e, hys, pieces8]
      rfl
    have hGood : Good l (8 * N) := fun t ht => by
      have hm : t / 8 ∈ ys.map Fin.val := by rw [hys, pieces8, List.mem_range]; omega
      obtain ⟨x, hx, hxv⟩ := List.mem_map.1 hm
      have := hg x hx (t % 8) (by omega)
      rwa [hxv, show 8 * (t / 8) + t % 8 = t from by omega] at this
    have HR := Lib.hid (HGood.out hGood)
    rw [hOut, hyl] at hO
    rw [hyl] at bV
    have HN8 : Hid (8 * N / 8 = N) := by show _ = _; omega
    have cV := bV.cell
    have cR := bR.cell
    have fR := bR.frozen
    have cE := bE.cell
    have fE := bE.frozen
    have hlP : (packB l N).length = N := by rw [← hOut, List.length_map, hyl]
    have hne0 : blk A1 ≠ some w.heap.size := fun e => by have := hq _ e; omega
    have hne1 : blk A1 ≠ some (w.heap.size + 1) := fun e => by have := hq _ e; omega
    have hK' := ((KeepsOthers.setCell W ⟨w.heap.size, 0, none⟩ (.slice A1 N c1)).trans (KeepsOthers.setCell _ ⟨w.heap.size + 1, 0, none⟩ (.int .i64 0))).same D _ hK rfl
    have bR1 := (bR.set (.slice A1 N c1)).kept (grownBy_setCell' _ (w.heap.size + 1) (.int .i64 0)) (by simp)
    have bE1 := (bE.kept (grownBy_setCell' _ w.heap.size (.slice A1 N c1)) (by simp)).set (.int .i64 0)
    have hO1 := (hO.setFar (p := ⟨w.heap.size, 0, none⟩) hne0 (.slice A1 N c1)).setFar (p := ⟨w.heap.size + 1, 0, none⟩) hne1 (.int .i64 0)
    have hB1 := (hB.setCell (p := ⟨w.heap.size, 0, none⟩) (Nat.le_refl _) (.slice A1 N c1)).setCell (p := ⟨w.heap.size + 1, 0, none⟩) (by simp) (.int .i64 0)
    gi_wp2
    generalize (W.setCell ⟨w.heap.size, 0, none⟩ (.slice A1 N c1)).setCell ⟨w.heap.size + 1, 0, none⟩ (.int .i64 0) = W2 at hK' bR1 bE1 hO1 hB1 ⊢
    refine ⟨by simp, .inl ⟨_, _, rfl, run_takeDeferred hK', ?_⟩⟩
    have cR2 := cell_kept bR1.cell (grownBy_putObj' _ D (.deferred none)) (fun r e => by cases e; exact ⟨_, hK', rfl⟩)
    have cE2 := cell_kept bE1.cell (grownBy_putObj' _ D (.deferred none)) (fun r e => by cases e; exact ⟨_, hK', rfl⟩)
    refine ⟨.tuple #[.slice A1 N c1, .int .i64 0], by simp [results, Try.results22, go_sem, cR2, cE2], ?_⟩
    rw [HR.out, HN8.out]
    refine ⟨A1, c1, by rw [hlP], ?_, hB1.trans (belowK_b (w := w) (Nat.le_refl _) W2 D _ _ (by omega) hK' rfl rfl)⟩
    rw [hlP]
    exact (hO1.kept_in (grownBy_putObj' W2 D (.deferred none)) (fun r e => by cases e; exact ⟨_, hK', rfl⟩)).mono (by omega)
  case stop =>
    rintro D cc pre W hD _ ⟨⟨rfl, bR, bE, i, hi, hbad⟩, hB⟩ hK
    have HR := Lib.hid (HBad.out i hi hbad)
    gi_wp2
    refine ⟨by simp, .inl ⟨_, _, rfl, run_takeDeferred hK, ?_⟩⟩
    have cR := cell_kept bR.cell (grownBy_putObj' _ D (.deferred none)) (fun r e => by cases e; exact ⟨_, hK, rfl⟩)
    have cE := cell_kept bE.cell (grownBy_putObj' _ D (.deferred none)) (fun r e => by cases e; exact ⟨_, hK, rfl⟩)
    refine ⟨.tuple #[.slice none 0 0, .int .i64 2], by simp [results, Try.results22, go_sem, cR, cE], ?_⟩
    rw [HR.out]
    exact BytesRes.none_ (hB.trans (belowK_b (w := w) (Nat.le_refl _) W D _ _ (by omega) hK rfl rfl))
end Go.Proofs.Ytclcgfngolfmlaa
