/-
  The document's tag. Regions within the round of a range over a function, in the wide fence: what is shown of them without a fence serves. Reads and quiet calls ahead of a tail in one forced order: 'refine wpInRound_tail n ..'. A region that draws its order: reads of cells that stay as they are (S), and calls or allocs, in whatever order; behind them a tail in one forced order, which may write what was read. For regions within a round of a range over a function ('heldInRound'), and for others ('heldRegion').
-/
import Derived.Test.YtkbaganbfcbioaaMKeysOpens7
import Derived.Test.YtkbaganbfcbioaaMKeysOpens5
import Derived.Test.YtkbaganbfcbioaaMKeysOpens8
import Derived.Deep.RegionHeld3
import Derived.StillTail
import Derived.StillTactics
import Derived.StillTailTactics
import Derived.WalkKit
import Derived.OwnWalkIn
import Derived.TacticsInMore
import Derived.RangeFuncCalls
import Derived.OrdersHeld
import Derived.Deep.RegionHeld
import Derived.Orders
namespace Go.Proofs.Ytkbaganbfcbioaa
set_option linter.unusedSimpArgs false
set_option linter.unusedVariables false
open Go.RowKit

theorem i64_eq {a b : Int} (h : a = b) : Value.int .i64 a = .int .i64 b := by rw [h]
def grpTo (b : List UInt8) (k j : Nat) : Nat := 256 ^ j + numB ((grp b k).take j)
theorem grpTo_zero (b : List UInt8) (k : Nat) : grpTo b k 0 = 1 := by simp [grpTo, numB]
theorem grpTo_succ {b : List UInt8} {k j : Nat} (h : j < (grp b k).length) : grpTo b k (j + 1) = grpTo b k j * 256 + (b.getD (7 * k + j) 0).toNat := by
  unfold grpTo
  rw [numB_take h, Nat.pow_succ]
  have e : (grp b k).getD j 0 = b.getD (7 * k + j) 0 := by
    have h2 : j < min 7 (b.length - 7 * k) := by rw [← grp_len]; exact h
    simp [grp, List.getD, List.getElem?_take, List.getElem?_drop, show j < 7 by omega]
  rw [e]
  omega
theorem grpTo_all (b : List UInt8) (k : Nat) : grpTo b k (grp b k).length = grpN b k := by
  unfold grpTo grpN
  rw [List.take_of_length_le (Nat.le_refl _), Nat.add_comm]
theorem grpTo_lt {b : List UInt8} {k j : Nat} (h : j < (grp b k).length) : grpTo b k j < 562949953421312 := by
  have h7 := grp_le b k
  have h1 := numB_lt j ((grp b k).take j) (by rw [List.length_take]; omega)
  have h2 : 256 ^ j ≤ 281474976710656 := Nat.pow_le_pow_right (n := 256) (by decide) (show j ≤ 6 by omega)
  unfold grpTo
  omega
theorem or_i64_byte {n : Nat} (x : UInt8) (h : n < 562949953421312) : bits .or .i64 ((n : Int) * 256) (x.toNat : Int) = ((n * 256 + x.toNat : Nat) : Int) := by
  have hx := x.toNat_lt
  have hb := i64_or_nat (n * 256) x.toNat (by omega) (by omega)
  have e : n * 256 ||| x.toNat = n * 256 + x.toNat := by
    have := Nat.two_pow_add_eq_or_of_lt (i := 8) (b := x.toNat) (by omega) n
    rw [show n * 256 = 2 ^ 8 * n from by omega]
    exact this.symm
  rw [e] at hb
  rw [← hb]
  rfl
theorem byte_shr' (Z m : Nat) : (Z : Int) / 2 ^ m % 256 = ((UInt8.ofNat (Z / 2 ^ m)).toNat : Int) := by
  rw [int_pow2, UInt8.toNat_ofNat']
  omega

set_option maxHeartbeats 4000000 in
set_option maxRecDepth 100000 in
theorem rtag_good (A : Option Addr) (W : List Nat) (cp C : Nat) (B : Option Addr) (len c : Nat) (l : List UInt8) (w : World) (ha : Rd w A (ivs (nls W))) (hC : C ≤ 281474976710655)
    (hP : Calls Try.prog 39 #[.slice A 8 cp, .int .i64 (C : Int), .int .i64 0] w fun e w' => BytesRes w w' (padL W C 0, 0) e) (hll : l.length = len) (hb : Rd w B (bvs l)) (hn : len ≤ 2000) :
    Calls Try.prog 16 #[.slice A 8 cp, .int .i64 (C : Int), .slice B len c] w fun e w' => BytesRes w w' (tagL W C l, 0) e := by
  obtain ⟨i0, hi0, hz0, hz1, hz2⟩ := info_parts u8info
  have HL := Lib.hid hll
  have CB := Lib.hid hP
  have hPl := padL_length W C 0
  have HT : Hid (be8To (tagN (padL W C 0) l) 8 = tagL W C l) := by show _ = _; rfl
  have hTl := tagL_len W C l
  have h2000 : decide ((2000 : Int) < (len : Int)) = false := decide_eq_false (by omega)
  generalize tagL W C l = T at *
  generalize padL W C 0 = P at *
  clear hll hP
  go_enter Try.func16, Try.ntmps16
  go_wp2_with fail
  refine CB.out.mono ?_
  intro e w1 h1
  obtain ⟨AP, cP, rfl, hOP, hb1⟩ := h1.open_ rfl
  clear h1
  rw [hPl] at hOP ⊢
  obtain ⟨g, o, rfl, hg1, hg2⟩ := hOP.form (by have := hOP.le; omega)
  have hcP := hOP.le
  have hcI : (64 : Int) ≤ (cP : Int) := by omega
  have hcN : ¬ cP = 8 := by omega
  have R8 : Rd w1 (some ⟨g, o, none⟩) (bvs (P.take 8)) := by have := hOP.rd.take 8; simpa [bvs, List.map_take] using this
  have R16 : Rd w1 (some ⟨g, o + 8, none⟩) (bvs ((P.drop 8).take 8)) := by have := (hOP.rd.drop_lit 8).take 8; simpa [bvs, List.map_take, List.map_drop] using this
  have l8 : (P.take 8).length = 8 := by rw [List.length_take]; omega
  have l16 : ((P.drop 8).take 8).length = 8 := by rw [List.length_take, List.length_drop]; omega
  have C8 := Lib.hid (fun (w : World) (h : Rd w (some ⟨g, o, none⟩) (bvs (P.take 8))) => rmodP_any (some ⟨g, o, none⟩) (P.take 8) 8 cP w l8 rfl h)
  have C16 := Lib.hid (fun (w : World) (h : Rd w (some ⟨g, o + 8, none⟩) (bvs ((P.drop 8).take 8))) => rmodP_any (some ⟨g, o + 8, none⟩) ((P.drop 8).take 8) 8 (cP - 8) w l16 rfl h)
  unfold tagN at HT
  have m8 : numB (P.take 8) % bP < bP := Nat.mod_lt _ (by decide)
  have m16 : numB ((P.drop 8).take 8) % bP < bP := Nat.mod_lt _ (by decide)
  generalize numB (P.take 8) % bP = r at *
  generalize numB ((P.drop 8).take 8) % bP = s at *
  rw [bP_eq] at m8 m16
  have c8 : (8 : Int) ≤ (cP : Int) := by omega
  have c16 : (16 : Int) ≤ (cP : Int) := by omega
  have hbW : Rd w1 B (bvs l) := hb.below hb1
  have z1 := hb1.size
  go_wp2_with fail
  apply wp_one
  case h =>
    go_region_held3 (fun _ => True) (trivial) (first
      | (go_at_call 40; (with_reducible refine (C8.out _ R8.drew).mono ?_); rintro e wA ⟨rfl, rfl⟩)
      | (go_at_call 40; (with_reducible refine (C16.out _ R16.drew).mono ?_); rintro e wA ⟨rfl, rfl⟩))
    all_goals exact ⟨rfl, rfl, rfl⟩
  case k =>
    obtain ⟨W2, hW2⟩ : ∃ W : World, W = w1.drew := ⟨_, rfl⟩
    have hb2 : Below w1.heap.size w1 W2 := by rw [hW2]; exact (Below.refl _ _).drew
    replace hbW : Rd W2 B (bvs l) := by rw [hW2]; exact hbW.drew
    have z2 : W2.heap.size = w1.heap.size := by rw [hW2]; rfl
    rw [← hW2]
    clear hW2 C8 C16 R8 R16 l8 l16
    go_wp2_with fail
    go_loop [12, 13] (fun sv av => ∃ k : Nat, 7 * k < len + 7 ∧ av = .int .i64 ((7 * k : Nat) : Int) ∧ sv = .int .i64 (sumTo l r k : Nat)) (fun _ av => len + 7 - (intOf av).toNat)
    case atStart => exact ⟨0, by omega, by simp, by rw [sumTo_zero]; rfl⟩
    case round =>
      obtain ⟨k, hk, rfl, rfl⟩ := hrel
      have hsl := sumTo_lt l r k
      rw [bP_eq] at hsl
      have HS := Lib.hid (sumTo_succ l r k)
      by_cases h5 : 7 * k < len
      · have hgl : (grp l k).length = min 7 (len - 7 * k) := by rw [grp_len, HL.out]
        have hGA := Lib.hid (grpTo_all l k)
        have hGS := Lib.hid (fun j (h : j < (grp l k).length) => grpTo_succ (b := l) (k := k) h)
        have hGL := Lib.hid (fun j (h : j < (grp l k).length) => grpTo_lt (b := l) (k := k) h)
        have hG0 := Lib.hid (grpTo_zero l k)
        rw [hgl] at hGS hGL hGA
        have hgn := grpN_lt l k
        obtain ⟨m, hm⟩ : ∃ m, m = min 7 (len - 7 * k) := ⟨_, rfl⟩
        rw [← hm] at hGS hGL hGA
        have hm1 : 1 ≤ m := by omega
        have hm7 : m ≤ 7 := by omega
        have hml : 7 * k + m ≤ len := by omega
        have hme : m = 7 ∨ 7 * k + m = len := by omega
        clear hm hgl
        have h5i : ((7 * k : Nat) : Int) < (len : Int) := by omega
        generalize sumTo l r k = sm at *
        generalize hq : 7 * k = q at *
        have HQ := Lib.hid hq
        clear hq
        have qi : (0 : Int) ≤ (q : Int) := by omega
        go_wp2_with fail
        go_loop [14, 15] (fun nv jv => ∃ j : Nat, j ≤ m ∧ jv = .int .i64 ((q : Int) + (j : Int)) ∧ nv = .int .i64 (grpTo l k j : Nat)) (fun _ jv => q + 8 - (intOf jv).toNat)
        case atStart => exact ⟨0, by omega, by simp, by rw [hG0.out]; rfl⟩
        case round =>
          obtain ⟨j, hj, rfl, rfl⟩ := hrel
          by_cases h6 : j < m
          · have a1 : (q : Int) + (j : Int) < (q : Int) + 7 := by omega
            have a2 : (q : Int) + (j : Int) < (len : Int) := by omega
            have a3 : (0 : Int) ≤ (q : Int) + (j : Int) := by omega
            obtain ⟨b, off, rfl, hc⟩ := hbW.byteD (k := q + j) (by rw [HL.out]; omega)
            have hgs := Lib.hid (hGS.out j h6)
            have hgl := hGL.out j h6
            have ho := or_i64_byte (l.getD (q + j) 0) hgl
            generalize grpTo l k j = n0 at *
            generalize l.getD (q + j) 0 = x at *
            have gx := byte_lt x
            have ti : ((q : Int) + (j : Int)).toNat = q + j := by omega
            go_wp2_with fail
            go_round
            case rel => exact ⟨j + 1, by omega, by rw [show ((j + 1 : Nat) : Int) = (j : Int) + 1 from by omega, Int.add_assoc], by rw [hgs.out]; exact i64_eq (by omega)⟩
            case measure => simp [intOf] <;> omega
          · obtain rfl : m = j := by omega
            rw [hGA.out]
            generalize grpN l k = gn at *
            have CT := Lib.hid (fun (w : World) => rtimesP_any (((sm + gn) % bP : Nat) : Int) (r : Int) ((sm + gn) % bP) r w rfl rfl (by have : (sm + gn) % bP < bP := Nat.mod_lt _ (by decide); rw [bP_eq] at this ⊢; omega) (by omega))
            have e9 : ((sm : Int) + (gn : Int)) % 2305843009213693951 = (((sm + gn) % bP : Nat) : Int) := by rw [bP_eq]; omega
            have HM : Hid (r * ((sm + gn) % bP) % bP = (sm + gn) * r % bP) := by show _ = _; rw [Nat.mul_mod_mod, Nat.mul_comm]
            rw [HM.out] at CT
            rw [← HS.out] at CT
            generalize (sm + gn) % bP = tn at *
            have e9h := Lib.hid e9
            clear e9
            by_cases h7 : m = 7
            · have d1 : decide ((m : Int) < 7) = false := decide_eq_false (by omega)
              have e9 := e9h.out
              clear e9h h6 hme h7
              go_wp2_with (go_at_call 41; (with_reducible refine (CT.out _).mono ?_); rintro e w' ⟨rfl, rfl⟩)
              go_round
              case rel => exact ⟨k + 1, by have := HQ.out; omega, by rw [show ((7 * (k + 1) : Nat) : Int) = (q : Int) + 7 from by have := HQ.out; omega], rfl⟩
              case measure => simp [intOf] <;> omega
            · have d1 : (m : Int) < 7 := by omega
              have d2 : decide ((q : Int) + (m : Int) < (len : Int)) = false := decide_eq_false (by omega)
              have e9 := e9h.out
              clear e9h h6 hme h7
              go_wp2_with (go_at_call 41; (with_reducible refine (CT.out _).mono ?_); rintro e w' ⟨rfl, rfl⟩)
              go_round
              case rel => exact ⟨k + 1, by have := HQ.out; omega, by rw [show ((7 * (k + 1) : Nat) : Int) = (q : Int) + 7 from by have := HQ.out; omega], rfl⟩
              case measure => simp [intOf] <;> omega
      · have hkk : k = (l.length + 6) / 7 := by rw [HL.out]; omega
        rw [← hkk] at HT
        have h5i : (len : Int) ≤ ((7 * k : Nat) : Int) := by omega
        clear HS hkk
        generalize sumTo l r k = S at *
        have e7 : ((S : Int) + (s : Int)) % 2305843009213693951 = (((S + s) % bP : Nat) : Int) := by rw [bP_eq]; omega
        have hZl : (S + s) % bP < bP := Nat.mod_lt _ (by decide)
        rw [bP_eq] at hZl
        generalize (S + s) % bP = Z at *
        generalize 7 * k = q at *
        go_wp2_with fail
        clear e7
        go_loopw [16, 17] (fun v i wr => ∃ (j : Nat) (A2 : Option Addr) (c2 : Nat), j ≤ 8 ∧ i = .int .i64 (((8 - j : Nat) : Int) - 1) ∧ v = .slice A2 j c2 ∧ Own wr W2.heap.size 5 1 A2 j c2 (bvs (be8To Z j)) ∧ Below W2.heap.size W2 wr) (fun _ i _ => (intOf i + 1).toNat)
        case atStart => exact ⟨0, none, 0, by omega, rfl, rfl, Own.none_ _ _ _ _, Below.refl _ _⟩
        case round =>
          obtain ⟨j, A2, c2, hj, rfl, rfl, hO, hb⟩ := hrel
          by_cases h8 : j < 8
          · obtain ⟨u, hu⟩ : ∃ u, 8 - j = u + 1 := ⟨7 - j, by omega⟩
            rw [hu, show ((u + 1 : Nat) : Int) - 1 = (u : Int) from by omega]
            have hui : (u : Int) < 8 := by omega
            have hu0 : (0 : Int) ≤ (u : Int) := by omega
            have hbe := Lib.hid (be8To_succ Z j)
            rw [show 56 - 8 * j = 8 * u from by omega] at hbe
            have hby := byte_shr' Z (8 * u)
            have HU := Lib.hid hu
            generalize be8To Z j = XS at *
            generalize UInt8.ofNat (Z / 2 ^ (8 * u)) = z at *
            obtain ⟨XV, hXV⟩ : ∃ V, V = bvs XS := ⟨_, rfl⟩
            rw [← hXV] at hO
            have HXV := Lib.hid hXV
            clear hXV
            have hOn := hO.alloc (.cells #[.int .u8 (z.toNat : Int)] 5)
            have hR1 := Rd_one wr (.int .u8 (z.toNat : Int)) 5
            have zb := hb.size
            have hbs : W2.heap.size ≤ (wr.alloc (.cells #[.int .u8 (z.toNat : Int)] 5)).heap.size := by simp; omega
            have q2 : j + 1 ≤ maxLen := by unfold maxLen; omega
            have q3 : (j + 1) * 1 ≤ 140737488355328 := by omega
            have HB5 := Lib.hid hb
            clear hbW hb hu
            go_wp2_with (at_builtin; refine wpList_append_Own (wr.alloc (.cells #[.int .u8 (z.toNat : Int)] 5)) rfl (.tmp 77) (.tmp 83) 22 rfl W2.heap.size 5 i0 _ 1 1 Try.underlying22 hi0 hz0 hz1 hz2 rfl A2 j c2 XV ?hs ?hown (some ⟨wr.heap.size, 0, none⟩) 1 1 [.int .u8 (z.toNat : Int)] ?hx ?hl ?hR ?h1 ?h63 ?hby ?hba ?hh; (case hs => (first | rfl | (simp [Act.eval, Act.put]; done))); (case hown => exact hOn); (case hx => (first | rfl | (simp [Act.eval, Act.put]; done))); (case hl => rfl); (case hR => exact hR1); (case h1 => exact fun u hu => (by simp at hu; subst hu; rfl)); (case h63 => exact q2); (case hby => exact q3); (case hba => exact hbs); intro A3 c3 w9 hO9 hg9 hor9)
            go_roundw
            case rel =>
              refine ⟨j + 1, A3, c3, by omega, by rw [show ((8 - (j + 1) : Nat) : Int) - 1 = (u : Int) - 1 from by have := HU.out; omega], rfl, ?_, ?_⟩
              · rw [hbe.out, bvs_append, ← HXV.out]
                exact hO9
              · exact (HB5.out.alloc (by omega) _).grown hg9 (by simp; omega) (fun q hq => by have := hOn.lt q hq; omega)
            case measure => simp [intOf] <;> omega
          · obtain rfl : j = 8 := by omega
            have hb9 : Below w.heap.size w wr := hb1.trans ((hb2.mono z1).trans (hb.mono (by omega)))
            go_wp2_with fail
            go_ret2
            refine ⟨A2, c2, by rw [hTl]; rfl, ?_, hb9⟩
            show Own wr w.heap.size _ 1 A2 T.length c2 (bvs T)
            rw [hTl, ← HT.out]
            exact hO.mono (by omega)
end Go.Proofs.Ytkbaganbfcbioaa
namespace Go.Proofs.Ytkbaganbfcbioaa
set_option linter.unusedVariables false
open Go.RowKit
section
variable {P : Program} {ops : Array Oper} {Q : Exit → Act → World → Prop} {l0 n : Nat} {md : Region.Mode}

theorem oper_round {o : Oper} {a : Act} {w : World} {K : Act → World → Prop} (hd : ∀ c, o.op ≠ .defer c) (h : o.wp P a w K Q) : o.wpIn (Fence.wide.inRound l0) n P a w K Q := by
  refine ⟨fun f _ => trivial, ?_⟩
  rw [Fence.inRound_round, Oper.semAt_some _ _ _ hd]
  unfold Oper.wp at h
  generalize (execOp a.eval o).run P w = r at *
  cases r with
  | ok x w' =>
    cases x <;> simp only [Oper.upon, Oper.uponIn] at h ⊢
    case value v => exact h
    case skip => exact h
    case defer d => exact h
    case enter f args => exact ⟨(fun e => by cases e), CallsIn.inRound l0 (callsIn_wide.2 h)⟩
    case row row args => exact ⟨(fun e => by cases e), fun c cs _ => let ⟨v, w', r, s⟩ := h c cs; ⟨v, w', r, stepsIn_wide.2 s⟩⟩
  | halt x w' =>
    cases x <;> simp only [Oper.upon, Oper.uponIn] at h ⊢
    case panic u => exact h

theorem wpOp_round {i : Nat} {a : Act} {w : World} {K : Act → World → Prop} (hd : ∀ (j : Nat) (o : Oper), ops[j]? = some o → ∀ c, o.op ≠ .defer c) (hout : ¬ LetsOut Q) (h : wpOp P ops Q i K a w) : wpOpIn (Fence.wide.inRound l0) n P ops Q i K a w := by
  unfold wpOp at h
  unfold wpOpIn
  cases ho : ops[i]? with
  | none => simp only [ho] at h ⊢; exact h
  | some o =>
    simp only [ho] at h ⊢
    split at h
    · rename_i hw
      rw [if_pos hw]
      rcases h with h | h
      · exact oper_round (hd i o ho) h
      · exact absurd h.2 hout
    · rename_i hw
      rw [if_neg hw]
      exact ⟨fun f _ => trivial, h⟩

theorem wpAny_round (hd : ∀ (j : Nat) (o : Oper), ops[j]? = some o → ∀ c, o.op ≠ .defer c) (hout : ¬ LetsOut Q) : ∀ (fuel : Nat) (listed : Array Bool) (a : Act) (w : World), wpAny P md ops Q fuel listed a w → wpAnyIn (Fence.wide.inRound l0) n P md ops Q fuel listed a w
  | 0, _, _, _, h => h
  | fuel + 1, listed, a, w, h => ⟨h.1, fun i hi => wpOpIn_mono (fun a w h' => wpAny_round hd hout fuel _ a w h') (wpOp_round hd hout (h.2 i hi))⟩

def noDefer (l : List Oper) : Bool := l.all fun o => match o.op with | .defer _ => false | _ => true
theorem noDefer_spec {l : List Oper} (h : noDefer l = true) : ∀ (j : Nat) (o : Oper), l.toArray[j]? = some o → ∀ c, o.op ≠ .defer c := by
  intro j o hj c e
  have := List.all_eq_true.1 h o (List.mem_of_getElem? (by simpa using hj))
  rw [e] at this
  cases this

/-- Reads and quiet calls in whatever order, and a tail in one forced order: within a round. -/
theorem wpInRound_tail {id : Nat} {a : Act} {w : World} {l : List Oper} (k : Nat) (hm : P.follows .mixedOrders = true) (hB : Region.lexTailB .any l.toArray k = true) (hnd : noDefer l = true) (hout : ¬ LetsOut Q)
    (h : wpStill P l.toArray w.drew (fun a' => wpList P l.toArray Q (l.drop k) a' w.drew) (l.take k) a) : (Code.region id l.toArray true).wpIn (Fence.wide.inRound l0) n P Q a w := by
  simp only [Region.lexTailB, Bool.and_eq_true, decide_eq_true_eq] at hB
  obtain ⟨⟨⟨⟨hsel, hn⟩, hs⟩, hc⟩, hlex⟩ := hB
  have hn' : k < l.length := by simpa using hn
  have htl : (l.take k).length = k := by simp; omega
  have hdl : (l.drop k).length = l.toArray.size - k := by simp
  have inv0 : HeadInv .any l.toArray k (Array.replicate l.toArray.size false) :=
    ⟨by simp, fun j oj _ hl => (by rw [getD_replicate_false] at hl; cases hl), fun t _ ht => getD_in (by simpa using ht) (getD_replicate_false _ _)⟩
  have H := wpAnyL_lex (md := .any) (g := l.toArray.size - k) hsel hs hc hn (l.take k) 0 _ a (fun j hj => by
    have hj' : j < k := by rw [htl] at hj; exact hj
    simp [hj']) (by simpa using htl) inv0 (by rw [htl]; exact hlex) h
  refine wpIn_region_any hm (wpAny_round (noDefer_spec hnd) hout _ _ _ _ ?_)
  have := wpAny_of_head (Q' := Q) (g := l.toArray.size - k) (fun listed a' hL => by
    have := wpAny_of_seq (md := .any) (Q' := Q) (l.drop k) k listed a' w.drew (fun j => by simp [List.getElem?_drop]) (by rw [hdl]; exact hL.1) hL.2
    rwa [hdl] at this) _ _ _ H
  rw [htl, show k + (l.toArray.size - k) = l.toArray.size by omega] at this
  exact this
end
end Go.Proofs.Ytkbaganbfcbioaa
namespace Go.Proofs.Ytkbaganbfcbioaa
set_option linter.unusedSimpArgs false
set_option linter.unusedVariables false
open Go.RowKit
section
variable {P : Program} {md : Region.Mode} {ops : Array Oper} {Q : Exit → Act → World → Prop} {S : World → Prop} {L : Array Bool → Act → World → Prop}

/-- f operations more in whatever order, S behind each; then L. -/
def Head (P : Program) (md : Region.Mode) (ops : Array Oper) (Q : Exit → Act → World → Prop) (S : World → Prop) (L : Array Bool → Act → World → Prop) : Nat → Array Bool → Act → World → Prop
  | 0, listed, a, w => L listed a w
  | f + 1, listed, a, w => Region.ready md ops listed ≠ [] ∧ ∀ i ∈ Region.ready md ops listed, wpOp P ops Q i (fun a' w' => S w' ∧ Head P md ops Q S L f (listed.setIfInBounds i true) a' w') a w
theorem head_any {g : Nat} (hL : ∀ listed a w, L listed a w → wpAny P md ops Q g listed a w) : ∀ (f : Nat) (listed : Array Bool) (a : Act) (w : World), Head P md ops Q S L f listed a w → wpAny P md ops Q (f + g) listed a w
  | 0, _, _, _, h => by rw [Nat.zero_add]; exact hL _ _ _ h
  | f + 1, _, _, _, h => by
    rw [show f + 1 + g = (f + g) + 1 by omega]
    exact ⟨fun e => absurd e h.1, fun i hi => wpOp_mono (fun a' w' h' => head_any hL f _ a' w' h'.2) (h.2 i hi)⟩
theorem head_first {n i : Nat} {oi : Oper} {v : Value} (hi : ops[i]? = some oi) (hsel : ∀ (j : Nat) (o : Oper) cs b, ops[j]? = some o → o.op ≠ .select cs b) (hs : Region.sinkB md ops n = true) (hc : Region.chainB md ops n = true) (hn : n < ops.size) (hin : i < n)
    (hdone : ∀ listed a w, L listed a w → ∀ j ∈ Region.ready md ops listed, n ≤ j) (hQ : ∀ c a w, Q (.panic c) (a.put oi.dst v) w → Q (.panic c) a w) :
    ∀ (f : Nat) (listed : Array Bool) (a : Act) (w : World), HeadInv md ops n listed → (∀ j oj, ops[j]? = some oj → j ≠ i → listed.getD j true = false → (∀ e ∈ oj.after, Region.binds md e = true → e.on ≠ i) → oi.apart ops oj = true) →
      i ∈ Region.ready md ops listed → YieldsIf P ops S oi v a → S w → Head P md ops Q S L f (listed.setIfInBounds i true) (a.put oi.dst v) w → Head P md ops Q S L (f + 1) listed a w := by
  intro f
  induction f with
  | zero =>
    intro listed a w inv _ hr hy hS H
    refine ⟨fun h => (by rw [h] at hr; cases hr), fun j hj => ?_⟩
    by_cases hji : j = i
    · subst hji
      exact hy.wpOp hi hS ⟨hS, H⟩
    · have h1 := hdone _ _ _ H j (ready_mono hj hji)
      exact absurd hj (tail_waits hs hc hn inv _ i rfl hin (mem_ready.1 hr).1 j h1)
  | succ f ih =>
    intro listed a w inv hfree hr hy hS H
    have hun := (mem_ready.1 hr).1
    refine ⟨fun h => (by rw [h] at hr; cases hr), fun j hj => ?_⟩
    by_cases hji : j = i
    · subst hji
      exact hy.wpOp hi hS ⟨hS, H⟩
    · have hjn : j < n := by
        rcases Nat.lt_or_ge j n with h | h
        · exact h
        · exact absurd hj (tail_waits hs hc hn inv _ i rfl hin hun j h)
      obtain ⟨hjun, oj, hoj, hall⟩ := mem_ready.1 hj
      have hnot : ∀ e ∈ oj.after, Region.binds md e = true → e.on ≠ i := fun e he hb heq => by
        have h1 := hall e he hb
        rw [heq, getD_both hun] at h1
        cases h1
      have h2 := wpOp_putIf hoj (hfree j oj hoj hji hjun hnot) (fun cs b => hsel i oi cs b hi) (fun cs b => hsel j oj cs b hoj) hQ hy (H.2 j (ready_mono hj hji))
      refine wpOp_mono (fun a' w' h3 => ⟨h3.2.1, ih (listed.setIfInBounds j true) a' w' (inv.set hj hjn) ?_ (ready_mono hr (Ne.symm hji)) h3.1 h3.2.1 ?_⟩) h2
      · intro k ok hk hki hku hno
        refine hfree k ok hk hki ?_ hno
        by_cases hjk : j = k
        · subst hjk
          exact hjun
        · rw [getD_set_ne true hjk] at hku
          exact hku
      · rw [Array.setIfInBounds_comm _ _ hji]
        exact h3.2.2

/-- What is asked of the region, seen once. -/
def headB (md : Region.Mode) (ops : Array Oper) (n : Nat) : Bool := Region.noSelect ops && Region.sinkB md ops n && Region.chainB md ops n && decide (n < ops.size)
/-- The walk's goal: operations from n on are the tail. -/
def Walk (P : Program) (md : Region.Mode) (l : List Oper) (Q : Exit → Act → World → Prop) (S : World → Prop) (n f : Nat) (listed : Array Bool) (a : Act) (w : World) : Prop :=
  headB md l.toArray n = true → HeadInv md l.toArray n listed → Head P md l.toArray Q S (fun listed a w => Region.seqB md l.toArray (l.drop n).length n listed = true ∧ wpList P l.toArray Q (l.drop n) a w) f listed a w
variable {l : List Oper} {n f : Nat} {listed : Array Bool} {a : Act} {w : World}
theorem headB_spec (h : headB md ops n = true) : (∀ (j : Nat) (o : Oper) cs b, ops[j]? = some o → o.op ≠ .select cs b) ∧ Region.sinkB md ops n = true ∧ Region.chainB md ops n = true ∧ n < ops.size := by
  simp only [headB, Bool.and_eq_true, decide_eq_true_eq] at h
  exact ⟨Region.noSelect_spec h.1.1.1, h.1.1.2, h.1.2, h.2⟩
/-- An operation that yields its value in every world that meets S is taken first. -/
theorem walk_take (i : Nat) {oi : Oper} {v : Value} (hi : l.toArray[i]? = some oi) (hin : decide (i < n) = true) (hf : Region.free md l.toArray listed i = true) (hr : (Region.ready md l.toArray listed).contains i = true)
    (hQ : ∀ c a w, Q (.panic c) (a.put oi.dst v) w → Q (.panic c) a w) (hS : S w) (hy : YieldsIf P l.toArray S oi v a) (h : Walk P md l Q S n f (listed.setIfInBounds i true) (a.put oi.dst v) w) : Walk P md l Q S n (f + 1) listed a w := fun hB inv => by
  obtain ⟨hsel, hs, hc, hn⟩ := headB_spec hB
  have hr' : i ∈ Region.ready md l.toArray listed := by simpa using hr
  exact head_first hi hsel hs hc hn (by simpa using hin) (fun _ _ _ h => seqB_ready h.1) hQ f listed a w inv (Region.free_spec hi hf) hr' hy hS (h hB (inv.set hr' (by simpa using hin)))
/-- The one operation that may come up. -/
theorem walk_step (i : Nat) {oi : Oper} (hi : l.toArray[i]? = some oi) (hin : decide (i < n) = true) (hr : Region.ready md l.toArray listed = [i])
    (h : ∀ K' : Act → World → Prop, (∀ a w, S w → Walk P md l Q S n f (listed.setIfInBounds i true) a w → K' a w) → if Region.wanted oi (yielded l.toArray a.tmps) = true then Oper.wp P oi a w K' Q else K' (a.put oi.dst undef) w) : Walk P md l Q S n (f + 1) listed a w := fun hB inv => by
  refine ⟨fun e => (by rw [hr] at e; cases e), fun j hj => ?_⟩
  have hj' := hj
  rw [hr] at hj'
  have hji : j = i := by simpa using hj'
  subst hji
  refine wpOp_step hi (fun K' hK => h K' fun a w hS hW => hK a w ⟨hS, hW hB (inv.set hj (by simpa using hin))⟩)
/-- The tail. -/
theorem walk_tail (hB : Region.seqB md l.toArray (l.drop n).length n listed = true) (h : wpList P l.toArray Q (l.drop n) a w) : Walk P md l Q S n 0 listed a w := fun _ _ => ⟨hB, h⟩
theorem walk_any (hB : headB .any l.toArray n = true) (h : Walk P .any l Q S n n (Array.replicate l.toArray.size false) a w) : wpAny P .any l.toArray Q l.toArray.size (Array.replicate l.toArray.size false) a w := by
  have hn := (headB_spec hB).2.2.2
  have inv0 : HeadInv .any l.toArray n (Array.replicate l.toArray.size false) :=
    ⟨by simp, fun j oj _ hl => (by rw [getD_replicate_false] at hl; cases hl), fun t _ ht => getD_in (by simpa using ht) (getD_replicate_false _ _)⟩
  have := head_any (g := (l.drop n).length) (fun listed a w hL => wpAny_of_seq (l.drop n) n listed a w (fun j => by simp [List.getElem?_drop]) hL.1 hL.2) n _ a w (h hB inv0)
  rwa [show n + (l.drop n).length = l.toArray.size by simp at hn ⊢; omega] at this
theorem heldRegion {id : Nat} (S : World → Prop) (n : Nat) (hm : P.follows .mixedOrders = true) (hB : headB .any l.toArray n = true) (hS : S w.drew) (h : S w.drew → Walk P .any l Q S n n (Array.replicate l.toArray.size false) a w.drew) : (Code.region id l.toArray true).wp P Q a w :=
  wp_region_any hm (walk_any hB (h hS))
theorem heldInRound {id l0 m : Nat} (S : World → Prop) (n : Nat) (hm : P.follows .mixedOrders = true) (hB : headB .any l.toArray n = true) (hnd : noDefer l = true) (hout : ¬ LetsOut Q) (hS : S w.drew) (h : S w.drew → Walk P .any l Q S n n (Array.replicate l.toArray.size false) a w.drew) : (Code.region id l.toArray true).wpIn (Fence.wide.inRound l0) m P Q a w :=
  wpIn_region_any hm (wpAny_round (noDefer_spec hnd) hout _ _ _ _ (walk_any hB (h hS)))
end
end Go.Proofs.Ytkbaganbfcbioaa
