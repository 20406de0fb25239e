/-
  What the helpers of the laws do (same.go): a roomy copy of bytes, whether it was left as it was, two lists of bytes that are the same, bytes written over by their owner. The document's stir.
-/
import Derived.Test.YtkbaganbfcbioaaChecked
import Derived.Test.YtkbaganbfcbioaaMKeysOpens1
import Derived.Deep.QuietTactic
import Derived.BigQuiet
import Derived.Deep.LoopGhost
import Derived.Deep.OwnRows
import Derived.Test.YtkbaganbfcbioaaMKeysOpens2
import Derived.BigRegion
import Derived.Deep.DeepCutAuto
import Derived.Deep.RegionHeld3
import Derived.Deep.RegionLaw
import Derived.Laws.BitsAllLaws
namespace Go.Proofs.Ytkbaganbfcbioaa
set_option linter.unusedSimpArgs false
set_option linter.unusedVariables false
open Go.RowKit

theorem u8info : (Try.prog.info? 5).map (fun i => (i.zero, i.size, i.bytes)) = some (some (.int .u8 0), 1, 1) := by kernel_rfl

theorem strOf_eq (l : List UInt8) : strOfNums (l.map fun x => (x.toNat : Int)) = ⟨l.toArray⟩ := by
  apply ByteArray.ext
  apply Array.ext'
  rw [strOfNums_data, List.map_map]
  have h : ∀ l : List UInt8, l.map ((fun n : Int => UInt8.ofNat n.toNat) ∘ fun x : UInt8 => (x.toNat : Int)) = l := by
    intro l
    induction l with
    | nil => rfl
    | cons x l ih => rw [List.map_cons, ih]; simp
  exact h l

section
variable {P : Program} (w : World)
theorem run_convert_Rd (src e : TypeId) (hs : P.underlying src = some (.slice e)) (he : P.underlying e = some (.int .u8)) (A : Option Addr) (l : List UInt8) (c : Nat) (h : Rd w A (bvs l)) :
    ∀ dst, P.underlying dst = some .string → (convert src dst (.slice A l.length c)).run P w = .ok (.string ⟨l.toArray⟩) w := by
  intro dst hd
  rcases A with _ | ⟨b, off, spot⟩
  · rcases l with _ | ⟨x, l⟩
    · exact run_convert_bytes_nil w src e hs he 0 c dst hd
    · obtain ⟨b, off, e, _⟩ := h.byte (k := 0) (by simp)
      cases e
  · rcases l with _ | ⟨x, l⟩
    · rw [run_convert_bytes_string w src dst e _ _ c hs he hd, show ([] : List UInt8).length = 0 from rfl, run_bytesToString w _ 0 c [] (by simp [loadCells, loadCellsFrom])]
      rfl
    · obtain ⟨b', off', e1, _⟩ := h.byte (k := 0) (by simp)
      injection e1 with e1
      injection e1 with e1 e2 e3
      subst e1
      subst e2
      subst e3
      have := run_convert_bytes_arg (P := P) w src e hs he b off (x :: l).length c ((x :: l).map fun x => (x.toNat : Int)) (by simp) (fun i hi => by
        have := h.cell (bvs_get hi)
        rw [this]
        rw [List.getD_eq_getElem?_getD, List.getElem?_map, List.getElem?_eq_getElem hi]
        rfl) dst hd
      rw [this, strOf_eq]
end

theorem sameBytes_yes (A B : Option Addr) (l : List UInt8) (c d : Nat) (w : World) (ha : Rd w A (bvs l)) (hb : Rd w B (bvs l)) :
    Calls Try.prog 38 #[.slice A l.length c, .slice B l.length d] w fun e w' => e = .returned (.bool true) ∧ w = w' := by
  have h1 := run_convert_Rd (P := Try.prog) w 22 5 Try.underlying22 Try.underlying5 A l c ha 9 Try.underlying9
  have h2 := run_convert_Rd (P := Try.prog) w 22 5 Try.underlying22 Try.underlying5 B l d hb 9 Try.underlying9
  go_enter Try.func38, Try.ntmps38
  go_wp2
  go_ret
  exact ⟨ret_bool (by simp), rfl⟩

/-- The marks behind a roomy copy. -/
def mark (i : Nat) : Value := .int .u8 (IntKind.u8.wrap (90 + (i : Int)))
/-- Block g is a copy of l with room for five more, the first k of which are marked. -/
structure RoomK (w : World) (g : Nat) (l : List UInt8) (k : Nat) : Prop where
  ex : ∃ cur, w.heap[g]? = some (.cells cur 5 (0, 0)) ∧ cur.size = l.length + 5 ∧ (∀ j, (h : j < l.length) → cur[j]? = some (bv l[j])) ∧ ∀ j, l.length ≤ j → j < l.length + k → cur[j]? = some (mark j)
/-- Block g is a roomy copy of l. -/
def Room (w : World) (g : Nat) (l : List UInt8) : Prop := RoomK w g l 5

section
variable {w w' : World} {g k : Nat} {l : List UInt8}
theorem RoomK.lt (h : RoomK w g l k) : g < w.heap.size := by
  obtain ⟨cur, hh, _⟩ := h.ex
  exact lt_of_block hh
theorem RoomK.keep (h : RoomK w g l k) (hk : w'.heap[g]? = w.heap[g]?) : RoomK w' g l k := by
  obtain ⟨cur, hh, r⟩ := h.ex
  exact ⟨cur, hk.trans hh, r⟩
theorem RoomK.cell (h : RoomK w g l k) {j : Nat} (hj : j < l.length + 5) : ∃ u, w.cell? ⟨g, j, none⟩ = some u := by
  obtain ⟨cur, hh, hs, _⟩ := h.ex
  exact ⟨cur[j]'(by omega), by rw [cell_of_row w g j cur _ (0, 0) hh]; exact Array.getElem?_eq_getElem (by omega)⟩
theorem RoomK.frozen (h : RoomK w g l k) (j : Nat) : w.frozen? ⟨g, j, none⟩ = false := by
  obtain ⟨cur, hh, _⟩ := h.ex
  simp [World.frozen?, hh]
theorem RoomK.set (h : RoomK w g l k) (hk : k < 5) : RoomK (w.setCell ⟨g, l.length + k, none⟩ (mark (l.length + k))) g l (k + 1) := by
  obtain ⟨cur, hh, hs, h1, h2⟩ := h.ex
  refine ⟨cur.setIfInBounds (l.length + k) (mark (l.length + k)), by simp [World.setCell, Array.getElem?_modify, hh], by simpa using hs, fun j hj => ?_, fun j hj hj2 => ?_⟩
  · rw [Array.getElem?_setIfInBounds_ne (by omega)]; exact h1 j hj
  · by_cases he : j = l.length + k
    · subst he
      rw [Array.getElem?_setIfInBounds_self, if_pos (by omega)]
    · rw [Array.getElem?_setIfInBounds_ne (by omega)]; exact h2 j hj (by omega)
theorem Room.below (h : Room w g l) (hb : Below w.heap.size w w') : Room w' g l := RoomK.keep h (hb.block _ h.lt)
theorem Room.grown {row : Option Nat} (h : Room w g l) (hg : w.grownBy w' row) (hne : row ≠ some g) : Room w' g l := RoomK.keep h (hg.block _ h.lt (fun e => hne e.symm))
theorem Room.rd (h : Room w g l) : Rd w (some ⟨g, 0, none⟩) (bvs l) := by
  obtain ⟨cur, hh, hs, h1, _⟩ := h.ex
  refine Rd.of_block hh fun i u hu => ?_
  have hl : i < l.length := by
    rcases Nat.lt_or_ge i l.length with h | h
    · exact h
    · rw [List.getElem?_eq_none (by simpa [bvs] using h)] at hu; cases hu
  rw [bvs_get hl] at hu
  rw [Nat.zero_add, h1 i hl]
  exact hu
theorem Room.mark (h : Room w g l) {j : Nat} (hj : l.length ≤ j) (hj2 : j < l.length + 5) : w.cell? ⟨g, j, none⟩ = some (.int .u8 (IntKind.u8.wrap (90 + (j : Int)))) := by
  obtain ⟨cur, hh, hs, _, h2⟩ := h.ex
  rw [cell_of_row w g j cur _ (0, 0) hh]
  exact h2 j hj hj2
theorem Room.own (h : Room w g l) (hm : l.length + 5 ≤ maxLen) {base : Nat} (hb : base ≤ g) : Own w base 5 1 (some ⟨g, 0, none⟩) l.length (l.length + 5) (bvs l) := by
  obtain ⟨cur, hh, hs, h1, _⟩ := h.ex
  refine Own.of_block hh hb (by simp [bvs]) (by omega) hm (by omega) fun i u hu => ?_
  have hl : i < l.length := by
    rcases Nat.lt_or_ge i l.length with h | h
    · exact h
    · rw [List.getElem?_eq_none (by simpa [bvs] using h)] at hu; cases hu
  rw [bvs_get hl] at hu
  rw [h1 i hl]
  exact hu
end
end Go.Proofs.Ytkbaganbfcbioaa
namespace Go.Proofs.Ytkbaganbfcbioaa
set_option linter.unusedSimpArgs false
set_option linter.unusedVariables false
open Go.RowKit

theorem and32 {x : Nat} (h : x < 9223372036854775808) : bits .and .i64 (x : Int) 4294967295 = ((x % 4294967296 : Nat) : Int) := by
  have e := i64_and_nat x 4294967295 h (by decide)
  rw [show ((4294967295 : Nat) : Int) = 4294967295 from rfl] at e
  rw [e, show (4294967295 : Nat) = 2 ^ 32 - 1 from rfl, Nat.and_two_pow_sub_one_eq_mod]
theorem add_ref {x y : Nat} (hx : x < 4294967296) (hy : y < 4294967296) : bits .and .i64 ((x : Int) + (y : Int)) 4294967295 = ((add32 x y : Nat) : Int) := by
  rw [show (x : Int) + (y : Int) = ((x + y : Nat) : Int) from by omega, and32 (by omega)]
  rfl
theorem xor_ref {x y : Nat} (hx : x < 4294967296) (hy : y < 4294967296) : bits .xor .i64 (x : Int) (y : Int) = ((x ^^^ y : Nat) : Int) := i64_xor_nat x y (by omega) (by omega)
theorem shl_ref {x k : Nat} (hx : x < 4294967296) (hk : k ≤ 31) : wrap64 ((x : Int) * 2 ^ k) = ((x * 2 ^ k : Nat) : Int) := by
  have h : x * 2 ^ k < 4294967296 * 2 ^ 31 := Nat.lt_of_lt_of_le (Nat.mul_lt_mul_of_pos_right hx (Nat.two_pow_pos k)) (Nat.mul_le_mul_left _ (Nat.pow_le_pow_right (by decide) hk))
  have e : (x : Int) * 2 ^ k = ((x * 2 ^ k : Nat) : Int) := by rw [int_pow2]; rfl
  rw [e]
  exact IntWalk.wrap64_in _ ⟨by omega, by omega⟩

theorem turned_eq {X k : Nat} (hx : X < 4294967296) (hk2 : k ≤ 31) : bits .and .i64 (bits .or .i64 (wrap64 ((X : Int) * 2 ^ k)) ((X : Int) / 2 ^ (32 - k))) 4294967295 = ((rot32 X k : Nat) : Int) := by
  have h : X * 2 ^ k < 4294967296 * 2 ^ 31 := Nat.lt_of_lt_of_le (Nat.mul_lt_mul_of_pos_right hx (Nat.two_pow_pos k)) (Nat.mul_le_mul_left _ (Nat.pow_le_pow_right (by decide) hk2))
  have h2 : X / 2 ^ (32 - k) ≤ X := Nat.div_le_self _ _
  have e : ((X : Int) / 2 ^ (32 - k)) = ((X / 2 ^ (32 - k) : Nat) : Int) := by rw [int_pow2]; rfl
  rw [shl_ref hx hk2, e, i64_or_nat _ _ (by omega) (by omega), and32]
  · unfold rot32
    rw [show (4294967296 : Nat) = 2 ^ 32 from rfl, Nat.or_mod_two_pow, Nat.mod_eq_of_lt (a := X / _) (by omega)]
  · exact Nat.or_lt_two_pow (n := 63) (by omega) (by omega)

set_option maxHeartbeats 1600000 in
set_option maxRecDepth 100000 in
theorem turned_any (x kk : Int) (X k : Nat) (w : World) (hX : x = (X : Int)) (hkk : kk = (k : Int)) (hx : X < 4294967296) (hk : 1 ≤ k) (hk2 : k ≤ 31) :
    Calls Try.prog 70 #[.int .i64 x, .int .i64 kk] w fun e w' => e = .returned (.int .i64 (rot32 X k : Nat)) ∧ ∃ n, w' = w.drewN n := by
  subst hX
  subst hkk
  have t1 : ((k : Int)).toNat = k := by omega
  have t2 : ((32 : Int) - (k : Int)).toNat = 32 - k := by omega
  have t3 : (0 : Int) ≤ (32 : Int) - (k : Int) := by omega
  have t4 : (32 : Int) - (k : Int) < 64 := by omega
  have t5 : (k : Int) < 64 := by omega
  have HS := Lib.hid (turned_eq hx hk2)
  go_enter Try.func70, Try.ntmps70
  go_wp2_with fail
  go_quiet (fail)
  go_wp2
  go_ret
  exact ⟨ret_int HS.out, _, rfl⟩

theorem Own.nat {w : World} {base : Nat} {e : TypeId} {g o c : Nat} {q : List Nat} (h : Own w base e 1 (some ⟨g, o, none⟩) 16 c (ivs (nls q))) {i : Nat} (hi : i < 16) : w.cell? ⟨g, o + i, none⟩ = some (.int .i64 (q.getD i 0 : Nat)) := by
  have hl := h.len
  rw [ivs_length, nls_length] at hl
  exact h.cell (nls_get (by omega))
theorem Own.setN {w : World} {base : Nat} {e : TypeId} {g o c : Nat} {q : List Nat} (h : Own w base e 1 (some ⟨g, o, none⟩) 16 c (ivs (nls q))) {i : Nat} (hi : i < 16) (v : Nat) : Own (w.setCell ⟨g, o + i, none⟩ (.int .i64 (v : Int))) base e 1 (some ⟨g, o, none⟩) 16 c (ivs (nls (q.set i v))) := by
  have := h.setI hi (v : Int)
  rwa [nls_set] at this

set_option maxHeartbeats 3200000 in
set_option maxRecDepth 100000 in
theorem stir_any (base g o cp : Nat) (q : List Nat) (x1 x2 x3 x4 : Int) (a b c d : Nat) (w : World) (h1 : x1 = (a : Int)) (h2 : x2 = (b : Int)) (h3 : x3 = (c : Int)) (h4 : x4 = (d : Int)) (ha : a < 16) (hb : b < 16) (hc : c < 16) (hd : d < 16)
    (hq : Sq q) (hO : Own w base 3 1 (some ⟨g, o, none⟩) 16 cp (ivs (nls q))) :
    Calls Try.prog 60 #[.slice (some ⟨g, o, none⟩) 16 cp, .int .i64 x1, .int .i64 x2, .int .i64 x3, .int .i64 x4] w fun e w' => e = .returned (.tuple #[]) ∧ Own w' base 3 1 (some ⟨g, o, none⟩) 16 cp (ivs (nls (stirL q a b c d))) ∧ w.grownBy w' (some g) := by
  subst h1
  subst h2
  subst h3
  subst h4
  have hG : w.grownBy w (some g) := World.grownBy.refl _ _
  obtain ⟨q0, hq0⟩ : ∃ q0, q0 = q := ⟨_, rfl⟩
  have HQ := Lib.hid hq0
  rw [← hq0] at hO hq
  clear hq0
  have za : (0 : Int) ≤ (a : Int) := by omega
  have ya : (a : Int) < 16 := by omega
  have zb : (0 : Int) ≤ (b : Int) := by omega
  have yb : (b : Int) < 16 := by omega
  have zc : (0 : Int) ≤ (c : Int) := by omega
  have yc : (c : Int) < 16 := by omega
  have zd : (0 : Int) ≤ (d : Int) := by omega
  have yd : (d : Int) < 16 := by omega
  go_enter Try.func60, Try.ntmps60
  -- step 0
  have e1 := hO.nat ha
  have e2 := hO.nat hb
  have f := hO.frozen (o + a)
  have l1 := hq.lt a
  have l2 := hq.lt b
  have N : Hid (stA q0 a b = q0.set a (add32 (q0.getD a 0) (q0.getD b 0))) := Lib.hid rfl
  have X := Lib.hid (add_ref l1 l2)
  generalize q0.getD a 0 = u1 at *
  generalize q0.getD b 0 = u2 at *
  go_wp2_with fail
  go_region
  obtain ⟨W1, hW⟩ : ∃ W : World, W = (w.setCell ⟨g, o + a, none⟩ (.int .i64 (bits .and .i64 ((u1 : Int) + (u2 : Int)) 4294967295))).drew := ⟨_, rfl⟩
  rw [← hW]
  have O1 : Own W1 base 3 1 (some ⟨g, o, none⟩) 16 cp (ivs (nls (stA q0 a b))) := by
    rw [hW, N.out, X.out]
    exact (hO.setN ha _).drew
  have G1 : w.grownBy W1 (some g) := by rw [hW]; exact grown_drew (grown_setCell (p := ⟨g, o + a, none⟩) hG (.inl rfl) _)
  clear hW e1 e2 f l1 l2 N X hO hG
  have Q1 := hq.stA a b
  -- step 1
  have e1 := O1.nat hd
  have e2 := O1.nat ha
  have f := O1.frozen (o + d)
  have l1 := Q1.lt d
  have l2 := Q1.lt a
  have N : Hid (stR (stA q0 a b) d a 13 = (stA q0 a b).set d (rot32 ((stA q0 a b).getD d 0 ^^^ (stA q0 a b).getD a 0) 13)) := Lib.hid rfl
  have X := Lib.hid (xor_ref l1 l2)
  have l3 := xor32_lt l1 l2
  generalize (stA q0 a b).getD d 0 = u1 at *
  generalize (stA q0 a b).getD a 0 = u2 at *
  go_upto_region 1 with fail
  go_cut [23] (fun _ wx => ∃ W : World, W = wx ∧ Own W base 3 1 (some ⟨g, o, none⟩) 16 cp (ivs (nls (stR (stA q0 a b) d a 13))) ∧ w.grownBy W (some g))
  case first =>
    go_region_law ((go_simp; go_at_call 70; refine (turned_any _ _ (u1 ^^^ u2) 13 _ X.out rfl l3 (by decide) (by decide)).mono ?_; rintro e w' ⟨rfl, m, rfl⟩))
    all_goals
      go_wp2_with fail
      go_meet
      rw [N.out]
      exact ⟨_, rfl, (O1.drewN _).setN hd _, grown_setCell (p := ⟨g, o + d, none⟩) (grown_drewN G1 _) (.inl rfl) _⟩
  clear e1 e2 f l1 l2 N X l3 O1 G1
  obtain ⟨W2, rfl, O2, G2⟩ := hcut
  have Q2 := Q1.stR d a 13
  -- step 2
  have e1 := O2.nat hc
  have e2 := O2.nat hd
  have f := O2.frozen (o + c)
  have l1 := Q2.lt c
  have l2 := Q2.lt d
  have N : Hid (stA (stR (stA q0 a b) d a 13) c d = (stR (stA q0 a b) d a 13).set c (add32 ((stR (stA q0 a b) d a 13).getD c 0) ((stR (stA q0 a b) d a 13).getD d 0))) := Lib.hid rfl
  have X := Lib.hid (add_ref l1 l2)
  generalize (stR (stA q0 a b) d a 13).getD c 0 = u1 at *
  generalize (stR (stA q0 a b) d a 13).getD d 0 = u2 at *
  go_wp2_with fail
  go_region
  obtain ⟨W3, hW⟩ : ∃ W : World, W = (W2.setCell ⟨g, o + c, none⟩ (.int .i64 (bits .and .i64 ((u1 : Int) + (u2 : Int)) 4294967295))).drew := ⟨_, rfl⟩
  rw [← hW]
  have O3 : Own W3 base 3 1 (some ⟨g, o, none⟩) 16 cp (ivs (nls (stA (stR (stA q0 a b) d a 13) c d))) := by
    rw [hW, N.out, X.out]
    exact (O2.setN hc _).drew
  have G3 : w.grownBy W3 (some g) := by rw [hW]; exact grown_drew (grown_setCell (p := ⟨g, o + c, none⟩) G2 (.inl rfl) _)
  clear hW e1 e2 f l1 l2 N X O2 G2
  have Q3 := Q2.stA c d
  -- step 3
  have e1 := O3.nat hb
  have e2 := O3.nat hc
  have f := O3.frozen (o + b)
  have l1 := Q3.lt b
  have l2 := Q3.lt c
  have N : Hid (stR (stA (stR (stA q0 a b) d a 13) c d) b c 9 = (stA (stR (stA q0 a b) d a 13) c d).set b (rot32 ((stA (stR (stA q0 a b) d a 13) c d).getD b 0 ^^^ (stA (stR (stA q0 a b) d a 13) c d).getD c 0) 9)) := Lib.hid rfl
  have X := Lib.hid (xor_ref l1 l2)
  have l3 := xor32_lt l1 l2
  generalize (stA (stR (stA q0 a b) d a 13) c d).getD b 0 = u1 at *
  generalize (stA (stR (stA q0 a b) d a 13) c d).getD c 0 = u2 at *
  go_upto_region 3 with fail
  go_cut [49] (fun _ wx => ∃ W : World, W = wx ∧ Own W base 3 1 (some ⟨g, o, none⟩) 16 cp (ivs (nls (stR (stA (stR (stA q0 a b) d a 13) c d) b c 9))) ∧ w.grownBy W (some g))
  case first =>
    go_region_law ((go_simp; go_at_call 70; refine (turned_any _ _ (u1 ^^^ u2) 9 _ X.out rfl l3 (by decide) (by decide)).mono ?_; rintro e w' ⟨rfl, m, rfl⟩))
    all_goals
      go_wp2_with fail
      go_meet
      rw [N.out]
      exact ⟨_, rfl, (O3.drewN _).setN hb _, grown_setCell (p := ⟨g, o + b, none⟩) (grown_drewN G3 _) (.inl rfl) _⟩
  clear e1 e2 f l1 l2 N X l3 O3 G3
  obtain ⟨W4, rfl, O4, G4⟩ := hcut
  have Q4 := Q3.stR b c 9
  -- step 4
  have e1 := O4.nat ha
  have e2 := O4.nat hb
  have f := O4.frozen (o + a)
  have l1 := Q4.lt a
  have l2 := Q4.lt b
  have N : Hid (stA (stR (stA (stR (stA q0 a b) d a 13) c d) b c 9) a b = (stR (stA (stR (stA q0 a b) d a 13) c d) b c 9).set a (add32 ((stR (stA (stR (stA q0 a b) d a 13) c d) b c 9).getD a 0) ((stR (stA (stR (stA q0 a b) d a 13) c d) b c 9).getD b 0))) := Lib.hid rfl
  have X := Lib.hid (add_ref l1 l2)
  generalize (stR (stA (stR (stA q0 a b) d a 13) c d) b c 9).getD a 0 = u1 at *
  generalize (stR (stA (stR (stA q0 a b) d a 13) c d) b c 9).getD b 0 = u2 at *
  go_wp2_with fail
  go_region
  obtain ⟨W5, hW⟩ : ∃ W : World, W = (W4.setCell ⟨g, o + a, none⟩ (.int .i64 (bits .and .i64 ((u1 : Int) + (u2 : Int)) 4294967295))).drew := ⟨_, rfl⟩
  rw [← hW]
  have O5 : Own W5 base 3 1 (some ⟨g, o, none⟩) 16 cp (ivs (nls (stA (stR (stA (stR (stA q0 a b) d a 13) c d) b c 9) a b))) := by
    rw [hW, N.out, X.out]
    exact (O4.setN ha _).drew
  have G5 : w.grownBy W5 (some g) := by rw [hW]; exact grown_drew (grown_setCell (p := ⟨g, o + a, none⟩) G4 (.inl rfl) _)
  clear hW e1 e2 f l1 l2 N X O4 G4
  have Q5 := Q4.stA a b
  -- step 5
  have e1 := O5.nat hd
  have e2 := O5.nat ha
  have f := O5.frozen (o + d)
  have l1 := Q5.lt d
  have l2 := Q5.lt a
  have N : Hid (stR (stA (stR (stA (stR (stA q0 a b) d a 13) c d) b c 9) a b) d a 17 = (stA (stR (stA (stR (stA q0 a b) d a 13) c d) b c 9) a b).set d (rot32 ((stA (stR (stA (stR (stA q0 a b) d a 13) c d) b c 9) a b).getD d 0 ^^^ (stA (stR (stA (stR (stA q0 a b) d a 13) c d) b c 9) a b).getD a 0) 17)) := Lib.hid rfl
  have X := Lib.hid (xor_ref l1 l2)
  have l3 := xor32_lt l1 l2
  generalize (stA (stR (stA (stR (stA q0 a b) d a 13) c d) b c 9) a b).getD d 0 = u1 at *
  generalize (stA (stR (stA (stR (stA q0 a b) d a 13) c d) b c 9) a b).getD a 0 = u2 at *
  go_upto_region 5 with fail
  go_cut [75] (fun _ wx => ∃ W : World, W = wx ∧ Own W base 3 1 (some ⟨g, o, none⟩) 16 cp (ivs (nls (stR (stA (stR (stA (stR (stA q0 a b) d a 13) c d) b c 9) a b) d a 17))) ∧ w.grownBy W (some g))
  case first =>
    go_region_law ((go_simp; go_at_call 70; refine (turned_any _ _ (u1 ^^^ u2) 17 _ X.out rfl l3 (by decide) (by decide)).mono ?_; rintro e w' ⟨rfl, m, rfl⟩))
    all_goals
      go_wp2_with fail
      go_meet
      rw [N.out]
      exact ⟨_, rfl, (O5.drewN _).setN hd _, grown_setCell (p := ⟨g, o + d, none⟩) (grown_drewN G5 _) (.inl rfl) _⟩
  clear e1 e2 f l1 l2 N X l3 O5 G5
  obtain ⟨W6, rfl, O6, G6⟩ := hcut
  have Q6 := Q5.stR d a 17
  -- step 6
  have e1 := O6.nat hc
  have e2 := O6.nat hd
  have f := O6.frozen (o + c)
  have l1 := Q6.lt c
  have l2 := Q6.lt d
  have N : Hid (stA (stR (stA (stR (stA (stR (stA q0 a b) d a 13) c d) b c 9) a b) d a 17) c d = (stR (stA (stR (stA (stR (stA q0 a b) d a 13) c d) b c 9) a b) d a 17).set c (add32 ((stR (stA (stR (stA (stR (stA q0 a b) d a 13) c d) b c 9) a b) d a 17).getD c 0) ((stR (stA (stR (stA (stR (stA q0 a b) d a 13) c d) b c 9) a b) d a 17).getD d 0))) := Lib.hid rfl
  have X := Lib.hid (add_ref l1 l2)
  generalize (stR (stA (stR (stA (stR (stA q0 a b) d a 13) c d) b c 9) a b) d a 17).getD c 0 = u1 at *
  generalize (stR (stA (stR (stA (stR (stA q0 a b) d a 13) c d) b c 9) a b) d a 17).getD d 0 = u2 at *
  go_wp2_with fail
  go_region
  obtain ⟨W7, hW⟩ : ∃ W : World, W = (W6.setCell ⟨g, o + c, none⟩ (.int .i64 (bits .and .i64 ((u1 : Int) + (u2 : Int)) 4294967295))).drew := ⟨_, rfl⟩
  rw [← hW]
  have O7 : Own W7 base 3 1 (some ⟨g, o, none⟩) 16 cp (ivs (nls (stA (stR (stA (stR (stA (stR (stA q0 a b) d a 13) c d) b c 9) a b) d a 17) c d))) := by
    rw [hW, N.out, X.out]
    exact (O6.setN hc _).drew
  have G7 : w.grownBy W7 (some g) := by rw [hW]; exact grown_drew (grown_setCell (p := ⟨g, o + c, none⟩) G6 (.inl rfl) _)
  clear hW e1 e2 f l1 l2 N X O6 G6
  have Q7 := Q6.stA c d
  -- step 7
  have e1 := O7.nat hb
  have e2 := O7.nat hc
  have f := O7.frozen (o + b)
  have l1 := Q7.lt b
  have l2 := Q7.lt c
  have N : Hid (stR (stA (stR (stA (stR (stA (stR (stA q0 a b) d a 13) c d) b c 9) a b) d a 17) c d) b c 5 = (stA (stR (stA (stR (stA (stR (stA q0 a b) d a 13) c d) b c 9) a b) d a 17) c d).set b (rot32 ((stA (stR (stA (stR (stA (stR (stA q0 a b) d a 13) c d) b c 9) a b) d a 17) c d).getD b 0 ^^^ (stA (stR (stA (stR (stA (stR (stA q0 a b) d a 13) c d) b c 9) a b) d a 17) c d).getD c 0) 5)) := Lib.hid rfl
  have X := Lib.hid (xor_ref l1 l2)
  have l3 := xor32_lt l1 l2
  generalize (stA (stR (stA (stR (stA (stR (stA q0 a b) d a 13) c d) b c 9) a b) d a 17) c d).getD b 0 = u1 at *
  generalize (stA (stR (stA (stR (stA (stR (stA q0 a b) d a 13) c d) b c 9) a b) d a 17) c d).getD c 0 = u2 at *
  go_upto_region 7 with fail
  go_region_law ((go_simp; go_at_call 70; refine (turned_any _ _ (u1 ^^^ u2) 5 _ X.out rfl l3 (by decide) (by decide)).mono ?_; rintro e w' ⟨rfl, m, rfl⟩))
  all_goals
    go_wp2
    go_end0
    refine ⟨rfl, ?_, grown_setCell (p := ⟨g, o + b, none⟩) (grown_drewN G7 _) (.inl rfl) _⟩
    rw [← HQ.out]
    show Own _ _ _ _ _ _ _ (ivs (nls (stR (stA (stR (stA (stR (stA (stR (stA q0 a b) d a 13) c d) b c 9) a b) d a 17) c d) b c 5)))
    rw [N.out]
    exact (O7.drewN _).setN hb _
end Go.Proofs.Ytkbaganbfcbioaa
namespace Go.Proofs.Ytkbaganbfcbioaa
set_option linter.unusedSimpArgs false
set_option linter.unusedVariables false
open Go.RowKit

/-- What comes of a packing: bytes in memory of their own. -/
def BytesRes (w w' : World) (r : List UInt8 × Int) (e : Ending) : Prop :=
  ∃ A c, e = .returned (.tuple #[.slice A r.1.length c, .int .i64 r.2]) ∧ Own w' w.heap.size 5 1 A r.1.length c (bvs r.1) ∧ Below w.heap.size w w'
theorem BytesRes.none_ {w w' : World} {k : Int} (h : Below w.heap.size w w') : BytesRes w w' ([], k) (.returned (.tuple #[.slice none 0 0, .int .i64 k])) := ⟨none, 0, rfl, Own.none_ _ _ _ _, h⟩
theorem BytesRes.open_ {w w' : World} {r : List UInt8 × Int} {e : Ending} {l : List UInt8} {k : Int} (hr : r = (l, k)) (h : BytesRes w w' r e) :
    ∃ A c, e = .returned (.tuple #[.slice A l.length c, .int .i64 k]) ∧ Own w' w.heap.size 5 1 A l.length c (bvs l) ∧ Below w.heap.size w w' := by
  subst hr
  exact h
/-- Bytes that came out, in memory of their own. -/
def RowsOut (w w' : World) (r : List UInt8) (e : Ending) : Prop := ∃ A' c', e = .returned (.slice A' r.length c') ∧ Own w' w.heap.size 5 1 A' r.length c' (bvs r) ∧ Below w.heap.size w w'
end Go.Proofs.Ytkbaganbfcbioaa
