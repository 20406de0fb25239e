import Derived.Test.YtkbaganbfcbioaaRoomy
import Derived.Test.YtkbaganbfcbioaaLeft
import Derived.Test.YtkbaganbfcbioaaSpoil
import Derived.Test.YtkbaganbfcbioaaStep
import Derived.Test.YtkbaganbfcbioaaCutH
import Derived.Test.YtkbaganbfcbioaaSamePacket
import Derived.StillTail
import Derived.StillTactics
import Derived.StillTailTactics
namespace Go.Proofs.Ytkbaganbfcbioaa
set_option linter.unusedSimpArgs false
set_option linter.unusedVariables false
open Go.RowKit

theorem cutR_len (up : Bool) (apid count : Int) (u : List UInt8) (most : Int) : ∀ p ∈ (cutR up apid count u most).1, p.data.length ≤ u.length := by
  intro p hp
  unfold cutR at hp
  split at hp
  · simp only [cutL, List.mem_map] at hp
    obtain ⟨k, _, rfl⟩ := hp
    show (cutD u most.toNat k).length ≤ _
    rw [cutD_len]
    omega
  · simp at hp
theorem PksRes.open_ {w w' : World} {r : List Pkt × Int} {e : Ending} {L : List Pkt} {k : Int} (hr : r = (L, k)) (h : PksRes w w' r e) :
    ∃ B c l, e = .returned (.tuple #[.slice B L.length c, .int .i64 k]) ∧ l.map PkR.p = L ∧ Own w' w.heap.size 33 6 B L.length c (pkcs l) ∧ OwnData w' w.heap.size l ∧ Below w.heap.size w w' := by
  subst hr
  obtain ⟨B, c, rfl, ⟨l, h1, h2, h3⟩, hb⟩ := h
  exact ⟨B, c, l, rfl, h1, h2, h3, hb⟩
theorem pk_at {l : List PkR} {L : List Pkt} (h : l.map PkR.p = L) {i : Nat} (hi : i < L.length) : ∃ A d, l[i]? = some ⟨L[i], A, d⟩ := by
  subst h
  have hi' : i < l.length := by simpa using hi
  refine ⟨l[i].A, l[i].d, ?_⟩
  rw [List.getElem?_eq_getElem hi', List.getElem_map]
/-- The six cells of a packet. -/
theorem pk_cells {w : World} {base g o n c : Nat} {l : List PkR} (h : Own w base 33 6 (some ⟨g, o, none⟩) n c (pkcs l)) {i : Nat} {a b : Bool} {x y z : Int} {D : List UInt8} {A : Option Addr} {d : Nat} (hx : l[i]? = some ⟨⟨a, b, x, y, z, D⟩, A, d⟩) :
    w.cell? ⟨g, o + i * 6, none⟩ = some (.bool a) ∧ w.cell? ⟨g, o + i * 6 + 1, none⟩ = some (.bool b) ∧ w.cell? ⟨g, o + i * 6 + 2, none⟩ = some (.int .i64 x) ∧ w.cell? ⟨g, o + i * 6 + 3, none⟩ = some (.int .i64 y) ∧ w.cell? ⟨g, o + i * 6 + 4, none⟩ = some (.int .i64 z) ∧ w.cell? ⟨g, o + i * 6 + 5, none⟩ = some (.slice A D.length d) :=
  ⟨h.cell (pkcs_get hx (j := 0) (by omega)), h.cell (pkcs_get hx (j := 1) (by omega)), h.cell (pkcs_get hx (j := 2) (by omega)), h.cell (pkcs_get hx (j := 3) (by omega)), h.cell (pkcs_get hx (j := 4) (by omega)), h.cell (pkcs_get hx (j := 5) (by omega))⟩
/-- The same in the shape in which the walk needs it. -/
theorem sameP {a b : Bool} {x y z : Int} {D : List UInt8} {A B : Option Addr} {c d : Nat} (w : World) (ha : Rd w A (bvs D)) (hb : Rd w B (bvs D)) :
    Calls Try.prog 14 #[.agg #[.bool a, .bool b, .int .i64 x, .int .i64 y, .int .i64 z, .slice A D.length c], .agg #[.bool a, .bool b, .int .i64 x, .int .i64 y, .int .i64 z, .slice B D.length d]] w fun e w' => e = .returned (.bool true) ∧ Below w.heap.size w w' :=
  samePacket_yes ⟨a, b, x, y, z, D⟩ A B c d w ha hb

set_option maxHeartbeats 12800000 in
set_option maxRecDepth 100000 in
theorem packetCuts_walk (up : Bool) (apid count : Int) (A : Option Addr) (u : List UInt8) (c : Nat) (most : Int) (w : World) (_ : (Lit.int .i64 apid).wf = true) (_ : (Lit.int .i64 count).wf = true) (ha : Rd w A (bvs u)) (hc : u.length ≤ c) (hn : u.length ≤ 140737488351232) (_ : (Lit.int .i64 most).wf = true) :
    Calls Try.prog 3 #[.bool up, .int .i64 apid, .int .i64 count, .slice A u.length c, .int .i64 most] w fun e w' => e = .returned (.bool true) ∧ Below w.heap.size w w' := by
  obtain ⟨L, k, hLk⟩ : ∃ L k, cutR up apid count u most = (L, k) := ⟨_, _, rfl⟩
  have hLl := Lib.hid (cutR_len up apid count u most)
  rw [hLk] at hLl
  have HLk := Lib.hid hLk
  clear hLk
  have CR := Lib.hid (fun (w : World) (A : Option Addr) (c : Nat) (ha : Rd w A (bvs u)) (hc : u.length ≤ c) => rpieces_any up apid count A u u.length c most w rfl ha hc (by omega))
  have CP := Lib.hid (fun (w : World) (A : Option Addr) (c : Nat) (ha : Rd w A (bvs u)) (hc : u.length ≤ c) => pcut_any up apid count A u u.length c most w rfl ha hc (by omega))
  obtain ⟨N, HN⟩ : ∃ N, Hid (N = L.length) := ⟨_, Lib.hid rfl⟩
  have ha0 := ha
  go_enter Try.func3, Try.ntmps3
  go_wp2_with fail
  refine (roomy_any A u c w ha hn).mono ?_
  rintro e w2 ⟨g, rfl, hg, hR, hB⟩
  replace ha := ha.step hB
  have t1 := hB.size
  have r1 := RoomK.lt hR
  go_wp2_with fail
  refine (CR.out _ _ _ ha hc).mono ?_
  intro e w3 h3
  obtain ⟨Bw, dw, lw, rfl, hlw, hOw, hDw, hb⟩ := h3.open_ HLk.out
  clear h3
  replace hR := hR.step hb
  have t2 := hb.size
  have mw := Lib.hid (fun q h => (hOw.lt q h).2)
  have nw := Lib.hid (fun (i : Nat) (y : PkR) (h : lw[i]? = some y) (q : Nat) (hq : blk y.A = some q) => (hDw.lt h hq).2)
  replace hB := nextB hB hB.size hb
  rw [← HN.out] at hOw ⊢
  go_wp2_with fail
  refine (CP.out _ _ _ hR.rd (by omega)).mono ?_
  intro e w4 h4
  obtain ⟨Ba, da, la, rfl, hla, hOa, hDa, hb⟩ := h4.open_ HLk.out
  clear h4
  replace hR := hR.step hb
  replace hOw := hOw.step hb
  replace hDw := hDw.step hb
  have t3 := hb.size
  have ma := Lib.hid (fun q h => (hOa.lt q h).2)
  have na := Lib.hid (fun (i : Nat) (y : PkR) (h : la[i]? = some y) (q : Nat) (hq : blk y.A = some q) => (hDa.lt h hq).2)
  replace hB := nextB hB hB.size hb
  rw [← HN.out] at hOa ⊢
  go_wp2_with fail
  refine (CP.out _ _ _ hR.rd (by omega)).mono ?_
  intro e w5 h5
  obtain ⟨Bb, db, lb, rfl, hlb, hOb, hDb, hb⟩ := h5.open_ HLk.out
  clear h5
  replace hR := hR.step hb
  replace hOw := hOw.step hb
  replace hDw := hDw.step hb
  replace hOa := hOa.step hb
  replace hDa := hDa.step hb
  have t4 := hb.size
  replace hB := nextB hB hB.size hb
  rw [← HN.out] at hOb ⊢
  clear CR CP HLk hb
  go_wp2_with fail
  refine (left_yes g A u c w5 hR (ha0.below hB) hn).mono ?_
  rintro e w6 ⟨rfl, m, rfl⟩
  replace hR : Room (w5.drewN m) g u := RoomK.keep hR rfl
  replace hOw := hOw.drewN m
  replace hDw := hDw.map (fun _ _ _ _ h => h.drewN m)
  replace hOa := hOa.drewN m
  replace hDa := hDa.map (fun _ _ _ _ h => h.drewN m)
  replace hOb := hOb.drewN m
  replace hDb := hDb.map (fun _ _ _ _ h => h.drewN m)
  replace hB := below_drewN hB m
  replace t4 : w4.heap.size ≤ (w5.drewN m).heap.size := t4
  generalize w5.drewN m = w6 at *
  go_wp2_with fail
  refine (spoil_any g (some ⟨g, 0, none⟩) _ _ u _ (hR.own (by unfold maxLen; omega) (Nat.le_refl _)) (by omega) (by have := RoomK.lt hR; omega)).mono ?_
  rintro e w7 ⟨rfl, hg7⟩
  have hfar : ∀ {b : Nat} {t : TypeId} {s n c : Nat} {A : Option Addr} {xs : List Value}, w2.heap.size ≤ b → Own w6 b t s A n c xs → Own w7 b t s A n c xs := fun hb h => h.over hg7 (fun q hq e => by have := (h.lt _ e).1; have e2 : q = g := blk_lit hq; omega)
  replace hOw := hfar (Nat.le_refl _) hOw
  replace hDw := hDw.map (fun _ _ _ _ h => hfar (Nat.le_refl _) h)
  replace hOa := hfar (by omega) hOa
  replace hDa := hDa.map (fun _ _ _ _ h => hfar (by omega) h)
  replace hOb := hfar (by omega) hOb
  replace hDb := hDb.map (fun _ _ _ _ h => hfar (by omega) h)
  replace hB : Below w.heap.size w w7 := hB.grown hg7 hB.size (fun q hq => by have e2 : q = g := blk_lit hq; omega)
  replace t4 : w4.heap.size ≤ w7.heap.size := Nat.le_trans t4 hg7.size
  clear hg7 hfar hR ha ha0
  generalize w2.heap.size = s2 at *
  generalize w3.heap.size = s3 at *
  generalize w4.heap.size = s4 at *
  have hN14 : N ≤ 9223372036854775807 := by have := hOa.le; have := hOa.cap; unfold maxLen at this; omega
  go_wp2_with fail
  go_loopw [18] (fun iv wr => ∃ i : Nat, i ≤ N ∧ iv = .int .i64 (i : Int) ∧ Below w.heap.size w wr ∧ s4 ≤ wr.heap.size ∧ (Own wr s2 33 6 Bw N dw (pkcs lw) ∧ OwnData wr s2 lw) ∧ (Own wr s4 33 6 Bb N db (pkcs lb) ∧ OwnData wr s4 lb) ∧ Own wr s3 33 6 Ba N da (pkcs la) ∧ (∀ (j : Nat) (x : PkR), i ≤ j → la[j]? = some x → Own wr s3 5 1 x.A x.p.data.length x.d (bvs x.p.data))) (fun iv _ => N - (intOf iv).toNat)
  case atStart => exact ⟨0, Nat.zero_le _, rfl, hB, t4, ⟨hOw, hDw⟩, ⟨hOb, hDb⟩, hOa, fun j x _ hx => hDa.1 j x hx⟩
  case round =>
    obtain ⟨i, hi, rfl, hB, t4, ⟨hOw, hDw⟩, ⟨hOb, hDb⟩, hOa, hDr⟩ := hrel
    by_cases h5 : i < N
    · have h5i : (i : Int) < (N : Int) := by omega
      have hi0 : (0 : Int) ≤ (i : Int) := by omega
      obtain ⟨xA, xd, hx⟩ := pk_at hla (i := i) (by have := HN.out; omega)
      obtain ⟨yA, yd, hy⟩ := pk_at hlw (i := i) (by have := HN.out; omega)
      have hDl : L[i].data.length ≤ u.length := hLl.out _ (List.getElem_mem _)
      generalize L[i] = p at *
      obtain ⟨pu, ps, pa, pp, pn, D⟩ := p
      obtain ⟨ga, oa, rfl, ga1, ga2⟩ := hOa.form (by have := hOa.le; omega)
      obtain ⟨gw, ow, rfl, gw1, gw2⟩ := hOw.form (by have := hOw.le; omega)
      obtain ⟨x0, x1, x2, x3, x4, x5⟩ := pk_cells hOa hx
      obtain ⟨y0, y1, y2, y3, y4, y5⟩ := pk_cells hOw hy
      have hxO : Own wr s3 5 1 xA D.length xd (bvs D) := hDr i _ (Nat.le_refl _) hx
      have hyO : Own wr s2 5 1 yA D.length yd (bvs D) := hDw.1 i _ hy
      have CS := Lib.hid (fun (w : World) (ha : Rd w xA (bvs D)) (hb : Rd w yA (bvs D)) => sameP (a := pu) (b := ps) (x := pa) (y := pp) (z := pn) (D := D) (c := xd) (d := yd) w ha hb)
      dsimp only at hDl
      go_wp2_with fail
      go_still_tail 8, (by kernel_rfl)
      go_wp2_with fail
      refine (CS.out wr.drew hxO.rd.drew hyO.rd.drew).mono ?_
      rintro e w8 ⟨rfl, hb8⟩
      have hb8' : Below wr.heap.size wr w8 := ((Below.refl wr.heap.size wr).drew).trans hb8
      replace hOw := hOw.step hb8'
      replace hDw := hDw.step hb8'
      replace hOa := hOa.step hb8'
      replace hOb := hOb.step hb8'
      replace hDb := hDb.step hb8'
      replace hxO := hxO.step hb8'
      have hDr8 : ∀ (j : Nat) (x : PkR), i ≤ j → la[j]? = some x → Own w8 s3 5 1 x.A x.p.data.length x.d (bvs x.p.data) := fun j x hj hx => (hDr j x hj hx).step hb8'
      have z8 := hb8'.size
      replace hB := hB.trans (hb8'.mono hB.size)
      clear hDr x0 x1 x2 x3 x4 x5 y0 y1 y2 y3 y4 y5 hyO CS hb8 hb8'
      obtain ⟨x0, x1, x2, x3, x4, x5⟩ := pk_cells hOa hx
      go_wp2_with fail
      refine (spoil_any s3 xA _ xd D w8 hxO (by omega) (by omega)).mono ?_
      rintro e w9 ⟨rfl, hg9⟩
      have qA : ∀ q, blk xA = some q → s3 ≤ q ∧ q < s4 := fun q hq => ⟨(hxO.lt q hq).1, na.out i _ hx q hq⟩
      have hOw9 := hOw.over hg9 (fun q hq e => by have := qA q hq; have := mw.out _ e; omega)
      have hDw9 : OwnData w9 s2 lw := ⟨fun j z hz => (hDw.1 j z hz).over hg9 (fun q hq e => by have := qA q hq; have := nw.out j z hz _ e; omega), hDw.2⟩
      have hOb9 := hOb.over hg9 (fun q hq e => by have := qA q hq; have := (hOb.lt _ e).1; omega)
      have hDb9 := hDb.map (fun _ _ _ _ h => h.over hg9 (fun q hq e => by have := qA q hq; have := (h.lt _ e).1; omega))
      have hOa9 := hOa.over hg9 (hxO.apart hOa (by decide))
      have hDr9 : ∀ (j : Nat) (x : PkR), i + 1 ≤ j → la[j]? = some x → Own w9 s3 5 1 x.A x.p.data.length x.d (bvs x.p.data) := fun j z hj hz => (hDr8 j z (by omega) hz).over hg9 (hDa.2 i j _ z (by omega) hx hz)
      have hB9 : Below w.heap.size w w9 := hB.grown hg9 hB.size (fun q hq => by have := qA q hq; omega)
      have z9 := hg9.size
      go_wp2_with fail
      go_roundw
      case rel => exact ⟨i + 1, by omega, by go_num, hB9, by omega, ⟨hOw9, hDw9⟩, ⟨hOb9, hDb9⟩, hOa9, hDr9⟩
      case measure => simp [intOf]; omega
    · have h5i : ¬ (i : Int) < (N : Int) := by omega
      clear hOa hDr
      go_wp2_with fail
      go_loopw [19] (fun iv wr => ∃ i : Nat, i ≤ N ∧ iv = .int .i64 (i : Int) ∧ Below w.heap.size w wr ∧ (Own wr s2 33 6 Bw N dw (pkcs lw) ∧ OwnData wr s2 lw) ∧ (Own wr s4 33 6 Bb N db (pkcs lb) ∧ OwnData wr s4 lb)) (fun iv _ => N - (intOf iv).toNat)
      case atStart => exact ⟨0, Nat.zero_le _, rfl, hB, ⟨hOw, hDw⟩, ⟨hOb, hDb⟩⟩
      case round =>
        clear hB hOw hDw hOb hDb h5 h5i hi
        obtain ⟨i, hi, rfl, hB, ⟨hOw, hDw⟩, ⟨hOb, hDb⟩⟩ := hrel
        by_cases h5 : i < N
        · have h5i : (i : Int) < (N : Int) := by omega
          have hi0 : (0 : Int) ≤ (i : Int) := by omega
          obtain ⟨xA, xd, hx⟩ := pk_at hlb (i := i) (by have := HN.out; omega)
          obtain ⟨yA, yd, hy⟩ := pk_at hlw (i := i) (by have := HN.out; omega)
          generalize L[i] = p at *
          obtain ⟨pu, ps, pa, pp, pn, D⟩ := p
          obtain ⟨ga, oa, rfl, ga1, ga2⟩ := hOb.form (by have := hOb.le; omega)
          obtain ⟨gw, ow, rfl, gw1, gw2⟩ := hOw.form (by have := hOw.le; omega)
          obtain ⟨x0, x1, x2, x3, x4, x5⟩ := pk_cells hOb hx
          obtain ⟨y0, y1, y2, y3, y4, y5⟩ := pk_cells hOw hy
          have hxO : Own wr s4 5 1 xA D.length xd (bvs D) := hDb.1 i _ hx
          have hyO : Own wr s2 5 1 yA D.length yd (bvs D) := hDw.1 i _ hy
          have CS := Lib.hid (fun (w : World) (ha : Rd w xA (bvs D)) (hb : Rd w yA (bvs D)) => sameP (a := pu) (b := ps) (x := pa) (y := pp) (z := pn) (D := D) (c := xd) (d := yd) w ha hb)
          go_wp2_with fail
          go_still_tail 8, (by kernel_rfl)
          go_wp2_with fail
          refine (CS.out wr.drew hxO.rd.drew hyO.rd.drew).mono ?_
          rintro e w8 ⟨rfl, hb8⟩
          have hb8' : Below wr.heap.size wr w8 := ((Below.refl wr.heap.size wr).drew).trans hb8
          replace hOw := hOw.step hb8'
          replace hDw := hDw.step hb8'
          replace hOb := hOb.step hb8'
          replace hDb := hDb.step hb8'
          replace hB := hB.trans (hb8'.mono hB.size)
          clear x0 x1 x2 x3 x4 x5 y0 y1 y2 y3 y4 y5 hyO hxO CS hb8 hb8'
          go_wp2_with fail
          go_roundw
          case rel => exact ⟨i + 1, by omega, by go_num, hB, ⟨hOw, hDw⟩, ⟨hOb, hDb⟩⟩
          case measure => simp [intOf]; omega
        · have h5i : ¬ (i : Int) < (N : Int) := by omega
          go_wp2_with fail
          go_ret
          exact ⟨rfl, hB⟩
end Go.Proofs.Ytkbaganbfcbioaa
