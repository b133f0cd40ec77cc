/- Merged texts: Rm5, Rm6, Rm7, Rm8, Rm9, Rm10, Rm11, Rm12, Sg1, Tu1, Tu2, Tu3, Lp1, Lp2, Rl1. No condition of its own: each text says what it holds. -/
import Derived.Test.YtogpgkoelplknaaDoorGRt5
import Derived.Deep.RegionHeld3
import Derived.Test.YtogpgkoelplknaaDoorPLensPathsx15
section
namespace Go.Proofs.YtogpgkoelplknaaDoor
open Go.RowKit Go.BigFrame PLensPaths Go.Proofs.YtogpgkoelplknaaDoorW.PrintWords Go.Proofs.YtogpgkoelplknaaDoorW.PrintMore
set_option linter.unusedVariables false
section
theorem mk3_two : ∀ j, j < 4 -> mk3.getD (2 * j) [] = [[-7701]] /\ mk3.getD (2 * j + 1) [] = [[-7702]] := by decide
theorem infoSSS : (Tryd.prog.info? 23).map (fun i => (i.zero, i.size, i.bytes)) = some (some nilS, 1, 24) := by kernel_rfl
def cost3 (L : List (List (List Int))) : Nat := (L.map cost2).sum + 1
abbrev wA1 (W : World) (x : Int) : World := (W.alloc (.cells #[.int .i64 x] 3)).alloc (.cells #[.slice (some ⟨W.heap.size, 0, none⟩) 1 1] 24)
theorem lit_row (W : World) (x : Int) {b : Nat} (hb : b <= W.heap.size) : kS2.M (wA1 W x) b (fun k => W.heap.size <= k) [[x]] [.slice (some ⟨W.heap.size + 1, 0, none⟩) 1 1] /\ (wA1 W x).heap.size = W.heap.size + 1 + 1 /\ Below W.heap.size W (wA1 W x) := by
 have s1 := alloc_sz W (.cells #[.int .i64 x] 3)
 have m1 := lit_int W x hb
 have b1 := (Below.refl W.heap.size W).alloc (Nat.le_refl _) (.cells #[.int .i64 x] 3)
 have b2 := b1.alloc b1.size (.cells #[.slice (some ⟨W.heap.size, 0, none⟩) 1 1] 24)
 have m2 : kS2.M (wA1 W x) b (fun k => W.heap.size <= k) [[x]] [.slice (some ⟨(W.alloc (.cells #[.int .i64 x] 3)).heap.size, 0, none⟩) 1 1] := Sub.all (R_lit1 kS1 24 (cs := [.slice (some ⟨W.heap.size, 0, none⟩) 1 1]) (okp := fun k => W.heap.size <= k) m1 (fun _ h => h) (by show W.heap.size <= _; omega) (by omega))
 rw [s1] at m2
 exact ⟨m2, by rw [alloc_sz, s1], b2⟩
abbrev wA2 (W : World) (x y : Int) : World := (((W.alloc (.cells #[.int .i64 x] 3)).alloc (.cells #[.slice (some ⟨W.heap.size, 0, none⟩) 1 1] 24)).alloc (.cells #[.int .i64 y] 3)).alloc (.cells #[.slice (some ⟨W.heap.size + 1 + 1, 0, none⟩) 1 1] 24)
theorem wA2_eq (W : World) (x y : Int) : wA1 (wA1 W x) y = wA2 W x y := by
 unfold wA1 wA2
 rw [alloc_sz (W.alloc _), alloc_sz W]
theorem lits_row (W : World) (x y : Int) {b : Nat} (hb : b <= W.heap.size) : kS2.M (wA2 W x y) b (fun k => W.heap.size <= k) [[x]] [.slice (some ⟨W.heap.size + 1, 0, none⟩) 1 1] /\ kS2.M (wA2 W x y) b (fun k => W.heap.size <= k) [[y]] [.slice (some ⟨W.heap.size + 1 + 1 + 1, 0, none⟩) 1 1] /\ (wA2 W x y).heap.size = W.heap.size + 1 + 1 + 1 + 1 /\ Below W.heap.size W (wA2 W x y) := by
 obtain ⟨m1, s1, b1⟩ := lit_row W x hb
 obtain ⟨m2, s2, b2⟩ := lit_row (wA1 W x) y (b := b) (by omega)
 rw [<- wA2_eq]
 refine ⟨Kd.M_below m1 b2, ?_, by rw [s2, s1], b1.trans (b2.mono b1.size)⟩
 rw [s1] at m2
 exact kS2.M_mono (fun k hk => by omega) m2
theorem cost_drop (L : List (List (List Int))) (i : Nat) (h : i < L.length) : ((L.drop i).map cost2).sum = cost2 (L.getD i []) + ((L.drop (i + 1)).map cost2).sum := by
 rw [drop_cons [] h]; simp
set_option maxRecDepth 100000 in
set_option maxHeartbeats 8000000 in
theorem frames_room (w : World) (B r : Nat) (V : Nat -> Value) (N : Nat) (ex : Nat -> Prop) (A : Option Addr) (c : Nat) (L : List (List (List Int))) (hr : RoomAt w B r V N ex) (hB : B <= w.heap.size) (w0 : World) (h0 : Below w0.heap.size w0 w) (hB0 : w0.heap.size <= B) (hC : Kd.C kFrames w0 A L.length L) (hl : L.length <= 1048576) (hq : ∀ f ∈ L, f.length <= 1048576 /\ ∀ l ∈ f, l.length <= 1048576) (hN : N + cost3 L <= 8388608) (hx : ∀ k, ex k -> k < w.heap.size) :
  Calls Tryd.prog 37 #[.pointer (some ⟨r, 0, none⟩), .slice A L.length c] w fun e w' => ∃ v V', e = .returned v /\ Went w w' B r V V' (N + cost3 L) ex /\ kS3.M w' w.heap.size (fun k => ¬ XV V' r k) L [v] := by
 unfold cost3 at *
 have INTS := Lib.hid intLists_room
 go_enter Tryd.func37, Tryd.ntmps37
 go_wp2_with fail
 go_loopw [5, 6] (fun v iv wx => ∃ (i Nx : Nat) (Vx : Nat -> Value), i <= L.length /\ Nx + ((L.drop i).map cost2).sum = N + (L.map cost2).sum /\ iv = .int .i64 i /\ Went w wx B r V Vx Nx (fun k => ex k \/ v.ownBlock = some k) /\ kS2.R 30 wx w.heap.size (fun k => ¬ XV Vx r k) v (L.take i)) (fun _ iv _ => L.length - (intOf iv).toNat)
 case atStart =>
  refine ⟨0, N, V, by omega, rfl, rfl, ⟨hr.step (fun k _ hk => (Below.refl _ _).alloc (Nat.le_refl _) _ |>.block k hk) (fun k hk => ?_) (by omega), Keeps.below ((Below.refl _ _).alloc (Nat.le_refl _) _), fun _ h => .inl h, (Below.refl _ _).alloc hB _⟩, R_empty _ _ (hr.fresh (Nat.le_refl _)) (Nat.le_refl _)⟩
  rcases hk with q | q
  ·exact .inl q
  ·simp [Value.ownBlock] at q
   exact .inr (by omega)
 case round =>
  obtain ⟨i, Nx, Vx, hi, hNx, rfl, hW, hR⟩ := hrel
  have hb0 := h0.trans (hW.bel.mono hB0)
  by_cases hlt : i < L.length
  ·have dlt : decide ((i : Int) < (L.length : Int)) = true := decide_eq_true (by omega)
   have i0 : (0 : Int) <= (i : Int) := by omega
   have i1 : (i : Int) < (L.length : Int) := by omega
   obtain ⟨hq1, hq2⟩ := hq _ (getD_mem [] hlt)
   obtain ⟨ad, A1, c1, rfl, hc0, hc1, hC1⟩ := sl_at hC i hlt
   have hc := cell_later hb0 hc0
   clear hc0
   rw [cost_drop L i hlt] at hNx
   have et := Lib.hid (take_snocZ L i [] hlt)
   generalize L.getD i [] = l at *
   have hvb := Kd.R_lt hR
   have C0 := Lib.hid (INTS.out wr B r Vx Nx _ A1 c1 l hW.room (Nat.le_trans hB hW.keep.size) (fun W hW' => Kd.C_below hC1 (hb0.trans (hW'.mono hB0))) hq1 hq2 (by omega) (fun k hk => by
    rcases hk with q | q
    ·exact Nat.lt_of_lt_of_le (hx k q) hW.keep.size
    ·exact hvb k q))
   go_wp2_with (first
    | (go_at_call 76; refine C0.out.mono ?_; rintro e w1 ⟨v1, V1, rfl, hW1, hM1⟩; obtain ⟨A4, n4, m4, rfl⟩ := Sub.form hM1)
    | (at_builtin; refine R_append1 kS2 (w0 := w1) w.heap.size rfl _ _ 23 30 nilS 24 rfl Tryd.underlying23 infoSS rfl (by decide) (by omega) u5 _ l (.slice A4 n4 m4) (fun k => ¬ XV V1 r k) (fun k => ¬ XV V1 r k /\ wr.heap.size <= k) rfl rfl (kS2.M_mono (fun k hk => ⟨hk.1, hk.2.1⟩) (kS2.M_lower hW.keep.size (kS2.M_bound hM1))) (fun k hk => ⟨hk.1, fun c => by have := hvb k c.symm; omega⟩) (fun k hk => hW1.room.fresh hk) (hW1.R hR) (Below.refl _ _) ?h2 ?h3 ?_; (case h2 => exact Nat.le_trans hW.keep.size hW1.keep.size); (case h3 => simp only [List.length_take]; omega); intro v2 w2 hR2 hb2 hg2 hat2))
   go_roundw
   case rel => exact ⟨i + 1, Nx + cost2 l, V1, by omega, by omega, by go_num, (hW.trans hW1).push hg2 hat2 (fun k hk => Kd.R_base hR k hk) hB, by rw [et.out]; exact hR2⟩
   case measure => simp [intOf]; omega
  ·have dlt : decide ((i : Int) < (L.length : Int)) = false := decide_eq_false (by omega)
   have hiL : i = L.length := by omega
   subst hiL
   rw [List.drop_of_length_le (Nat.le_refl _)] at hNx
   have hNx' : Nx = N + (L.map cost2).sum := hNx
   clear hNx
   generalize hsm : (L.map cost2).sum = sm at *
   have HS := Lib.hid hsm
   clear hsm
   have hR' : kS2.R 30 wr w.heap.size (fun k => ¬ XV Vx r k) u5 (L ++ mk3.take (2 * 0)) := by rw [List.take_of_length_le (by omega)] at hR; simpa using hR
   clear hR
   go_wp2_with fail
   go_loopw [5, 7] (fun v iv wx => ∃ j : Nat, j <= 4 /\ iv = .int .i64 ((2 * j : Nat) : Int) /\ Went w wx B r V Vx Nx (fun k => ex k \/ v.ownBlock = some k) /\ kS2.R 30 wx w.heap.size (fun k => ¬ XV Vx r k) v (L ++ mk3.take (2 * j))) (fun _ iv _ => 8 - (intOf iv).toNat)
   case atStart => exact ⟨0, by omega, rfl, hW, hR'⟩
   case round =>
    clear hR' hW hb0
    obtain ⟨j, hj, rfl, hW, hR⟩ := hrel
    have hsz := hW.keep.size
    by_cases hjt : j < 4
    ·have djt : decide (((2 * j : Nat) : Int) < 8) = true := decide_eq_true (by omega)
     have et := Lib.hid (take2 mk3 (2 * j) [] (by have : mk3.length = 8 := rfl; omega))
     rw [(mk3_two j hjt).1, (mk3_two j hjt).2] at et
     have okw : ∀ k, wr.heap.size <= k -> ¬ XV Vx r k /\ some k ≠ u5.ownBlock := fun k hk => ⟨hW.room.fresh hk, fun c => by have := Kd.R_lt hR k c.symm; omega⟩
     have okw : ∀ k, wr.heap.size <= k -> ¬ XV Vx r k /\ some k ≠ u5.ownBlock := fun k hk => ⟨hW.room.fresh hk, fun c => by have := Kd.R_lt hR k c.symm; omega⟩
     obtain ⟨m1, m2, s2, hwb⟩ := lits_row wr (-7701) (-7702) hsz
     have hrb := Kd.R_below hR hwb
     have HRB := Lib.hid hrb
     have HWB := Lib.hid hwb
     have M1 := Lib.hid m1
     have M2 := Lib.hid m2
     have S2 := Lib.hid s2
     have RL := Lib.hid (show (L ++ mk3.take (2 * j)).length <= 1048616 by have : mk3.length = 8 := rfl; simp only [List.length_append, List.length_take]; omega)
     clear hrb hwb m1 m2 s2
     go_wp2_with (at_builtin; refine R_append2 kS2 (w0 := wr) w.heap.size rfl _ _ 23 30 nilS 24 rfl Tryd.underlying23 infoSS rfl (by decide) (by omega) u5 _ [[-7701]] [[-7702]] [.slice (some ⟨wr.heap.size + 1, 0, none⟩) 1 1] [.slice (some ⟨wr.heap.size + 1 + 1 + 1, 0, none⟩) 1 1] (fun k => ¬ XV Vx r k) (fun k => wr.heap.size <= k) rfl (by rw [S2.out]; rfl) M1.out M2.out okw (fun k hk => (okw k (by rw [S2.out] at hk; omega)).1) HRB.out (HWB.out.mono hsz) ?h2 ?h3 ?_; (case h2 => rw [S2.out]; omega); (case h3 => have := RL.out; omega); intro v1 w1 hR1 hb1 hg1 hat1)
     go_roundw
     case rel => exact ⟨j + 1, by omega, by go_num, hW.push (grown_after HWB.out hg1) (by
      rcases hat1 with q | ⟨b, q, hle⟩
      ·exact .inl q
      ·exact .inr ⟨b, q, Nat.le_trans HWB.out.size hle⟩) (fun k hk => Kd.R_base hR k hk) hB, by rw [show 2 * (j + 1) = 2 * j + 2 by omega, et.out, <- List.append_assoc]; exact hR1⟩
     case measure => simp [intOf]; omega
    ·have djt : decide (((2 * j : Nat) : Int) < 8) = false := decide_eq_false (by omega)
     have hj20 : j = 4 := by omega
     subst hj20
     have hR' : kS2.R 30 wr w.heap.size (fun k => ¬ XV Vx r k) u5 (L ++ mk3) := hR
     clear hR
     have hrA := hW.room
     have hml : mk3.length = 8 := rfl
     obtain ⟨fl, hfl, hl1, hl2⟩ : ∃ fl : List (List (List Int)), Go.RowKit.Hid (L ++ mk3 = fl) /\ L.length <= fl.length /\ fl.length <= 1048616 := ⟨_, Lib.hid rfl, by simp, by simp; omega⟩
     rw [hfl.out] at hR'
     clear hml
     obtain ⟨A5, c5, rfl, hc5, hrd⟩ := Kd.R_reads hR'
     clear hrd
     obtain ⟨cB, fB⟩ := blk_at hrA.box
     have k1 : wr.cell? ⟨r, 6, none⟩ = some (Vx 3) := cB 6
     obtain ⟨xs, hX, hlX, hEX⟩ := hrA.row 3 (by omega)
     have hW' := hW.less (ex' := ex) (fun k hk => .inl hk) (Nat.le_refl _)
     have hok : ∀ k, ¬ XV Vx r k /\ w.heap.size <= k -> Ot ex Vx r 3 k /\ some k ≠ (Vx 3).ownBlock := fun k hk => ot_of hk.1 (fun c => by have := hx k c; omega) (by omega)
     obtain ⟨xs, hX, hlX, hEX⟩ := hW'.room.row 3 (by omega)
     have hM : kS3.M wr B (fun k => ¬ XV Vx r k /\ w.heap.size <= k) fl [.slice A5 fl.length c5] := Sub.all (Kd.R_lower (Kd.R_mono (Kd.R_bound hR') (fun k hk => ⟨hk.1, hk.2.1⟩)) hB)
     have hMl := Lib.hid hM
     have hR5 := Lib.hid hR'
     clear hR' hM
     go_wp2_with (at_builtin; refine R_append1 kS3 (w0 := wr) B rfl _ _ 34 23 nilS 24 rfl Tryd.underlying34 infoSSS rfl (by decide) (by omega) (Vx 3) _ fl (.slice A5 fl.length c5) (Ot ex Vx r 3) (fun k => ¬ XV Vx r k /\ w.heap.size <= k) rfl rfl hMl.out hok (fun k hk => (hok k ⟨hrA.fresh hk, Nat.le_trans hsz hk⟩).1) hX (Below.refl _ _) ?h2 ?h3 ?_; (case h2 => exact Nat.le_trans hB hsz); (case h3 => omega); intro v1 w1 hR1 hb1 hg1 hat1; obtain ⟨A1, n1, m1, rfl⟩ : ∃ A n m, v1 = .slice A n m := (by obtain ⟨A1, m1, e⟩ := Kd.R_slice hR1; exact ⟨_, _, _, e⟩); obtain ⟨cC, fC⟩ := blk_at (blk_grown hrA.box hg1 (fun e => ((hrA.row 3 (by omega)).own r e.symm).1.2.1 rfl)); have k2 : w1.cell? ⟨r, 6, none⟩ = some (Vx 3) := cC 6)
     go_ret
     have hfl' := hfl.out
     obtain ⟨W1, f1⟩ := room_end (i := 3) (N' := N + (sm + 1)) hW' hB (by omega) hR5.out ⟨xs ++ [fl], hR1, by simp; omega, fun l hl => by
      rcases List.mem_append.1 hl with q | q
      ·exact hEX l q
      ·cases List.mem_singleton.1 q; exact ⟨L, hfl'.symm⟩⟩ hg1 hat1 (hW.bel.trans hb1) (by omega)
     subst hfl'
     have hs := HS.out
     subst hs
     exact ⟨_, _, rfl, W1, Sub.pre f1 hl1⟩
end
section
theorem infoO : (Tryd.prog.info? 59).map (fun i => (i.zero, i.size, i.bytes)) = some (some (.agg #[.int .u64 0, .int .i64 0, .int .i64 0, nilS, nilS]), 5, 72) := by kernel_rfl
theorem infoSO : (Tryd.prog.info? 22).map (fun i => (i.zero, i.size, i.bytes)) = some (some nilS, 1, 24) := by kernel_rfl
theorem RoomAt.drew {w : World} {B r : Nat} {V : Nat -> Value} {N : Nat} {ex : Nat -> Prop} (h : RoomAt w B r V N ex) : RoomAt w.drew B r V N ex := h.step (fun _ _ _ => rfl) (fun _ h => .inl h) (Nat.le_refl _)
theorem Went.drew {w w1 : World} {B r : Nat} {V V1 : Nat -> Value} {N : Nat} {ex : Nat -> Prop} (h : Went w w1 B r V V1 N ex) : Went w w1.drew B r V V1 N ex := ⟨h.room.drew, ⟨h.keep.size, h.keep.blk⟩, h.ext, h.bel.drew⟩
section
variable {ops : Array Oper} {o : Oper} {a : Act} {Q : Exit -> Act -> World -> Prop} {Kc : Act -> World -> Prop}
theorem step_app_ob {w0 W : World} (base : Nat) (hgd : o.guard = none) (s x : Operand) (ho : o.op = .call { callee := .builtin .append, args := #[s, x], argTypes := #[22, 22] })
  (v : Value) (xs : List Ob) (p : Ob) (v3 v4 : Value) (ok okp : Nat -> Prop) (hs : a.eval s = v) (hx : a.eval x = .slice (some ⟨W.heap.size, 0, none⟩) 1 1) (hp : kObS.M W base okp p [.int .u64 p.f0, .int .i64 p.f1, .int .i64 p.f2, v3, v4]) (hokp : ∀ k, okp k -> ok k /\ some k ≠ v.ownBlock) (hfresh : ∀ k, W.heap.size <= k -> ok k)
  (HO : kObS.R 59 W base ok v xs) (HB : Below base w0 W) (hbase : base <= W.heap.size) (hl : xs.length <= 1099511627)
  (h : ∀ v1 w1, kObS.R 59 w1 base ok v1 (xs ++ [p]) -> Below base w0 w1 -> W.grownBy w1 v.ownBlock -> (v1.ownBlock = v.ownBlock \/ ∃ b, v1.ownBlock = some b /\ W.heap.size <= b) -> Kc (a.put o.dst v1) w1) :
  if Region.wanted o (yielded ops a.tmps) = true then Oper.wp Tryd.prog o a (W.alloc (.cells #[.int .u64 p.f0, .int .i64 p.f1, .int .i64 p.f2, v3, v4] 59)) Kc Q else Kc (a.put o.dst undef) (W.alloc (.cells #[.int .u64 p.f0, .int .i64 p.f1, .int .i64 p.f2, v3, v4] 59)) :=
 Kd.R_append_step kObS base (by simp [Region.wanted, hgd]) s x 22 59 (.agg #[.int .u64 0, .int .i64 0, .int .i64 0, nilS, nilS]) 72 ho Tryd.underlying22 infoO rfl (by decide) (by omega) v xs p [.int .u64 p.f0, .int .i64 p.f1, .int .i64 p.f2, v3, v4] ok okp hs hx hp hokp hfresh HO HB hbase (by omega) h
end
theorem okp_of {α : Type} {d : Kd α} {w : World} {b b' n : Nat} {X : Nat -> Prop} {x : α} {cs : List Value} (h : d.M w b (fun k => ¬ X k) x cs) (hn : n <= b) (hb : b' <= b) : d.M w b' (fun k => ¬ X k /\ n <= k) x cs :=
 d.M_lower hb (d.M_mono (fun k hk => ⟨hk.1, Nat.le_trans hn hk.2.1⟩) (d.M_bound h))
theorem mkO_two : ∀ j, j < 4 -> mkO.getD (2 * j) default = obM (-7701) /\ mkO.getD (2 * j + 1) default = obM (-7702)
 | 0, _ => ⟨rfl, rfl⟩
 | 1, _ => ⟨rfl, rfl⟩
 | 2, _ => ⟨rfl, rfl⟩
 | 3, _ => ⟨rfl, rfl⟩
 | _ + 4, h => by omega
set_option maxRecDepth 100000 in
set_option maxHeartbeats 16000000 in
theorem objects_room (w : World) (B r : Nat) (V : Nat -> Value) (N : Nat) (ex : Nat -> Prop) (A : Option Addr) (c : Nat) (L : List Ob) (hr : RoomAt w B r V N ex) (hB : B <= w.heap.size) (w0 : World) (h0 : Below w0.heap.size w0 w) (hB0 : w0.heap.size <= B) (hC : Kd.C kOb w0 A L.length L) (hl : L.length <= 1048576) (hq : ∀ o ∈ L, o.f3.length <= 1048576 /\ o.f4.length <= 1048576) (hN : N + (2 * L.length + 1) <= 8388608) (hx : ∀ k, ex k -> k < w.heap.size) :
  Calls Tryd.prog 36 #[.pointer (some ⟨r, 0, none⟩), .slice A L.length c] w fun e w' => ∃ v V', e = .returned v /\ Went w w' B r V V' (N + (2 * L.length + 1)) ex /\ kSO.M w' w.heap.size (fun k => ¬ XV V' r k) L [v] := by
 have INTS := Lib.hid ints_room
 have WORDS := Lib.hid words_room
 go_enter Tryd.func36, Tryd.ntmps36
 go_wp2_with fail
 go_loopw [5, 6] (fun v iv wx => ∃ (i : Nat) (Vx : Nat -> Value), i <= L.length /\ iv = .int .i64 i /\ Went w wx B r V Vx (N + 2 * i) (fun k => ex k \/ v.ownBlock = some k) /\ kObS.R 59 wx w.heap.size (fun k => ¬ XV Vx r k) v (L.take i)) (fun _ iv _ => L.length - (intOf iv).toNat)
 case atStart =>
  refine ⟨0, V, by omega, rfl, ⟨hr.step (fun k _ hk => (Below.refl _ _).alloc (Nat.le_refl _) _ |>.block k hk) (fun k hk => ?_) (by omega), Keeps.below ((Below.refl _ _).alloc (Nat.le_refl _) _), fun _ h => .inl h, (Below.refl _ _).alloc hB _⟩, R_empty _ _ (hr.fresh (Nat.le_refl _)) (Nat.le_refl _)⟩
  rcases hk with q | q
  ·exact .inl q
  ·simp [Value.ownBlock] at q
   exact .inr (by omega)
 case round =>
  obtain ⟨i, Vx, hi, rfl, hW, hR⟩ := hrel
  have hb0 := h0.trans (hW.bel.mono hB0)
  by_cases hlt : i < L.length
  ·have dlt : decide ((i : Int) < (L.length : Int)) = true := decide_eq_true (by omega)
   have i0 : (0 : Int) <= (i : Int) := by omega
   have i1 : (i : Int) < (L.length : Int) := by omega
   obtain ⟨hq1, hq2⟩ := hq _ (getD_mem default hlt)
   obtain ⟨ad, A3, c3, A4, c4, rfl, e0, e1, e2, e3, e4, l3, hC3, l4, hC4⟩ := ob_at hC i hlt
   have et := Lib.hid (take_snocZ L i default hlt)
   generalize L.getD i default = o at *
   obtain ⟨f0, f1, f2, f3, f4⟩ := o
   simp only at *
   have hvb := Kd.R_lt hR
   have CB := Lib.hid (fun (W : World) (hb : Below B w W) => (⟨cell_later (h0.trans (hb.mono hB0)) e0, cell_later (h0.trans (hb.mono hB0)) e1, cell_later (h0.trans (hb.mono hB0)) e2, cell_later (h0.trans (hb.mono hB0)) e3, cell_later (h0.trans (hb.mono hB0)) e4⟩ : W.cell? (ad.add (i * 5)) = some (.int .u64 f0) /\ W.cell? ⟨(ad.add (i * 5)).block, (ad.add (i * 5)).off + 1, none⟩ = some (.int .i64 f1) /\ W.cell? ⟨(ad.add (i * 5)).block, (ad.add (i * 5)).off + 2, none⟩ = some (.int .i64 f2) /\ W.cell? ⟨(ad.add (i * 5)).block, (ad.add (i * 5)).off + 3, none⟩ = some (.slice A3 f3.length c3) /\ W.cell? ⟨(ad.add (i * 5)).block, (ad.add (i * 5)).off + 4, none⟩ = some (.slice A4 f4.length c4)))
   clear e0 e1 e2 e3 e4
   have C1 := Lib.hid (fun (W : World) (hw : Went w W B r V Vx (N + 2 * i) (fun k => ex k \/ u5.ownBlock = some k)) (hs : wr.heap.size <= W.heap.size) => INTS.out W B r Vx (N + 2 * i) _ A3 c3 f3 hw.room (Nat.le_trans hB hw.keep.size) (Kd.C_below hC3 (h0.trans (hw.bel.mono hB0))) hq1 (by omega) (fun k hk => by
    rcases hk with q | q
    ·exact Nat.lt_of_lt_of_le (hx k q) hw.keep.size
    ·exact Nat.lt_of_lt_of_le (hvb k q) hs))
   have C2 := Lib.hid (fun (W : World) (V1 : Nat -> Value) (hw : Went w W B r V V1 (N + 2 * i + 1) (fun k => ex k \/ u5.ownBlock = some k)) (hs : wr.heap.size <= W.heap.size) => WORDS.out W B r V1 (N + 2 * i + 1) _ A4 c4 f4 hw.room (Nat.le_trans hB hw.keep.size) (Kd.C_below hC4 (h0.trans (hw.bel.mono hB0))) hq2 (by omega) (fun k hk => by
    rcases hk with q | q
    ·exact Nat.lt_of_lt_of_le (hx k q) hw.keep.size
    ·exact Nat.lt_of_lt_of_le (hvb k q) hs))
   go_upto_region 5 with fail
   go_region_held3 (fun W => W.cell? (ad.add (i * 5)) = some (.int .u64 f0) /\ W.cell? ⟨(ad.add (i * 5)).block, (ad.add (i * 5)).off + 1, none⟩ = some (.int .i64 f1) /\ W.cell? ⟨(ad.add (i * 5)).block, (ad.add (i * 5)).off + 2, none⟩ = some (.int .i64 f2) /\ W.cell? ⟨(ad.add (i * 5)).block, (ad.add (i * 5)).off + 3, none⟩ = some (.slice A3 f3.length c3) /\ W.cell? ⟨(ad.add (i * 5)).block, (ad.add (i * 5)).off + 4, none⟩ = some (.slice A4 f4.length c4))
    (first
     | exact CB.out _ hW.bel
     | exact CB.out _ hW.drew.bel
     | exact CB.out _ (hW.trans hW1).bel
     | exact CB.out _ (hW.trans hW1).drew.bel
     | exact CB.out _ (hW.drew.trans hW1).bel
     | exact CB.out _ ((hW.drew.trans hW1).trans hW2).bel
     | exact CB.out _ (((hW.drew.trans hW1).trans hW2).bel.alloc (Nat.le_trans hB ((hW.drew.trans hW1).trans hW2).keep.size) _)
     | exact CB.out _ ((((hW.drew.trans hW1).trans hW2).push hg3 hat3 (fun k hk => Kd.R_base hR k hk) hB).bel))
    (first
     | ((go_at_call 38; refine (C1.out _ hW.drew (Nat.le_refl _)).mono ?_; rintro e w1 ⟨v1, V1, rfl, hW1, hM1⟩; obtain ⟨A6, n6, m6, rfl⟩ := Sub.form hM1))
     | ((go_at_call 75; refine (C2.out _ _ (hW.drew.trans hW1) hW1.keep.size).mono ?_; rintro e w2 ⟨v2, V2, rfl, hW2, hM2⟩; obtain ⟨A7, n7, m7, rfl⟩ := Sub.form hM2))
     | ((refine step_app_ob (w0 := w2) w.heap.size rfl _ _ rfl u5 _ ⟨f0, f1, f2, f3, f4⟩ (.slice A6 n6 m6) (.slice A7 n7 m7) (fun k => ¬ XV V2 r k) (fun k => ¬ XV V2 r k /\ wr.heap.size <= k) rfl rfl (kObS_mkM ⟨f0, f1, f2, f3, f4⟩ (okp_of (hW2.M hM1) (Nat.le_refl _) hW.keep.size) (okp_of hM2 hW1.keep.size (Nat.le_trans hW.keep.size hW1.keep.size))) (fun k hk => ⟨hk.1, fun c => by have := hvb k c.symm; omega⟩) (fun k hk => hW2.room.fresh hk) (hW2.R (hW1.R (Kd.R_drew hR))) (Below.refl _ _) (Nat.le_trans hW.keep.size (Nat.le_trans hW1.keep.size hW2.keep.size)) (by simp only [List.length_take]; omega) ?_; intro v3 w3 hR3 hb3 hg3 hat3)))
   go_wp2_with fail
   go_roundw
   case rel => exact ⟨i + 1, V2, by omega, by go_num, (((hW.drew.trans hW1).trans hW2).push hg3 hat3 (fun k hk => Kd.R_base hR k hk) hB).less (fun _ h => h) (by omega), by rw [et.out]; exact hR3⟩
   case measure => simp [intOf]; omega
  ·have dlt : decide ((i : Int) < (L.length : Int)) = false := decide_eq_false (by omega)
   have hiL : i = L.length := by omega
   subst hiL
   have hR' : kObS.R 59 wr w.heap.size (fun k => ¬ XV Vx r k) u5 (L ++ mkO.take (2 * 0)) := by rw [List.take_of_length_le (by omega)] at hR; simpa using hR
   clear hR
   go_wp2_with fail
   go_loopw [5, 7] (fun v iv wx => ∃ j : Nat, j <= 4 /\ iv = .int .i64 ((2 * j : Nat) : Int) /\ Went w wx B r V Vx (N + 2 * L.length) (fun k => ex k \/ v.ownBlock = some k) /\ kObS.R 59 wx w.heap.size (fun k => ¬ XV Vx r k) v (L ++ mkO.take (2 * j))) (fun _ iv _ => 8 - (intOf iv).toNat)
   case atStart => exact ⟨0, by omega, rfl, hW, hR'⟩
   case round =>
    clear hR' hW hb0
    obtain ⟨j, hj, rfl, hW, hR⟩ := hrel
    have hsz := hW.keep.size
    by_cases hjt : j < 4
    ·have djt : decide (((2 * j : Nat) : Int) < 8) = true := decide_eq_true (by omega)
     have et := Lib.hid (take2 mkO (2 * j) default (by have : mkO.length = 8 := rfl; omega))
     rw [(mkO_two j hjt).1, (mkO_two j hjt).2] at et
     have okw : ∀ k, wr.heap.size <= k -> ¬ XV Vx r k /\ some k ≠ u5.ownBlock := fun k hk => ⟨hW.room.fresh hk, fun c => by have := Kd.R_lt hR k c.symm; omega⟩
     have okw : ∀ k, wr.heap.size <= k -> ¬ XV Vx r k /\ some k ≠ u5.ownBlock := fun k hk => ⟨hW.room.fresh hk, fun c => by have := Kd.R_lt hR k c.symm; omega⟩
     have RL := Lib.hid (show (L ++ mkO.take (2 * j)).length <= 1048616 by have : mkO.length = 8 := rfl; simp only [List.length_append, List.length_take]; omega)
     have MO := Lib.hid (fun x : Int => kObS_mkM (w := wr) (base := w.heap.size) (ok := fun k => wr.heap.size <= k) (obM x) (v3 := nilS) (v4 := nilS) (Sub.all (Kd.R_nil _ _ _ _ _)) (Sub.all (Kd.R_nil _ _ _ _ _)))
     go_wp2_with (at_builtin; refine R_append2 kObS (w0 := wr) w.heap.size rfl _ _ 22 59 (.agg #[.int .u64 0, .int .i64 0, .int .i64 0, nilS, nilS]) 72 rfl Tryd.underlying22 infoO rfl (by decide) (by omega) u5 _ (obM (-7701)) (obM (-7702)) [.int .u64 0, .int .i64 (-7701), .int .i64 0, nilS, nilS] [.int .u64 0, .int .i64 (-7702), .int .i64 0, nilS, nilS] (fun k => ¬ XV Vx r k) (fun k => wr.heap.size <= k) rfl rfl (MO.out (-7701)) (MO.out (-7702)) okw (fun k hk => (okw k hk).1) hR (Below.refl _ _) hsz ?h3 ?_; (case h3 => have := RL.out; omega); intro v1 w1 hR1 hb1 hg1 hat1)
     go_roundw
     case rel => exact ⟨j + 1, by omega, by go_num, hW.push hg1 hat1 (fun k hk => Kd.R_base hR k hk) hB, by rw [show 2 * (j + 1) = 2 * j + 2 by omega, et.out, <- List.append_assoc]; exact hR1⟩
     case measure => simp [intOf]; omega
    ·have djt : decide (((2 * j : Nat) : Int) < 8) = false := decide_eq_false (by omega)
     have hj20 : j = 4 := by omega
     subst hj20
     have hR' : kObS.R 59 wr w.heap.size (fun k => ¬ XV Vx r k) u5 (L ++ mkO) := hR
     clear hR
     have hrA := hW.room
     have hml : mkO.length = 8 := rfl
     obtain ⟨fl, hfl, hl1, hl2⟩ : ∃ fl : List Ob, Go.RowKit.Hid (L ++ mkO = fl) /\ L.length <= fl.length /\ fl.length <= 1048616 := ⟨_, Lib.hid rfl, by simp, by simp; omega⟩
     rw [hfl.out] at hR'
     clear hml
     obtain ⟨A5, c5, rfl, hc5, hrd⟩ := Kd.R_reads hR'
     clear hrd
     obtain ⟨cB, fB⟩ := blk_at hrA.box
     have k1 : wr.cell? ⟨r, 7, none⟩ = some (Vx 4) := cB 7
     obtain ⟨xs, hX, hlX, hEX⟩ := hrA.row 4 (by omega)
     have hW' := hW.less (ex' := ex) (fun k hk => .inl hk) (Nat.le_refl _)
     have hok : ∀ k, ¬ XV Vx r k /\ w.heap.size <= k -> Ot ex Vx r 4 k /\ some k ≠ (Vx 4).ownBlock := fun k hk => ot_of hk.1 (fun c => by have := hx k c; omega) (by omega)
     obtain ⟨xs, hX, hlX, hEX⟩ := hW'.room.row 4 (by omega)
     have hM : kSO.M wr B (fun k => ¬ XV Vx r k /\ w.heap.size <= k) fl [.slice A5 fl.length c5] := Sub.all (Kd.R_lower (Kd.R_mono (Kd.R_bound hR') (fun k hk => ⟨hk.1, hk.2.1⟩)) hB)
     have hMl := Lib.hid hM
     have hR5 := Lib.hid hR'
     clear hR' hM
     go_wp2_with (at_builtin; refine R_append1 kSO (w0 := wr) B rfl _ _ 35 22 nilS 24 rfl Tryd.underlying35 infoSO rfl (by decide) (by omega) (Vx 4) _ fl (.slice A5 fl.length c5) (Ot ex Vx r 4) (fun k => ¬ XV Vx r k /\ w.heap.size <= k) rfl rfl hMl.out hok (fun k hk => (hok k ⟨hrA.fresh hk, Nat.le_trans hsz hk⟩).1) hX (Below.refl _ _) ?h2 ?h3 ?_; (case h2 => exact Nat.le_trans hB hsz); (case h3 => omega); intro v1 w1 hR1 hb1 hg1 hat1; obtain ⟨A1, n1, m1, rfl⟩ : ∃ A n m, v1 = .slice A n m := (by obtain ⟨A1, m1, e⟩ := Kd.R_slice hR1; exact ⟨_, _, _, e⟩); obtain ⟨cC, fC⟩ := blk_at (blk_grown hrA.box hg1 (fun e => ((hrA.row 4 (by omega)).own r e.symm).1.2.1 rfl)); have k2 : w1.cell? ⟨r, 7, none⟩ = some (Vx 4) := cC 7)
     go_ret
     have hfl' := hfl.out
     obtain ⟨W1, f1⟩ := room_end (i := 4) (N' := N + (2 * L.length + 1)) hW' hB (by omega) hR5.out ⟨xs ++ [fl], hR1, by simp; omega, fun l hl => by
      rcases List.mem_append.1 hl with q | q
      ·exact hEX l q
      ·cases List.mem_singleton.1 q; exact ⟨L, hfl'.symm⟩⟩ hg1 hat1 (hW.bel.trans hb1) (by omega)
     subst hfl'
     exact ⟨_, _, rfl, W1, Sub.pre f1 hl1⟩
end
section
structure InAt (w : World) (b : Nat) (ok : Nat -> Prop) (g : Gv) (G : Gr) : Prop where
 m0 : kSO.M w b ok G.obs [.slice g.A0 G.obs.length g.c0]
 m1 : kS3.M w b ok G.slots [.slice g.A1 G.slots.length g.c1]
 m2 : kS1.M w b ok G.hands [.slice g.A2 G.hands.length g.c2]
 m3 : kS1.M w b ok G.reg [.slice g.A3 G.reg.length g.c3]
 m4 : kS1.M w b ok G.queue [.slice g.A4 G.queue.length g.c4]
theorem Sub.reads {α : Type} {e : Nat} {d : Kd α} {w : World} {b : Nat} {ok : Nat -> Prop} {xs : List α} {A : Option Addr} {n c : Nat} (h : (kSub e d).M w b ok xs [.slice A n c]) : n = xs.length /\ xs.length <= c /\ Kd.C d w A xs.length xs := by
 obtain ⟨A', c', e1, h2, h3⟩ := (kSub e d).K_of_M h
 cases e1
 exact ⟨rfl, h2, h3⟩
theorem InAt.reads {w : World} {b : Nat} {ok : Nat -> Prop} {g : Gv} {G : Gr} (h : InAt w b ok g G) : GAt w g G := by
 obtain ⟨h0, h1, h2, h3, h4⟩ := h
 obtain ⟨_, l0, r0⟩ := Sub.reads h0
 obtain ⟨_, l1, r1⟩ := Sub.reads h1
 obtain ⟨_, l2, r2⟩ := Sub.reads h2
 obtain ⟨_, l3, r3⟩ := Sub.reads h3
 obtain ⟨_, l4, r4⟩ := Sub.reads h4
 exact ⟨C_kObS r0, l0, C_kS2 r1, l1, r2, l2, r3, l3, r4, l4⟩
def costG (G : Gr) : Nat := (2 * G.obs.length + 1) + cost3 G.slots + 3
theorem six {w : World} {b g : Nat} (h : g ≠ b) (a0 a1 a2 a3 a4 a5 : Value) : ((((((w.setCell ⟨b, 0, none⟩ a0).setCell ⟨b, 1, none⟩ a1).setCell ⟨b, 2, none⟩ a2).setCell ⟨b, 3, none⟩ a3).setCell ⟨b, 4, none⟩ a4).setCell ⟨b, 5, none⟩ a5).heap[g]? = w.heap[g]? := by
 rw [Below.heap_setCell _ _ _ _ h, Below.heap_setCell _ _ _ _ h, Below.heap_setCell _ _ _ _ h, Below.heap_setCell _ _ _ _ h, Below.heap_setCell _ _ _ _ h, Below.heap_setCell _ _ _ _ h]
theorem six_at {w : World} {b : Nat} {t : TypeId} {z0 z1 z2 z3 z4 z5 : Value} (h : w.heap[b]? = some (.cells #[z0, z1, z2, z3, z4, z5] t (0, 0))) (a0 a1 a2 a3 a4 a5 : Value) : ((((((w.setCell ⟨b, 0, none⟩ a0).setCell ⟨b, 1, none⟩ a1).setCell ⟨b, 2, none⟩ a2).setCell ⟨b, 3, none⟩ a3).setCell ⟨b, 4, none⟩ a4).setCell ⟨b, 5, none⟩ a5).heap[b]? = some (.cells #[a0, a1, a2, a3, a4, a5] t (0, 0)) := by
 have h0 := blk_set h 0 a0
 have h1 := blk_set h0 1 a1
 have h2 := blk_set h1 2 a2
 have h3 := blk_set h2 3 a3
 have h4 := blk_set h3 4 a4
 have h5 := blk_set h4 5 a5
 simpa using h5
theorem six_below {B : Nat} {w W : World} {b : Nat} (h : Below B w W) (hb : B <= b) (a0 a1 a2 a3 a4 a5 : Value) : Below B w ((((((W.setCell ⟨b, 0, none⟩ a0).setCell ⟨b, 1, none⟩ a1).setCell ⟨b, 2, none⟩ a2).setCell ⟨b, 3, none⟩ a3).setCell ⟨b, 4, none⟩ a4).setCell ⟨b, 5, none⟩ a5) :=
 (((((h.setCell (p := ⟨b, 0, none⟩) hb a0).setCell (p := ⟨b, 1, none⟩) hb a1).setCell (p := ⟨b, 2, none⟩) hb a2).setCell (p := ⟨b, 3, none⟩) hb a3).setCell (p := ⟨b, 4, none⟩) hb a4).setCell (p := ⟨b, 5, none⟩) hb a5
theorem six_size {w : World} {b : Nat} (a0 a1 a2 a3 a4 a5 : Value) : ((((((w.setCell ⟨b, 0, none⟩ a0).setCell ⟨b, 1, none⟩ a1).setCell ⟨b, 2, none⟩ a2).setCell ⟨b, 3, none⟩ a3).setCell ⟨b, 4, none⟩ a4).setCell ⟨b, 5, none⟩ a5).heap.size = w.heap.size := by simp [World.setCell]
theorem M_store {α : Type} {d : Kd α} {w5 wz : World} {b b' g : Nat} {X : Nat -> Prop} {x : α} {cs : List Value} (h : d.M w5 b (fun k => ¬ X k) x cs) (ho : ∀ k, k ≠ g -> wz.heap[k]? = w5.heap[k]?) (hg : g < b) (hb : b' <= b) : d.M wz b' (fun k => ¬ X k) x cs :=
 d.M_lower hb (d.M_mono (fun k hk => hk.1) (d.M_move (fun k hk => ho k (by have := hk.2.1; omega)) (d.M_bound h)))
set_option maxRecDepth 100000 in
set_option maxHeartbeats 16000000 in
theorem graph_room (w : World) (B r : Nat) (V : Nat -> Value) (N : Nat) (ex : Nat -> Prop) (g : Gv) (G : Gr) (hr : RoomAt w B r V N ex) (hB : B <= w.heap.size) (w0 : World) (h0 : Below w0.heap.size w0 w) (hB0 : w0.heap.size <= B) (hG : GAt w0 g G) (bd : G.Bd) (fb : FrBd G) (hN : N + costG G <= 8388608) (hx : ∀ k, ex k -> k < w.heap.size) :
  Calls Tryd.prog 10 #[.pointer (some ⟨r, 0, none⟩), gval g G] w fun e w' => ∃ g' V', e = .returned (gval g' G) /\ Went w w' B r V V' (N + costG G) ex /\ InAt w' w.heap.size (fun k => ¬ XV V' r k) g' G := by
 unfold costG at *
 obtain ⟨A0, A1, A2, A3, A4, c0, c1, c2, c3, c4⟩ := g
 have OBS := Lib.hid objects_room
 have FRS := Lib.hid frames_room
 have INTS := Lib.hid ints_room
 unfold gval gcells
 simp only
 go_enter Tryd.func10, Tryd.ntmps10
 go_upto_region 1 with fail
 have hX := blk_new w (.cells #[.slice A0 G.obs.length c0, .slice A1 G.slots.length c1, .slice A2 G.hands.length c2, .slice A3 G.reg.length c3, .slice A4 G.queue.length c4, .int .u64 G.next] 27 (0, 0))
 have b1 := (Below.refl w.heap.size w).alloc (Nat.le_refl _) (.cells #[.slice A0 G.obs.length c0, .slice A1 G.slots.length c1, .slice A2 G.hands.length c2, .slice A3 G.reg.length c3, .slice A4 G.queue.length c4, .int .u64 G.next] 27 (0, 0))
 have s1 := alloc_sz w (.cells #[.slice A0 G.obs.length c0, .slice A1 G.slots.length c1, .slice A2 G.hands.length c2, .slice A3 G.reg.length c3, .slice A4 G.queue.length c4, .int .u64 G.next] 27 (0, 0))
 generalize w.alloc (.cells #[.slice A0 G.obs.length c0, .slice A1 G.slots.length c1, .slice A2 G.hands.length c2, .slice A3 G.reg.length c3, .slice A4 G.queue.length c4, .int .u64 G.next] 27) = wB at *
 have hY := blk_new wB (.cells #[.slice none 0 0, .slice none 0 0, .slice none 0 0, .slice none 0 0, .slice none 0 0, .int .u64 0] 27 (0, 0))
 have b2 := b1.alloc b1.size (.cells #[.slice none 0 0, .slice none 0 0, .slice none 0 0, .slice none 0 0, .slice none 0 0, .int .u64 0] 27 (0, 0))
 have s2 := alloc_sz wB (.cells #[.slice none 0 0, .slice none 0 0, .slice none 0 0, .slice none 0 0, .slice none 0 0, .int .u64 0] 27 (0, 0))
 have hX2 := ((Below.refl wB.heap.size wB).alloc (Nat.le_refl _) (.cells #[.slice none 0 0, .slice none 0 0, .slice none 0 0, .slice none 0 0, .slice none 0 0, .int .u64 0] 27 (0, 0))).block w.heap.size (by omega)
 generalize wB.alloc (.cells #[.slice none 0 0, .slice none 0 0, .slice none 0 0, .slice none 0 0, .slice none 0 0, .int .u64 0] 27) = wA at *
 rw [s1] at hY s2
 replace hX2 := hX2.trans hX
 clear hX b1 s1
 have hWA : Went w wA B r V V N (fun k => ex k \/ k = w.heap.size + 1) := ⟨hr.step (fun k _ hk => b2.block k hk) (fun k hk => by
  rcases hk with q | q
  ·exact .inl q
  ·exact .inr (by omega)) (Nat.le_refl _), Keeps.below b2, fun _ h => .inl h, b2.mono hB⟩
 have hex : ∀ W : World, wA.heap.size <= W.heap.size -> ∀ k, (ex k \/ k = w.heap.size + 1) -> k < W.heap.size := fun W hW k hk => by
  rcases hk with q | q
  ·have := hx k q; omega
  ·omega
 have nx : ∀ k, w.heap.size <= k -> ¬ XV V r k := fun k hk => hr.fresh hk
 have CB := Lib.hid (fun (W : World) (hk : W.heap[w.heap.size]? = wA.heap[w.heap.size]?) => (by
  have hc := (blk_at (hk.trans hX2)).1
  exact ⟨hc 0, hc 1, hc 2, hc 3, hc 4, hc 5⟩ : W.cell? ⟨w.heap.size, 0, none⟩ = some (.slice A0 G.obs.length c0) /\ W.cell? ⟨w.heap.size, 1, none⟩ = some (.slice A1 G.slots.length c1) /\ W.cell? ⟨w.heap.size, 2, none⟩ = some (.slice A2 G.hands.length c2) /\ W.cell? ⟨w.heap.size, 3, none⟩ = some (.slice A3 G.reg.length c3) /\ W.cell? ⟨w.heap.size, 4, none⟩ = some (.slice A4 G.queue.length c4) /\ W.cell? ⟨w.heap.size, 5, none⟩ = some (.int .u64 G.next)))
 have KB := Lib.hid (fun (W : World) (hk : Keeps wA W (XV V r)) => hk.blk w.heap.size (by omega) (nx _ (Nat.le_refl _)))
 have CD := Lib.hid (fun (W : World) (hk : Keeps wA W (XV V r)) => (by
  obtain ⟨hd, hf⟩ := blk_at ((hk.blk (w.heap.size + 1) (by omega) (nx _ (Nat.le_succ _))).trans hY)
  exact ⟨hd 0, hd 1, hd 2, hd 3, hd 4, hd 5, hf 0, hf 1, hf 2, hf 3, hf 4, hf 5⟩ :W.cell? ⟨w.heap.size + 1, 0, none⟩ = some (.slice none 0 0) /\ W.cell? ⟨w.heap.size + 1, 1, none⟩ = some (.slice none 0 0) /\ W.cell? ⟨w.heap.size + 1, 2, none⟩ = some (.slice none 0 0) /\ W.cell? ⟨w.heap.size + 1, 3, none⟩ = some (.slice none 0 0) /\ W.cell? ⟨w.heap.size + 1, 4, none⟩ = some (.slice none 0 0) /\ W.cell? ⟨w.heap.size + 1, 5, none⟩ = some (.int .u64 0) /\ W.frozen? ⟨w.heap.size + 1, 0, none⟩ = false /\ W.frozen? ⟨w.heap.size + 1, 1, none⟩ = false /\ W.frozen? ⟨w.heap.size + 1, 2, none⟩ = false /\ W.frozen? ⟨w.heap.size + 1, 3, none⟩ = false /\ W.frozen? ⟨w.heap.size + 1, 4, none⟩ = false /\ W.frozen? ⟨w.heap.size + 1, 5, none⟩ = false))
 have hr0 := hWA.room
 have W0 : Went wA wA.drew B r V V N (fun k => ex k \/ k = w.heap.size + 1) := (Went.refl hr0).drew
 have hA0 := h0.trans (hWA.bel.mono hB0)
 have hfs : ∀ f ∈ G.slots, f.length <= 1048576 /\ ∀ l ∈ f, l.length <= 1048576 := fun f hf => ⟨(fb f hf).1, (fb f hf).2.2⟩
 have hBA := Nat.le_trans hB b2.size
 have C0 := Lib.hid (OBS.out wA.drew B r V N _ A0 c0 G.obs W0.room hBA w0 (hA0.trans (W0.bel.mono hB0)) hB0 hG.r0 bd.n (fun o ho => bd.i64 o ho) (by omega) (hex _ (Nat.le_refl _)))
 have C1 := Lib.hid (fun (W : World) (V1 : Nat -> Value) (hw : Went wA W B r V V1 (N + (2 * G.obs.length + 1)) (fun k => ex k \/ k = w.heap.size + 1)) => FRS.out W B r V1 _ _ A1 c1 G.slots hw.room (Nat.le_trans hBA hw.keep.size) w0 (hA0.trans (hw.bel.mono hB0)) hB0 hG.r1 bd.m hfs (by omega) (hex _ hw.keep.size))
 have C2 := Lib.hid (fun (W : World) (V1 : Nat -> Value) (n : Nat) (hw : Went wA W B r V V1 n (fun k => ex k \/ k = w.heap.size + 1)) (hn : n <= 8388608) (A : Option Addr) (c : Nat) (l : List Int) (hl : Kd.C (Kd.int .i64) w0 A l.length l) (hll : l.length <= 1048576) => INTS.out W B r V1 n _ A c l hw.room (Nat.le_trans hBA hw.keep.size) (Kd.C_below hl (hA0.trans (hw.bel.mono hB0))) hll hn (hex _ hw.keep.size))
 clear OBS FRS INTS
 go_region_held3 (fun W => W.cell? ⟨w.heap.size, 0, none⟩ = some (.slice A0 G.obs.length c0) /\ W.cell? ⟨w.heap.size, 1, none⟩ = some (.slice A1 G.slots.length c1) /\ W.cell? ⟨w.heap.size, 2, none⟩ = some (.slice A2 G.hands.length c2) /\ W.cell? ⟨w.heap.size, 3, none⟩ = some (.slice A3 G.reg.length c3) /\ W.cell? ⟨w.heap.size, 4, none⟩ = some (.slice A4 G.queue.length c4) /\ W.cell? ⟨w.heap.size, 5, none⟩ = some (.int .u64 G.next))
  (first
   | with_reducible exact CB.out wA (KB.out wA (Keeps.refl wA _))
   | with_reducible exact CB.out _ (KB.out _ W0.keep)
   | with_reducible exact CB.out _ (KB.out _ T1.keep)
   | with_reducible exact CB.out _ (KB.out _ T2.keep)
   | with_reducible exact CB.out _ (KB.out _ T3.keep)
   | with_reducible exact CB.out _ (KB.out _ T4.keep)
   | with_reducible exact CB.out _ (KB.out _ T5.keep)
   | exact CB.out _ ((six (by omega) _ _ _ _ _ _).trans (KB.out _ T5.keep)))
  (first
   | ((go_at_call 38; refine (C2.out _ _ _ T4 (by omega) A4 c4 G.queue hG.r4 bd.q).mono ?_; rintro e w5 ⟨v5, V5, rfl, hW5, hM5⟩; obtain ⟨A9, n9, m9, rfl⟩ := Sub.form hM5; have T5 := T4.trans hW5; obtain ⟨d0, d1, d2, d3, d4, d5, g0, g1, g2, g3, g4, g5⟩ := CD.out _ T5.keep))
   | ((go_at_call 38; refine (C2.out _ _ _ T3 (by omega) A3 c3 G.reg hG.r3 bd.r).mono ?_; rintro e w4 ⟨v4, V4, rfl, hW4, hM4⟩; obtain ⟨A8, n8, m8, rfl⟩ := Sub.form hM4; have T4 := T3.trans hW4))
   | ((go_at_call 38; refine (C2.out _ _ _ T2 (by omega) A2 c2 G.hands hG.r2 bd.h).mono ?_; rintro e w3 ⟨v3, V3, rfl, hW3, hM3⟩; obtain ⟨A7, n7, m7, rfl⟩ := Sub.form hM3; have T3 := T2.trans hW3))
   | ((go_at_call 37; refine (C1.out _ _ T1).mono ?_; rintro e w2 ⟨v2, V2, rfl, hW2, hM2⟩; obtain ⟨A6, n6, m6, rfl⟩ := Sub.form hM2; have T2 := T1.trans hW2))
   | ((go_at_call 36; refine C0.out.mono ?_; rintro e w1 ⟨v1, V1, rfl, hW1, hM1⟩; obtain ⟨A5, n5, m5, rfl⟩ := Sub.form hM1; have T1 := W0.trans hW1)))
 have T := hWA.trans T5
 have hz := six_at ((T5.keep.blk (w.heap.size + 1) (by omega) (nx _ (Nat.le_succ _))).trans hY) (.slice A5 n5 m5) (.slice A6 n6 m6) (.slice A7 n7 m7) (.slice A8 n8 m8) (.slice A9 n9 m9) (.int .u64 G.next)
 have ho := fun g (h : g ≠ w.heap.size + 1) => six (w := w5) h (.slice A5 n5 m5) (.slice A6 n6 m6) (.slice A7 n7 m7) (.slice A8 n8 m8) (.slice A9 n9 m9) (.int .u64 G.next)
 have hbz := six_below T.bel (show B <= w.heap.size + 1 by omega) (.slice A5 n5 m5) (.slice A6 n6 m6) (.slice A7 n7 m7) (.slice A8 n8 m8) (.slice A9 n9 m9) (.int .u64 G.next)
 have hsz := six_size (w := w5) (b := w.heap.size + 1) (.slice A5 n5 m5) (.slice A6 n6 m6) (.slice A7 n7 m7) (.slice A8 n8 m8) (.slice A9 n9 m9) (.int .u64 G.next)
 clear d0 d1 d2 d3 d4 d5 g0 g1 g2 g3 g4 g5
 generalize ((((((w5.setCell ⟨w.heap.size + 1, 0, none⟩ (.slice A5 n5 m5)).setCell ⟨w.heap.size + 1, 1, none⟩ (.slice A6 n6 m6)).setCell ⟨w.heap.size + 1, 2, none⟩ (.slice A7 n7 m7)).setCell ⟨w.heap.size + 1, 3, none⟩ (.slice A8 n8 m8)).setCell ⟨w.heap.size + 1, 4, none⟩ (.slice A9 n9 m9)).setCell ⟨w.heap.size + 1, 5, none⟩ (.int .u64 G.next)) = wz at *
 obtain ⟨cz, fz⟩ := blk_at hz
 go_wp2_with fail
 have c0' : wz.cell? ⟨w.heap.size + 1, 0, none⟩ = some (.slice A5 n5 m5) := cz 0
 have c1' : wz.cell? ⟨w.heap.size + 1, 1, none⟩ = some (.slice A6 n6 m6) := cz 1
 have c2' : wz.cell? ⟨w.heap.size + 1, 2, none⟩ = some (.slice A7 n7 m7) := cz 2
 have c3' : wz.cell? ⟨w.heap.size + 1, 3, none⟩ = some (.slice A8 n8 m8) := cz 3
 have c4' : wz.cell? ⟨w.heap.size + 1, 4, none⟩ = some (.slice A9 n9 m9) := cz 4
 have c5' : wz.cell? ⟨w.heap.size + 1, 5, none⟩ = some (.int .u64 G.next) := cz 5
 (try simp only [Exit.inBlock, Exit.then])
 refine bodyPost_ret (v := .agg #[.slice A5 n5 m5, .slice A6 n6 m6, .slice A7 n7 m7, .slice A8 n8 m8, .slice A9 n9 m9, .int .u64 G.next]) ?_ rfl ?_
 ·simp [results, go_sem, c0', c1', c2', c3', c4', c5']
 obtain ⟨rfl, l0, _⟩ := Sub.reads hM1
 obtain ⟨rfl, l1, _⟩ := Sub.reads hM2
 obtain ⟨rfl, l2, _⟩ := Sub.reads hM3
 obtain ⟨rfl, l3, _⟩ := Sub.reads hM4
 obtain ⟨rfl, l4, _⟩ := Sub.reads hM5
 refine ⟨⟨A5, A6, A7, A8, A9, m5, m6, m7, m8, m9⟩, V5, rfl, ⟨T.room.step (fun k hk hlt => ho k (fun e => hk (.inr e))) (fun k hk => .inl (.inl hk)) (by omega), ⟨by have := T.keep.size; omega, fun k hk hn => (ho k (by omega)).trans (T.keep.blk k hk hn)⟩, T.ext, hbz⟩, ?_⟩
 have q1 := hW1.keep.size
 have q2 := hW2.keep.size
 have q3 := hW3.keep.size
 have q4 := hW4.keep.size
 have q0 : wA.drew.heap.size = wA.heap.size := rfl
 exact ⟨M_store (hW5.M (hW4.M (hW3.M (hW2.M hM1)))) ho (by omega) (by omega), M_store (hW5.M (hW4.M (hW3.M hM2))) ho (by omega) (by omega), M_store (hW5.M (hW4.M hM3)) ho (by omega) (by omega), M_store (hW5.M hM4) ho (by omega) (by omega), M_store hM5 ho (by omega) (by omega)⟩
end
section
theorem Rwk.read {α : Type} {d : Kd α} {e : Nat} {mk : List α} {t : Nat} {w : World} {B : Nat} {ok : Nat -> Prop} {v : Value} {N : Nat} (h : Rwk d e mk t w B ok v N) : ∃ A xs c, v = .slice A xs.length c /\ xs.length <= N /\ Kd.C (kSub e d) w A xs.length xs /\ ∀ L ∈ xs, Ends mk L := by
 obtain ⟨xs, hR, hl, hE⟩ := h
 obtain ⟨A, c, rfl, _, hC⟩ := Kd.R_reads hR
 exact ⟨A, xs, c, rfl, hl, hC, hE⟩
theorem mk1_at : ∀ k, k < 40 -> mk1.getD k 0 = if k % 2 = 0 then -7701 else -7702 := by decide
theorem mkW_at : ∀ k, k < 40 -> mkW.getD k 0 = if k % 2 = 0 then 7701 else 7702 := by decide
theorem end_at {α : Type} (l mk : List α) (k : Nat) (z : α) : (l ++ mk).getD (l.length + k) z = mk.getD k z := by
 rw [List.getD_eq_getElem?_getD, List.getElem?_append_right (by omega), Nat.add_sub_cancel_left, <- List.getD_eq_getElem?_getD]
set_option maxRecDepth 100000 in
set_option maxHeartbeats 8000000 in
theorem holdInts_true (w : World) (B r : Nat) (V : Nat -> Value) (N : Nat) (ex : Nat -> Prop) (hr : RoomAt w B r V N ex) (hN : N <= 8388608) :
  Calls Tryd.prog 49 #[.pointer (some ⟨r, 0, none⟩)] w fun e w' => e = .returned (.bool true) /\ Below w.heap.size w w' := by
 obtain ⟨A, xs, c, hv, hl, hC, hE⟩ := Rwk.read (hr.row 0 (by omega))
 have hbox := hr.box
 rw [hv] at hbox
 have rr := blk_lt hbox
 clear hr hv
 have hb := (Below.refl w.heap.size w).alloc (Nat.le_refl _) (.cells #[.int .i64 (-7701), .int .i64 (-7702)] 3 (0, 0))
 have hM := blk_new w (.cells #[.int .i64 (-7701), .int .i64 (-7702)] 3 (0, 0))
 have hb2 := box_keep hbox hb
 have hC2 := Kd.C_below hC hb
 obtain ⟨cB, fB⟩ := blk_at hb2
 obtain ⟨cM, fM⟩ := blk_at hM
 go_enter Tryd.func49, Tryd.ntmps49
 go_upto_region 2 with fail
 generalize w.alloc _ = wA at *
 have k1 : wA.cell? ⟨r, 1, none⟩ = some (.slice A xs.length c) := cB 1
 have m0 : wA.cell? ⟨w.heap.size, 0, none⟩ = some (.int .i64 (-7701)) := cM 0
 have m1 : wA.cell? ⟨w.heap.size, 1, none⟩ = some (.int .i64 (-7702)) := cM 1
 clear cB fB cM fM hbox hb2 hM hC
 go_wp2_with fail
 go_loopw [4] (fun iv wx => ∃ i : Nat, i <= xs.length /\ iv = .int .i64 i /\ wx = wA) (fun iv _ => xs.length - (intOf iv).toNat)
 case atStart => exact ⟨0, by omega, rfl, rfl⟩
 case round =>
  obtain ⟨i, hi, rfl, rfl⟩ := hrel
  by_cases hlt : i < xs.length
  ·have dlt : decide ((i : Int) < (xs.length : Int)) = true := decide_eq_true (by omega)
   have i0 : (0 : Int) <= (i : Int) := by omega
   have i1 : (i : Int) < (xs.length : Int) := by omega
   obtain ⟨l, hl1⟩ := hE _ (getD_mem [] hlt)
   obtain ⟨ad, A1, c1, rfl, hc, hc1, hC1⟩ := sl_at (C_kS1 hC2) i hlt
   rw [hl1] at hc hc1 hC1
   have hll : (l ++ mk1).length = l.length + 40 := by rw [List.length_append]; rfl
   rw [hll] at hc hc1 hC1
   have hmx := hC1.2.1
   generalize hn : l.length = n at *
   have HN := Lib.hid hn
   clear hn hll
   go_wp2_with fail
   go_loopw [6] (fun kv wx => ∃ k : Nat, k <= 40 /\ kv = .int .i64 k /\ wx = wr) (fun kv _ => 40 - (intOf kv).toNat)
   case atStart => exact ⟨0, by omega, rfl, rfl⟩
   case round =>
    obtain ⟨k, hk, rfl, rfl⟩ := hrel
    by_cases hkt : k < 40
    ·have dk : decide ((k : Int) < 40) = true := decide_eq_true (by omega)
     obtain ⟨ad1, rfl, hcx⟩ := int_at hC1 (n + k) (by omega)
     have hx : (l ++ mk1).getD (n + k) 0 = mk1.getD k 0 := by rw [<- HN.out]; exact end_at l mk1 k 0
     rw [hx, mk1_at k hkt] at hcx
     have k0 : (0 : Int) <= (k : Int) := by omega
     have z0 : (0 : Int) <= (n : Int) + (k : Int) := by omega
     have z1 : (n : Int) + (k : Int) < (n : Int) + 40 := by omega
     have z2 : ((n : Int) + (k : Int)).toNat = n + k := by omega
     have e2 : ((k : Int).tmod 2) = ((k % 2 : Nat) : Int) := rfl
     rcases Nat.mod_two_eq_zero_or_one k with e | e
     ·rw [if_pos e] at hcx
      rw [e] at e2
      go_wp2_with fail
      exact ⟨⟨k + 1, by omega, by simp, trivial⟩, by simp [intOf]; omega⟩
     ·rw [if_neg (by omega)] at hcx
      rw [e] at e2
      go_wp2_with fail
      exact ⟨⟨k + 1, by omega, by simp, trivial⟩, by simp [intOf]; omega⟩
    ·have dk : decide ((k : Int) < 40) = false := decide_eq_false (by omega)
     go_wp2_with fail
     exact ⟨⟨i + 1, by omega, by simp, trivial⟩, by simp [intOf]; omega⟩
  ·have dlt : decide ((i : Int) < (xs.length : Int)) = false := decide_eq_false (by omega)
   go_wp2_with fail
   go_ret
   exact ⟨rfl, hb⟩
set_option maxRecDepth 100000 in
set_option maxHeartbeats 8000000 in
theorem holdWords_true (w : World) (B r : Nat) (V : Nat -> Value) (N : Nat) (ex : Nat -> Prop) (hr : RoomAt w B r V N ex) (hN : N <= 8388608) :
  Calls Tryd.prog 50 #[.pointer (some ⟨r, 0, none⟩)] w fun e w' => e = .returned (.bool true) /\ Below w.heap.size w w' := by
 obtain ⟨A, xs, c, hv, hl, hC, hE⟩ := Rwk.read (hr.row 1 (by omega))
 have hbox := hr.box
 rw [hv] at hbox
 have rr := blk_lt hbox
 clear hr hv
 have hb := (Below.refl w.heap.size w).alloc (Nat.le_refl _) (.cells #[.int .u64 7701, .int .u64 7702] 25 (0, 0))
 have hM := blk_new w (.cells #[.int .u64 7701, .int .u64 7702] 25 (0, 0))
 have hb2 := box_keep hbox hb
 have hC2 := Kd.C_below hC hb
 obtain ⟨cB, fB⟩ := blk_at hb2
 obtain ⟨cM, fM⟩ := blk_at hM
 go_enter Tryd.func50, Tryd.ntmps50
 go_upto_region 2 with fail
 generalize w.alloc _ = wA at *
 have k1 : wA.cell? ⟨r, 2, none⟩ = some (.slice A xs.length c) := cB 2
 have m0 : wA.cell? ⟨w.heap.size, 0, none⟩ = some (.int .u64 7701) := cM 0
 have m1 : wA.cell? ⟨w.heap.size, 1, none⟩ = some (.int .u64 7702) := cM 1
 clear cB fB cM fM hbox hb2 hM hC
 go_wp2_with fail
 go_loopw [4] (fun iv wx => ∃ i : Nat, i <= xs.length /\ iv = .int .i64 i /\ wx = wA) (fun iv _ => xs.length - (intOf iv).toNat)
 case atStart => exact ⟨0, by omega, rfl, rfl⟩
 case round =>
  obtain ⟨i, hi, rfl, rfl⟩ := hrel
  by_cases hlt : i < xs.length
  ·have dlt : decide ((i : Int) < (xs.length : Int)) = true := decide_eq_true (by omega)
   have i0 : (0 : Int) <= (i : Int) := by omega
   have i1 : (i : Int) < (xs.length : Int) := by omega
   obtain ⟨l, hl1⟩ := hE _ (getD_mem [] hlt)
   obtain ⟨ad, A1, c1, rfl, hc, hc1, hC1⟩ := sl_at (show Kd.C (Kd.slice 25 (Kd.int .u64)) _ _ _ _ from hC2) i hlt
   rw [hl1] at hc hc1 hC1
   have hll : (l ++ mkW).length = l.length + 40 := by rw [List.length_append]; rfl
   rw [hll] at hc hc1 hC1
   have hmx := hC1.2.1
   generalize hn : l.length = n at *
   have HN := Lib.hid hn
   clear hn hll
   go_wp2_with fail
   go_loopw [6] (fun kv wx => ∃ k : Nat, k <= 40 /\ kv = .int .i64 k /\ wx = wr) (fun kv _ => 40 - (intOf kv).toNat)
   case atStart => exact ⟨0, by omega, rfl, rfl⟩
   case round =>
    obtain ⟨k, hk, rfl, rfl⟩ := hrel
    by_cases hkt : k < 40
    ·have dk : decide ((k : Int) < 40) = true := decide_eq_true (by omega)
     obtain ⟨ad1, rfl, hcx⟩ := int_at hC1 (n + k) (by omega)
     have hx : (l ++ mkW).getD (n + k) 0 = mkW.getD k 0 := by rw [<- HN.out]; exact end_at l mkW k 0
     rw [hx, mkW_at k hkt] at hcx
     have k0 : (0 : Int) <= (k : Int) := by omega
     have z0 : (0 : Int) <= (n : Int) + (k : Int) := by omega
     have z1 : (n : Int) + (k : Int) < (n : Int) + 40 := by omega
     have z2 : ((n : Int) + (k : Int)).toNat = n + k := by omega
     have e2 : ((k : Int).tmod 2) = ((k % 2 : Nat) : Int) := rfl
     rcases Nat.mod_two_eq_zero_or_one k with e | e
     ·rw [if_pos e] at hcx
      rw [e] at e2
      go_wp2_with fail
      exact ⟨⟨k + 1, by omega, by simp, trivial⟩, by simp [intOf]; omega⟩
     ·rw [if_neg (by omega)] at hcx
      rw [e] at e2
      go_wp2_with fail
      exact ⟨⟨k + 1, by omega, by simp, trivial⟩, by simp [intOf]; omega⟩
    ·have dk : decide ((k : Int) < 40) = false := decide_eq_false (by omega)
     go_wp2_with fail
     exact ⟨⟨i + 1, by omega, by simp, trivial⟩, by simp [intOf]; omega⟩
  ·have dlt : decide ((i : Int) < (xs.length : Int)) = false := decide_eq_false (by omega)
   go_wp2_with fail
   go_ret
   exact ⟨rfl, hb⟩
end
section
theorem mk2_at : ∀ k, k < 8 -> mk2.getD k [] = if k % 2 = 0 then [-7701] else [-7702] := by decide
theorem add_zero' (a : Addr) : a.add 0 = a := by
 cases a
 simp [Addr.add]
set_option maxRecDepth 100000 in
set_option maxHeartbeats 8000000 in
theorem holdIntLists_true (w : World) (B r : Nat) (V : Nat -> Value) (N : Nat) (ex : Nat -> Prop) (hr : RoomAt w B r V N ex) (hN : N <= 8388608) :
  Calls Tryd.prog 53 #[.pointer (some ⟨r, 0, none⟩)] w fun e w' => e = .returned (.bool true) /\ Below w.heap.size w w' := by
 obtain ⟨A, xs, c, hv, hl, hC, hE⟩ := Rwk.read (hr.row 2 (by omega))
 have hbox := hr.box
 rw [hv] at hbox
 have rr := blk_lt hbox
 clear hr hv
 have s1 := alloc_sz w (.cells #[.int .i64 (-7701)] 3 (0, 0))
 have hb1 := (Below.refl w.heap.size w).alloc (Nat.le_refl _) (.cells #[.int .i64 (-7701)] 3 (0, 0))
 have hM1 := blk_new w (.cells #[.int .i64 (-7701)] 3 (0, 0))
 go_enter Tryd.func53, Tryd.ntmps53
 go_upto_region 2 with fail
 generalize w.alloc (.cells #[.int .i64 (-7701)] 3) = w1 at *
 have s2 := alloc_sz w1 (.cells #[.int .i64 (-7702)] 3 (0, 0))
 have hb2 := (Below.refl w1.heap.size w1).alloc (Nat.le_refl _) (.cells #[.int .i64 (-7702)] 3 (0, 0))
 have hM2 := blk_new w1 (.cells #[.int .i64 (-7702)] 3 (0, 0))
 generalize w1.alloc (.cells #[.int .i64 (-7702)] 3) = w2 at *
 have s3 := alloc_sz w2 (.cells #[.slice (some ⟨w.heap.size, 0, none⟩) 1 1, .slice (some ⟨w.heap.size + 1, 0, none⟩) 1 1] 24 (0, 0))
 have hb3 := (Below.refl w2.heap.size w2).alloc (Nat.le_refl _) (.cells #[.slice (some ⟨w.heap.size, 0, none⟩) 1 1, .slice (some ⟨w.heap.size + 1, 0, none⟩) 1 1] 24 (0, 0))
 have hM3 := blk_new w2 (.cells #[.slice (some ⟨w.heap.size, 0, none⟩) 1 1, .slice (some ⟨w.heap.size + 1, 0, none⟩) 1 1] 24 (0, 0))
 generalize w2.alloc _ = wA at *
 have e1 : w1.heap.size = w.heap.size + 1 := s1
 have e2 : w2.heap.size = w.heap.size + 1 + 1 := by omega
 rw [e1] at hM2
 rw [e2] at hM3
 have hbA := hb1.trans ((hb2.mono (show w.heap.size <= w1.heap.size by omega)).trans (hb3.mono (show w.heap.size <= w2.heap.size by omega)))
 have hM2' := (hb3.block (w.heap.size + 1) (by omega)).trans hM2
 have hM1' := (hb3.block w.heap.size (by omega)).trans ((hb2.block w.heap.size (by omega)).trans hM1)
 have hbox' := box_keep hbox hbA
 have hC2 : Kd.C kFrames wA A xs.length xs := C_kS2 (Kd.C_below hC hbA)
 have sA : wA.heap.size = w.heap.size + 1 + 1 + 1 := by omega
 clear hM1 hM2 hbox hC s1 s2 s3 hb1 hb2 hb3 e1 e2
 have FC := Lib.hid (fun (W : World) (hb : Below wA.heap.size wA W) => (by
  have q1 := (blk_at (box_keep hbox' hb)).1 5
  have q2 := (blk_at (box_keep hM3 hb)).1
  have q3 := (blk_at (box_keep hM1' hb)).1 0
  have q4 := (blk_at (box_keep hM2' hb)).1 0
  exact ⟨q1, q2 0, q2 1, q3, q4⟩ : W.cell? ⟨r, 5, none⟩ = some (.slice A xs.length c) /\ W.cell? ⟨w.heap.size + 1 + 1, 0, none⟩ = some (.slice (some ⟨w.heap.size, 0, none⟩) 1 1) /\ W.cell? ⟨w.heap.size + 1 + 1, 1, none⟩ = some (.slice (some ⟨w.heap.size + 1, 0, none⟩) 1 1) /\ W.cell? ⟨w.heap.size, 0, none⟩ = some (.int .i64 (-7701)) /\ W.cell? ⟨w.heap.size + 1, 0, none⟩ = some (.int .i64 (-7702))))
 go_wp2_with fail
 go_loopw [4] (fun iv wx => ∃ i : Nat, i <= xs.length /\ iv = .int .i64 i /\ Below wA.heap.size wA wx) (fun iv _ => xs.length - (intOf iv).toNat)
 case atStart => exact ⟨0, by omega, rfl, Below.refl _ _⟩
 case round =>
  obtain ⟨i, hi, rfl, hbr⟩ := hrel
  obtain ⟨q1, -, -, -, -⟩ := FC.out _ hbr
  by_cases hlt : i < xs.length
  ·have dlt : decide ((i : Int) < (xs.length : Int)) = true := decide_eq_true (by omega)
   have i0 : (0 : Int) <= (i : Int) := by omega
   have i1 : (i : Int) < (xs.length : Int) := by omega
   obtain ⟨l, hl1⟩ := hE _ (getD_mem [] hlt)
   obtain ⟨ad, A1, c1, rfl, hc, hc1, hC1⟩ := sl_at hC2 i hlt
   rw [hl1] at hc hc1 hC1
   have hll : (l ++ mk2).length = l.length + 8 := by rw [List.length_append]; rfl
   rw [hll] at hc hc1 hC1
   have hmx := hC1.2.1
   generalize hn : l.length = n at *
   have HN := Lib.hid hn
   clear hn hll
   have hcr := cell_later hbr hc
   go_wp2_with fail
   clear q1 hcr
   go_loopw [6] (fun kv wx => ∃ k : Nat, k <= 8 /\ kv = .int .i64 k /\ Below wA.heap.size wA wx) (fun kv _ => 8 - (intOf kv).toNat)
   case atStart => exact ⟨0, by omega, rfl, hbr⟩
   case round =>
    clear hbr
    obtain ⟨k, hk, rfl, hbr⟩ := hrel
    obtain ⟨q1, q2, q3, q4, q5⟩ := FC.out _ hbr
    have hcr := cell_later hbr hc
    by_cases hkt : k < 8
    ·have dk : decide ((k : Int) < 8) = true := decide_eq_true (by omega)
     obtain ⟨ad1, A2, c2, rfl, hcx, hc2, hC3⟩ := sl_at hC1 (n + k) (by omega)
     have hx : (l ++ mk2).getD (n + k) [] = mk2.getD k [] := by rw [<- HN.out]; exact end_at l mk2 k []
     rw [hx, mk2_at k hkt] at hcx hc2 hC3
     have k0 : (0 : Int) <= (k : Int) := by omega
     have z0 : (0 : Int) <= (n : Int) + (k : Int) := by omega
     have z1 : (n : Int) + (k : Int) < (n : Int) + 8 := by omega
     have z2 : ((n : Int) + (k : Int)).toNat = n + k := by omega
     have e2 : ((k : Int).tmod 2) = ((k % 2 : Nat) : Int) := rfl
     rcases Nat.mod_two_eq_zero_or_one k with e | e
     ·rw [if_pos e] at hcx hc2 hC3
      rw [e] at e2
      obtain ⟨ad2, rfl, hcy⟩ := int_at hC3 0 (by simp)
      rw [add_zero'] at hcy
      have hcxr := cell_later hbr hcx
      have hcyr := cell_later hbr hcy
      clear hcx hcy
      simp only [List.length_singleton, List.getD_cons_zero] at hcxr hcyr
      go_upto_region 11 with fail
      go_quiet (fail)
      go_wp2_with fail
      exact ⟨⟨k + 1, by omega, by simp, below_drN hbr nq⟩, by simp [intOf]; omega⟩
     ·rw [if_neg (by omega)] at hcx hc2 hC3
      rw [e] at e2
      obtain ⟨ad2, rfl, hcy⟩ := int_at hC3 0 (by simp)
      rw [add_zero'] at hcy
      have hcxr := cell_later hbr hcx
      have hcyr := cell_later hbr hcy
      clear hcx hcy
      simp only [List.length_singleton, List.getD_cons_zero] at hcxr hcyr
      go_upto_region 11 with fail
      go_quiet (fail)
      go_wp2_with fail
      exact ⟨⟨k + 1, by omega, by simp, below_drN hbr nq⟩, by simp [intOf]; omega⟩
    ·have dk : decide ((k : Int) < 8) = false := decide_eq_false (by omega)
     go_wp2_with fail
     exact ⟨⟨i + 1, by omega, by simp, hbr⟩, by simp [intOf]; omega⟩
  ·have dlt : decide ((i : Int) < (xs.length : Int)) = false := decide_eq_false (by omega)
   go_wp2_with fail
   go_ret
   exact ⟨rfl, hbA.trans (hbr.mono (by omega))⟩
end
section
theorem mk3_at : ∀ k, k < 8 -> mk3.getD k [] = if k % 2 = 0 then [[-7701]] else [[-7702]] := by decide
set_option maxRecDepth 100000 in
set_option maxHeartbeats 8000000 in
theorem holdFrames_true (w : World) (B r : Nat) (V : Nat -> Value) (N : Nat) (ex : Nat -> Prop) (hr : RoomAt w B r V N ex) (hN : N <= 8388608) :
  Calls Tryd.prog 54 #[.pointer (some ⟨r, 0, none⟩)] w fun e w' => e = .returned (.bool true) /\ Below w.heap.size w w' := by
 obtain ⟨A, xs, c, hv, hl, hC, hE⟩ := Rwk.read (hr.row 3 (by omega))
 have hbox := hr.box
 rw [hv] at hbox
 have rr := blk_lt hbox
 clear hr hv
 go_enter Tryd.func54, Tryd.ntmps54
 go_upto_region 2 with fail
 have s1 := alloc_sz w (.cells #[.int .i64 (-7701)] 3 (0, 0))
 have hb1 := (Below.refl w.heap.size w).alloc (Nat.le_refl _) (.cells #[.int .i64 (-7701)] 3 (0, 0))
 have hM1 := blk_new w (.cells #[.int .i64 (-7701)] 3 (0, 0))
 generalize w.alloc _ = w1 at *
 have s2 := alloc_sz w1 (.cells #[.slice (some ⟨w.heap.size, 0, none⟩) 1 1] 24 (0, 0))
 have hb2 := (Below.refl w1.heap.size w1).alloc (Nat.le_refl _) (.cells #[.slice (some ⟨w.heap.size, 0, none⟩) 1 1] 24 (0, 0))
 have hM2 := blk_new w1 (.cells #[.slice (some ⟨w.heap.size, 0, none⟩) 1 1] 24 (0, 0))
 generalize w1.alloc _ = w2 at *
 have s3 := alloc_sz w2 (.cells #[.int .i64 (-7702)] 3 (0, 0))
 have hb3 := (Below.refl w2.heap.size w2).alloc (Nat.le_refl _) (.cells #[.int .i64 (-7702)] 3 (0, 0))
 have hM3 := blk_new w2 (.cells #[.int .i64 (-7702)] 3 (0, 0))
 generalize w2.alloc _ = w3 at *
 have s4 := alloc_sz w3 (.cells #[.slice (some ⟨w.heap.size + 1 + 1, 0, none⟩) 1 1] 24 (0, 0))
 have hb4 := (Below.refl w3.heap.size w3).alloc (Nat.le_refl _) (.cells #[.slice (some ⟨w.heap.size + 1 + 1, 0, none⟩) 1 1] 24 (0, 0))
 have hM4 := blk_new w3 (.cells #[.slice (some ⟨w.heap.size + 1 + 1, 0, none⟩) 1 1] 24 (0, 0))
 generalize w3.alloc _ = w4 at *
 have s5 := alloc_sz w4 (.cells #[.slice (some ⟨w.heap.size + 1, 0, none⟩) 1 1, .slice (some ⟨w.heap.size + 1 + 1 + 1, 0, none⟩) 1 1] 30 (0, 0))
 have hb5 := (Below.refl w4.heap.size w4).alloc (Nat.le_refl _) (.cells #[.slice (some ⟨w.heap.size + 1, 0, none⟩) 1 1, .slice (some ⟨w.heap.size + 1 + 1 + 1, 0, none⟩) 1 1] 30 (0, 0))
 have hM5 := blk_new w4 (.cells #[.slice (some ⟨w.heap.size + 1, 0, none⟩) 1 1, .slice (some ⟨w.heap.size + 1 + 1 + 1, 0, none⟩) 1 1] 30 (0, 0))
 generalize w4.alloc _ = wA at *
 have e1 : w1.heap.size = w.heap.size + 1 := s1
 have e2 : w2.heap.size = w.heap.size + 1 + 1 := by omega
 have e3 : w3.heap.size = w.heap.size + 1 + 1 + 1 := by omega
 have e4 : w4.heap.size = w.heap.size + 1 + 1 + 1 + 1 := by omega
 rw [e1] at hM2
 rw [e2] at hM3
 rw [e3] at hM4
 rw [e4] at hM5
 have hbA := hb1.trans ((hb2.mono (show w.heap.size <= w1.heap.size by omega)).trans ((hb3.mono (show w.heap.size <= w2.heap.size by omega)).trans ((hb4.mono (show w.heap.size <= w3.heap.size by omega)).trans (hb5.mono (show w.heap.size <= w4.heap.size by omega)))))
 have up : ∀ k, k < w4.heap.size -> wA.heap[k]? = w4.heap[k]? := fun k hk => hb5.block k hk
 have up3 : ∀ k, k < w3.heap.size -> wA.heap[k]? = w3.heap[k]? := fun k hk => (up k (by omega)).trans (hb4.block k hk)
 have up2 : ∀ k, k < w2.heap.size -> wA.heap[k]? = w2.heap[k]? := fun k hk => (up3 k (by omega)).trans (hb3.block k hk)
 have up1 : ∀ k, k < w1.heap.size -> wA.heap[k]? = w1.heap[k]? := fun k hk => (up2 k (by omega)).trans (hb2.block k hk)
 have hM4' := (up _ (by omega)).trans hM4
 have hM3' := (up3 _ (by omega)).trans hM3
 have hM2' := (up2 _ (by omega)).trans hM2
 have hM1' := (up1 w.heap.size (by omega)).trans hM1
 have hbox' := box_keep hbox hbA
 have hC2 : Kd.C (Kd.slice 30 kFrames) wA A xs.length xs := Kd.C_below hC hbA
 have sA : wA.heap.size = w.heap.size + 1 + 1 + 1 + 1 + 1 := by omega
 clear up up3 up2 up1 hM1 hM2 hM3 hM4 hbox hC s1 s2 s3 s4 s5 hb1 hb2 hb3 hb4 hb5 e1 e2 e3 e4
 have FC := Lib.hid (fun (W : World) (hb : Below wA.heap.size wA W) => (by
  have q1 := (blk_at (box_keep hbox' hb)).1 6
  have q2 := (blk_at (box_keep hM5 hb)).1
  have q3 := (blk_at (box_keep hM1' hb)).1 0
  have q4 := (blk_at (box_keep hM2' hb)).1 0
  have q5 := (blk_at (box_keep hM3' hb)).1 0
  have q6 := (blk_at (box_keep hM4' hb)).1 0
  exact ⟨q1, q2 0, q2 1, q3, q5, q4, q6⟩ : W.cell? ⟨r, 6, none⟩ = some (.slice A xs.length c) /\ W.cell? ⟨w.heap.size + 1 + 1 + 1 + 1, 0, none⟩ = some (.slice (some ⟨w.heap.size + 1, 0, none⟩) 1 1) /\ W.cell? ⟨w.heap.size + 1 + 1 + 1 + 1, 1, none⟩ = some (.slice (some ⟨w.heap.size + 1 + 1 + 1, 0, none⟩) 1 1) /\ W.cell? ⟨w.heap.size, 0, none⟩ = some (.int .i64 (-7701)) /\ W.cell? ⟨w.heap.size + 1 + 1, 0, none⟩ = some (.int .i64 (-7702)) /\ W.cell? ⟨w.heap.size + 1, 0, none⟩ = some (.slice (some ⟨w.heap.size, 0, none⟩) 1 1) /\ W.cell? ⟨w.heap.size + 1 + 1 + 1, 0, none⟩ = some (.slice (some ⟨w.heap.size + 1 + 1, 0, none⟩) 1 1)))
 go_wp2_with fail
 go_loopw [4] (fun iv wx => ∃ i : Nat, i <= xs.length /\ iv = .int .i64 i /\ Below wA.heap.size wA wx) (fun iv _ => xs.length - (intOf iv).toNat)
 case atStart => exact ⟨0, by omega, rfl, Below.refl _ _⟩
 case round =>
  obtain ⟨i, hi, rfl, hbr⟩ := hrel
  obtain ⟨q1, -, -, -, -, -, -⟩ := FC.out _ hbr
  by_cases hlt : i < xs.length
  ·have dlt : decide ((i : Int) < (xs.length : Int)) = true := decide_eq_true (by omega)
   have i0 : (0 : Int) <= (i : Int) := by omega
   have i1 : (i : Int) < (xs.length : Int) := by omega
   obtain ⟨l, hl1⟩ := hE _ (getD_mem [] hlt)
   obtain ⟨ad, A1, c1, rfl, hc, hc1, hC1⟩ := sl_at hC2 i hlt
   rw [hl1] at hc hc1 hC1
   have hll : (l ++ mk3).length = l.length + 8 := by rw [List.length_append]; rfl
   rw [hll] at hc hc1 hC1
   have hmx := hC1.2.1
   generalize hn : l.length = n at *
   have HN := Lib.hid hn
   clear hn hll
   have hcr := cell_later hbr hc
   go_wp2_with fail
   clear q1 hcr
   go_loopw [6] (fun kv wx => ∃ k : Nat, k <= 8 /\ kv = .int .i64 k /\ Below wA.heap.size wA wx) (fun kv _ => 8 - (intOf kv).toNat)
   case atStart => exact ⟨0, by omega, rfl, hbr⟩
   case round =>
    clear hbr
    obtain ⟨k, hk, rfl, hbr⟩ := hrel
    obtain ⟨q1, q2, q3, q4, q5, q6, q7⟩ := FC.out _ hbr
    have hcr := cell_later hbr hc
    by_cases hkt : k < 8
    ·have dk : decide ((k : Int) < 8) = true := decide_eq_true (by omega)
     obtain ⟨ad1, A2, c2, rfl, hcx, hc2, hC3⟩ := sl_at hC1 (n + k) (by omega)
     have hx : (l ++ mk3).getD (n + k) [] = mk3.getD k [] := by rw [<- HN.out]; exact end_at l mk3 k []
     rw [hx, mk3_at k hkt] at hcx hc2 hC3
     have k0 : (0 : Int) <= (k : Int) := by omega
     have z0 : (0 : Int) <= (n : Int) + (k : Int) := by omega
     have z1 : (n : Int) + (k : Int) < (n : Int) + 8 := by omega
     have z2 : ((n : Int) + (k : Int)).toNat = n + k := by omega
     have e2 : ((k : Int).tmod 2) = ((k % 2 : Nat) : Int) := rfl
     rcases Nat.mod_two_eq_zero_or_one k with e | e
     ·rw [if_pos e] at hcx hc2 hC3
      rw [e] at e2
      obtain ⟨ad2, A3, c3, rfl, hcy, hc3, hC4⟩ := sl_at hC3 0 (by simp)
      simp only [List.getD_cons_zero] at hcy hc3 hC4
      obtain ⟨ad3, rfl, hcz⟩ := int_at hC4 0 (by simp)
      rw [add_zero'] at hcy hcz
      have hcxr := cell_later hbr hcx
      have hcyr := cell_later hbr hcy
      have hczr := cell_later hbr hcz
      clear hcx hcy hcz
      simp only [List.length_singleton, List.getD_cons_zero] at hcxr hcyr hczr
      go_upto_region 11 with fail
      go_quiet (fail)
      go_wp2_with fail
      exact ⟨⟨k + 1, by omega, by simp, below_drN hbr nq⟩, by simp [intOf]; omega⟩
     ·rw [if_neg (by omega)] at hcx hc2 hC3
      rw [e] at e2
      obtain ⟨ad2, A3, c3, rfl, hcy, hc3, hC4⟩ := sl_at hC3 0 (by simp)
      simp only [List.getD_cons_zero] at hcy hc3 hC4
      obtain ⟨ad3, rfl, hcz⟩ := int_at hC4 0 (by simp)
      rw [add_zero'] at hcy hcz
      have hcxr := cell_later hbr hcx
      have hcyr := cell_later hbr hcy
      have hczr := cell_later hbr hcz
      clear hcx hcy hcz
      simp only [List.length_singleton, List.getD_cons_zero] at hcxr hcyr hczr
      go_upto_region 11 with fail
      go_quiet (fail)
      go_wp2_with fail
      exact ⟨⟨k + 1, by omega, by simp, below_drN hbr nq⟩, by simp [intOf]; omega⟩
    ·have dk : decide ((k : Int) < 8) = false := decide_eq_false (by omega)
     go_wp2_with fail
     exact ⟨⟨i + 1, by omega, by simp, hbr⟩, by simp [intOf]; omega⟩
  ·have dlt : decide ((i : Int) < (xs.length : Int)) = false := decide_eq_false (by omega)
   go_wp2_with fail
   go_ret
   exact ⟨rfl, hbA.trans (hbr.mono (by omega))⟩
end
section
theorem mkO_at (k : Nat) (hk : k < 8) : mkO.getD k default = if k % 2 = 0 then obM (-7701) else obM (-7702) :=
 match k, hk with
 | 0, _ => rfl
 | 1, _ => rfl
 | 2, _ => rfl
 | 3, _ => rfl
 | 4, _ => rfl
 | 5, _ => rfl
 | 6, _ => rfl
 | 7, _ => rfl
 | _ + 8, h => by omega
set_option maxRecDepth 100000 in
set_option maxHeartbeats 8000000 in
theorem holdObjects_true (w : World) (B r : Nat) (V : Nat -> Value) (N : Nat) (ex : Nat -> Prop) (hr : RoomAt w B r V N ex) (hN : N <= 8388608) :
  Calls Tryd.prog 55 #[.pointer (some ⟨r, 0, none⟩)] w fun e w' => e = .returned (.bool true) /\ Below w.heap.size w w' := by
 obtain ⟨A, xs, c, hv, hl, hC, hE⟩ := Rwk.read (hr.row 4 (by omega))
 have hbox := hr.box
 rw [hv] at hbox
 have rr := blk_lt hbox
 clear hr hv
 have s1 := alloc_sz w (.cells #[.int .u64 0, .int .i64 (-7701), .int .i64 0, .slice none 0 0, .slice none 0 0, .int .u64 0, .int .i64 (-7702), .int .i64 0, .slice none 0 0, .slice none 0 0] 59 (0, 0))
 have hbA := (Below.refl w.heap.size w).alloc (Nat.le_refl _) (.cells #[.int .u64 0, .int .i64 (-7701), .int .i64 0, .slice none 0 0, .slice none 0 0, .int .u64 0, .int .i64 (-7702), .int .i64 0, .slice none 0 0, .slice none 0 0] 59 (0, 0))
 have hM := blk_new w (.cells #[.int .u64 0, .int .i64 (-7701), .int .i64 0, .slice none 0 0, .slice none 0 0, .int .u64 0, .int .i64 (-7702), .int .i64 0, .slice none 0 0, .slice none 0 0] 59 (0, 0))
 go_enter Tryd.func55, Tryd.ntmps55
 go_upto_region 2 with fail
 generalize w.alloc _ = wA at *
 have hbox' := box_keep hbox hbA
 have hC2 : Kd.C (Kd.slice 59 kOb) wA A xs.length xs := Kd.C_below hC hbA
 have sA : wA.heap.size = w.heap.size + 1 := s1
 clear hbox hC s1
 have FC := Lib.hid (fun (W : World) (hb : Below wA.heap.size wA W) => (by
  have q1 := (blk_at (box_keep hbox' hb)).1 7
  have q2 := (blk_at (box_keep hM hb)).1
  exact ⟨q1, q2 0, q2 1, q2 2, q2 3, q2 4, q2 5, q2 6, q2 7, q2 8, q2 9⟩ : W.cell? ⟨r, 7, none⟩ = some (.slice A xs.length c) /\ W.cell? ⟨w.heap.size, 0, none⟩ = some (.int .u64 0) /\ W.cell? ⟨w.heap.size, 1, none⟩ = some (.int .i64 (-7701)) /\ W.cell? ⟨w.heap.size, 2, none⟩ = some (.int .i64 0) /\ W.cell? ⟨w.heap.size, 3, none⟩ = some (.slice none 0 0) /\ W.cell? ⟨w.heap.size, 4, none⟩ = some (.slice none 0 0) /\ W.cell? ⟨w.heap.size, 5, none⟩ = some (.int .u64 0) /\ W.cell? ⟨w.heap.size, 6, none⟩ = some (.int .i64 (-7702)) /\ W.cell? ⟨w.heap.size, 7, none⟩ = some (.int .i64 0) /\ W.cell? ⟨w.heap.size, 8, none⟩ = some (.slice none 0 0) /\ W.cell? ⟨w.heap.size, 9, none⟩ = some (.slice none 0 0)))
 go_wp2_with fail
 go_loopw [4] (fun iv wx => ∃ i : Nat, i <= xs.length /\ iv = .int .i64 i /\ Below wA.heap.size wA wx) (fun iv _ => xs.length - (intOf iv).toNat)
 case atStart => exact ⟨0, by omega, rfl, Below.refl _ _⟩
 case round =>
  obtain ⟨i, hi, rfl, hbr⟩ := hrel
  obtain ⟨q1, -⟩ := FC.out _ hbr
  by_cases hlt : i < xs.length
  ·have dlt : decide ((i : Int) < (xs.length : Int)) = true := decide_eq_true (by omega)
   have i0 : (0 : Int) <= (i : Int) := by omega
   have i1 : (i : Int) < (xs.length : Int) := by omega
   obtain ⟨l, hl1⟩ := hE _ (getD_mem [] hlt)
   obtain ⟨ad, A1, c1, rfl, hc, hc1, hC1⟩ := sl_at hC2 i hlt
   rw [hl1] at hc hc1 hC1
   have hll : (l ++ mkO).length = l.length + 8 := by rw [List.length_append]; rfl
   rw [hll] at hc hc1 hC1
   have hmx := hC1.2.1
   generalize hn : l.length = n at *
   have HN := Lib.hid hn
   clear hn hll
   have hcr := cell_later hbr hc
   go_wp2_with fail
   clear q1 hcr
   go_loopw [6] (fun kv wx => ∃ k : Nat, k <= 8 /\ kv = .int .i64 k /\ Below wA.heap.size wA wx) (fun kv _ => 8 - (intOf kv).toNat)
   case atStart => exact ⟨0, by omega, rfl, hbr⟩
   case round =>
    clear hbr
    obtain ⟨k, hk, rfl, hbr⟩ := hrel
    obtain ⟨q1, p0, p1, p2, p3, p4, p5, p6, p7, p8, p9⟩ := FC.out _ hbr
    have hcr := cell_later hbr hc
    by_cases hkt : k < 8
    ·have dk : decide ((k : Int) < 8) = true := decide_eq_true (by omega)
     obtain ⟨ad1, A3, c3, A4, c4, rfl, x0, x1, x2, x3, x4, -, -, -, -⟩ := ob_at hC1 (n + k) (by omega)
     have hx : (l ++ mkO).getD (n + k) default = mkO.getD k default := by rw [<- HN.out]; exact end_at l mkO k default
     rw [hx, mkO_at k hkt] at x0 x1 x2 x3 x4
     have k0 : (0 : Int) <= (k : Int) := by omega
     have z0 : (0 : Int) <= (n : Int) + (k : Int) := by omega
     have z1 : (n : Int) + (k : Int) < (n : Int) + 8 := by omega
     have z2 : ((n : Int) + (k : Int)).toNat = n + k := by omega
     have e2 : ((k : Int).tmod 2) = ((k % 2 : Nat) : Int) := rfl
     rcases Nat.mod_two_eq_zero_or_one k with e | e
     ·rw [if_pos e] at x0 x1 x2 x3 x4
      rw [e] at e2
      have y0 := cell_later hbr x0
      have y1 := cell_later hbr x1
      have y2 := cell_later hbr x2
      have y3 := cell_later hbr x3
      have y4 := cell_later hbr x4
      clear x0 x1 x2 x3 x4
      simp only [obM, List.length_nil] at y0 y1 y2 y3 y4
      go_upto_region 10 with fail
      have hbx := hbr.alloc hbr.size (.cells #[.int .u64 0, .int .i64 (-7701), .int .i64 0, .slice A3 0 c3, .slice A4 0 c4] 59 (0, 0))
      have hX := blk_new wr (.cells #[.int .u64 0, .int .i64 (-7701), .int .i64 0, .slice A3 0 c3, .slice A4 0 c4] 59 (0, 0))
      have bx := (Below.refl wr.heap.size wr).alloc (Nat.le_refl _) (.cells #[.int .u64 0, .int .i64 (-7701), .int .i64 0, .slice A3 0 c3, .slice A4 0 c4] 59 (0, 0))
      generalize wr.alloc _ = wx at *
      clear q1 p0 p1 p2 p3 p4 p5 p6 p7 p8 p9 y0 y1 y2 y3 y4
      obtain ⟨q1, p0, p1, p2, p3, p4, p5, p6, p7, p8, p9⟩ := FC.out _ hbx
      go_upto_region 11 with fail
      have hby := hbx.alloc hbx.size (.cells #[.int .u64 0, .int .i64 (-7701), .int .i64 0, .slice none 0 0, .slice none 0 0] 59 (0, 0))
      have hY := blk_new wx (.cells #[.int .u64 0, .int .i64 (-7701), .int .i64 0, .slice none 0 0, .slice none 0 0] 59 (0, 0))
      have hX' := box_keep hX ((Below.refl wx.heap.size wx).alloc (Nat.le_refl _) (.cells #[.int .u64 0, .int .i64 (-7701), .int .i64 0, .slice none 0 0, .slice none 0 0] 59 (0, 0)))
      generalize wx.alloc _ = wy at *
      have t1 : wy.cell? ⟨wr.heap.size, 1, none⟩ = some (.int .i64 (-7701)) := (blk_at hX').1 1
      have t3 : wy.cell? ⟨wr.heap.size, 3, none⟩ = some (.slice A3 0 c3) := (blk_at hX').1 3
      have t5 : wy.cell? ⟨wx.heap.size, 1, none⟩ = some (.int .i64 (-7701)) := (blk_at hY).1 1
      go_wp2_with fail
      exact ⟨⟨k + 1, by omega, by simp, hby⟩, by simp [intOf]; omega⟩
     ·rw [if_neg (by omega)] at x0 x1 x2 x3 x4
      rw [e] at e2
      have y0 := cell_later hbr x0
      have y1 := cell_later hbr x1
      have y2 := cell_later hbr x2
      have y3 := cell_later hbr x3
      have y4 := cell_later hbr x4
      clear x0 x1 x2 x3 x4
      simp only [obM, List.length_nil] at y0 y1 y2 y3 y4
      go_upto_region 10 with fail
      have hbx := hbr.alloc hbr.size (.cells #[.int .u64 0, .int .i64 (-7702), .int .i64 0, .slice A3 0 c3, .slice A4 0 c4] 59 (0, 0))
      have hX := blk_new wr (.cells #[.int .u64 0, .int .i64 (-7702), .int .i64 0, .slice A3 0 c3, .slice A4 0 c4] 59 (0, 0))
      have bx := (Below.refl wr.heap.size wr).alloc (Nat.le_refl _) (.cells #[.int .u64 0, .int .i64 (-7702), .int .i64 0, .slice A3 0 c3, .slice A4 0 c4] 59 (0, 0))
      generalize wr.alloc _ = wx at *
      clear q1 p0 p1 p2 p3 p4 p5 p6 p7 p8 p9 y0 y1 y2 y3 y4
      obtain ⟨q1, p0, p1, p2, p3, p4, p5, p6, p7, p8, p9⟩ := FC.out _ hbx
      go_upto_region 11 with fail
      have hby := hbx.alloc hbx.size (.cells #[.int .u64 0, .int .i64 (-7702), .int .i64 0, .slice none 0 0, .slice none 0 0] 59 (0, 0))
      have hY := blk_new wx (.cells #[.int .u64 0, .int .i64 (-7702), .int .i64 0, .slice none 0 0, .slice none 0 0] 59 (0, 0))
      have hX' := box_keep hX ((Below.refl wx.heap.size wx).alloc (Nat.le_refl _) (.cells #[.int .u64 0, .int .i64 (-7702), .int .i64 0, .slice none 0 0, .slice none 0 0] 59 (0, 0)))
      generalize wx.alloc _ = wy at *
      have t1 : wy.cell? ⟨wr.heap.size, 1, none⟩ = some (.int .i64 (-7702)) := (blk_at hX').1 1
      have t3 : wy.cell? ⟨wr.heap.size, 3, none⟩ = some (.slice A3 0 c3) := (blk_at hX').1 3
      have t5 : wy.cell? ⟨wx.heap.size, 1, none⟩ = some (.int .i64 (-7702)) := (blk_at hY).1 1
      go_wp2_with fail
      exact ⟨⟨k + 1, by omega, by simp, hby⟩, by simp [intOf]; omega⟩
    ·have dk : decide ((k : Int) < 8) = false := decide_eq_false (by omega)
     go_wp2_with fail
     exact ⟨⟨i + 1, by omega, by simp, hbr⟩, by simp [intOf]; omega⟩
  ·have dlt : decide ((i : Int) < (xs.length : Int)) = false := decide_eq_false (by omega)
   go_wp2_with fail
   go_ret
   exact ⟨rfl, hbA.trans (hbr.mono (by omega))⟩
end
section
set_option maxRecDepth 100000 in
set_option maxHeartbeats 8000000 in
theorem holdBytes_true (w : World) (B r : Nat) (V : Nat -> Value) (N : Nat) (ex : Nat -> Prop) (hr : RoomAt w B r V N ex) :
  Calls Tryd.prog 48 #[.pointer (some ⟨r, 0, none⟩)] w fun e w' => e = .returned (.bool true) /\ Below w.heap.size w w' := by
 have hbox := hr.box
 have rr := blk_lt hbox
 clear hr
 have hb0 : ∀ o : Obj, Below w.heap.size w (w.alloc o) := fun o => (Below.refl _ _).alloc (Nat.le_refl _) o
 go_enter Tryd.func48, Tryd.ntmps48
 go_upto_region 2 with fail
 generalize hA : w.alloc _ = wA
 have hb : Below w.heap.size w wA := by rw [<- hA]; exact hb0 _
 clear hA hb0
 have k1 : wA.cell? ⟨r, 0, none⟩ = some (.slice none 0 0) := (blk_at (box_keep hbox hb)).1 0
 go_wp2_with fail
 go_loopw [4] (fun iv wx => iv = .int .i64 0 /\ wx = wA) (fun iv _ => 0)
 case atStart => exact ⟨rfl, rfl⟩
 case round =>
  obtain ⟨rfl, rfl⟩ := hrel
  go_wp2_with fail
  go_ret
  exact ⟨rfl, hb⟩
set_option maxRecDepth 100000 in
set_option maxHeartbeats 8000000 in
theorem holdTexts_true (w : World) (B r : Nat) (V : Nat -> Value) (N : Nat) (ex : Nat -> Prop) (hr : RoomAt w B r V N ex) :
  Calls Tryd.prog 51 #[.pointer (some ⟨r, 0, none⟩)] w fun e w' => e = .returned (.bool true) /\ Below w.heap.size w w' := by
 have hbox := hr.box
 have rr := blk_lt hbox
 clear hr
 have hb0 : ∀ o : Obj, Below w.heap.size w (w.alloc o) := fun o => (Below.refl _ _).alloc (Nat.le_refl _) o
 go_enter Tryd.func51, Tryd.ntmps51
 go_upto_region 2 with fail
 generalize hA : w.alloc _ = wA
 have hb : Below w.heap.size w wA := by rw [<- hA]; exact hb0 _
 clear hA hb0
 have k1 : wA.cell? ⟨r, 3, none⟩ = some (.slice none 0 0) := (blk_at (box_keep hbox hb)).1 3
 go_wp2_with fail
 go_loopw [4] (fun iv wx => iv = .int .i64 0 /\ wx = wA) (fun iv _ => 0)
 case atStart => exact ⟨rfl, rfl⟩
 case round =>
  obtain ⟨rfl, rfl⟩ := hrel
  go_wp2_with fail
  go_ret
  exact ⟨rfl, hb⟩
set_option maxRecDepth 100000 in
set_option maxHeartbeats 8000000 in
theorem holdOps_true (w : World) (B r : Nat) (V : Nat -> Value) (N : Nat) (ex : Nat -> Prop) (hr : RoomAt w B r V N ex) :
  Calls Tryd.prog 52 #[.pointer (some ⟨r, 0, none⟩)] w fun e w' => e = .returned (.bool true) /\ Below w.heap.size w w' := by
 have hbox := hr.box
 have rr := blk_lt hbox
 clear hr
 have hb0 : ∀ o : Obj, Below w.heap.size w (w.alloc o) := fun o => (Below.refl _ _).alloc (Nat.le_refl _) o
 go_enter Tryd.func52, Tryd.ntmps52
 go_upto_region 2 with fail
 generalize hA : w.alloc _ = wA
 have hb : Below w.heap.size w wA := by rw [<- hA]; exact hb0 _
 clear hA hb0
 have k1 : wA.cell? ⟨r, 4, none⟩ = some (.slice none 0 0) := (blk_at (box_keep hbox hb)).1 4
 go_wp2_with fail
 go_loopw [4] (fun iv wx => iv = .int .i64 0 /\ wx = wA) (fun iv _ => 0)
 case atStart => exact ⟨rfl, rfl⟩
 case round =>
  obtain ⟨rfl, rfl⟩ := hrel
  go_wp2_with fail
  go_ret
  exact ⟨rfl, hb⟩
set_option maxRecDepth 100000 in
set_option maxHeartbeats 8000000 in
theorem hold_true (w : World) (B r : Nat) (V : Nat -> Value) (N : Nat) (ex : Nat -> Prop) (hr : RoomAt w B r V N ex) (hN : N <= 8388608) :
  Calls Tryd.prog 15 #[.pointer (some ⟨r, 0, none⟩)] w fun e w' => e = .returned (.bool true) /\ Below w.heap.size w w' := by
 have C0 := Lib.hid (fun (W : World) (hb : Below w.heap.size w W) => holdBytes_true W B r V N ex (hr.below hb))
 have C1 := Lib.hid (fun (W : World) (hb : Below w.heap.size w W) => holdInts_true W B r V N ex (hr.below hb) hN)
 have C2 := Lib.hid (fun (W : World) (hb : Below w.heap.size w W) => holdWords_true W B r V N ex (hr.below hb) hN)
 have C3 := Lib.hid (fun (W : World) (hb : Below w.heap.size w W) => holdTexts_true W B r V N ex (hr.below hb))
 have C4 := Lib.hid (fun (W : World) (hb : Below w.heap.size w W) => holdOps_true W B r V N ex (hr.below hb))
 have C5 := Lib.hid (fun (W : World) (hb : Below w.heap.size w W) => holdIntLists_true W B r V N ex (hr.below hb) hN)
 have C6 := Lib.hid (fun (W : World) (hb : Below w.heap.size w W) => holdFrames_true W B r V N ex (hr.below hb) hN)
 have C7 := Lib.hid (fun (W : World) (hb : Below w.heap.size w W) => holdObjects_true W B r V N ex (hr.below hb) hN)
 have b0 := Below.refl w.heap.size w
 go_enter Tryd.func15, Tryd.ntmps15
 go_wp2_with (first
  | (go_at_call 48; refine (C0.out _ b0).mono ?_; rintro e w1 ⟨rfl, h1⟩; have b1 := below_then b0 b0.size h1)
  | (go_at_call 49; refine (C1.out _ b1).mono ?_; rintro e w2 ⟨rfl, h2⟩; have b2 := below_then b1 b1.size h2)
  | (go_at_call 50; refine (C2.out _ b2).mono ?_; rintro e w3 ⟨rfl, h3⟩; have b3 := below_then b2 b2.size h3)
  | (go_at_call 51; refine (C3.out _ b3).mono ?_; rintro e w4 ⟨rfl, h4⟩; have b4 := below_then b3 b3.size h4)
  | (go_at_call 52; refine (C4.out _ b4).mono ?_; rintro e w5 ⟨rfl, h5⟩; have b5 := below_then b4 b4.size h5)
  | (go_at_call 53; refine (C5.out _ b5).mono ?_; rintro e w6 ⟨rfl, h6⟩; have b6 := below_then b5 b5.size h6)
  | (go_at_call 54; refine (C6.out _ b6).mono ?_; rintro e w7 ⟨rfl, h7⟩; have b7 := below_then b6 b6.size h7)
  | (go_at_call 55; refine (C7.out _ b7).mono ?_; rintro e w8 ⟨rfl, h8⟩; have b8 := below_then b7 b7.size h8))
 go_ret
 exact ⟨rfl, b8⟩
end
section
theorem same_ev (l : List Int) (hl : l.length <= 4194304) : Ev (fun k => middenlaw17_same.f k l l) true := by
 have key : ∀ (d i : Nat), i + d = l.length -> Ev (fun k => middenlaw17_same.l0 k l l (i : Int)) true := by
  intro d
  induction d with
  | zero =>
   intro i hi
   exact Ev.step (fun k => by rw [middenlaw17_same.l0, if_neg (by omega)]) (Ev.now _)
  | succ d ih =>
   intro i hi
   exact Ev.step (fun k => by rw [middenlaw17_same.l0, if_pos (by omega), if_pos (by omega), if_pos (by omega), if_pos rfl, wrap_up (by omega)]) (by simpa using ih (i + 1) (by omega))
 have := key l.length 0 (by omega)
 simpa [middenlaw17_same.f] using this
theorem sameWords_ev (l : List Int) (hl : l.length <= 4194304) : Ev (fun k => middenlaw17_sameWords.f k l l) true := by
 have key : ∀ (d i : Nat), i + d = l.length -> Ev (fun k => middenlaw17_sameWords.l0 k l l (i : Int)) true := by
  intro d
  induction d with
  | zero =>
   intro i hi
   exact Ev.step (fun k => by rw [middenlaw17_sameWords.l0, if_neg (by omega)]) (Ev.now _)
  | succ d ih =>
   intro i hi
   exact Ev.step (fun k => by rw [middenlaw17_sameWords.l0, if_pos (by omega), if_pos (by omega), if_pos (by omega), if_pos rfl, wrap_up (by omega)]) (by simpa using ih (i + 1) (by omega))
 have := key l.length 0 (by omega)
 simpa [middenlaw17_sameWords.f] using this
theorem same_q (A : Option Addr) (c : Nat) (A' : Option Addr) (c' : Nat) (l : List Int) (w : World) (h : Kd.C (Kd.int .i64) w A l.length l) (hc : l.length <= c) (h' : Kd.C (Kd.int .i64) w A' l.length l) (hc' : l.length <= c') (hl : l.length <= 4194304) :
  Calls Tryd.prog 13 #[.slice A l.length c, .slice A' l.length c'] w fun e w' => e = .returned (.bool true) /\ ∃ m, w' = w.drewN m := by
 obtain ⟨k, hk⟩ := (same_ev l hl).rounds
 exact (middenlaw17_same.calls k A c l A' c' l _ w h hc h' hc' hk).mono fun e w' h => ⟨h.1, h.2.out⟩
theorem sameWords_q (A : Option Addr) (c : Nat) (A' : Option Addr) (c' : Nat) (l : List Int) (w : World) (h : Kd.C (Kd.int .u64) w A l.length l) (hc : l.length <= c) (h' : Kd.C (Kd.int .u64) w A' l.length l) (hc' : l.length <= c') (hl : l.length <= 4194304) :
  Calls Tryd.prog 47 #[.slice A l.length c, .slice A' l.length c'] w fun e w' => e = .returned (.bool true) /\ ∃ m, w' = w.drewN m := by
 obtain ⟨k, hk⟩ := (sameWords_ev l hl).rounds
 exact (middenlaw17_sameWords.calls k A c l A' c' l _ w h hc h' hc' hk).mono fun e w' h => ⟨h.1, h.2.out⟩
theorem same_b {w0 : World} (A : Option Addr) (c : Nat) (A' : Option Addr) (c' : Nat) (l : List Int) (w : World) (hb : Below w0.heap.size w0 w) (h : Kd.C (Kd.int .i64) w0 A l.length l) (hc : l.length <= c) (h' : Kd.C (Kd.int .i64) w0 A' l.length l) (hc' : l.length <= c') (hl : l.length <= 4194304) :
  Calls Tryd.prog 13 #[.slice A l.length c, .slice A' l.length c'] w fun e w' => e = .returned (.bool true) /\ Below w0.heap.size w0 w' :=
 (same_q A c A' c' l w (Kd.C_below h hb) hc (Kd.C_below h' hb) hc' hl).mono fun e w' q => ⟨q.1, by obtain ⟨m, rfl⟩ := q.2; exact below_drN hb m⟩
theorem two_new (W : World) (o1 o2 : Obj) : ((W.alloc o1).alloc o2).drew.heap[W.heap.size]? = some o1 /\ ((W.alloc o1).alloc o2).drew.heap[W.heap.size + 1]? = some o2 := by
 have h2 := blk_new (W.alloc o1) o2
 rw [alloc_sz] at h2
 have s1 := alloc_sz W o1
 exact ⟨(((Below.refl (W.alloc o1).heap.size (W.alloc o1)).alloc (Nat.le_refl _) o2).block W.heap.size (by omega)).trans (blk_new W o1), h2⟩
theorem two_below {B : Nat} {w W : World} (h : Below B w W) (hB : B <= W.heap.size) (o1 o2 : Obj) : Below B w ((W.alloc o1).alloc o2).drew := ((h.alloc hB o1).alloc (by rw [alloc_sz]; omega) o2).drew
theorem sameWords_b {w0 : World} (A : Option Addr) (c : Nat) (A' : Option Addr) (c' : Nat) (l : List Int) (w : World) (hb : Below w0.heap.size w0 w) (h : Kd.C (Kd.int .u64) w0 A l.length l) (hc : l.length <= c) (h' : Kd.C (Kd.int .u64) w0 A' l.length l) (hc' : l.length <= c') (hl : l.length <= 4194304) :
  Calls Tryd.prog 47 #[.slice A l.length c, .slice A' l.length c'] w fun e w' => e = .returned (.bool true) /\ Below w.heap.size w w' :=
 (sameWords_q A c A' c' l w (Kd.C_below h hb) hc (Kd.C_below h' hb) hc' hl).mono fun e w' q => ⟨q.1, by obtain ⟨m, rfl⟩ := q.2; exact below_drN (Below.refl _ _) m⟩
theorem same_c {w0 : World} (A : Option Addr) (c : Nat) (A' : Option Addr) (c' : Nat) (l : List Int) (w : World) (hb : Below w0.heap.size w0 w) (h : Kd.C (Kd.int .i64) w0 A l.length l) (hc : l.length <= c) (h' : Kd.C (Kd.int .i64) w0 A' l.length l) (hc' : l.length <= c') (hl : l.length <= 4194304) :
  Calls Tryd.prog 13 #[.slice A l.length c, .slice A' l.length c'] w fun e w' => e = .returned (.bool true) /\ Below w.heap.size w w' :=
 (same_q A c A' c' l w (Kd.C_below h hb) hc (Kd.C_below h' hb) hc' hl).mono fun e w' q => ⟨q.1, by obtain ⟨m, rfl⟩ := q.2; exact below_drN (Below.refl _ _) m⟩
set_option maxRecDepth 100000 in
set_option maxHeartbeats 16000000 in
theorem sameGraph_q (ga gb : Gv) (G : Gr) (w : World) (ha : GAt w ga G) (hb : GAt w gb G) (bd : G.Bd) (fb : FrBd G) :
  Calls Tryd.prog 14 #[gval ga G, gval gb G] w fun e w' => e = .returned (.bool true) /\ Below w.heap.size w w' := by
 obtain ⟨A0, A1, A2, A3, A4, c0, c1, c2, c3, c4⟩ := ga
 obtain ⟨B0, B1, B2, B3, B4, d0, d1, d2, d3, d4⟩ := gb
 have hn := bd.n
 have hm := bd.m
 have BX := boxed ha
 unfold gval gcells
 unfold gcells at BX
 simp only at BX ⊢
 go_enter Tryd.func14, Tryd.ntmps14
 go_upto_region 1 with fail
 obtain ⟨hX, hB, lA, hA⟩ := BX
 generalize hwB : w.alloc (.cells #[.slice A0 G.obs.length c0, .slice A1 G.slots.length c1, .slice A2 G.hands.length c2, .slice A3 G.reg.length c3, .slice A4 G.queue.length c4, .int .u64 G.next] 27) = wB at *
 have s1 : wB.heap.size = w.heap.size + 1 := by rw [<- hwB]; exact alloc_sz _ _
 clear hwB
 have hY := blk_new wB (.cells #[.slice B0 G.obs.length d0, .slice B1 G.slots.length d1, .slice B2 G.hands.length d2, .slice B3 G.reg.length d3, .slice B4 G.queue.length d4, .int .u64 G.next] 27 (0, 0))
 have hB2 := (Below.refl wB.heap.size wB).alloc (Nat.le_refl _) (.cells #[.slice B0 G.obs.length d0, .slice B1 G.slots.length d1, .slice B2 G.hands.length d2, .slice B3 G.reg.length d3, .slice B4 G.queue.length d4, .int .u64 G.next] 27 (0, 0))
 have s2 := alloc_sz wB (.cells #[.slice B0 G.obs.length d0, .slice B1 G.slots.length d1, .slice B2 G.hands.length d2, .slice B3 G.reg.length d3, .slice B4 G.queue.length d4, .int .u64 G.next] 27 (0, 0))
 generalize wB.alloc _ = wC at *
 have hX2 := box_keep hX hB2
 have hA2 := hA.below hB2
 have hb2 := (hb.below hB).below hB2
 have hBC := below_then hB hB.size hB2
 rw [s1] at hY s2
 clear hX hB hA hB2 ha hb lA
 have FC := Lib.hid (fun (W : World) (hb : Below wC.heap.size wC W) => (by
  have q1 := (blk_at (box_keep hX2 hb)).1
  have q2 := (blk_at (box_keep hY hb)).1
  exact ⟨q1 0, q1 1, q1 2, q1 3, q1 4, q1 5, q2 0, q2 1, q2 2, q2 3, q2 4, q2 5⟩ : W.cell? ⟨w.heap.size, 0, none⟩ = some (.slice A0 G.obs.length c0) /\ W.cell? ⟨w.heap.size, 1, none⟩ = some (.slice A1 G.slots.length c1) /\ W.cell? ⟨w.heap.size, 2, none⟩ = some (.slice A2 G.hands.length c2) /\ W.cell? ⟨w.heap.size, 3, none⟩ = some (.slice A3 G.reg.length c3) /\ W.cell? ⟨w.heap.size, 4, none⟩ = some (.slice A4 G.queue.length c4) /\ W.cell? ⟨w.heap.size, 5, none⟩ = some (.int .u64 G.next) /\ W.cell? ⟨w.heap.size + 1, 0, none⟩ = some (.slice B0 G.obs.length d0) /\ W.cell? ⟨w.heap.size + 1, 1, none⟩ = some (.slice B1 G.slots.length d1) /\ W.cell? ⟨w.heap.size + 1, 2, none⟩ = some (.slice B2 G.hands.length d2) /\ W.cell? ⟨w.heap.size + 1, 3, none⟩ = some (.slice B3 G.reg.length d3) /\ W.cell? ⟨w.heap.size + 1, 4, none⟩ = some (.slice B4 G.queue.length d4) /\ W.cell? ⟨w.heap.size + 1, 5, none⟩ = some (.int .u64 G.next)))
 have S2 := Lib.hid (fun (W : World) (h : Below wC.heap.size wC W) => same_b A2 c2 B2 d2 G.hands W h hA2.r2 hA2.l2 hb2.r2 hb2.l2 (by have := bd.h; omega))
 have S3 := Lib.hid (fun (W : World) (h : Below wC.heap.size wC W) => same_b A3 c3 B3 d3 G.reg W h hA2.r3 hA2.l3 hb2.r3 hb2.l3 (by have := bd.r; omega))
 have S4 := Lib.hid (fun (W : World) (h : Below wC.heap.size wC W) => same_b A4 c4 B4 d4 G.queue W h hA2.r4 hA2.l4 hb2.r4 hb2.l4 (by have := bd.q; omega))
 have b0 := Below.refl wC.heap.size wC
 obtain ⟨k0, k1, k2, k3, k4, k5, j0, j1, j2, j3, j4, j5⟩ := FC.out _ b0
 go_wp2_with (first
  | (go_at_call 13; refine (S4.out _ b2).mono ?_; rintro e w3 ⟨rfl, b3⟩; obtain ⟨k0, k1, k2, k3, k4, k5, j0, j1, j2, j3, j4, j5⟩ := FC.out _ b3)
  | (go_at_call 13; refine (S3.out _ b1).mono ?_; rintro e w2 ⟨rfl, b2⟩; obtain ⟨k0, k1, k2, k3, k4, k5, j0, j1, j2, j3, j4, j5⟩ := FC.out _ b2)
  | (go_at_call 13; refine (S2.out _ b0).mono ?_; rintro e w1 ⟨rfl, b1⟩; obtain ⟨k0, k1, k2, k3, k4, k5, j0, j1, j2, j3, j4, j5⟩ := FC.out _ b1))
 clear k0 k1 k2 k3 k4 k5 j0 j1 j2 j3 j4 j5 b0 b1 b2 S2 S3 S4
 go_loopw [5] (fun iv wx => ∃ i : Nat, i <= G.obs.length /\ iv = .int .i64 i /\ Below wC.heap.size wC wx) (fun iv _ => G.obs.length - (intOf iv).toNat)
 case atStart => exact ⟨0, by omega, rfl, b3⟩
 case round =>
  clear b3
  obtain ⟨i, hi, rfl, hbr⟩ := hrel
  obtain ⟨k0, k1, -, -, -, -, j0, j1, -⟩ := FC.out _ hbr
  by_cases hlt : i < G.obs.length
  ·have dlt : decide ((i : Int) < (G.obs.length : Int)) = true := decide_eq_true (by omega)
   have i0 : (0 : Int) <= (i : Int) := by omega
   have i1 : (i : Int) < (G.obs.length : Int) := by omega
   obtain ⟨hq3, hq4⟩ := bd.i64 _ (getD_mem default hlt)
   obtain ⟨ad, A3, c3, A4, c4, ea, x0, x1, x2, x3, x4, l3, hC3, l4, hC4⟩ := ob_at hA2.r0 i hlt
   obtain ⟨bd', B3, d3, B4, d4, eb, y0, y1, y2, y3, y4, m3, hD3, m4, hD4⟩ := ob_at hb2.r0 i hlt
   simp only at ea eb
   subst ea eb
   generalize G.obs.getD i default = o at *
   obtain ⟨f0, f1, f2, f3, f4⟩ := o
   simp only at *
   have OC := Lib.hid (fun (W : World) (hb : Below wC.heap.size wC W) => (⟨cell_later hb x0, cell_later hb x1, cell_later hb x2, cell_later hb x3, cell_later hb x4, cell_later hb y0, cell_later hb y1, cell_later hb y2, cell_later hb y3, cell_later hb y4⟩ : W.cell? (ad.add (i * 5)) = some (.int .u64 f0) /\ W.cell? ⟨(ad.add (i * 5)).block, (ad.add (i * 5)).off + 1, none⟩ = some (.int .i64 f1) /\ W.cell? ⟨(ad.add (i * 5)).block, (ad.add (i * 5)).off + 2, none⟩ = some (.int .i64 f2) /\ W.cell? ⟨(ad.add (i * 5)).block, (ad.add (i * 5)).off + 3, none⟩ = some (.slice A3 f3.length c3) /\ W.cell? ⟨(ad.add (i * 5)).block, (ad.add (i * 5)).off + 4, none⟩ = some (.slice A4 f4.length c4) /\ W.cell? (bd'.add (i * 5)) = some (.int .u64 f0) /\ W.cell? ⟨(bd'.add (i * 5)).block, (bd'.add (i * 5)).off + 1, none⟩ = some (.int .i64 f1) /\ W.cell? ⟨(bd'.add (i * 5)).block, (bd'.add (i * 5)).off + 2, none⟩ = some (.int .i64 f2) /\ W.cell? ⟨(bd'.add (i * 5)).block, (bd'.add (i * 5)).off + 3, none⟩ = some (.slice B3 f3.length d3) /\ W.cell? ⟨(bd'.add (i * 5)).block, (bd'.add (i * 5)).off + 4, none⟩ = some (.slice B4 f4.length d4)))
   clear x0 x1 x2 x3 x4 y0 y1 y2 y3 y4
   obtain ⟨x0, x1, x2, x3, x4, y0, y1, y2, y3, y4⟩ := OC.out _ hbr
   go_upto_region 6 with fail
   go_cut [6, 7] (fun v6 v7 wx => ∃ b6 b7 : Nat, v6 = .pointer (some ⟨b6, 0, none⟩) /\ v7 = .pointer (some ⟨b7, 0, none⟩) /\ wx.heap[b6]? = some (.cells #[.int .u64 f0, .int .i64 f1, .int .i64 f2, .slice A3 f3.length c3, .slice A4 f4.length c4] 59 (0, 0)) /\ wx.heap[b7]? = some (.cells #[.int .u64 f0, .int .i64 f1, .int .i64 f2, .slice B3 f3.length d3, .slice B4 f4.length d4] 59 (0, 0)) /\ Below wC.heap.size wC wx)
   case first =>
    have SC := Lib.hid (fun (W : World) (hb : Below wC.heap.size wC W) => (⟨(FC.out W hb).1, (FC.out W hb).2.2.2.2.2.2.1, OC.out W hb⟩ : W.cell? ⟨w.heap.size, 0, none⟩ = some (.slice (some ad) G.obs.length c0) /\ W.cell? ⟨w.heap.size + 1, 0, none⟩ = some (.slice (some bd') G.obs.length d0) /\ W.cell? (ad.add (i * 5)) = some (.int .u64 f0) /\ W.cell? ⟨(ad.add (i * 5)).block, (ad.add (i * 5)).off + 1, none⟩ = some (.int .i64 f1) /\ W.cell? ⟨(ad.add (i * 5)).block, (ad.add (i * 5)).off + 2, none⟩ = some (.int .i64 f2) /\ W.cell? ⟨(ad.add (i * 5)).block, (ad.add (i * 5)).off + 3, none⟩ = some (.slice A3 f3.length c3) /\ W.cell? ⟨(ad.add (i * 5)).block, (ad.add (i * 5)).off + 4, none⟩ = some (.slice A4 f4.length c4) /\ W.cell? (bd'.add (i * 5)) = some (.int .u64 f0) /\ W.cell? ⟨(bd'.add (i * 5)).block, (bd'.add (i * 5)).off + 1, none⟩ = some (.int .i64 f1) /\ W.cell? ⟨(bd'.add (i * 5)).block, (bd'.add (i * 5)).off + 2, none⟩ = some (.int .i64 f2) /\ W.cell? ⟨(bd'.add (i * 5)).block, (bd'.add (i * 5)).off + 3, none⟩ = some (.slice B3 f3.length d3) /\ W.cell? ⟨(bd'.add (i * 5)).block, (bd'.add (i * 5)).off + 4, none⟩ = some (.slice B4 f4.length d4)))
    have hsz := hbr.size
    go_region_held3 (fun W => W.cell? ⟨w.heap.size, 0, none⟩ = some (.slice (some ad) G.obs.length c0) /\ W.cell? ⟨w.heap.size + 1, 0, none⟩ = some (.slice (some bd') G.obs.length d0) /\ W.cell? (ad.add (i * 5)) = some (.int .u64 f0) /\ W.cell? ⟨(ad.add (i * 5)).block, (ad.add (i * 5)).off + 1, none⟩ = some (.int .i64 f1) /\ W.cell? ⟨(ad.add (i * 5)).block, (ad.add (i * 5)).off + 2, none⟩ = some (.int .i64 f2) /\ W.cell? ⟨(ad.add (i * 5)).block, (ad.add (i * 5)).off + 3, none⟩ = some (.slice A3 f3.length c3) /\ W.cell? ⟨(ad.add (i * 5)).block, (ad.add (i * 5)).off + 4, none⟩ = some (.slice A4 f4.length c4) /\ W.cell? (bd'.add (i * 5)) = some (.int .u64 f0) /\ W.cell? ⟨(bd'.add (i * 5)).block, (bd'.add (i * 5)).off + 1, none⟩ = some (.int .i64 f1) /\ W.cell? ⟨(bd'.add (i * 5)).block, (bd'.add (i * 5)).off + 2, none⟩ = some (.int .i64 f2) /\ W.cell? ⟨(bd'.add (i * 5)).block, (bd'.add (i * 5)).off + 3, none⟩ = some (.slice B3 f3.length d3) /\ W.cell? ⟨(bd'.add (i * 5)).block, (bd'.add (i * 5)).off + 4, none⟩ = some (.slice B4 f4.length d4))
     (exact SC.out _ (by
      repeat (first
       | exact hbr
       | refine Below.drew ?_
       | refine Below.alloc ?_ (by (try simp) <;> omega) _
       | refine Below.setCell ?_ (by (try simp) <;> omega) _)))
     (first | fail)
    ·go_wp2_with fail
     go_meet
     obtain ⟨t1, t2⟩ := two_new wr (.cells #[.int .u64 f0, .int .i64 f1, .int .i64 f2, .slice A3 f3.length c3, .slice A4 f4.length c4] 59 (0, 0)) (.cells #[.int .u64 f0, .int .i64 f1, .int .i64 f2, .slice B3 f3.length d3, .slice B4 f4.length d4] 59 (0, 0))
     exact ⟨_, _, rfl, rfl, t1, t2, two_below hbr hsz _ _⟩
    ·go_wp2_with fail
     go_meet
     obtain ⟨t1, t2⟩ := two_new wr (.cells #[.int .u64 f0, .int .i64 f1, .int .i64 f2, .slice B3 f3.length d3, .slice B4 f4.length d4] 59 (0, 0)) (.cells #[.int .u64 f0, .int .i64 f1, .int .i64 f2, .slice A3 f3.length c3, .slice A4 f4.length c4] 59 (0, 0))
     exact ⟨_, _, rfl, rfl, t2, t1, two_below hbr hsz _ _⟩
   case rest =>
    obtain ⟨b6, b7, rfl, rfl, hP, hQ, hbr⟩ := hcut
    clear x0 x1 x2 x3 x4 y0 y1 y2 y3 y4 k0 k1 j0 j1 OC
    have D1 := Lib.hid (fun (W : World) (h : Below wC.heap.size wC W) => same_c A3 c3 B3 d3 f3 W h hC3 l3 hD3 m3 (by omega))
    have D2 := Lib.hid (fun (W : World) (h : Below wC.heap.size wC W) => sameWords_b A4 c4 B4 d4 f4 W h hC4 l4 hD4 m4 (by omega))
    have PC := Lib.hid (fun (W : World) (h : Below wc.heap.size wc W) => (by
     have q1 := (blk_at (box_keep hP h)).1
     have q2 := (blk_at (box_keep hQ h)).1
     exact ⟨q1 0, q1 1, q1 2, q1 3, q1 4, q2 0, q2 1, q2 2, q2 3, q2 4⟩ : W.cell? ⟨b6, 0, none⟩ = some (.int .u64 f0) /\ W.cell? ⟨b6, 1, none⟩ = some (.int .i64 f1) /\ W.cell? ⟨b6, 2, none⟩ = some (.int .i64 f2) /\ W.cell? ⟨b6, 3, none⟩ = some (.slice A3 f3.length c3) /\ W.cell? ⟨b6, 4, none⟩ = some (.slice A4 f4.length c4) /\ W.cell? ⟨b7, 0, none⟩ = some (.int .u64 f0) /\ W.cell? ⟨b7, 1, none⟩ = some (.int .i64 f1) /\ W.cell? ⟨b7, 2, none⟩ = some (.int .i64 f2) /\ W.cell? ⟨b7, 3, none⟩ = some (.slice B3 f3.length d3) /\ W.cell? ⟨b7, 4, none⟩ = some (.slice B4 f4.length d4)))
    obtain ⟨x0, x1, x2, x3, x4, y0, y1, y2, y3, y4⟩ := PC.out _ (Below.refl _ _)
    go_wp2_with (first
     | (go_at_call 13; refine (D1.out _ hbr).mono ?_; rintro e w4 ⟨rfl, b4⟩; have hb4 := below_then hbr hbr.size b4; obtain ⟨x0, x1, x2, x3, x4, y0, y1, y2, y3, y4⟩ := PC.out _ b4)
     | (go_at_call 47; refine (D2.out _ hb4).mono ?_; rintro e w5 ⟨rfl, b5⟩; have hb5 := below_then hb4 hb4.size b5))
    exact ⟨⟨i + 1, by omega, by simp, hb5⟩, by simp [intOf]; omega⟩
  ·have dlt : decide ((i : Int) < (G.obs.length : Int)) = false := decide_eq_false (by omega)
   go_wp2_with fail
   clear k0 k1 j0 j1
   go_loopw [8] (fun tv wx => ∃ t : Nat, t <= G.slots.length /\ tv = .int .i64 t /\ Below wC.heap.size wC wx) (fun tv _ => G.slots.length - (intOf tv).toNat)
   case atStart => exact ⟨0, by omega, rfl, hbr⟩
   case round =>
    clear hbr
    obtain ⟨t, ht, rfl, hbr⟩ := hrel
    obtain ⟨-, k1, -, -, -, -, -, j1, -⟩ := FC.out _ hbr
    by_cases htl : t < G.slots.length
    ·have dlt2 : decide ((t : Int) < (G.slots.length : Int)) = true := decide_eq_true (by omega)
     have t0 : (0 : Int) <= (t : Int) := by omega
     have t1 : (t : Int) < (G.slots.length : Int) := by omega
     have hm := fb _ (getD_mem [] htl)
     obtain ⟨ad, P1, p1, ea, hcA, hl1, hC1⟩ := sl_at hA2.r1 t htl
     obtain ⟨bd', Q1, q1, eb, hcB, hm1, hD1⟩ := sl_at hb2.r1 t htl
     simp only at ea eb
     subst ea eb
     generalize G.slots.getD t [] = fr at *
     obtain ⟨m1, m2, m3⟩ := hm
     have ha1 := cell_later hbr hcA
     have hb1 := cell_later hbr hcB
     go_upto_region 12 with fail
     go_quiet (fail)
     go_wp2_with fail
     clear k1 j1 ha1 hb1
     go_loopw [9] (fun fv wx => ∃ f : Nat, f <= fr.length /\ fv = .int .i64 f /\ Below wC.heap.size wC wx) (fun fv _ => fr.length - (intOf fv).toNat)
     case atStart => exact ⟨0, by omega, rfl, below_drN hbr nq⟩
     case round =>
      clear hbr
      obtain ⟨f, hf, rfl, hbr⟩ := hrel
      obtain ⟨-, k1, -, -, -, -, -, j1, -⟩ := FC.out _ hbr
      have ha1 := cell_later hbr hcA
      have hb1 := cell_later hbr hcB
      by_cases hlf : f < fr.length
      ·have dlf : decide ((f : Int) < (fr.length : Int)) = true := decide_eq_true (by omega)
       have f0 : (0 : Int) <= (f : Int) := by omega
       have f1 : (f : Int) < (fr.length : Int) := by omega
       have hq := m3 _ (getD_mem [] hlf)
       obtain ⟨ad2, P2, p2, ea, hcP, hl2, hC2⟩ := sl_at hC1 f hlf
       obtain ⟨bd2, Q2, q2, eb, hcQ, hm2, hD2⟩ := sl_at hD1 f hlf
       subst ea eb
       have ha2 := cell_later hbr hcP
       have hb2' := cell_later hbr hcQ
       generalize fr.getD f [] = l at *
       have BQ := Lib.hid (fun n => same_q P2 p2 Q2 q2 l (wr.drewN n) (Kd.C_below hC2 (below_drN hbr n)) hl2 (Kd.C_below hD2 (below_drN hbr n)) hm2 (by omega))
       go_upto_region 17 with fail
       go_quiet ((go_at_call 13; exact Calls.quiet_of (BQ.out _)))
       go_wp2_with fail
       exact ⟨⟨f + 1, by omega, by simp, below_drN hbr nq⟩, by simp [intOf]; omega⟩
      ·have dlf : decide ((f : Int) < (fr.length : Int)) = false := decide_eq_false (by omega)
       go_wp2_with fail
       exact ⟨⟨t + 1, by omega, by simp, hbr⟩, by simp [intOf]; omega⟩
    ·have dlt2 : decide ((t : Int) < (G.slots.length : Int)) = false := decide_eq_false (by omega)
     go_wp2_with fail
     go_ret
     exact ⟨rfl, hBC.trans (hbr.mono (by omega))⟩
end
section
def LikeV (u u' : Value) : Prop := u' = u \/ ((∃ x, u = .int .i64 x) /\ ∃ y, u' = .int .i64 y)
def IntSame (w w' : World) : Prop := ∀ a u, w.cell? a = some u -> ∃ u', w'.cell? a = some u' /\ LikeV u u'
theorem LikeV.trans {a b c : Value} (h : LikeV a b) (k : LikeV b c) : LikeV a c := by
 rcases h with rfl | ⟨⟨x, rfl⟩, y, rfl⟩
 ·exact k
 ·rcases k with rfl | ⟨_, z, rfl⟩
  ·exact .inr ⟨⟨x, rfl⟩, y, rfl⟩
  ·exact .inr ⟨⟨x, rfl⟩, z, rfl⟩
theorem IntSame.refl (w : World) : IntSame w w := fun a u h => ⟨u, h, .inl rfl⟩
theorem IntSame.trans {w w1 w2 : World} (h : IntSame w w1) (k : IntSame w1 w2) : IntSame w w2 := fun a u hu => by
 obtain ⟨u', h1, h2⟩ := h a u hu
 obtain ⟨u'', h3, h4⟩ := k a u' h1
 exact ⟨u'', h3, h2.trans h4⟩
def LikeC (c c' : List Value) : Prop := c'.length = c.length /\ ∀ (i : Nat) (u : Value), c[i]? = some u -> ∃ u', c'[i]? = some u' /\ LikeV u u'
def Turns {α β : Type} (d : Kd α) (φ : α -> β) (w w' : World) : Prop := ∀ x c c', d.K w x c -> LikeC c c' -> ∃ x', φ x' = φ x /\ d.K w' x' c'
theorem row_turns {α β : Type} {d : Kd α} {φ : α -> β} {w w' : World} (ht : Turns d φ w w') (hs : IntSame w w') {A : Option Addr} {n : Nat} {xs : List α} (h : d.C w A n xs) : ∃ xs', xs'.map φ = xs.map φ /\ d.C w' A n xs' := by
 obtain ⟨hl, hb, hr⟩ := h
 rcases Nat.eq_zero_or_pos n with h0 | hp
 ·exact ⟨xs, rfl, hl, hb, fun h => by omega⟩
 ·obtain ⟨ad, rfl, hc⟩ := hr hp
  have one : ∀ j : Fin n, ∃ p', φ p' = φ (xs[j.1]'(by omega)) /\ ∃ c', c'.length = d.sz /\ d.K w' p' c' /\ ∀ i u, c'[i]? = some u -> w'.cell? (ad.add (j.1 * d.sz + i)) = some u := by
   intro j
   obtain ⟨c, c1, c2, c3⟩ := hc j.1 _ (List.getElem?_eq_getElem (show j.1 < xs.length by omega))
   have cell : ∀ i : Fin c.length, ∃ u', w'.cell? (ad.add (j.1 * d.sz + i.1)) = some u' /\ LikeV c[i.1] u' := fun i => hs _ _ (c3 i.1 _ (List.getElem?_eq_getElem i.2))
   have lc : LikeC c (List.ofFn fun i => Classical.choose (cell i)) := ⟨by simp, fun i u hu => by
    obtain ⟨hi, rfl⟩ := List.getElem?_eq_some_iff.1 hu
    exact ⟨_, by simp [hi], (Classical.choose_spec (cell ⟨i, hi⟩)).2⟩⟩
   obtain ⟨x', e1, e2⟩ := ht _ _ _ c2 lc
   refine ⟨x', e1, _, by simpa using c1, e2, fun i u hu => ?_⟩
   obtain ⟨hi, rfl⟩ := List.getElem?_eq_some_iff.1 hu
   have hi' : i < c.length := by simpa using hi
   have := (Classical.choose_spec (cell ⟨i, hi'⟩)).1
   simpa using this
  refine ⟨List.ofFn fun j => Classical.choose (one j), ?_, by simp, hb, fun _ => ⟨ad, rfl, fun j p hj => ?_⟩⟩
  ·apply List.ext_getElem
   ·simp; omega
   ·intro i h1 h2
    have hi : i < n := by simpa using h1
    have := (Classical.choose_spec (one ⟨i, hi⟩)).1
    simpa using this
  ·obtain ⟨hi, rfl⟩ := List.getElem?_eq_some_iff.1 hj
   have hi' : j < n := by simpa using hi
   obtain ⟨c', q1, q2, q3⟩ := (Classical.choose_spec (one ⟨j, hi'⟩)).2
   exact ⟨c', q1, by simpa using q2, q3⟩
theorem like_one {u : Value} {c' : List Value} (h : LikeC [u] c') : ∃ u', c' = [u'] /\ LikeV u u' := by
 obtain ⟨u', h1, h2⟩ := h.2 0 u rfl
 have hl : c'.length = 1 := h.1
 match c', hl, h1 with
 | [v], _, h1 => exact ⟨v, rfl, by cases h1; exact h2⟩
theorem turns_int (w w' : World) : Turns (Kd.int .i64) (fun _ => ()) w w' := by
 rintro x c c' (rfl : c = [_]) hl
 obtain ⟨u', rfl, q⟩ := like_one hl
 rcases q with rfl | ⟨_, y, rfl⟩
 ·exact ⟨x, rfl, rfl⟩
 ·exact ⟨y, rfl, rfl⟩
theorem turns_word (w w' : World) : Turns (Kd.int .u64) (fun _ => ()) w w' := by
 rintro x c c' (rfl : c = [_]) hl
 obtain ⟨u', rfl, q⟩ := like_one hl
 rcases q with rfl | ⟨⟨y, e⟩, _⟩
 ·exact ⟨x, rfl, rfl⟩
 ·cases e
theorem turns_slice {α β : Type} {d : Kd α} {φ : α -> β} {w w' : World} (e : Nat) (ht : Turns d φ w w') (hs : IntSame w w') : Turns (Kd.slice e d) (fun xs => xs.map φ) w w' := by
 rintro x c c' ⟨A, c0, rfl, hlc, hC⟩ hl
 obtain ⟨u', rfl, q⟩ := like_one hl
 rcases q with rfl | ⟨⟨y, e⟩, _⟩
 ·obtain ⟨xs', e1, e2⟩ := row_turns ht hs hC
  have hlen : xs'.length = x.length := by simpa using congrArg List.length e1
  exact ⟨xs', e1, A, c0, by rw [hlen], by omega, by rw [hlen]; exact e2⟩
 ·cases e
theorem like_cons {u : Value} {c c' : List Value} (h : LikeC (u :: c) c') : ∃ u' t', c' = u' :: t' /\ LikeV u u' /\ LikeC c t' := by
 obtain ⟨u', h1, h2⟩ := h.2 0 u rfl
 have hl : c'.length = c.length + 1 := by simpa using h.1
 match c', hl, h1 with
 | v :: t', hl, h1 =>
  cases h1
  exact ⟨_, t', rfl, h2, by simpa using hl, fun i x hx => by simpa using h.2 (i + 1) x (by simpa using hx)⟩
theorem like_nil {c' : List Value} (h : LikeC [] c') : c' = [] := List.length_eq_zero_iff.1 h.1
theorem like_int {x : Int} {u' : Value} (h : LikeV (.int .i64 x) u') : ∃ y, u' = .int .i64 y := by
 rcases h with rfl | ⟨_, y, rfl⟩
 ·exact ⟨x, rfl⟩
 ·exact ⟨y, rfl⟩
theorem like_word {x : Int} {u' : Value} (h : LikeV (.int .u64 x) u') : u' = .int .u64 x := by
 rcases h with rfl | ⟨⟨y, e⟩, _⟩
 ·rfl
 ·cases e
theorem like_slice {A : Option Addr} {n c : Nat} {u' : Value} (h : LikeV (.slice A n c) u') : u' = .slice A n c := by
 rcases h with rfl | ⟨⟨y, e⟩, _⟩
 ·rfl
 ·cases e
theorem ints_turn {w w' : World} (hs : IntSame w w') {A : Option Addr} {n : Nat} {xs : List Int} (h : Kd.C (Kd.int .i64) w A n xs) : ∃ xs', xs'.length = xs.length /\ Kd.C (Kd.int .i64) w' A n xs' := by
 obtain ⟨xs', e, hC⟩ := row_turns (turns_int w w') hs h
 exact ⟨xs', by simpa using congrArg List.length e, hC⟩
theorem words_turn {w w' : World} (hs : IntSame w w') {A : Option Addr} {n : Nat} {xs : List Int} (h : Kd.C (Kd.int .u64) w A n xs) : ∃ xs', xs'.length = xs.length /\ Kd.C (Kd.int .u64) w' A n xs' := by
 obtain ⟨xs', e, hC⟩ := row_turns (turns_word w w') hs h
 exact ⟨xs', by simpa using congrArg List.length e, hC⟩
theorem turns_list (w w' : World) (hs : IntSame w w') : Turns kInts List.length w w' := by
 intro x c c' hK hl
 obtain ⟨x', e, hK'⟩ := turns_slice 3 (turns_int w w') hs x c c' hK hl
 exact ⟨x', by simpa using congrArg List.length e, hK'⟩
def obShape (o : Ob) : Nat × Nat := (o.f3.length, o.f4.length)
theorem turns_ob (w w' : World) (hs : IntSame w w') : Turns kOb obShape w w' := by
 intro x c c' hK hl
 obtain ⟨A3, c3, A4, c4, rfl, l3, g3, l4, g4⟩ := k59_open hK
 obtain ⟨u0, t0, rfl, v0, hl⟩ := like_cons hl
 obtain ⟨u1, t1, rfl, v1, hl⟩ := like_cons hl
 obtain ⟨u2, t2, rfl, v2, hl⟩ := like_cons hl
 obtain ⟨u3, t3, rfl, v3, hl⟩ := like_cons hl
 obtain ⟨u4, t4, rfl, v4, hl⟩ := like_cons hl
 obtain rfl := like_nil hl
 obtain rfl := like_word v0
 obtain ⟨y1, rfl⟩ := like_int v1
 obtain ⟨y2, rfl⟩ := like_int v2
 obtain rfl := like_slice v3
 obtain rfl := like_slice v4
 obtain ⟨p3, e3, g3'⟩ := ints_turn hs g3
 obtain ⟨p4, e4, g4'⟩ := words_turn hs g4
 rw [<- e3] at l3 g3' ⊢
 rw [<- e4] at l4 g4' ⊢
 exact ⟨⟨x.f0, y1, y2, p3, p4⟩, by simp [obShape, e3, e4], k59_mk w' ⟨x.f0, y1, y2, p3, p4⟩ l3 g3' l4 g4'⟩
structure Like (G G' : Gr) : Prop where
 obs : G'.obs.map obShape = G.obs.map obShape
 slots : G'.slots.map (fun fr => fr.map List.length) = G.slots.map (fun fr => fr.map List.length)
 hands : G'.hands.length = G.hands.length
 reg : G'.reg.length = G.reg.length
 queue : G'.queue.length = G.queue.length
theorem gat_turned {w w' : World} {g : Gv} {G : Gr} (h : GAt w g G) (hs : IntSame w w') : ∃ G', Like G G' /\ G'.next = G.next /\ GAt w' g G' := by
 obtain ⟨r0, l0, r1, l1, r2, l2, r3, l3, r4, l4⟩ := h
 obtain ⟨o', e0, q0⟩ := row_turns (turns_ob w w' hs) hs r0
 obtain ⟨s', e1, q1⟩ := row_turns (turns_slice 24 (turns_list w w' hs) hs) hs r1
 obtain ⟨h', e2, q2⟩ := ints_turn hs r2
 obtain ⟨p', e3, q3⟩ := ints_turn hs r3
 obtain ⟨t', e4, q4⟩ := ints_turn hs r4
 have f0 : o'.length = G.obs.length := by simpa using congrArg List.length e0
 have f1 : s'.length = G.slots.length := by simpa using congrArg List.length e1
 rw [<- f0] at q0 l0
 rw [<- f1] at q1 l1
 rw [<- e2] at q2 l2
 rw [<- e3] at q3 l3
 rw [<- e4] at q4 l4
 exact ⟨⟨o', s', h', p', t', G.next⟩, ⟨e0, e1, e2, e3, e4⟩, rfl, q0, l0, q1, l1, q2, l2, q3, l3, q4, l4⟩
theorem Like.ob {G G' : Gr} (h : Like G G') (i : Nat) : (G'.obs.getD i default).f3.length = (G.obs.getD i default).f3.length := by
 have e := congrArg (fun l => l[i]?) h.obs
 simp only [List.getElem?_map] at e
 rw [List.getD_eq_getElem?_getD, List.getD_eq_getElem?_getD]
 cases h1 : G'.obs[i]? with
 | none =>
  cases h2 : G.obs[i]? with
  | none => rfl
  | some o => rw [h1, h2] at e; cases e
 | some o' =>
  cases h2 : G.obs[i]? with
  | none => rw [h1, h2] at e; cases e
  | some o =>
   rw [h1, h2] at e
   simp only [Option.map_some, Option.some.injEq, obShape, Prod.mk.injEq] at e
   exact e.1
theorem Like.olen {G G' : Gr} (h : Like G G') : G'.obs.length = G.obs.length := by simpa using congrArg List.length h.obs
theorem Like.slen {G G' : Gr} (h : Like G G') : G'.slots.length = G.slots.length := by simpa using congrArg List.length h.slots
theorem slotsP_len (l : List (List (List Int))) : (slotsP l).length = ((l.map (fun fr => fr.map List.length)).map List.sum).sum := by
 unfold slotsP
 induction l with
 | nil => rfl
 | cons fr l ih =>
  simp only [List.map_cons, List.flatten_cons, List.length_append, ih, List.sum_cons, List.length_flatten]
theorem Like.slotsP {G G' : Gr} (h : Like G G') : (slotsP G'.slots).length = (slotsP G.slots).length := by rw [slotsP_len, slotsP_len, h.slots]
theorem sumTo_eq {a b : Int -> Nat} (h : ∀ x, a x = b x) (n : Nat) : sumTo a n = sumTo b n := by
 have : a = b := funext h
 rw [this]
theorem Like.allPs {G G' : Gr} (h : Like G G') : allPs G' = allPs G := by
 unfold Go.Proofs.YtogpgkoelplknaaDoor.allPs
 rw [h.olen]
 exact sumTo_eq (fun x => h.ob _) _
theorem sumLen_eq (l : List (List Int)) : sumLen l = (l.map List.length).sum := by
 induction l with
 | nil => rfl
 | cons f l ih => simp [sumLen, ih]
theorem Like.mem {α β : Type} {φ : α -> β} {l l' : List α} (h : l'.map φ = l.map φ) {x' : α} (hx : x' ∈ l') : ∃ x, x ∈ l /\ φ x = φ x' := by
 have : φ x' ∈ l'.map φ := List.mem_map_of_mem hx
 rw [h] at this
 obtain ⟨x, h1, h2⟩ := List.mem_map.1 this
 exact ⟨x, h1, h2⟩
theorem Small.turned {G G' : Gr} (s : Small G) (h : Like G G') : Small G' := by
 have bd := s.bd
 refine ⟨⟨by rw [h.olen]; exact bd.n, by rw [h.slen]; exact bd.m, by rw [h.hands]; exact bd.h, by rw [h.reg]; exact bd.r, by rw [h.queue]; exact bd.q, fun o ho => ?_⟩, fun fr hfr => ?_, ?_, ?_⟩
 ·obtain ⟨x, h1, h2⟩ := Like.mem h.obs ho
  have := bd.i64 x h1
  unfold obShape at h2
  simp only [Prod.mk.injEq] at h2
  omega
 ·obtain ⟨x, h1, h2⟩ := Like.mem h.slots hfr
  obtain ⟨q1, q2, q3⟩ := s.fr x h1
  have h2 : x.map List.length = fr.map List.length := h2
  have hl : x.length = fr.length := by simpa using congrArg List.length h2
  rw [sumLen_eq] at q2
  refine ⟨by omega, by rw [sumLen_eq, <- h2]; exact q2, fun f hf => ?_⟩
  obtain ⟨y, y1, y2⟩ := Like.mem h2.symm hf
  have := q3 y y1
  omega
 ·have := s.m
  unfold initP at this ⊢
  simp only [List.length_append] at this ⊢
  rw [h.slotsP, h.allPs, h.hands, h.queue, h.reg]
  exact this
 ·have := s.hold
  unfold holdP at this ⊢
  simp only [List.length_append] at this ⊢
  rw [h.slotsP, h.hands, h.queue]
  exact this
end
section
theorem setCell_blk {w : World} {p : Addr} {c : Array Value} {t : TypeId} {fz : Nat × Nat} (h : w.heap[p.block]? = some (.cells c t fz)) (hp : p.spot = none) (v : Value) : (w.setCell p v).heap[p.block]? = some (.cells (c.setIfInBounds p.off v) t fz) := by
 have hs : p.spot.isSome = false := by rw [hp]; rfl
 unfold World.setCell
 simp only [Array.getElem?_modify, if_pos, h, Option.map_some]
 simp [hs]
theorem cell_blk {w : World} {p : Addr} {u : Value} (h : w.cell? p = some u) : p.spot = none /\ ∃ c t fz, w.heap[p.block]? = some (.cells c t fz) /\ c[p.off]? = some u := by
 unfold World.cell? at h
 split at h
 ·rename_i c t fz hb
  split at h
  ·cases h
  ·rename_i hs
   refine ⟨by cases hq : p.spot with | none => rfl | some z => rw [hq] at hs; simp at hs, c, t, fz, hb, h⟩
 ·cases h
structure Turn (b : Nat) (w w' : World) : Prop where
 same : IntSame w w'
 fz : ∀ a, w.frozen? a = false -> w'.frozen? a = false
 bel : Below b w w'
theorem Turn.refl (b : Nat) (w : World) : Turn b w w := ⟨IntSame.refl w, fun _ h => h, Below.refl _ _⟩
theorem Turn.trans {b : Nat} {w w1 w2 : World} (h : Turn b w w1) (k : Turn b w1 w2) : Turn b w w2 := ⟨h.same.trans k.same, fun a ha => k.fz a (h.fz a ha), h.bel.trans k.bel⟩
theorem Turn.one {b : Nat} {w : World} {p : Addr} {x : Int} (h : w.cell? p = some (.int .i64 x)) (hb : b <= p.block) (y : Int) : Turn b w (w.setCell p (.int .i64 y)) := by
 obtain ⟨hp, c, t, fz, h1, h2⟩ := cell_blk h
 have hn := setCell_blk h1 hp (.int .i64 y)
 refine ⟨fun a u hu => ?_, fun a ha => ?_, (Below.refl b w).setCell hb _⟩
 ·by_cases e : a.block = p.block
  ·obtain ⟨ha, c', t', fz', h3, h4⟩ := cell_blk hu
   rw [e, h1] at h3
   cases h3
   have hc : (w.setCell p (.int .i64 y)).cell? a = (c.setIfInBounds p.off (.int .i64 y))[a.off]? := by
    unfold World.cell?
    rw [e, hn]
    simp [ha]
   by_cases e2 : p.off = a.off
   ·rw [e2] at h2 hc
    rw [h2] at h4
    cases h4
    have hlt := (Array.getElem?_eq_some_iff.1 h2).1
    exact ⟨.int .i64 y, by rw [hc]; simp [hlt], .inr ⟨⟨x, rfl⟩, y, rfl⟩⟩
   ·exact ⟨u, by rw [hc, Array.getElem?_setIfInBounds_ne e2]; exact h4, .inl rfl⟩
  ·exact ⟨u, (cell_far e _).trans hu, .inl rfl⟩
 ·by_cases e : a.block = p.block
  ·unfold World.frozen? at ha ⊢
   rw [e, h1] at ha
   rw [e, hn]
   exact ha
  ·unfold World.frozen? at ha ⊢
   rw [Below.heap_setCell w p _ a.block e]
   exact ha
theorem Turn.alloc {b : Nat} {w : World} (hb : b <= w.heap.size) (cs : Array Value) (t : TypeId) : Turn b w (w.alloc (.cells cs t (0, 0))) := by
 have h := (Below.refl w.heap.size w).alloc (Nat.le_refl _) (.cells cs t (0, 0))
 refine ⟨fun a u hu => ⟨u, cell_later h hu, .inl rfl⟩, fun a ha => ?_, h.mono hb⟩
 rcases Nat.lt_trichotomy a.block w.heap.size with q | q | q
 ·unfold World.frozen? at ha ⊢
  rw [h.block a.block q]
  exact ha
 ·unfold World.frozen?
  rw [q, blk_new w _]
  simp
 ·unfold World.frozen?
  have : (w.alloc (.cells cs t (0, 0))).heap[a.block]? = none := Array.getElem?_eq_none (by rw [alloc_sz]; omega)
  rw [this]
theorem Sub.elem {α : Type} {d : Kd α} {e : Nat} {w : World} {b : Nat} {ok : Nat -> Prop} {xs : List α} {A : Option Addr} {n c : Nat} (h : (kSub e d).M w b ok xs [.slice A n c]) (z : α) (j : Nat) (hj : j < xs.length) :
  ∃ g cs, A = some ⟨g, 0, none⟩ /\ b <= g /\ cs.length = d.sz /\ d.M w b ok (xs.getD j z) cs /\ (∀ i u, cs[i]? = some u -> w.cell? ⟨g, j * d.sz + i, none⟩ = some u) /\ ∀ o, w.frozen? ⟨g, o, none⟩ = false := by
 obtain ⟨v, full, fl, e1, hR, m, hm, hxs, A', c', cf, hfull, hv, hc⟩ := h
 cases e1
 cases hv
 have hl : xs.length = m := by rw [hxs, List.length_take]; omega
 have hjf : j < fl.length := by omega
 obtain ⟨g, cap, hf, hb, _, cells, hcl⟩ := Kd.R_form hR (by omega)
 rw [hf] at hfull
 cases hfull
 rw [hf] at hR
 obtain ⟨cs, h1, h2, h3, _⟩ := Kd.R_elem hR z (j : Int) (by omega) (by omega)
 have hx : fl.getD (j : Int).toNat z = xs.getD j z := by
  rw [hxs, List.getD_eq_getElem?_getD, List.getD_eq_getElem?_getD, List.getElem?_take_of_lt (by omega)]; rfl
 rw [hx] at h2
 exact ⟨g, cs, rfl, hb, h1, d.M_mono (fun k hk => hk.1) h2, h3, (blk_at hcl).2⟩
theorem kObS_open {w : World} {b : Nat} {ok : Nat -> Prop} {x : Ob} {cs : List Value} (h : kObS.M w b ok x cs) : ∃ v3 v4, cs = [.int .u64 x.f0, .int .i64 x.f1, .int .i64 x.f2, v3, v4] /\ kS1.M w b ok x.f3 [v3] /\ kSW.M w b ok x.f4 [v4] := by
 obtain ⟨_, _, rfl, rfl, _, _, rfl, rfl, _, _, rfl, rfl, c3, c4, rfl, h3, h4⟩ := h
 obtain ⟨v3, a3, b3, rfl, r3⟩ := h3
 obtain ⟨v4, a4, b4, rfl, r4⟩ := h4
 exact ⟨v3, v4, rfl, ⟨v3, a3, b3, rfl, r3⟩, ⟨v4, a4, b4, rfl, r4⟩⟩
end
section
theorem Turn.slice {b : Nat} {w W : World} (h : Turn b w W) {a : Addr} {A : Option Addr} {n c : Nat} (hc : w.cell? a = some (.slice A n c)) : W.cell? a = some (.slice A n c) := by
 obtain ⟨u', h1, h2⟩ := h.same a _ hc
 rw [like_slice h2] at h1
 exact h1
theorem Turn.int {b : Nat} {w W : World} (h : Turn b w W) {a : Addr} {x : Int} (hc : w.cell? a = some (.int .i64 x)) : ∃ y, W.cell? a = some (.int .i64 y) := by
 obtain ⟨u', h1, h2⟩ := h.same a _ hc
 obtain ⟨y, rfl⟩ := like_int h2
 exact ⟨y, h1⟩
theorem Sub.int {w : World} {b : Nat} {ok : Nat -> Prop} {xs : List Int} {A : Option Addr} {n c : Nat} (h : kS1.M w b ok xs [.slice A n c]) (j : Nat) (hj : j < xs.length) :
  ∃ g, A = some ⟨g, 0, none⟩ /\ b <= g /\ w.cell? ⟨g, j, none⟩ = some (.int .i64 (xs.getD j 0)) /\ w.frozen? ⟨g, j, none⟩ = false := by
 obtain ⟨g, cs, e, hb, hl, hM, hc, hf⟩ := Sub.elem h 0 j hj
 have hM' : cs = [.int .i64 (xs.getD j 0)] := hM
 subst hM'
 have := hc 0 _ rfl
 exact ⟨g, e, hb, by simpa [Kd.int, Kd.scalar] using this, hf j⟩
theorem Sub.sl {α : Type} {e e' : Nat} {d : Kd α} {w : World} {b : Nat} {ok : Nat -> Prop} {xs : List (List α)} {A : Option Addr} {n c : Nat} (h : (kSub e (kSub e' d)).M w b ok xs [.slice A n c]) (j : Nat) (hj : j < xs.length) :
  ∃ g A' c', A = some ⟨g, 0, none⟩ /\ b <= g /\ w.cell? ⟨g, j, none⟩ = some (.slice A' (xs.getD j []).length c') /\ (kSub e' d).M w b ok (xs.getD j []) [.slice A' (xs.getD j []).length c'] := by
 obtain ⟨g, cs, q1, hb, hl, hM, hc, hf⟩ := Sub.elem h [] j hj
 obtain ⟨v, full, fl, rfl, r⟩ := hM
 have hM : (kSub e' d).M w b ok (xs.getD j []) [v] := ⟨v, full, fl, rfl, r⟩
 obtain ⟨A', n', c', rfl⟩ := Sub.form hM
 obtain ⟨rfl, -, -⟩ := Sub.reads hM
 have := hc 0 _ rfl
 exact ⟨g, A', c', q1, hb, by simpa [kSub] using this, hM⟩
theorem res_turned (t : Array Value) (w : World) : (results Tryd.f16 t).run Tryd.prog w = .ok (.tuple #[]) w := by
 have h : Tryd.f16.results = #[] := rfl
 simp [results, h, go_sem]
set_option maxRecDepth 100000 in
set_option maxHeartbeats 16000000 in
theorem turned_any (b : Nat) (ok : Nat -> Prop) (g : Gv) (G : Gr) (w : World) (h : InAt w b ok g G) (hb : b <= w.heap.size) (bd : G.Bd) :
  Calls Tryd.prog 16 #[gval g G] w fun e w' => (∃ v, e = .returned v) /\ Turn b w w' := by
 have hn := bd.n
 have hh := bd.h
 have hm := bd.m
 obtain ⟨A0, A1, A2, A3, A4, c0, c1, c2, c3, c4⟩ := g
 have hX := blk_new w (.cells #[.slice A0 G.obs.length c0, .slice A1 G.slots.length c1, .slice A2 G.hands.length c2, .slice A3 G.reg.length c3, .slice A4 G.queue.length c4, .int .u64 G.next] 27 (0, 0))
 have hT := Turn.alloc hb #[.slice A0 G.obs.length c0, .slice A1 G.slots.length c1, .slice A2 G.hands.length c2, .slice A3 G.reg.length c3, .slice A4 G.queue.length c4, .int .u64 G.next] 27
 unfold gval gcells
 simp only
 go_enter Tryd.func16, Tryd.ntmps16
 go_upto_region 1 with fail
 generalize w.alloc _ = wA at *
 have q := (blk_at hX).1
 have FB := Lib.hid (fun (W : World) (ht : Turn b wA W) => (⟨ht.slice (q 0), ht.slice (q 1), ht.slice (q 2)⟩ : W.cell? ⟨w.heap.size, 0, none⟩ = some (.slice A0 G.obs.length c0) /\ W.cell? ⟨w.heap.size, 1, none⟩ = some (.slice A1 G.slots.length c1) /\ W.cell? ⟨w.heap.size, 2, none⟩ = some (.slice A2 G.hands.length c2)))
 clear q hX
 obtain ⟨k0, k1, k2⟩ := FB.out _ (Turn.refl b wA)
 go_upto_if 9 with (fail)
 go_cut [3] (fun v3 wx => Turn b wA wx)
 case first =>
  by_cases hp : 0 < G.obs.length
  ·have dn : decide ((0 : Int) < (G.obs.length : Int)) = true := decide_eq_true (by omega)
   obtain ⟨g0, cs0, e0, hb0, -, hM0, hc0, hf0⟩ := Sub.elem h.m0 default 0 hp
   obtain ⟨v3, v4, rfl, hM3, -⟩ := kObS_open hM0
   obtain ⟨A5, n5, m5, rfl⟩ := Sub.form hM3
   obtain ⟨rfl, l5, -⟩ := Sub.reads hM3
   obtain ⟨g1, cs1, e1, -, -, hM1, hc1, -⟩ := Sub.elem h.m0 default (G.obs.length - 1) (by omega)
   obtain ⟨u3, u4, rfl, -, -⟩ := kObS_open hM1
   simp only at e0 e1
   subst e0
   cases e1
   have x3 := hc0 3 _ rfl
   have y2 := hc1 2 _ rfl
   simp only [Nat.zero_mul, Nat.zero_add] at x3
   have hq := (bd.i64 _ (getD_mem default hp)).1
   generalize (G.obs.getD 0 default).f3 = ps at *
   clear hc0 hc1 hM0 hM1
   have x3A := hT.slice x3
   have hsz : kObS.sz = 5 := rfl
   rw [hsz] at y2
   go_wp2_with fail
   go_loopw [3] (fun kv wx => ∃ k : Nat, k <= ps.length /\ kv = .int .i64 k /\ Turn b wA wx) (fun kv _ => ps.length - (intOf kv).toNat)
   case atStart => exact ⟨0, by omega, rfl, Turn.refl _ _⟩
   case round =>
    clear k0 k1 k2 x3A
    obtain ⟨k, hk, rfl, ht⟩ := hrel
    obtain ⟨k0, k1, k2⟩ := FB.out _ ht
    have x3r := (hT.trans ht).slice x3
    by_cases hkl : k < ps.length
    ·have dk : decide ((k : Int) < (ps.length : Int)) = true := decide_eq_true (by omega)
     have z0 : (0 : Int) <= (k : Int) := by omega
     have z1 : (k : Int) < (ps.length : Int) := by omega
     obtain ⟨g3, rfl, hb3, hc3, hf3⟩ := Sub.int hM3 k hkl
     obtain ⟨y, hcy⟩ := (hT.trans ht).int hc3
     have hfy := (hT.trans ht).fz _ hf3
     go_wp2_with fail
     exact ⟨⟨k + 1, by omega, by simp, ht.trans (Turn.one hcy hb3 0)⟩, by simp [intOf]; omega⟩
    ·have dk : decide ((k : Int) < (ps.length : Int)) = false := decide_eq_false (by omega)
     obtain ⟨y, hcy⟩ := (hT.trans ht).int y2
     have hfy := (hT.trans ht).fz _ (hf0 ((G.obs.length - 1) * 5 + 2))
     have z0 : (0 : Int) <= (G.obs.length : Int) - 1 := by omega
     have z1 : (G.obs.length : Int) - 1 < (G.obs.length : Int) := by omega
     have z2 : ((G.obs.length : Int) - 1).toNat = G.obs.length - 1 := by omega
     go_wp2_with fail
     go_meet
     exact ht.trans (Turn.one hcy hb0 200)
  ·have dn : decide ((0 : Int) < (G.obs.length : Int)) = false := decide_eq_false (by omega)
   go_wp2_with fail
   go_meet
   exact Turn.refl _ _
 case rest =>
  clear k0 k1 k2
  have ht := hcut
  clear hcut
  obtain ⟨k0, k1, k2⟩ := FB.out _ ht
  go_upto_if 37 with (fail)
  go_cut [38] (fun v3 wx => Turn b wA wx)
  case first =>
   by_cases hp : 0 < G.hands.length
   ·have dn : decide ((0 : Int) < (G.hands.length : Int)) = true := decide_eq_true (by omega)
    obtain ⟨g3, e3, hb3, hc3, hf3⟩ := Sub.int h.m2 (G.hands.length - 1) (by omega)
    simp only at e3
    subst e3
    obtain ⟨y, hcy⟩ := (hT.trans ht).int hc3
    have hfy := (hT.trans ht).fz _ hf3
    have z0 : (0 : Int) <= (G.hands.length : Int) - 1 := by omega
    have z1 : (G.hands.length : Int) - 1 < (G.hands.length : Int) := by omega
    have z2 : ((G.hands.length : Int) - 1).toNat = G.hands.length - 1 := by omega
    go_wp2_with fail
    go_meet
    exact ht.trans (Turn.one hcy hb3 0)
   ·have dn : decide ((0 : Int) < (G.hands.length : Int)) = false := decide_eq_false (by omega)
    go_wp2_with fail
    go_meet
    exact ht
  case rest =>
   clear k0 k1 k2 ht
   have ht := hcut
   clear hcut
   obtain ⟨k0, k1, k2⟩ := FB.out _ ht
   by_cases h1 : 0 < G.slots.length
   ·have d1 : decide ((0 : Int) < (G.slots.length : Int)) = true := decide_eq_true (by omega)
    obtain ⟨g1, P1, p1, e1, hb1, hc1, hM1⟩ := Sub.sl h.m1 0 h1
    simp only at e1
    subst e1
    generalize G.slots.getD 0 [] = fr at *
    have x1 := (hT.trans ht).slice hc1
    by_cases h2 : 0 < fr.length
    ·have d2 : decide ((0 : Int) < (fr.length : Int)) = true := decide_eq_true (by omega)
     obtain ⟨g2, P2, p2, rfl, hb2, hc2, hM2⟩ := Sub.sl hM1 0 h2
     generalize fr.getD 0 [] = l at *
     have x2 := (hT.trans ht).slice hc2
     by_cases h3 : 0 < l.length
     ·have d3 : decide ((0 : Int) < (l.length : Int)) = true := decide_eq_true (by omega)
      obtain ⟨g3, rfl, hb3, hc3, hf3⟩ := Sub.int hM2 0 h3
      obtain ⟨y, hcy⟩ := (hT.trans ht).int hc3
      have hfy := (hT.trans ht).fz _ hf3
      go_wp2_with fail
      exact ⟨rfl, .tuple #[], res_turned _ _, ⟨_, rfl⟩, hT.trans (ht.trans (Turn.one hcy hb3 0))⟩
     ·have d3 : decide ((0 : Int) < (l.length : Int)) = false := decide_eq_false (by omega)
      go_wp2_with fail
      exact ⟨rfl, .tuple #[], res_turned _ _, ⟨_, rfl⟩, hT.trans ht⟩
    ·have d2 : decide ((0 : Int) < (fr.length : Int)) = false := decide_eq_false (by omega)
     go_wp2_with fail
     exact ⟨rfl, .tuple #[], res_turned _ _, ⟨_, rfl⟩, hT.trans ht⟩
   ·have d1 : decide ((0 : Int) < (G.slots.length : Int)) = false := decide_eq_false (by omega)
    go_wp2_with fail
    exact ⟨rfl, .tuple #[], res_turned _ _, ⟨_, rfl⟩, hT.trans ht⟩
end
section
theorem wrap_all {i : Nat} (h : i < 9223372036854775807) : wrap64 ((i : Int) + 1) = ((i + 1 : Nat) : Int) := by unfold wrap64; omega
theorem same_all (l : List Int) (hl : l.length <= 9223372036854775807) : Ev (fun k => middenlaw17_same.f k l l) true := by
 have key : ∀ (d i : Nat), i + d = l.length -> Ev (fun k => middenlaw17_same.l0 k l l (i : Int)) true := by
  intro d
  induction d with
  | zero =>
   intro i hi
   exact Ev.step (fun k => by rw [middenlaw17_same.l0, if_neg (by omega)]) (Ev.now _)
  | succ d ih =>
   intro i hi
   exact Ev.step (fun k => by rw [middenlaw17_same.l0, if_pos (by omega), if_pos (by omega), if_pos (by omega), if_pos rfl, wrap_all (by omega)]) (by simpa using ih (i + 1) (by omega))
 have := key l.length 0 (by omega)
 simpa [middenlaw17_same.f] using this
theorem same_any (A : Option Addr) (c : Nat) (A' : Option Addr) (c' : Nat) (l : List Int) (w : World) (h : Kd.C (Kd.int .i64) w A l.length l) (hc : l.length <= c) (h' : Kd.C (Kd.int .i64) w A' l.length l) (hc' : l.length <= c') :
  Calls Tryd.prog 13 #[.slice A l.length c, .slice A' l.length c'] w fun e w' => e = .returned (.bool true) /\ ∃ m, w' = w.drewN m := by
 obtain ⟨k, hk⟩ := (same_all l h.2.1).rounds
 exact (middenlaw17_same.calls k A c l A' c' l _ w h hc h' hc' hk).mono fun e w' h => ⟨h.1, h.2.out⟩
def PathOut (p : List Int) (en : Int) (e : Ending) (w' : World) : Prop := ∃ A c, e = .returned (.tuple #[.slice A p.length c, .int .i64 en]) /\ p.length <= c /\ Kd.C (Kd.int .i64) w' A p.length p
theorem out_nil (en : Int) (w' : World) : PathOut [] en (.returned (.tuple #[nilS, .int .i64 en])) w' := ⟨none, 0, rfl, Nat.le_refl _, rfl, by simp, fun h => by simp at h⟩
theorem out_told {p : List Int} {B : Nat} {D : List Int -> Prop} {e : Ending} {w' : World} (h : Told e w' B D) (hD : ∀ q, D q -> q = p) : PathOut p 0 e w' := by
 obtain ⟨v, q, rfl, hR, hq⟩ := h
 obtain rfl := hD q hq
 obtain ⟨A, c, rfl, hl, hC⟩ := Kd.R_reads hR
 exact ⟨A, c, rfl, hl, hC⟩
end
section
abbrev noEx : Nat -> Prop := fun _ => False
theorem room_new {w : World} {r B : Nat} (hb : w.heap[r]? = some (.cells #[nilS, nilS, nilS, nilS, nilS, nilS, nilS, nilS] 37 (0, 0))) (hB : B <= r) : RoomAt w B r (fun _ => nilS) 0 noEx :=
 ⟨hb, hB, fun h => h, fun i _ => match i with
  | 0 => ⟨[], Kd.R_nil _ _ _ _ _, Nat.le_refl _, fun _ h => by cases h⟩
  | 1 => ⟨[], Kd.R_nil _ _ _ _ _, Nat.le_refl _, fun _ h => by cases h⟩
  | 2 => ⟨[], Kd.R_nil _ _ _ _ _, Nat.le_refl _, fun _ h => by cases h⟩
  | 3 => ⟨[], Kd.R_nil _ _ _ _ _, Nat.le_refl _, fun _ h => by cases h⟩
  | _ + 4 => ⟨[], Kd.R_nil _ _ _ _ _, Nat.le_refl _, fun _ h => by cases h⟩⟩
theorem InAt.below {w w1 : World} {b : Nat} {ok : Nat -> Prop} {g : Gv} {G : Gr} (h : InAt w b ok g G) (hb : Below w.heap.size w w1) : InAt w1 b ok g G := ⟨Kd.M_below h.m0 hb, Kd.M_below h.m1 hb, Kd.M_below h.m2 hb, Kd.M_below h.m3 hb, Kd.M_below h.m4 hb⟩
theorem Turn.word {b : Nat} {w W : World} (h : Turn b w W) {a : Addr} {x : Int} (hc : w.cell? a = some (.int .u64 x)) : W.cell? a = some (.int .u64 x) := by
 obtain ⟨u', h1, h2⟩ := h.same a _ hc
 rw [like_word h2] at h1
 exact h1
theorem gval_like (g : Gv) {G G' : Gr} (l : Like G G') (hn : G'.next = G.next) : gval g G' = .agg (gcells g G) := by
 unfold gval gcells
 rw [l.olen, l.slen, l.hands, l.reg, l.queue, hn]
end
end Go.Proofs.YtogpgkoelplknaaDoor
end
section
namespace Go.Proofs.YtogpgkoelplknaaDoor
open Go.RowKit Go.BigFrame PLensPaths Go.Proofs.YtogpgkoelplknaaDoorW.PrintWords Go.Proofs.YtogpgkoelplknaaDoorW.PrintMore
set_option linter.unusedVariables false
open Classical in
theorem both_rets (G : Gr) (s : Small G) : ∃ p en,
  (∀ g w, GAt w g G -> Tab w -> Calls Tryd.prog 19 #[gval g G] w fun e w' => PathOut p en e w' /\ Below w.heap.size w w') /\
  (∀ g w, GAt w g G -> Calls Tryd.prog 20 #[gval g G] w fun e w' => PathOut p en e w' /\ Below w.heap.size w w') := by
 cases hok : okB G with
 | false => exact ⟨[], _, fun g w h tb => (ret_bad g G w h tb s hok).mono fun e w' q => ⟨by rw [q.1]; exact out_nil _ _, q.2⟩, fun g w h => (rret_bad g G w h s hok).mono fun e w' q => ⟨by rw [q.1]; exact out_nil _ _, q.2⟩⟩
 | true =>
  by_cases hp : ∃ p, RetL (nxG G) (ekG G) G.obs.length (wsG G) p
  ·obtain ⟨p, hP⟩ := hp
   exact ⟨p, 0, fun g w h tb => (ret_good g G w h tb s hok).mono fun e w' q => ⟨out_told q.1 (fun q hq => hq.one hP), q.2⟩, fun g w h => (rret_good g G w h s hok).mono fun e w' q => ⟨out_told q.1 (fun q hq => hq.one hP), q.2⟩⟩
  ·exact ⟨[], 0, fun g w h tb => (ret_good g G w h tb s hok).mono fun e w' q => ⟨out_told q.1 (fun q hq => absurd ⟨q, hq⟩ hp), q.2⟩, fun g w h => (rret_good g G w h s hok).mono fun e w' q => ⟨out_told q.1 (fun q hq => absurd ⟨q, hq⟩ hp), q.2⟩⟩
set_option maxRecDepth 100000 in
set_option maxHeartbeats 16000000 in
theorem law_rets (g : Gv) (G : Gr) (w : World) (h : GAt w g G) (tb : Tab w) (s : Small G) (hc : costG G <= 8388608) :
  Calls Tryd.prog 5 #[gval g G] w fun e w' => e = .returned (.bool true) /\ Below w.heap.size w w' := by
 have bd := s.bd
 obtain ⟨p, en, PI, PR⟩ := both_rets G s
 obtain ⟨A0, A1, A2, A3, A4, c0, c1, c2, c3, c4⟩ := g
 have BX := boxed h
 unfold gcells at BX
 simp only at BX
 have GV : ∀ g : Gv, gval g G = .agg (gcells g G) := fun _ => rfl
 rw [GV]
 unfold gcells
 simp only
 go_enter Tryd.func5, Tryd.ntmps5
 go_upto_region 2 with fail
 obtain ⟨hX, hB, lA, hA⟩ := BX
 have s1 := alloc_sz w (.cells #[.slice A0 G.obs.length c0, .slice A1 G.slots.length c1, .slice A2 G.hands.length c2, .slice A3 G.reg.length c3, .slice A4 G.queue.length c4, .int .u64 G.next] 27 (0, 0))
 generalize w.alloc (.cells #[.slice A0 G.obs.length c0, .slice A1 G.slots.length c1, .slice A2 G.hands.length c2, .slice A3 G.reg.length c3, .slice A4 G.queue.length c4, .int .u64 G.next] 27) = wB at *
 have hR := blk_new wB (.cells #[nilS, nilS, nilS, nilS, nilS, nilS, nilS, nilS] 37 (0, 0))
 have hB2 := (Below.refl wB.heap.size wB).alloc (Nat.le_refl _) (.cells #[nilS, nilS, nilS, nilS, nilS, nilS, nilS, nilS] 37 (0, 0))
 have s2 := alloc_sz wB (.cells #[nilS, nilS, nilS, nilS, nilS, nilS, nilS, nilS] 37 (0, 0))
 generalize wB.alloc _ = wA at *
 have hX2 := box_keep hX hB2
 have hBA := below_then hB hB.size hB2
 rw [s1] at hR s2
 have hr := room_new (B := w.heap.size) hR (by omega)
 clear hX hB lA hA hB2 hR s1
 have hG0 := h
 have CG := Lib.hid (graph_room wA w.heap.size (w.heap.size + 1) _ 0 noEx ⟨A0, A1, A2, A3, A4, c0, c1, c2, c3, c4⟩ G hr (by omega) w hBA (Nat.le_refl _) h bd s.fr (by omega) (fun k hk => hk.elim))
 rw [GV] at CG
 simp only [gcells] at CG
 obtain ⟨cX, fX⟩ := blk_at hX2
 have k0 : wA.cell? ⟨w.heap.size, 0, none⟩ = some (.slice A0 G.obs.length c0) := cX 0
 have k1 : wA.cell? ⟨w.heap.size, 1, none⟩ = some (.slice A1 G.slots.length c1) := cX 1
 have k2 : wA.cell? ⟨w.heap.size, 2, none⟩ = some (.slice A2 G.hands.length c2) := cX 2
 have k3 : wA.cell? ⟨w.heap.size, 3, none⟩ = some (.slice A3 G.reg.length c3) := cX 3
 have k4 : wA.cell? ⟨w.heap.size, 4, none⟩ = some (.slice A4 G.queue.length c4) := cX 4
 have k5 : wA.cell? ⟨w.heap.size, 5, none⟩ = some (.int .u64 G.next) := cX 5
 clear cX fX
 go_upto_region 3 with (go_at_call 10; refine CG.out.mono ?_; rintro e w1 ⟨⟨B0, B1, B2, B3, B4, d0, d1, d2, d3, d4⟩, V1, rfl, hW1, hI⟩; simp only [gval, gcells])
 have hne : ¬ XV (fun _ => nilS) (w.heap.size + 1) w.heap.size := by
  rintro (e | ⟨j, _, e⟩)
  ·omega
  ·cases e
 have hX1 := (hW1.keep.blk w.heap.size (by omega) hne).trans hX2
 have sz1 := hW1.keep.size
 have hb1 := hBA.trans hW1.bel
 have hr1 := hW1.room
 clear k0 k1 k2 k3 k4 k5 CG hX2
 have hBC := (Below.refl w1.heap.size w1).alloc (Nat.le_refl _) (.cells #[.slice B0 G.obs.length d0, .slice B1 G.slots.length d1, .slice B2 G.hands.length d2, .slice B3 G.reg.length d3, .slice B4 G.queue.length d4, .int .u64 G.next] 27 (0, 0))
 have hYn := blk_new w1 (.cells #[.slice B0 G.obs.length d0, .slice B1 G.slots.length d1, .slice B2 G.hands.length d2, .slice B3 G.reg.length d3, .slice B4 G.queue.length d4, .int .u64 G.next] 27 (0, 0))
 generalize w1.alloc _ = wC at *
 have hX2 := box_keep hX1 hBC
 have hI2 := hI.below hBC
 have hr2 := hr1.below hBC
 have hbC := hb1.trans (hBC.mono (by omega))
 have hG2 := h.below hbC
 have tb2 := tb.below hbC
 have hIn := hI2.reads
 clear hX1 hI hr1 hb1
 have FC := Lib.hid (fun (W : World) (hb : Below wC.heap.size wC W) => (by
  have q1 := (blk_at (box_keep hX2 hb)).1
  have q2 := (blk_at (box_keep hYn hb)).1
  exact ⟨q1 0, q1 1, q1 2, q1 3, q1 4, q1 5, q2 0, q2 1, q2 2, q2 3, q2 4, q2 5⟩ : W.cell? ⟨w.heap.size, 0, none⟩ = some (.slice A0 G.obs.length c0) /\ W.cell? ⟨w.heap.size, 1, none⟩ = some (.slice A1 G.slots.length c1) /\ W.cell? ⟨w.heap.size, 2, none⟩ = some (.slice A2 G.hands.length c2) /\ W.cell? ⟨w.heap.size, 3, none⟩ = some (.slice A3 G.reg.length c3) /\ W.cell? ⟨w.heap.size, 4, none⟩ = some (.slice A4 G.queue.length c4) /\ W.cell? ⟨w.heap.size, 5, none⟩ = some (.int .u64 G.next) /\ W.cell? ⟨w1.heap.size, 0, none⟩ = some (.slice B0 G.obs.length d0) /\ W.cell? ⟨w1.heap.size, 1, none⟩ = some (.slice B1 G.slots.length d1) /\ W.cell? ⟨w1.heap.size, 2, none⟩ = some (.slice B2 G.hands.length d2) /\ W.cell? ⟨w1.heap.size, 3, none⟩ = some (.slice B3 G.reg.length d3) /\ W.cell? ⟨w1.heap.size, 4, none⟩ = some (.slice B4 G.queue.length d4) /\ W.cell? ⟨w1.heap.size, 5, none⟩ = some (.int .u64 G.next)))
 have P1 := PI _ wC hIn tb2
 have P2 := fun (W : World) (hb : Below wC.heap.size wC W) => PR _ W (hG2.below hb)
 have Q1 := Lib.hid (fun (W : World) (hb : Below wC.heap.size wC W) => sameGraph_q _ _ G W (hIn.below hb) (hG2.below hb) bd s.fr)
 have Q2 := Lib.hid (fun (W : World) (hb : Below wC.heap.size wC W) => hold_true W w.heap.size (w.heap.size + 1) V1 _ noEx (hr2.below hb) (by omega))
 rw [GV] at P1
 simp only [GV] at P2 Q1
 simp only [gcells] at P1 P2 Q1
 have P1' := Lib.hid P1
 have P2' := Lib.hid P2
 clear P1 P2
 obtain ⟨k0, k1, k2, k3, k4, k5, j0, j1, j2, j3, j4, j5⟩ := FC.out _ (Below.refl _ _)
 go_upto_region 5 with (first
  | (go_at_call 19; refine P1'.out.mono ?_; rintro e w2 ⟨⟨D1, e1, rfl, l1, hD1⟩, b2⟩; obtain ⟨k0, k1, k2, k3, k4, k5, j0, j1, j2, j3, j4, j5⟩ := FC.out _ b2)
  | (go_at_call 20; refine (P2'.out _ b2).mono ?_; rintro e w3 ⟨⟨D2, e2, rfl, l2, hD2⟩, b3'⟩; have b3 := below_then b2 b2.size b3'; obtain ⟨k0, k1, k2, k3, k4, k5, j0, j1, j2, j3, j4, j5⟩ := FC.out _ b3))
 have S1 := Lib.hid (same_any D1 e1 D2 e2 p w3 (Kd.C_below hD1 b3') l1 hD2 l2)
 go_upto_region 7 with (first
  | (go_at_call 13; refine S1.out.mono ?_; rintro e w4 ⟨rfl, m4, e4⟩; have b4 : Below wC.heap.size wC w4 := (by rw [e4]; exact below_drN b3 m4); clear e4; obtain ⟨k0, k1, k2, k3, k4, k5, j0, j1, j2, j3, j4, j5⟩ := FC.out _ b4)
  | (go_at_call 14; refine (Q1.out _ b4).mono ?_; rintro e w5 ⟨rfl, b5'⟩; have b5 := below_then b4 b4.size b5'; obtain ⟨k0, k1, k2, k3, k4, k5, j0, j1, j2, j3, j4, j5⟩ := FC.out _ b5)
  | (go_at_call 15; refine (Q2.out _ b5).mono ?_; rintro e w6 ⟨rfl, b6'⟩; have b6 := below_then b5 b5.size b6'; obtain ⟨k0, k1, k2, k3, k4, k5, j0, j1, j2, j3, j4, j5⟩ := FC.out _ b6))
 have TU := turned_any _ _ _ G w6 (hI2.below b6) (Nat.le_trans (Nat.le_trans sz1 hBC.size) b6.size) bd
 rw [GV] at TU
 simp only [gcells] at TU
 have TU' := Lib.hid TU
 clear TU S1 P1' P2' Q1 Q2
 go_upto_region 8 with (go_at_call 16; refine TU'.out.mono ?_; rintro e w7 ⟨⟨u, rfl⟩, T7⟩)
 have i0 := T7.slice j0
 have i1 := T7.slice j1
 have i2 := T7.slice j2
 have i3 := T7.slice j3
 have i4 := T7.slice j4
 have i5 := T7.word j5
 clear k0 k1 k2 k3 k4 k5 j0 j1 j2 j3 j4 j5 FC TU'
 obtain ⟨G', lk, hnx, hG7⟩ := gat_turned (hIn.below b6) T7.same
 have s' := s.turned lk
 obtain ⟨p', en', PI', PR'⟩ := both_rets G' s'
 have hb7 : Below w.heap.size w w7 := (hbC.trans (b6.mono (by have := hBC.size; omega))).trans (T7.bel.mono (by omega))
 have FD := Lib.hid (fun (W : World) (hb : Below w7.heap.size w7 W) => (⟨cell_later hb i0, cell_later hb i1, cell_later hb i2, cell_later hb i3, cell_later hb i4, cell_later hb i5⟩ : W.cell? ⟨w1.heap.size, 0, none⟩ = some (.slice B0 G.obs.length d0) /\ W.cell? ⟨w1.heap.size, 1, none⟩ = some (.slice B1 G.slots.length d1) /\ W.cell? ⟨w1.heap.size, 2, none⟩ = some (.slice B2 G.hands.length d2) /\ W.cell? ⟨w1.heap.size, 3, none⟩ = some (.slice B3 G.reg.length d3) /\ W.cell? ⟨w1.heap.size, 4, none⟩ = some (.slice B4 G.queue.length d4) /\ W.cell? ⟨w1.heap.size, 5, none⟩ = some (.int .u64 G.next)))
 have P1 := PI' _ w7 hG7 (tb.below hb7)
 have P2 := fun (W : World) (hb : Below w7.heap.size w7 W) => PR' _ W (hG7.below hb)
 rw [gval_like _ lk hnx] at P1
 simp only [gval_like _ lk hnx] at P2
 simp only [gcells] at P1 P2
 have P1' := Lib.hid P1
 have P2' := Lib.hid P2
 clear P1 P2
 go_upto_region 10 with (first
  | (go_at_call 19; refine P1'.out.mono ?_; rintro e w8 ⟨⟨D3, e3, rfl, l3, hD3⟩, b8⟩; obtain ⟨i0, i1, i2, i3, i4, i5⟩ := FD.out _ b8)
  | (go_at_call 20; refine (P2'.out _ b8).mono ?_; rintro e w9 ⟨⟨D4, e4, rfl, l4, hD4⟩, b9'⟩; have b9 := below_then b8 b8.size b9'))
 have S2 := Lib.hid (same_any D3 e3 D4 e4 p' w9 (Kd.C_below hD3 b9') l3 hD4 l4)
 go_wp2_with (go_at_call 13; refine S2.out.mono ?_; rintro e w10 ⟨rfl, m10, e10⟩)
 go_ret
 exact ⟨by simp, hb7.trans ((below_drN b9 m10).mono hb7.size)⟩
end Go.Proofs.YtogpgkoelplknaaDoor
end
