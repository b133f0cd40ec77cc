/- Merged texts: Rm3, Rm4, Dw1, Dw2, Dw3, Dw4, Lg21, Lg22, Dw5, Dw6, Dr1, Dr2, Rt1. No condition of its own: each text says what it holds. -/
import Derived.Test.YtogpgkoelplknaaDoorGRt2
import Derived.Deep.RegionLaw
section
namespace Go.Proofs.YtogpgkoelplknaaDoor
open Go.RowKit Go.BigFrame PLensPaths Go.Proofs.YtogpgkoelplknaaDoorW.PrintWords Go.Proofs.YtogpgkoelplknaaDoorW.PrintMore
set_option linter.unusedVariables false
section
theorem infoU : (Tryd.prog.info? 25).map (fun i => (i.zero, i.size, i.bytes)) = some (some (.int .u64 0), 1, 8) := by kernel_rfl
theorem infoSW : (Tryd.prog.info? 57).map (fun i => (i.zero, i.size, i.bytes)) = some (some nilS, 1, 24) := by kernel_rfl
abbrev RU (w : World) (base : Nat) (v : Value) (l : List Int) : Prop := Kd.R (Kd.int .u64) 25 w base All v l
section
variable {ops : Array Oper} {rest : List Oper} {o : Oper} {a : Act} {Q : Exit -> Act -> World -> Prop}
theorem app_word {w0 W : World} (base : Nat) (hgd : o.guard = none) (s x : Operand) (ho : o.op = .call { callee := .builtin .append, args := #[s, x], argTypes := #[57, 57] })
  (v : Value) (xs : List Int) (p : Int) (hs : a.eval s = v) (hx : a.eval x = .slice (some ⟨W.heap.size, 0, none⟩) 1 1) (HO : RU W base v xs) (HB : Below base w0 W) (hbase : base <= W.heap.size) (hl : xs.length <= 1099511627776)
  (h : ∀ v1 w1, RU w1 base v1 (xs ++ [p]) -> Below base w0 w1 -> W.grownBy w1 v.ownBlock -> (v1.ownBlock = v.ownBlock \/ ∃ b, v1.ownBlock = some b /\ W.heap.size <= b) -> wpList Tryd.prog ops Q rest (a.put o.dst v1) w1) :
  wpList Tryd.prog ops Q (o :: rest) a (W.alloc (.cells #[.int .u64 p] 25)) :=
 R_append1 (Kd.int .u64) base hgd s x 57 25 (.int .u64 0) 8 ho Tryd.underlying57 infoU rfl (by decide) (by omega) v xs p (.int .u64 p) All (fun _ => False) hs hx rfl (fun _ hk => hk.elim) (fun _ _ => trivial) HO HB hbase (by omega) h
end
set_option maxRecDepth 100000 in
set_option maxHeartbeats 8000000 in
theorem words_room (w : World) (B r : Nat) (V : Nat -> Value) (N : Nat) (ex : Nat -> Prop) (A : Option Addr) (c : Nat) (l : List Int) (hr : RoomAt w B r V N ex) (hB : B <= w.heap.size) (hC : Kd.C (Kd.int .u64) w A l.length l) (hl : l.length <= 1048576) (hN : N <= 8388608) (hx : ∀ k, ex k -> k < w.heap.size) :
  Calls Tryd.prog 75 #[.pointer (some ⟨r, 0, none⟩), .slice A l.length c] w fun e w' => ∃ v V', e = .returned v /\ Went w w' B r V V' (N + 1) ex /\ kSW.M w' w.heap.size (fun k => ¬ XV V' r k) l [v] := by
 go_enter Tryd.func75, Tryd.ntmps75
 go_wp2_with fail
 go_loopw [5, 6] (fun v iv wx => ∃ i : Nat, i <= l.length /\ iv = .int .i64 i /\ RU wx w.heap.size v (l.take i) /\ Below w.heap.size w wx) (fun _ iv _ => l.length - (intOf iv).toNat)
 case atStart => exact ⟨0, by omega, rfl, R_empty _ _ trivial (Nat.le_refl _), (Below.refl _ _).alloc (Nat.le_refl _) _⟩
 case round =>
  obtain ⟨i, hi, rfl, hR, hbr⟩ := hrel
  by_cases hlt : i < l.length
  ·have dlt : decide ((i : Int) < (l.length : Int)) = true := decide_eq_true (by omega)
   have i0 : (0 : Int) <= (i : Int) := by omega
   have i1 : (i : Int) < (l.length : Int) := by omega
   obtain ⟨ad, rfl, hc⟩ := int_at (Kd.C_below hC hbr) i hlt
   have et := Lib.hid (take_snocD l i hlt)
   generalize l.getD i 0 = x at *
   go_wp2_with (at_builtin; refine app_word (w0 := w) w.heap.size rfl _ _ rfl u5 _ x rfl rfl hR hbr ?h2 ?h3 ?_; (case h2 => exact hbr.size); (case h3 => simp only [List.length_take]; omega); intro v1 w1 hR1 hb1 hg1 hat1; clear hg1 hat1)
   go_roundw
   case rel => exact ⟨i + 1, by omega, by go_num, by rw [et.out]; exact hR1, hb1⟩
   case measure => simp [intOf]; omega
  ·have dlt : decide ((i : Int) < (l.length : Int)) = false := decide_eq_false (by omega)
   have hR' : RU wr w.heap.size u5 (l ++ mkW.take (2 * 0)) := by rw [List.take_of_length_le (by omega)] at hR; simpa using hR
   clear hR
   go_wp2_with fail
   go_loopw [5, 7] (fun v iv wx => ∃ j : Nat, j <= 20 /\ iv = .int .i64 ((2 * j : Nat) : Int) /\ RU wx w.heap.size v (l ++ mkW.take (2 * j)) /\ Below w.heap.size w wx) (fun _ iv _ => 40 - (intOf iv).toNat)
   case atStart => exact ⟨0, by omega, rfl, hR', hbr⟩
   case round =>
    clear hR' hbr
    obtain ⟨j, hj, rfl, hR, hbr⟩ := hrel
    by_cases hjt : j < 20
    ·have djt : decide (((2 * j : Nat) : Int) < 40) = true := decide_eq_true (by omega)
     have et := Lib.hid (take2 mkW (2 * j) 0 (by have : mkW.length = 40 := rfl; omega))
     rw [(mkW_two j hjt).1, (mkW_two j hjt).2] at et
     go_wp2_with (at_builtin; refine R_append2 (Kd.int .u64) (w0 := w) w.heap.size rfl _ _ 57 25 (.int .u64 0) 8 rfl Tryd.underlying57 infoU rfl (by decide) (by omega) u5 _ 7701 7702 [.int .u64 7701] [.int .u64 7702] All (fun _ => False) rfl rfl rfl rfl (fun _ h => h.elim) (fun _ _ => trivial) hR hbr ?h2 ?h3 ?_; (case h2 => exact hbr.size); (case h3 => simp only [List.length_append, List.length_take]; omega); intro v1 w1 hR1 hb1 hg1 hat1; clear hg1 hat1)
     go_roundw
     case rel => exact ⟨j + 1, by omega, by go_num, by rw [show 2 * (j + 1) = 2 * j + 2 by omega, et.out, <- List.append_assoc]; exact hR1, hb1⟩
     case measure => simp [intOf]; omega
    ·have djt : decide (((2 * j : Nat) : Int) < 40) = false := decide_eq_false (by omega)
     have hj20 : j = 20 := by omega
     subst hj20
     have hR' : RU wr w.heap.size u5 (l ++ mkW) := hR
     clear hR
     have hrA := hr.below hbr
     have hml : mkW.length = 40 := rfl
     obtain ⟨fl, hfl, hl1, hl2⟩ : ∃ fl : List Int, Go.RowKit.Hid (l ++ mkW = fl) /\ l.length <= fl.length /\ fl.length <= 1048616 := ⟨_, Lib.hid rfl, by simp, by simp; omega⟩
     rw [hfl.out] at hR'
     clear hml
     obtain ⟨A5, c5, rfl, hc5, hrd⟩ := Kd.R_reads hR'
     clear hrd
     obtain ⟨cB, fB⟩ := blk_at hrA.box
     have k1 : wr.cell? ⟨r, 2, none⟩ = some (V 1) := cB 2
     obtain ⟨xs, hX, hlX, hEX⟩ := hrA.row 1 (by omega)
     have fresh : ∀ k, w.heap.size <= k -> Ot ex V r 1 k /\ some k ≠ (V 1).ownBlock := fun k hk => ot_of (hr.fresh hk) (fun c => by have := hx k c; omega) (by omega)
     have hM : kSW.M wr B (fun k => w.heap.size <= k) fl [.slice A5 fl.length c5] := Sub.all (Kd.R_lower (Kd.R_mono (Kd.R_bound hR') (fun k hk => hk.2.1)) hB)
     have hMl := Lib.hid hM
     have hR5 := Lib.hid hR'
     clear hR' hM
     go_wp2_with (at_builtin; go_loud (refine R_append1 kSW (w0 := w) B rfl _ _ 31 57 nilS 24 rfl Tryd.underlying31 infoSW rfl (by decide) (by omega) (V 1) _ fl (.slice A5 fl.length c5) (Ot ex V r 1) (fun k => w.heap.size <= k) rfl rfl hMl.out fresh (fun k hk => (fresh k (Nat.le_trans hbr.size hk)).1) hX (hbr.mono hB) ?h2 ?h3 ?_; (case h2 => exact Nat.le_trans hB hbr.size); (case h3 => omega); intro v1 w1 hR1 hb1 hg1 hat1; obtain ⟨A1, n1, m1, rfl⟩ : ∃ A n m, v1 = .slice A n m := (by obtain ⟨A1, m1, e⟩ := Kd.R_slice hR1; exact ⟨_, _, _, e⟩); obtain ⟨cC, fC⟩ := blk_at (blk_grown hrA.box hg1 (fun e => ((hrA.row 1 (by omega)).own r e.symm).1.2.1 rfl)); have k2 : w1.cell? ⟨r, 2, none⟩ = some (V 1) := cC 2))
     go_ret
     have hfl' := hfl.out
     have hf : (Kd.int .u64).R 25 wr w.heap.size (fun k => ¬ XV V r k) (.slice A5 fl.length c5) fl := Kd.R_mono (Kd.R_bound hR5.out) (fun k hk => hr.fresh hk.2.1)
     obtain ⟨W1, f1⟩ := room_end (i := 1) (N' := N + 1) (Went.below hr hbr hB) hB (by omega) hf ⟨xs ++ [fl], hR1, by simp; omega, fun L hL => by
      rcases List.mem_append.1 hL with q | q
      ·exact hEX L q
      ·cases List.mem_singleton.1 q; exact ⟨l, hfl'.symm⟩⟩ hg1 hat1 hb1 (by omega)
     subst hfl'
     exact ⟨_, _, rfl, W1, Sub.pre f1 hl1⟩
end
section
theorem Sub.form {α : Type} {e : Nat} {d : Kd α} {w : World} {b : Nat} {ok : Nat -> Prop} {xs : List α} {v : Value} (h : (kSub e d).M w b ok xs [v]) : ∃ A n c, v = .slice A n c := by
 obtain ⟨v', full, fl, e1, _, m, _, _, A, c, cf, _, e2, _⟩ := h
 cases e1
 exact ⟨A, _, c, e2⟩
theorem R_lit1 {α : Type} (d : Kd α) (e : Nat) {W : World} {base : Nat} {ok okp : Nat -> Prop} {p : α} {cs : List Value} (hp : d.M W base okp p cs) (hok : ∀ k, okp k -> ok k) (hf : ok W.heap.size) (hb : base <= W.heap.size) : d.R e (W.alloc (.cells cs.toArray e)) base ok (.slice (some ⟨W.heap.size, 0, none⟩) 1 1) [p] := by
 have hl := d.K_len (d.K_of_M hp)
 refine ⟨fun k hk => ?_, cs, ?_, ?_⟩
 ·simp [Value.ownBlock] at hk
  subst hk
  exact hf
 ·have h2 := World.ownsRow_lit (base := base) (e := e) (size := d.sz) W cs.toArray 1 hb (by simp [maxLen]) (by simpa using hl)
  simpa using h2
 ·have hrep : Reps (d.M W base okp) d.sz [p] cs := ⟨by simp [hl], fun j q hj => by
   match j, hj with
   | 0, hj =>
    cases hj
    rw [Nat.zero_mul, List.drop_zero, <- hl, List.take_length]
    exact hp⟩
  refine hrep.imp_ (fun p c hp => d.M_mono (fun k hk => ⟨hok k hk.1, fun he => ?_⟩) (Kd.M_below (d.M_bound hp) (below_alloc (Below.refl _ _) _)))
  have h3 : k = W.heap.size := by simpa [Value.ownBlock] using he
  have := hk.2.2.1
  omega
theorem Went.push {w w1 w2 : World} {B r : Nat} {V V1 : Nat -> Value} {N : Nat} {ex : Nat -> Prop} {v v2 : Value} (h : Went w w1 B r V V1 N (fun k => ex k \/ v.ownBlock = some k)) (hg : w1.grownBy w2 v.ownBlock) (hat : v2.ownBlock = v.ownBlock \/ ∃ b, v2.ownBlock = some b /\ w1.heap.size <= b)
  (hv : ∀ k, v.ownBlock = some k -> w.heap.size <= k) (hB : B <= w.heap.size) : Went w w2 B r V V1 N (fun k => ex k \/ v2.ownBlock = some k) :=
 ⟨h.room.step (fun k hk hlt => hg.block k hlt (fun c => hk (.inr c.symm))) (fun k hk => by
  rcases hk with q | q
  ·exact .inl (.inl q)
  ·rcases hat with c | ⟨b, c, hle⟩
   ·exact .inl (.inr (by rw [<- c]; exact q))
   ·rw [c] at q; cases q; exact .inr hle) (Nat.le_refl _), h.keep.trans (Keeps.grown (X := fun k => v.ownBlock = some k) hg (fun k hk => hk)) (fun k hk => .inr (hv k hk)), h.ext,
  ⟨hg.os.trans h.bel.os, hg.tape.trans h.bel.tape, hg.output.trans h.bel.output, Nat.le_trans h.bel.size hg.size, fun k hk => (hg.block k (by have := h.keep.size; omega) (fun c => by have := hv k c.symm; omega)).trans (h.bel.block k hk)⟩⟩
theorem take_snocZ {α : Type} (l : List α) (i : Nat) (z : α) (h : i < l.length) : l.take (i + 1) = l.take i ++ [l.getD i z] := by
 rw [List.take_succ_eq_append_getElem h, List.getD_eq_getElem?_getD, List.getElem?_eq_getElem h]; rfl
theorem mk2_two : ∀ j, j < 4 -> mk2.getD (2 * j) [] = [-7701] /\ mk2.getD (2 * j + 1) [] = [-7702] := by decide
theorem infoSS : (Tryd.prog.info? 30).map (fun i => (i.zero, i.size, i.bytes)) = some (some nilS, 1, 24) := by kernel_rfl
theorem alloc_sz (W : World) (o : Obj) : (W.alloc o).heap.size = W.heap.size + 1 := by simp
theorem lit_int (W : World) (x : Int) {b : Nat} (hb : b <= W.heap.size) : kS1.M (W.alloc (.cells #[.int .i64 x] 3)) b (fun k => W.heap.size <= k) [x] [.slice (some ⟨W.heap.size, 0, none⟩) 1 1] :=
 Sub.all (R_lit1 (Kd.int .i64) 3 (cs := [.int .i64 x]) (okp := fun _ => False) rfl (fun _ h => h.elim) (Nat.le_refl _) hb)
theorem lits_int (W : World) (x y : Int) {b : Nat} (hb : b <= W.heap.size) :
  kS1.M ((W.alloc (.cells #[.int .i64 x] 3)).alloc (.cells #[.int .i64 y] 3)) b (fun k => W.heap.size <= k) [x] [.slice (some ⟨W.heap.size, 0, none⟩) 1 1] /\
  kS1.M ((W.alloc (.cells #[.int .i64 x] 3)).alloc (.cells #[.int .i64 y] 3)) b (fun k => W.heap.size <= k) [y] [.slice (some ⟨W.heap.size + 1, 0, none⟩) 1 1] := by
 have s1 := alloc_sz W (.cells #[.int .i64 x] 3)
 refine ⟨Kd.M_below (lit_int W x hb) ((Below.refl _ _).alloc (Nat.le_refl _) _), ?_⟩
 have := lit_int (W.alloc (.cells #[.int .i64 x] 3)) y (b := b) (by omega)
 rw [s1] at this
 exact kS1.M_mono (fun k hk => by omega) this
def cost2 (L : List (List Int)) : Nat := L.length + 1
set_option maxRecDepth 100000 in
set_option maxHeartbeats 8000000 in
theorem intLists_room (w : World) (B r : Nat) (V : Nat -> Value) (N : Nat) (ex : Nat -> Prop) (A : Option Addr) (c : Nat) (L : List (List Int)) (hr : RoomAt w B r V N ex) (hB : B <= w.heap.size) (hC : ∀ W, Below B w W -> Kd.C kInts W A L.length L) (hl : L.length <= 1048576) (hq : ∀ l ∈ L, l.length <= 1048576) (hN : N + cost2 L <= 8388608) (hx : ∀ k, ex k -> k < w.heap.size) :
  Calls Tryd.prog 76 #[.pointer (some ⟨r, 0, none⟩), .slice A L.length c] w fun e w' => ∃ v V', e = .returned v /\ Went w w' B r V V' (N + cost2 L) ex /\ kS2.M w' w.heap.size (fun k => ¬ XV V' r k) L [v] := by
 unfold cost2 at *
 have INTS := Lib.hid ints_room
 go_enter Tryd.func76, Tryd.ntmps76
 go_wp2_with fail
 go_loopw [5, 6] (fun v iv wx => ∃ (i : Nat) (Vx : Nat -> Value), i <= L.length /\ iv = .int .i64 i /\ Went w wx B r V Vx (N + i) (fun k => ex k \/ v.ownBlock = some k) /\ kS1.R 24 wx w.heap.size (fun k => ¬ XV Vx r k) v (L.take i)) (fun _ iv _ => L.length - (intOf iv).toNat)
 case atStart =>
  refine ⟨0, V, by omega, rfl, ⟨hr.step (fun k _ hk => (Below.refl _ _).alloc (Nat.le_refl _) _ |>.block k hk) (fun k hk => ?_) (by omega), Keeps.below ((Below.refl _ _).alloc (Nat.le_refl _) _), fun _ h => .inl h, (Below.refl _ _).alloc hB _⟩, R_empty _ _ (hr.fresh (Nat.le_refl _)) (Nat.le_refl _)⟩
  rcases hk with q | q
  ·exact .inl q
  ·simp [Value.ownBlock] at q
   exact .inr (by omega)
 case round =>
  obtain ⟨i, Vx, hi, rfl, hW, hR⟩ := hrel
  have hCx := hC wr hW.bel
  by_cases hlt : i < L.length
  ·have dlt : decide ((i : Int) < (L.length : Int)) = true := decide_eq_true (by omega)
   have i0 : (0 : Int) <= (i : Int) := by omega
   have i1 : (i : Int) < (L.length : Int) := by omega
   have hql := hq _ (getD_mem [] hlt)
   obtain ⟨ad, A1, c1, rfl, hc, hc1, hC1⟩ := sl_at hCx i hlt
   have et := Lib.hid (take_snocZ L i [] hlt)
   generalize L.getD i [] = l at *
   have hvb := Kd.R_lt hR
   have C0 := Lib.hid (INTS.out wr B r Vx (N + i) _ A1 c1 l hW.room (Nat.le_trans hB hW.keep.size) hC1 hql (by omega) (fun k hk => by
    rcases hk with q | q
    ·exact Nat.lt_of_lt_of_le (hx k q) hW.keep.size
    ·exact hvb k q))
   go_wp2_with (first
    | (go_at_call 38; refine C0.out.mono ?_; rintro e w1 ⟨v1, V1, rfl, hW1, hM1⟩; obtain ⟨A4, n4, m4, rfl⟩ := Sub.form hM1)
    | (at_builtin; refine R_append1 kS1 (w0 := w1) w.heap.size rfl _ _ 30 24 nilS 24 rfl Tryd.underlying30 infoS rfl (by decide) (by omega) u5 _ l (.slice A4 n4 m4) (fun k => ¬ XV V1 r k) (fun k => ¬ XV V1 r k /\ wr.heap.size <= k) rfl rfl (kS1.M_mono (fun k hk => ⟨hk.1, hk.2.1⟩) (kS1.M_lower hW.keep.size (kS1.M_bound hM1))) (fun k hk => ⟨hk.1, fun c => by have := hvb k c.symm; omega⟩) (fun k hk => hW1.room.fresh hk) (hW1.R hR) (Below.refl _ _) ?h2 ?h3 ?_; (case h2 => exact Nat.le_trans hW.keep.size hW1.keep.size); (case h3 => simp only [List.length_take]; omega); intro v2 w2 hR2 hb2 hg2 hat2))
   go_roundw
   case rel => exact ⟨i + 1, V1, by omega, by go_num, (hW.trans hW1).push hg2 hat2 (fun k hk => Kd.R_base hR k hk) hB, by rw [et.out]; exact hR2⟩
   case measure => simp [intOf]; omega
  ·have dlt : decide ((i : Int) < (L.length : Int)) = false := decide_eq_false (by omega)
   have hiL : i = L.length := by omega
   subst hiL
   have hR' : kS1.R 24 wr w.heap.size (fun k => ¬ XV Vx r k) u5 (L ++ mk2.take (2 * 0)) := by rw [List.take_of_length_le (by omega)] at hR; simpa using hR
   clear hR
   go_wp2_with fail
   go_loopw [5, 7] (fun v iv wx => ∃ j : Nat, j <= 4 /\ iv = .int .i64 ((2 * j : Nat) : Int) /\ Went w wx B r V Vx (N + L.length) (fun k => ex k \/ v.ownBlock = some k) /\ kS1.R 24 wx w.heap.size (fun k => ¬ XV Vx r k) v (L ++ mk2.take (2 * j))) (fun _ iv _ => 8 - (intOf iv).toNat)
   case atStart => exact ⟨0, by omega, rfl, hW, hR'⟩
   case round =>
    clear hR' hW hCx
    obtain ⟨j, hj, rfl, hW, hR⟩ := hrel
    have hsz := hW.keep.size
    by_cases hjt : j < 4
    ·have djt : decide (((2 * j : Nat) : Int) < 8) = true := decide_eq_true (by omega)
     have et := Lib.hid (take2 mk2 (2 * j) [] (by have : mk2.length = 8 := rfl; omega))
     rw [(mk2_two j hjt).1, (mk2_two j hjt).2] at et
     have okw : ∀ k, wr.heap.size <= k -> ¬ XV Vx r k /\ some k ≠ u5.ownBlock := fun k hk => ⟨hW.room.fresh hk, fun c => by have := Kd.R_lt hR k c.symm; omega⟩
     have okw : ∀ k, wr.heap.size <= k -> ¬ XV Vx r k /\ some k ≠ u5.ownBlock := fun k hk => ⟨hW.room.fresh hk, fun c => by have := Kd.R_lt hR k c.symm; omega⟩
     have hwb := ((Below.refl wr.heap.size wr).alloc (Nat.le_refl _) (.cells #[.int .i64 (-7701)] 3)).alloc (by rw [alloc_sz]; omega) (.cells #[.int .i64 (-7702)] 3)
     have hrb := Kd.R_below hR hwb
     obtain ⟨m1, m2⟩ := lits_int wr (-7701) (-7702) hsz
     have s2 : ((wr.alloc (.cells #[.int .i64 (-7701)] 3)).alloc (.cells #[.int .i64 (-7702)] 3)).heap.size = wr.heap.size + 1 + 1 := by rw [alloc_sz, alloc_sz]
     have HRB := Lib.hid hrb
     have HWB := Lib.hid hwb
     have M1 := Lib.hid m1
     have M2 := Lib.hid m2
     have S2 := Lib.hid s2
     have RL := Lib.hid (show (L ++ mk2.take (2 * j)).length <= 1048616 by have : mk2.length = 8 := rfl; simp only [List.length_append, List.length_take]; omega)
     clear hrb hwb m1 m2 s2
     go_wp2_with (at_builtin; refine R_append2 kS1 (w0 := wr) w.heap.size rfl _ _ 30 24 nilS 24 rfl Tryd.underlying30 infoS rfl (by decide) (by omega) u5 _ [-7701] [-7702] [.slice (some ⟨wr.heap.size, 0, none⟩) 1 1] [.slice (some ⟨wr.heap.size + 1, 0, none⟩) 1 1] (fun k => ¬ XV Vx r k) (fun k => wr.heap.size <= k) rfl (by rw [S2.out]; rfl) M1.out M2.out okw (fun k hk => (okw k (by rw [S2.out] at hk; omega)).1) HRB.out (HWB.out.mono hsz) ?h2 ?h3 ?_; (case h2 => rw [S2.out]; omega); (case h3 => have := RL.out; omega); intro v1 w1 hR1 hb1 hg1 hat1)
     go_roundw
     case rel => exact ⟨j + 1, by omega, by go_num, hW.push (grown_after HWB.out hg1) (by
      rcases hat1 with q | ⟨b, q, hle⟩
      ·exact .inl q
      ·exact .inr ⟨b, q, Nat.le_trans HWB.out.size hle⟩) (fun k hk => Kd.R_base hR k hk) hB, by rw [show 2 * (j + 1) = 2 * j + 2 by omega, et.out, <- List.append_assoc]; exact hR1⟩
     case measure => simp [intOf]; omega
    ·have djt : decide (((2 * j : Nat) : Int) < 8) = false := decide_eq_false (by omega)
     have hj20 : j = 4 := by omega
     subst hj20
     have hR' : kS1.R 24 wr w.heap.size (fun k => ¬ XV Vx r k) u5 (L ++ mk2) := hR
     clear hR
     have hrA := hW.room
     have hml : mk2.length = 8 := rfl
     obtain ⟨fl, hfl, hl1, hl2⟩ : ∃ fl : List (List Int), Go.RowKit.Hid (L ++ mk2 = fl) /\ L.length <= fl.length /\ fl.length <= 1048616 := ⟨_, Lib.hid rfl, by simp, by simp; omega⟩
     rw [hfl.out] at hR'
     clear hml
     obtain ⟨A5, c5, rfl, hc5, hrd⟩ := Kd.R_reads hR'
     clear hrd
     obtain ⟨cB, fB⟩ := blk_at hrA.box
     have k1 : wr.cell? ⟨r, 5, none⟩ = some (Vx 2) := cB 5
     obtain ⟨xs, hX, hlX, hEX⟩ := hrA.row 2 (by omega)
     have hW' := hW.less (ex' := ex) (fun k hk => .inl hk) (Nat.le_refl _)
     have hok : ∀ k, ¬ XV Vx r k /\ w.heap.size <= k -> Ot ex Vx r 2 k /\ some k ≠ (Vx 2).ownBlock := fun k hk => ot_of hk.1 (fun c => by have := hx k c; omega) (by omega)
     obtain ⟨xs, hX, hlX, hEX⟩ := hW'.room.row 2 (by omega)
     have hM : kS2.M wr B (fun k => ¬ XV Vx r k /\ w.heap.size <= k) fl [.slice A5 fl.length c5] := Sub.all (Kd.R_lower (Kd.R_mono (Kd.R_bound hR') (fun k hk => ⟨hk.1, hk.2.1⟩)) hB)
     have hMl := Lib.hid hM
     have hR5 := Lib.hid hR'
     clear hR' hM
     go_wp2_with (at_builtin; refine R_append1 kS2 (w0 := wr) B rfl _ _ 23 30 nilS 24 rfl Tryd.underlying23 infoSS rfl (by decide) (by omega) (Vx 2) _ fl (.slice A5 fl.length c5) (Ot ex Vx r 2) (fun k => ¬ XV Vx r k /\ w.heap.size <= k) rfl rfl hMl.out hok (fun k hk => (hok k ⟨hrA.fresh hk, Nat.le_trans hsz hk⟩).1) hX (Below.refl _ _) ?h2 ?h3 ?_; (case h2 => exact Nat.le_trans hB hsz); (case h3 => omega); intro v1 w1 hR1 hb1 hg1 hat1; obtain ⟨A1, n1, m1, rfl⟩ : ∃ A n m, v1 = .slice A n m := (by obtain ⟨A1, m1, e⟩ := Kd.R_slice hR1; exact ⟨_, _, _, e⟩); obtain ⟨cC, fC⟩ := blk_at (blk_grown hrA.box hg1 (fun e => ((hrA.row 2 (by omega)).own r e.symm).1.2.1 rfl)); have k2 : w1.cell? ⟨r, 5, none⟩ = some (Vx 2) := cC 5)
     go_ret
     have hfl' := hfl.out
     obtain ⟨W1, f1⟩ := room_end (i := 2) (N' := N + (L.length + 1)) hW' hB (by omega) hR5.out ⟨xs ++ [fl], hR1, by simp; omega, fun l hl => by
      rcases List.mem_append.1 hl with q | q
      ·exact hEX l q
      ·cases List.mem_singleton.1 q; exact ⟨L, hfl'.symm⟩⟩ hg1 hat1 (hW.bel.trans hb1) (by omega)
     subst hfl'
     exact ⟨_, _, rfl, W1, Sub.pre f1 hl1⟩
end
section
abbrev RS (w : World) (base : Nat) (v : Value) (xs : List (List Value)) : Prop := Kd.R (Kd.raw 2) 156 w base All v xs
theorem C_same {w w1 : World} {A : Option Addr} {n : Nat} {xs : List Int} (h : Kd.C (Kd.int .i64) w A n xs) (hs : ∀ ad, A = some ad -> 0 < n -> w1.heap[ad.block]? = w.heap[ad.block]?) : Kd.C (Kd.int .i64) w1 A n xs := by
 have q := Kd.reads_of_C (d := (0 : Int)) h
 refine Kd.C_of_reads (d := (0 : Int)) ⟨q.1, q.2.1, fun hn => ?_⟩
 obtain ⟨ad, e, hc⟩ := q.2.2 hn
 refine ⟨ad, e, fun j hj => ?_⟩
 rw [<- hc j hj]
 have := hs ad e hn
 simp only [World.cell?, add_block, this]
structure Stm where
 n : Int
 c : List Int
 l : List Int
 A : Option Addr
 k : Nat
def Stm.p (e : Stm) : Stp := ⟨e.n, e.c, e.l⟩
def Stm.cells (e : Stm) : List Value := [.int .i64 e.n, .slice e.A e.l.length e.k]
structure Stm.At (w : World) (LB : Nat -> Prop) (e : Stm) : Prop where
 lk : e.l.length <= e.k
 rd : Kd.C (Kd.int .i64) w e.A e.l.length e.l
 lb : ∀ ad, e.A = some ad -> 0 < e.l.length -> LB ad.block
theorem Stm.At.same {w w1 : World} {LB LB' : Nat -> Prop} {e : Stm} (h : Stm.At w LB e) (hs : ∀ k, LB k -> w1.heap[k]? = w.heap[k]?) (hl : ∀ k, LB k -> LB' k) : Stm.At w1 LB' e :=
 ⟨h.lk, C_same h.rd fun ad e1 hn => hs _ (h.lb ad e1 hn), fun ad e1 hn => hl _ (h.lb ad e1 hn)⟩
structure WkAt (w : World) (B gB gG cG n : Nat) (V : List Value) (L : List (List Int)) (bg : List Bool) (vO : Value) (F : List Int) (vS : Value) (ms : List Stm) (LB : Nat -> Prop) : Prop where
 bk : BkAt w B gB n V L (fun k => vO.ownBlock = some k \/ LB k)
 bg : RB w B (.slice (some ⟨gG, 0, none⟩) n cG) bg
 od : RI w B vO F
 st : RS w B vS (ms.map Stm.cells)
 at_ : ∀ e ∈ ms, Stm.At w LB e
 lb : ∀ k, LB k -> k < w.heap.size /\ vO.ownBlock ≠ some k /\ ∃ cells, w.heap[k]? = some (.cells cells 3 (0, 0))
section
variable {w w1 : World} {B gB gG cG n : Nat} {V : List Value} {L : List (List Int)} {bg : List Bool} {vO vS : Value} {F : List Int} {ms : List Stm} {LB : Nat -> Prop}
theorem WkAt.odlt (h : WkAt w B gB gG cG n V L bg vO F vS ms LB) : ∀ k, vO.ownBlock = some k \/ LB k -> k < w.heap.size := fun k e => by
 rcases e with e | e
 ·exact (RI_lt h.od k e).2
 ·exact (h.lb k e).1
theorem WkAt.below (h : WkAt w B gB gG cG n V L bg vO F vS ms LB) (hb : Below w.heap.size w w1) : WkAt w1 B gB gG cG n V L bg vO F vS ms LB :=
 ⟨h.bk.below hb, Kd.R_below h.bg hb, Kd.R_below h.od hb, Kd.R_below h.st hb, fun e he => (h.at_ e he).same (fun k hk => hb.block k (h.lb k hk).1) (fun _ q => q), fun k hk => by
  obtain ⟨a, b, c, d⟩ := h.lb k hk
  exact ⟨Nat.lt_of_lt_of_le a hb.size, b, c, (hb.block k a).trans d⟩⟩
theorem WkAt.ordApp (h : WkAt w B gB gG cG n V L bg vO F vS ms LB) {v1 : Value} {F1 : List Int} (h1 : RI w1 B v1 F1) (hg : w.grownBy w1 vO.ownBlock) (hat : v1.ownBlock = vO.ownBlock \/ ∃ b, v1.ownBlock = some b /\ w.heap.size <= b) :
  WkAt w1 B gB gG cG n V L bg v1 F1 vS ms LB := by
 have nb : some gB ≠ vO.ownBlock := Kd.R_ne h.od h.bk.out (by decide)
 have hs : ∀ k, LB k -> w1.heap[k]? = w.heap[k]? := fun k hk => hg.block k (h.lb k hk).1 (fun e => (h.lb k hk).2.1 e.symm)
 have b1 : BkAt w B gB n V L (fun k => (vO.ownBlock = some k \/ LB k) \/ v1.ownBlock = some k) := h.bk.more fun k e => by
  rcases e with e | e
  ·exact .inl e
  ·rcases hat with q | ⟨b, q, hb⟩
   ·exact .inl (.inl (q ▸ e))
   ·rw [q] at e; cases e; exact .inr hb
 have b2 := (b1.other hg (fun k e => .inl (.inl (.inl e))) nb).mono (ex' := fun k => v1.ownBlock = some k \/ LB k) (fun k e => by
  rcases e with e | e
  ·exact .inr e
  ·exact .inl (.inr e))
 refine ⟨b2, RB_over h.bg h.od hg, h1, Kd.R_over h.st h.od (by decide) hg, fun e he => (h.at_ e he).same hs (fun _ q => q), fun k hk => ?_⟩
 obtain ⟨a, b, c, d⟩ := h.lb k hk
 refine ⟨Nat.lt_of_lt_of_le a hg.size, fun e => ?_, c, (hs k hk).trans d⟩
 rcases hat with q | ⟨b', q, hb⟩
 ·exact b (q ▸ e)
 ·rw [q] at e; cases e; omega
theorem WkAt.rowApp (h : WkAt w B gB gG cG n V L bg vO F vS ms LB) {x : Nat} {v1 : Value} {l1 : List Int} (hx : x < n) (h1 : RI w1 B v1 l1) (hg : w.grownBy w1 (V.getD x nilS).ownBlock)
  (hat : v1.ownBlock = (V.getD x nilS).ownBlock \/ ∃ b, v1.ownBlock = some b /\ w.heap.size <= b) : WkAt (w1.setCell ⟨gB, x, none⟩ v1) B gB gG cG n (V.set x v1) (L.set x l1) bg vO F vS ms LB := by
 have hr := h.bk.row x hx
 have ty := Kd.R_typed hr
 have nb : some gB ≠ (V.getD x nilS).ownBlock := Kd.R_ne hr h.bk.out (by decide)
 have o1 := blk_grown h.bk.out hg nb
 have no : ∀ k, (vO.ownBlock = some k \/ LB k) -> (V.getD x nilS).ownBlock ≠ some k := fun k e q => h.bk.ex x hx k q e
 have hs : ∀ k, LB k -> (w1.setCell ⟨gB, x, none⟩ v1).heap[k]? = w.heap[k]? := fun k hk => by
  obtain ⟨a, b, c, d⟩ := h.lb k hk
  have ne : k ≠ gB := fun e => by rw [e, h.bk.out] at d; injection d with d; injection d with _ d; revert d; decide
  rw [Below.heap_setCell w1 _ v1 k ne]
  exact hg.block k a (fun e => no k (.inr hk) e.symm)
 refine ⟨h.bk.app hx h1 hg hat h.odlt, Kd.R_set (Kd.R_over' h.bg ty (by decide) hg) o1 (by decide) x v1, Kd.R_set (RI_other h.od hg ?_) o1 (by decide) x v1, Kd.R_set (Kd.R_over' h.st ty (by decide) hg) o1 (by decide) x v1, fun e he => (h.at_ e he).same hs (fun _ q => q), fun k hk => ?_⟩
 ·cases q : vO.ownBlock with
  | none => exact .inl rfl
  | some k => right; intro e; exact no k (.inl q) e.symm
 ·obtain ⟨a, b, c, d⟩ := h.lb k hk
  exact ⟨by simpa [World.setCell] using Nat.lt_of_lt_of_le a hg.size, b, c, (hs k hk).trans d⟩
theorem WkAt.setB (h : WkAt w B gB gG cG n V L bg vO F vS ms LB) {p : Addr} {v : Value} (hp : ∀ k, LB k -> k ≠ p.block) (hb : BkAt (w.setCell p v) B gB n V L (fun k => vO.ownBlock = some k \/ LB k)) {bg1 : List Bool} (h2 : RB (w.setCell p v) B (.slice (some ⟨gG, 0, none⟩) n cG) bg1)
  (h3 : RI (w.setCell p v) B vO F) {ms1 : List Stm} (h4 : RS (w.setCell p v) B vS (ms1.map Stm.cells)) (h5 : ∀ e ∈ ms1, Stm.At w LB e) : WkAt (w.setCell p v) B gB gG cG n V L bg1 vO F vS ms1 LB :=
 ⟨hb, h2, h3, h4, fun e he => (h5 e he).same (fun k hk => Below.heap_setCell w p v k (hp k hk)) (fun _ q => q), fun k hk => by
  obtain ⟨a, b, c, d⟩ := h.lb k hk
  exact ⟨by simpa [World.setCell] using a, b, c, (Below.heap_setCell w p v k (hp k hk)).trans d⟩⟩
theorem WkAt.lbne (h : WkAt w B gB gG cG n V L bg vO F vS ms LB) {g t : Nat} {cells : Array Value} (hc : w.heap[g]? = some (.cells cells t (0, 0))) (ht : 3 ≠ t) : ∀ k, LB k -> k ≠ g := fun k hk e => by
 obtain ⟨_, _, c, d⟩ := h.lb k hk
 rw [e, hc] at d
 injection d with d
 injection d with _ d
 exact ht d.symm
theorem BkAt.setT {ex : Nat -> Prop} (h : BkAt w B gB n V L ex) {g t : Nat} {cells : Array Value} (hc : w.heap[g]? = some (.cells cells t (0, 0))) (h1 : 3 ≠ t) (h2 : 24 ≠ t) (x : Nat) (v : Value) : BkAt (w.setCell ⟨g, x, none⟩ v) B gB n V L ex :=
 ⟨blk_far h.out (blk_ne h.out hc h2) v, h.vl, h.ll, fun y hy => Kd.R_set (h.row y hy) hc (fun q hq => by simp [Kd.int, Kd.scalar] at hq; rw [hq]; exact h1) x v, h.ne, h.ex, h.gb⟩
theorem WkAt.bgPut (h : WkAt w B gB gG cG n V L bg vO F vS ms LB) (x : Nat) (b : Bool) : WkAt (w.setCell ⟨gG, x, none⟩ (.bool b)) B gB gG cG n V L (bg.set x b) vO F vS ms LB := by
 obtain ⟨cells, hc⟩ := Kd.R_typed h.bg gG rfl
 exact h.setB (p := ⟨gG, x, none⟩) (h.lbne hc (by decide)) (h.bk.setT hc (by decide) (by decide) x _) (RB_put h.bg x b).1 (Kd.R_set h.od hc (by decide) x _) (Kd.R_set h.st hc (by decide) x _) h.at_
structure TopAt (w : World) (B : Nat) (vS : Value) (i : Nat) (e : Stm) (gS cS : Nat) : Prop where
 v : vS = .slice (some ⟨gS, 0, none⟩) (i + 1) cS
 b : B <= gS
 lt : gS < w.heap.size
 c0 : w.cell? ⟨gS, i * 2, none⟩ = some (.int .i64 e.n)
 c1 : w.cell? ⟨gS, i * 2 + 1, none⟩ = some (.slice e.A e.l.length e.k)
 f0 : w.frozen? ⟨gS, i * 2, none⟩ = false
 f1 : w.frozen? ⟨gS, i * 2 + 1, none⟩ = false
 ty : ∃ cells, w.heap[gS]? = some (.cells cells 156 (0, 0))
theorem WkAt.top {s : List Stm} {e : Stm} (h : WkAt w B gB gG cG n V L bg vO F vS (s ++ [e]) LB) : ∃ gS cS, TopAt w B vS s.length e gS cS := by
 have hst := h.st
 obtain ⟨gS, cS, rfl, b, lt, ty⟩ := Kd.R_form hst (by simp)
 have hl : ((s ++ [e]).map Stm.cells).length = s.length + 1 := by simp
 rw [hl] at hst
 obtain ⟨c, hc, hM, hcc, hf⟩ := Kd.R_elem hst ([] : List Value) ((s.length : Nat) : Int) (by omega) (by omega)
 obtain ⟨hx, _, _⟩ : c = _ /\ _ /\ _ := hM
 rw [Int.toNat_natCast] at hx hcc hf
 have : ((s ++ [e]).map Stm.cells).getD s.length [] = e.cells := by
  rw [List.getD_eq_getElem?_getD]; simp
 rw [this] at hx
 subst hx
 exact ⟨gS, cS, by rw [hl], b, lt, hcc 0 _ rfl, hcc 1 _ rfl, hf 0, hf 1, ty⟩
theorem WkAt.pop {s : List Stm} {e : Stm} {gS cS : Nat} (h : WkAt w B gB gG cG n V L bg vO F (.slice (some ⟨gS, 0, none⟩) (s.length + 1) cS) (s ++ [e]) LB) : WkAt w B gB gG cG n V L bg vO F (.slice (some ⟨gS, 0, none⟩) s.length cS) s LB := by
 refine ⟨h.bk, h.bg, h.od, ?_, fun e he => h.at_ e (List.mem_append.2 (.inl he)), h.lb⟩
 have := Kd.R_take h.st (m := s.length) (by simp)
 have e1 : ((s ++ [e]).map Stm.cells).take s.length = s.map Stm.cells := by
  rw [List.map_append, List.take_append_of_le_length (by simp), List.take_of_length_le (by simp)]
 rw [e1] at this
 exact this
theorem WkAt.cut {s : List Stm} {e : Stm} {gS cS : Nat} (h : WkAt w B gB gG cG n V L bg vO F (.slice (some ⟨gS, 0, none⟩) (s.length + 1) cS) (s ++ [e]) LB) {e1 : Stm} (hn : e1.n = e.n) (ha : Stm.At w LB e1) :
  WkAt (w.setCell ⟨gS, s.length * 2 + 1, none⟩ (.slice e1.A e1.l.length e1.k)) B gB gG cG n V L bg vO F (.slice (some ⟨gS, 0, none⟩) (s.length + 1) cS) (s ++ [e1]) LB := by
 obtain ⟨cells, hc⟩ := Kd.R_typed h.st gS rfl
 have hl : ((s ++ [e]).map Stm.cells).length = s.length + 1 := by simp
 refine h.setB (p := ⟨gS, s.length * 2 + 1, none⟩) (h.lbne hc (by decide)) (h.bk.setT hc (by decide) (by decide) _ _) (Kd.R_set h.bg hc (by decide) _ _) (Kd.R_set h.od hc (by decide) _ _) ?_ (fun e he => ?_)
 ·obtain ⟨c, hcl, hM, hcc, hf⟩ := Kd.R_elem h.st ([] : List Value) ((s.length : Nat) : Int) (by omega) (by omega)
  obtain ⟨hx, _, _⟩ : c = _ /\ _ /\ _ := hM
  have e2 : ((s ++ [e]).map Stm.cells).getD (s.length : Int).toNat [] = e.cells := by
   rw [Int.toNat_natCast, List.getD_eq_getElem?_getD]; simp
  rw [e2] at hx
  have := (Kd.R_seg (d := Kd.raw 2) h.st ((s.length : Nat) : Int) (by omega) (by omega) (c := c) (seg := [.slice e1.A e1.l.length e1.k]) (j := 1) (okp := fun _ => False) (x' := e1.cells) hcl hcc (by simp [Kd.raw]) ⟨by subst hx; simp [Stm.cells, hn], by subst hx; simp [Stm.cells], by subst hx; simp [Stm.cells, Value.oneCell']⟩ (fun k hk => hk.elim)).1
  rw [Int.toNat_natCast] at this
  have e3 : ((s ++ [e]).map Stm.cells).set s.length e1.cells = (s ++ [e1]).map Stm.cells := by
   simp
  rw [e3] at this
  exact this
 ·rcases List.mem_append.1 he with q | q
  ·exact h.at_ e (List.mem_append.2 (.inl q))
  ·simp at q; subst q; exact ha
theorem WkAt.lent (h : WkAt w B gB gG cG n V L bg vO F vS ms LB) (hb : Below w.heap.size w w1) {A : Option Addr} {l : List Int} {k : Nat} (hX : RI w1 w.heap.size (.slice A l.length k) l) (m : Int) :
  WkAt w1 B gB gG cG n V L bg vO F vS ms (fun j => LB j \/ (Value.slice A l.length k).ownBlock = some j) /\ Stm.At w1 (fun j => LB j \/ (Value.slice A l.length k).ownBlock = some j) ⟨m, [], l, A, k⟩ := by
 have h1 := h.below hb
 have lt := RI_lt hX
 have b2 := (h.bk.more (ex' := fun j => vO.ownBlock = some j \/ LB j \/ (Value.slice A l.length k).ownBlock = some j) (fun j e => by
  rcases e with e | e | e
  ·exact .inl (.inl e)
  ·exact .inl (.inr e)
  ·exact .inr (lt j e).1)).below hb
 refine ⟨⟨b2, h1.bg, h1.od, h1.st, fun e he => (h1.at_ e he).same (fun _ _ => rfl) (fun _ q => .inl q), fun j hj => ?_⟩, ⟨(Kd.R_reads' hX).2.1, (Kd.R_reads' hX).2.2, fun ad e1 hn => .inr (by simp only at e1; rw [e1]; rfl)⟩⟩
 rcases hj with q | q
 ·exact h1.lb j q
 ·refine ⟨(lt j q).2, fun e => ?_, Kd.R_typed hX j q⟩
  have := (lt j q).1
  have := (RI_lt h.od j e).2
  omega
theorem WkAt.stApp (h : WkAt w B gB gG cG n V L bg vO F vS ms LB) {vS1 : Value} {e : Stm} (ha : Stm.At w LB e) (h1 : RS w1 B vS1 (ms.map Stm.cells ++ [e.cells])) (hg : w.grownBy w1 vS.ownBlock) : WkAt w1 B gB gG cG n V L bg vO F vS1 (ms ++ [e]) LB := by
 have ty := Kd.R_typed h.st
 have hs : ∀ k, LB k -> w1.heap[k]? = w.heap[k]? := fun k hk => by
  obtain ⟨a, b, c, d⟩ := h.lb k hk
  refine hg.block k a fun e => ?_
  obtain ⟨cs, hc⟩ := ty k e.symm
  exact h.lbne hc (by decide) k hk rfl
 have nb : some gB ≠ vS.ownBlock := Kd.R_ne h.st h.bk.out (by decide)
 refine ⟨⟨blk_grown h.bk.out hg nb, h.bk.vl, h.bk.ll, fun x hx => Kd.R_over' (h.bk.row x hx) ty (by decide) hg, h.bk.ne, h.bk.ex, h.bk.gb⟩, Kd.R_over' h.bg ty (by decide) hg, Kd.R_over' h.od ty (by decide) hg, by rw [List.map_append]; exact h1, fun e2 he => ?_, fun k hk => ?_⟩
 ·rcases List.mem_append.1 he with q | q
  ·exact (h.at_ e2 q).same hs (fun _ q => q)
  ·simp at q; subst q; exact ha.same hs (fun _ q => q)
 ·obtain ⟨a, b, c, d⟩ := h.lb k hk
  exact ⟨Nat.lt_of_lt_of_le a hg.size, b, c, (hs k hk).trans d⟩
end
theorem infoStp : (Tryd.prog.info? 156).map (fun i => (i.zero, i.size, i.bytes)) = some (some (.agg #[.int .i64 0, .slice none 0 0]), 2, 32) := by kernel_rfl
section
variable {ops : Array Oper} {rest : List Oper} {o : Oper} {a : Act} {Q : Exit -> Act -> World -> Prop}
theorem app_stp {w0 W : World} (base : Nat) (hgd : o.guard = none) (s x : Operand) (ho : o.op = .call { callee := .builtin .append, args := #[s, x], argTypes := #[157, 157] })
  (v : Value) (xs : List (List Value)) (e : Stm) (hs : a.eval s = v) (hx : a.eval x = .slice (some ⟨W.heap.size, 0, none⟩) 1 1) (HO : RS W base v xs) (HB : Below base w0 W) (hbase : base <= W.heap.size) (hl : xs.length <= 1099511627)
  (h : ∀ v1 w1, RS w1 base v1 (xs ++ [e.cells]) -> Below base w0 w1 -> W.grownBy w1 v.ownBlock -> (v1.ownBlock = v.ownBlock \/ ∃ b, v1.ownBlock = some b /\ W.heap.size <= b) -> wpList Tryd.prog ops Q rest (a.put o.dst v1) w1) :
  wpList Tryd.prog ops Q (o :: rest) a (W.alloc (.cells #[.int .i64 e.n, .slice e.A e.l.length e.k] 156)) :=
 Kd.R_append (Kd.raw 2) base hgd s x 157 156 (.agg #[.int .i64 0, .slice none 0 0]) 32 ho Tryd.underlying157 infoStp rfl (by decide) (by omega) v xs e.cells e.cells All (fun _ => False) hs hx ⟨rfl, rfl, by simp [Stm.cells, Value.oneCell']⟩ (fun _ hk => hk.elim) (fun _ _ => trivial) HO HB hbase (by omega) h
end
theorem lit_stp (W : World) (e : Stm) {b : Nat} (hb : b <= W.heap.size) : RS (W.alloc (.cells #[.int .i64 e.n, .slice e.A e.l.length e.k] 156)) b (.slice (some ⟨W.heap.size, 0, none⟩) 1 1) [e.cells] :=
 R_lit1 (Kd.raw 2) 156 (cs := e.cells) (okp := fun _ => False) ⟨rfl, rfl, by simp [Stm.cells, Value.oneCell']⟩ (fun _ h => h.elim) trivial hb
end
section
def nxG (G : Gr) : Int -> List Int := fun n => if n = 0 then posL (holdP G) else wayOf G n
theorem nx_ok {G : Gr} (R : Rng G) (hh : ∀ x ∈ posL (holdP G), 1 <= x /\ x <= (G.obs.length : Int)) : NxOk (nxG G) G.obs.length := by
 refine ⟨fun p y hy => ?_⟩
 unfold nxG at hy
 split at hy
 ·exact hh y hy
 ·obtain ⟨a, b⟩ := ways_sub hy
  by_cases hp : (p - 1).toNat < G.obs.length
  ·have := R.ps _ (getD_mem (l := G.obs) default hp) y a
   omega
  ·rw [List.getD_eq_getElem?_getD, List.getElem?_eq_none (by omega)] at a
   cases a
set_option maxRecDepth 100000 in
set_option maxHeartbeats 8000000 in
theorem dom1_any (g : Gv) (G : Gr) (bx : Nat) (n : Int) (w : World) (hX : w.heap[bx]? = some (.cells (gcells g G) 27 (0, 0))) (hA : GAt w g G) (s : Small G) (n0 : 0 <= n) (n1 : n <= (G.obs.length : Int)) :
  Calls Tryd.prog 86 #[.int .i64 n, .pointer (some ⟨bx, 0, none⟩)] w fun e w' => ∃ v, e = .returned v /\ RI w' w.heap.size v (nxG G n) /\ Below w.heap.size w w' := by
 have bd := s.bd
 have hn := bd.n
 obtain ⟨cX, fX⟩ := blk_at hX
 have RC := Lib.hid (roots_any g G w hA s)
 obtain ⟨A0, A1, A2, A3, A4, c0, c1, c2, c3, c4⟩ := g
 unfold gcells at cX
 unfold gval gcells at RC
 simp only at cX RC
 by_cases e : n = 0
 ·subst e
  have HN : nxG G 0 = posL (holdP G) := if_pos rfl
  rw [HN]
  go_enter Tryd.func86, Tryd.ntmps86
  go_wp2_with (go_at_call 41; refine RC.out.mono ?_; rintro e w1 ⟨v1, rfl, hR1, hb1⟩)
  go_ret
  exact ⟨_, rfl, hR1, hb1⟩
 ·obtain ⟨i, rfl⟩ : ∃ i : Nat, n = (i : Int) + 1 := ⟨(n - 1).toNat, by omega⟩
  have HN : nxG G ((i : Int) + 1) = waysP (G.obs.getD i default) := by
   unfold nxG
   rw [if_neg e]
   unfold wayOf
   rw [show ((i : Int) + 1 - 1).toNat = i by omega]
  rw [HN]
  have hlt : i < G.obs.length := by omega
  have hps := (bd.i64 _ (getD_mem default hlt)).1
  obtain ⟨ad0, P3, p3, P4, p4, e0, k0, k1, k2, k3, k4, l3, C3, l4, C4⟩ := ob_at hA.r0 i hlt
  simp only at e0
  subst e0
  have WC := Lib.hid (ways_any (G.obs.getD i default) P3 P4 p3 p4 w C3 l3 hps)
  clear HN C3 C4 RC
  have dne : decide ((i : Int) + 1 = 0) = false := decide_eq_false (by omega)
  have ew : IntKind.i64.wrap ((i : Int) + 1 - 1) = (i : Int) := by rw [IntKind.wrap_i64]; omega
  have i0 : (0 : Int) <= (i : Int) := by omega
  have i1 : (i : Int) < (G.obs.length : Int) := by omega
  generalize G.obs.getD i default = o at *
  obtain ⟨f0, f1, f2, ps, rs⟩ := o
  simp only at *
  go_enter Tryd.func86, Tryd.ntmps86
  go_wp2_with (go_at_call 42; refine WC.out.mono ?_; rintro e w1 ⟨v1, rfl, hR1, hb1⟩)
  go_ret
  exact ⟨_, rfl, hR1, hb1⟩
theorem getD_set' {l : List Int} {i j : Nat} {x : Int} (h : i < l.length) : (l.set i x).getD j 0 = if i = j then x else l.getD j 0 := by
 rw [List.getD_eq_getElem?_getD, List.getElem?_set]
 by_cases e : i = j
 ·subst e; simp [h]
 ·rw [if_neg e, if_neg e, <- List.getD_eq_getElem?_getD]
def Turned (l m : List Int) (i : Nat) : Prop := m.length = l.length /\ ∀ k, k < l.length -> m.getD k 0 = if k < i \/ l.length - 1 - i < k then l.getD (l.length - 1 - k) 0 else l.getD k 0
theorem Turned.step {l m : List Int} {i : Nat} (h : Turned l m i) (hi : i < l.length - 1 - i) : Turned l ((m.set i (m.getD (l.length - 1 - i) 0)).set (l.length - 1 - i) (m.getD i 0)) (i + 1) := by
 obtain ⟨hl, hk⟩ := h
 refine ⟨by simp [hl], fun k kl => ?_⟩
 have ei : m.getD i 0 = l.getD i 0 := by rw [hk i (by omega), if_neg (by omega)]
 have ej : m.getD (l.length - 1 - i) 0 = l.getD (l.length - 1 - i) 0 := by rw [hk _ (by omega), if_neg (by omega)]
 rw [getD_set' (by simp; omega), getD_set' (by omega), ei, ej, hk k kl]
 by_cases e1 : l.length - 1 - i = k
 ·subst e1
  rw [if_pos rfl, if_pos (by omega)]
  congr 1; omega
 ·rw [if_neg e1]
  by_cases e2 : i = k
  ·subst e2
   rw [if_pos rfl, if_pos (by omega)]
  ·rw [if_neg e2]
   by_cases e3 : k < i \/ l.length - 1 - i < k
   ·rw [if_pos e3, if_pos (by omega)]
   ·rw [if_neg e3, if_neg (by omega)]
theorem Turned.over {l m : List Int} {i : Nat} (h : Turned l m i) (hi : ¬ i < l.length - 1 - i) : m = l.reverse := by
 obtain ⟨hl, hk⟩ := h
 refine List.ext_getElem (by simp [hl]) fun k h1 h2 => ?_
 have := hk k (by omega)
 rw [List.getD_eq_getElem?_getD, List.getElem?_eq_getElem h1] at this
 rw [List.getElem_reverse]
 simp only [Option.getD_some] at this
 rw [this]
 split
 ·rw [List.getD_eq_getElem?_getD, List.getElem?_eq_getElem (by omega)]; rfl
 ·have : k = l.length - 1 - k := by omega
  rw [List.getD_eq_getElem?_getD, List.getElem?_eq_getElem (by omega)]
  simp only [Option.getD_some]
  congr 1
set_option maxRecDepth 100000 in
set_option maxHeartbeats 8000000 in
theorem reverse_any (v : Value) (l : List Int) (B : Nat) (w : World) (h : RI w B v l) (hl : l.length <= 1099511627776) :
  Calls Tryd.prog 121 #[v] w fun e w' => e = .returned (.tuple #[]) /\ RI w' B v l.reverse /\ w.grownBy w' v.ownBlock := by
 by_cases hz : l.length = 0
 ·have : l = [] := List.eq_nil_of_length_eq_zero hz
  subst this
  obtain ⟨A, c, rfl⟩ := Kd.R_slice h
  simp only [List.length_nil] at h ⊢
  go_enter Tryd.func121, Tryd.ntmps121
  go_wp2_with fail
  go_loopw [2, 3] (fun iv jv wx => iv = .int .i64 0 /\ jv = .int .i64 (-1) /\ wx = w) (fun iv _ _ => 0)
  case atStart => exact ⟨rfl, rfl, rfl⟩
  case round =>
   obtain ⟨rfl, rfl, rfl⟩ := hrel
   go_wp2_with fail
   go_end0
   exact ⟨rfl, h, World.grownBy.refl _ _⟩
 ·obtain ⟨g, cap, rfl, g0, g1, -⟩ := RI_form h (by omega)
  obtain ⟨N, hN⟩ : ∃ N : Nat, l.length = N + 1 := ⟨l.length - 1, by omega⟩
  have HT := Lib.hid (show Turned l l 0 from ⟨rfl, fun k hk => by
   split
   ·omega
   ·rfl⟩)
  have hb0 : w.grownBy w (some g) := World.grownBy.refl _ _
  have HN := Lib.hid hN
  rw [hN] at h
  rw [hN]
  have ew : IntKind.i64.wrap (((N + 1 : Nat) : Int) - 1) = (N : Int) := by rw [IntKind.wrap_i64]; omega
  go_enter Tryd.func121, Tryd.ntmps121
  go_wp2_with fail
  go_loopw [2, 3] (fun iv jv wx => ∃ (i : Nat) (m : List Int), i <= N /\ iv = .int .i64 i /\ jv = .int .i64 ((N : Int) - i) /\ Hid (Turned l m i) /\ RI wx B (.slice (some ⟨g, 0, none⟩) (N + 1) cap) m /\ w.grownBy wx (some g)) (fun iv _ _ => N + 1 - (intOf iv).toNat)
  case atStart => exact ⟨0, l, by omega, rfl, by simp, HT, h, hb0⟩
  case round =>
   obtain ⟨i, m, hi, rfl, rfl, ht, hR, hg⟩ := hrel
   by_cases hlt : i < N - i
   ·have dlt : decide ((i : Int) < (N : Int) - (i : Int)) = true := decide_eq_true (by omega)
    obtain ⟨k, hk⟩ : ∃ k : Nat, (N : Int) - (i : Int) = (k : Int) := ⟨N - i, by omega⟩
    have hki : k = N - i := by omega
    have HK := Lib.hid hki
    rw [hk] at dlt ⊢
    have hml := (Kd.R_reads' hR).1
    obtain ⟨ci, fi⟩ := Kd.R_celln (d := (0 : Int)) hR ((i : Nat) : Int) (by omega) (by omega)
    obtain ⟨ck, fk⟩ := Kd.R_celln (d := (0 : Int)) hR ((k : Nat) : Int) (by omega) (by omega)
    rw [Int.toNat_natCast] at ci fi ck fk
    have hR2 := (RI_put (RI_put hR i (m.getD k 0)).1 k (m.getD i 0)).1
    have hg2 := (hg.trans (RI_put hR i (m.getD k 0)).2).trans (RI_put (RI_put hR i (m.getD k 0)).1 k (m.getD i 0)).2
    have ht2 := Lib.hid (show Turned l ((m.set i (m.getD k 0)).set k (m.getD i 0)) (i + 1) from by
     have := ht.out.step (by have := HN.out; omega)
     rw [show l.length - 1 - i = k by have := HN.out; have := HK.out; omega] at this
     exact this)
    have q0 : (0 : Int) <= (i : Int) := by omega
    have q1 : (0 : Int) <= (k : Int) := by omega
    have q2 : (i : Int) < (N : Int) + 1 := by omega
    have q3 : (k : Int) < (N : Int) + 1 := by omega
    have q4 : k ≠ i := by omega
    have q5 : i ≠ k := by omega
    have ew1 : IntKind.i64.wrap ((i : Int) + 1) = (i : Int) + 1 := by rw [IntKind.wrap_i64]; omega
    have ew2 : IntKind.i64.wrap ((k : Int) - 1) = (k : Int) - 1 := by rw [IntKind.wrap_i64]; omega
    clear hki
    go_wp2_with fail
    go_region
    go_wp2_with fail
    exact ⟨⟨i + 1, _, by omega, by go_num, by congr 1; have := HK.out; omega, ht2, Kd.R_drew hR2, hg2.trans (grown_of_below ((Below.refl _ _).drew) _)⟩, by simp [intOf]; omega⟩
   ·have dlt : decide ((i : Int) < (N : Int) - (i : Int)) = false := decide_eq_false (by omega)
    go_wp2_with fail
    go_end0
    rw [ht.out.over (by have := HN.out; omega)] at hR
    exact ⟨rfl, hR, hg⟩
end
section
theorem bel2 {B : Nat} {w W : World} (h : Below B w W) (hB : B <= W.heap.size) (o1 o2 : Obj) : Below B w ((W.alloc o1).alloc o2).drew := ((h.alloc hB o1).alloc (by rw [alloc_sz]; omega) o2).drew
theorem leBig {n : Nat} (h : n <= 1048576) : n <= 1099511627776 := by omega
section
variable {ops : Array Oper} {o : Oper} {a : Act} {Q : Exit -> Act -> World -> Prop} {Kc : Act -> World -> Prop}
theorem step_app_int {w0 W : World} (base : Nat) (hgd : o.guard = none) (s x : Operand) (ho : o.op = .call { callee := .builtin .append, args := #[s, x], argTypes := #[24, 24] })
  (v : Value) (xs : List Int) (p : Int) (hs : a.eval s = v) (hx : a.eval x = .slice (some ⟨W.heap.size, 0, none⟩) 1 1) (HO : RI W base v xs) (HB : Below base w0 W) (hbase : base <= W.heap.size) (hl : xs.length <= 1099511627776)
  (h : ∀ v1 w1, RI w1 base v1 (xs ++ [p]) -> Below base w0 w1 -> W.grownBy w1 v.ownBlock -> (v1.ownBlock = v.ownBlock \/ ∃ b, v1.ownBlock = some b /\ W.heap.size <= b) -> Kc (a.put o.dst v1) w1) :
  if Region.wanted o (yielded ops a.tmps) = true then Oper.wp Tryd.prog o a (W.alloc (.cells #[.int .i64 p] 3)) Kc Q else Kc (a.put o.dst undef) (W.alloc (.cells #[.int .i64 p] 3)) :=
 Kd.R_append_step (Kd.int .i64) base (by simp [Region.wanted, hgd]) s x 24 3 (.int .i64 0) 8 ho Tryd.underlying24 infoI rfl (by decide) (by omega) v xs p [.int .i64 p] All (fun _ => False) hs hx rfl (fun _ hk => hk.elim) (fun _ _ => trivial) HO HB hbase (by omega) h
end
theorem leBig2 {a b c d : Nat} (h : a <= b) (h2 : b + c <= d) (h3 : d <= 16777216) : a <= 1099511627776 := by omega
theorem Dfs.stlen {nx : Int -> List Int} {N : Nat} (H : NxOk nx N) {F : List Int} {st : List Stm} {e : Stm} {bg : List Bool} {L : List (List Int)} (h : Dfs nx N F ((st ++ [e]).map Stm.p) bg L) : st.length <= N /\ F.length <= N := by
 have := h.bound H
 simp at this
 omega
theorem w64' {n : Nat} (h : n <= 1099511627776) : IntKind.i64.wrap (n : Int) = (n : Int) := by
 rw [IntKind.wrap_i64]
 omega
theorem encs_replicate {α : Type} (f : α -> Value) (n : Nat) (x : α) : encs f (List.replicate n x) = List.replicate n (f x) := by simp [encs]
theorem run_rows (n : Nat) (hl : n <= 1099511627) (W : World) : (Instr.makeSlice 30 (.int .i64 n) (.int .i64 n)).run Tryd.prog W = .ok (.slice (some ⟨W.heap.size, 0, none⟩) n n) (W.alloc (.cells (List.replicate n nilS).toArray 24)) := by
 obtain ⟨i0, hi, hz0, hz1, hz2⟩ := info_parts infoS
 have hr := run_make (P := Tryd.prog) W 30 24 i0 nilS Tryd.underlying30 hi hz0 .i64 .i64 (n : Int) (n : Int) (by omega) (by omega) (by rw [hz2]; omega) (by omega)
 simp only [Int.toNat_natCast] at hr
 rw [hz1, Nat.mul_one] at hr
 have e : madeCells nilS.cells n = (List.replicate n nilS).toArray := by
  have : nilS.cells = #[nilS] := rfl
  rw [this, <- toList_madeCells_one]
 rw [<- e]
 exact hr
theorem run_bools (n : Nat) (hl : n <= 1099511627) (W : World) : (Instr.makeSlice 52 (.int .i64 n) (.int .i64 n)).run Tryd.prog W = .ok (.slice (some ⟨W.heap.size, 0, none⟩) n n) (W.alloc (.cells (List.replicate n (Value.bool false)).toArray 4)) := by
 obtain ⟨i0, hi, hz0, hz1, hz2⟩ := info_parts infoB
 have hr := run_make (P := Tryd.prog) W 52 4 i0 (.bool false) Tryd.underlying52 hi hz0 .i64 .i64 (n : Int) (n : Int) (by omega) (by omega) (by rw [hz2]; omega) (by omega)
 simp only [Int.toNat_natCast] at hr
 rw [hz1, Nat.mul_one] at hr
 have e : madeCells (Value.bool false).cells n = (List.replicate n (Value.bool false)).toArray := by
  have : (Value.bool false).cells = #[Value.bool false] := rfl
  rw [this, <- toList_madeCells_one]
 rw [<- e]
 exact hr
theorem run_ints (n : Nat) (hl : n <= 1099511627) (W : World) : (Instr.makeSlice 24 (.int .i64 n) (.int .i64 n)).run Tryd.prog W = .ok (.slice (some ⟨W.heap.size, 0, none⟩) n n) (W.alloc (.cells (List.replicate n (Value.int .i64 0)).toArray 3)) := by
 obtain ⟨i0, hi, hz0, hz1, hz2⟩ := info_parts infoI
 have hr := run_make (P := Tryd.prog) W 24 3 i0 (.int .i64 0) Tryd.underlying24 hi hz0 .i64 .i64 (n : Int) (n : Int) (by omega) (by omega) (by rw [hz2]; omega) (by omega)
 simp only [Int.toNat_natCast] at hr
 rw [hz1, Nat.mul_one] at hr
 have e : madeCells (Value.int .i64 0).cells n = (List.replicate n (Value.int .i64 0)).toArray := by
  have : (Value.int .i64 0).cells = #[Value.int .i64 0] := rfl
  rw [this, <- toList_madeCells_one]
 rw [<- e]
 exact hr
theorem new_rows (W : World) (n : Nat) {base : Nat} (hb : base <= W.heap.size) : BkAt (W.alloc (.cells (Array.replicate n nilS) 24)) base W.heap.size n (List.replicate n nilS) (List.replicate n []) (fun _ => True) := by
 have rl : ∀ k, (List.replicate n nilS).getD k nilS = nilS := fun k => by
  rw [List.getD_eq_getElem?_getD, List.getElem?_replicate]; split <;> rfl
 have rl2 : ∀ k, (List.replicate n ([] : List Int)).getD k [] = [] := fun k => by
  rw [List.getD_eq_getElem?_getD, List.getElem?_replicate]; split <;> rfl
 rw [<- List.toArray_replicate]
 refine ⟨blk_new W (.cells (List.replicate n nilS).toArray 24 (0, 0)), by simp, by simp, fun x hx => ?_, fun x y hx hy hxy k hk => ?_, fun x hx k hk => ?_, hb⟩
 ·rw [rl, rl2]; exact RI_nil _ _
 ·rw [rl] at hk; simp [Value.ownBlock] at hk
 ·rw [rl] at hk; simp [Value.ownBlock] at hk
theorem new_bools (W : World) (n : Nat) {base : Nat} (hb : base <= W.heap.size) (hn : n <= 1099511627) : RB (W.alloc (.cells (Array.replicate n (Value.bool false)) 4)) base (.slice (some ⟨W.heap.size, 0, none⟩) n n) (List.replicate n false) := by
 have h2 := World.ownsRow_lit (base := base) (e := 4) (size := 1) W (List.replicate n (Value.bool false)).toArray n hb (by simp [maxLen]; omega) (by simp)
 refine Kd.R_of_own ?_ (fun _ _ => trivial)
 simpa [encs_replicate] using h2
theorem new_ints (W : World) (n : Nat) {base : Nat} (hb : base <= W.heap.size) (hn : n <= 1099511627) : RI (W.alloc (.cells (Array.replicate n (Value.int .i64 0)) 3)) base (.slice (some ⟨W.heap.size, 0, none⟩) n n) (List.replicate n 0) := by
 have h2 := World.ownsRow_lit (base := base) (e := 3) (size := 1) W (List.replicate n (Value.int .i64 0)).toArray n hb (by simp [maxLen]; omega) (by simp)
 refine Kd.R_of_own ?_ (fun _ _ => trivial)
 simpa [encs_replicate] using h2
def wgt (G : Gr) (i : Nat) : Nat := (nxG G (i : Int)).length + 1
theorem way_len (G : Gr) (x : Int) : (wayOf G x).length <= (psOf G x).length := by
 unfold wayOf psOf waysP
 exact Nat.le_trans (List.length_filter_le _ _) (by simp)
theorem unb_le (G : Gr) : ∀ n, unb (wgt G) (List.replicate (n + 1) false) 0 <= (holdP G).length + 1 + sumTo (fun x => (psOf G x).length) n + n := by
 intro n
 induction n with
 | zero =>
  have : (posL (holdP G)).length <= (holdP G).length := List.length_filter_le _ _
  simp [unb, wgt, nxG]
  omega
 | succ n ih =>
  rw [unb_new]
  have h1 : wgt G (0 + (n + 1)) <= (psOf G ((n : Int) + 1)).length + 1 := by
   unfold wgt nxG
   rw [if_neg (by omega)]
   have := way_len G (((0 + (n + 1) : Nat)) : Int)
   rw [show (((0 + (n + 1) : Nat)) : Int) = (n : Int) + 1 by omega] at this ⊢
   omega
  have h2 : sumTo (fun x => (psOf G x).length) (n + 1) = (psOf G ((n : Int) + 1)).length + sumTo (fun x => (psOf G x).length) n := rfl
  omega
set_option maxRecDepth 100000 in
set_option maxHeartbeats 16000000 in
theorem walked_any (g : Gv) (G : Gr) (bx : Nat) (w : World) (hX : w.heap[bx]? = some (.cells (gcells g G) 27 (0, 0))) (hA : GAt w g G) (s : Small G) (R : Rng G) (hh : ∀ x ∈ posL (holdP G), 1 <= x /\ x <= (G.obs.length : Int)) :
  Calls Tryd.prog 87 #[.int .i64 ((G.obs.length : Int) + 1), .func (.func 86) #[] #[.pointer (some ⟨bx, 0, none⟩)]] w fun e w' =>
   ∃ vO F gB V L bg, e = .returned (.tuple #[vO, .slice (some ⟨gB, 0, none⟩) (G.obs.length + 1) (G.obs.length + 1)]) /\ RI w' w.heap.size vO F.reverse /\ BkAt w' w.heap.size gB (G.obs.length + 1) V L (fun k => vO.ownBlock = some k) /\ Dfs (nxG G) G.obs.length F [] bg L /\ Below w.heap.size w w' := by
 have bd := s.bd
 have hn := bd.n
 have H := Lib.hid (nx_ok R hh)
 have hb0 := Below.refl w.heap.size w
 go_enter Tryd.func87, Tryd.ntmps87
 go_upto_region 1 with fail
 go_cut [6, 7] (fun s6 s7 wx => ∃ gB gG cG, s6 = .slice (some ⟨gB, 0, none⟩) (G.obs.length + 1) (G.obs.length + 1) /\ s7 = .slice (some ⟨gG, 0, none⟩) (G.obs.length + 1) cG /\ BkAt wx w.heap.size gB (G.obs.length + 1) (List.replicate (G.obs.length + 1) nilS) (List.replicate (G.obs.length + 1) []) (fun _ => True) /\ RB wx w.heap.size s7 (List.replicate (G.obs.length + 1) false) /\ Below w.heap.size w wx)
 have hr1 : ∀ W : World, (Instr.makeSlice 30 (.int .i64 ((G.obs.length : Int) + 1)) (.int .i64 ((G.obs.length : Int) + 1))).run Tryd.prog W = _ := run_rows (G.obs.length + 1) (by omega)
 have hr2 : ∀ W : World, (Instr.makeSlice 52 (.int .i64 ((G.obs.length : Int) + 1)) (.int .i64 ((G.obs.length : Int) + 1))).run Tryd.prog W = _ := run_bools (G.obs.length + 1) (by omega)
 case first =>
  go_region
  ·go_wp2_with fail
   go_meet
   have b1 := hb0.alloc (Nat.le_refl _) (.cells (Array.replicate (G.obs.length + 1) nilS) 24)
   have a1 := alloc_sz w (.cells (Array.replicate (G.obs.length + 1) nilS) 24)
   refine ⟨_, _, _, rfl, rfl, ((new_rows w (G.obs.length + 1) (Nat.le_refl _)).below (((Below.refl _ _).alloc (Nat.le_refl _) _).drew)), ?_, bel2 hb0 (Nat.le_refl _) _ _⟩
   have := Kd.R_drew (new_bools (w.alloc (.cells (Array.replicate (G.obs.length + 1) nilS) 24)) (G.obs.length + 1) (base := w.heap.size) (by omega) (by omega))
   rw [a1] at this
   exact this
  ·go_wp2_with fail
   go_meet
   have a1 := alloc_sz w (.cells (Array.replicate (G.obs.length + 1) (Value.bool false)) 4)
   refine ⟨_, _, _, rfl, rfl, ?_, Kd.R_drew (Kd.R_alloc (new_bools w (G.obs.length + 1) (Nat.le_refl _) (by omega)) _), bel2 hb0 (Nat.le_refl _) _ _⟩
   have := (new_rows (w.alloc (.cells (Array.replicate (G.obs.length + 1) (Value.bool false)) 4)) (G.obs.length + 1) (base := w.heap.size) (by omega)).below ((Below.refl _ _).drew)
   rw [a1] at this
   exact this
 case rest =>
  obtain ⟨gB, gG, cG, rfl, rfl, hBk, hBg, hb1⟩ := hcut
  have hW : WkAt wc w.heap.size gB gG cG (G.obs.length + 1) (List.replicate (G.obs.length + 1) nilS) (List.replicate (G.obs.length + 1) []) (List.replicate (G.obs.length + 1) false) nilS [] nilS [] (fun _ => False) :=
   ⟨hBk.mono (fun k _ => trivial), hBg, RI_nil _ _, Kd.R_nil _ _ _ _ _, fun e he => (by cases he), fun k hk => hk.elim⟩
  have hW2 := hW.bgPut 0 true
  obtain ⟨cz, fz⟩ := RB_cell hBg 0 (by simp)
  have hb2 := hb1.setCell (p := ⟨gG, 0, none⟩) (Kd.R_base hBg gG rfl) (.bool true)
  have hD := Lib.hid (Dfs.begin H.out)
  clear hBk hBg hW hb1
  go_upto_region 3 with fail
  generalize wc.setCell ⟨gG, 0, none⟩ (.bool true) = w2 at *
  have hX2 := box_keep hX hb2
  have hA2 := hA.below hb2
  have NC := Lib.hid (dom1_any g G bx 0 w2 hX2 hA2 s (by omega) (by omega))
  have hBw := hb2.size
  go_upto_region 4 with (first
   | fail
   | (go_at_call 86; refine NC.out.mono ?_; rintro e w3 ⟨v3, rfl, hR3, hb3⟩; obtain ⟨A3, k3, rfl, -⟩ := Kd.R_reads hR3; obtain ⟨hW3, hE3⟩ := hW2.lent hb3 hR3 0; have hb4 := hb2.trans (hb3.mono hb2.size)))
  have hW4 := hW3.stApp hE3 (lit_stp w3 ⟨0, [], nxG G 0, A3, k3⟩ (Nat.le_trans hBw hb3.size)) (World.grownBy_alloc w3 _ none)
  have hb5 := hb4.alloc hb4.size (.cells #[.int .i64 0, .slice A3 (nxG G 0).length k3] 156)
  simp only [List.nil_append] at hW4
  have hM0 : unb (wgt G) ((List.replicate (G.obs.length + 1) false).set 0 true) 0 + stW [⟨0, [], nxG G 0⟩] <= 16777216 := by
   have h1 := unb_set (wgt G) (List.replicate (G.obs.length + 1) false) 0 0 (by simp) (by simp)
   have h2 := unb_le G G.obs.length
   have h3 := s.hold
   have h4 := s.m
   unfold allPs at h4
   have h5 : stW [⟨0, [], nxG G 0⟩] = wgt G 0 := by simp [stW, wgt]
   simp only [Nat.zero_add] at h1
   omega
  have hLL : LLen (List.replicate (G.obs.length + 1) ([] : List Int)) 0 := fun y => by
   rw [List.getD_eq_getElem?_getD, List.getElem?_replicate]
   split <;> simp
  obtain ⟨M0, hMq, hM1⟩ : ∃ M0, unb (wgt G) ((List.replicate (G.obs.length + 1) false).set 0 true) 0 + stW [⟨0, [], nxG G 0⟩] <= M0 /\ M0 <= 16777216 := ⟨_, Nat.le_refl _, hM0⟩
  have hM := Lib.hid hMq
  clear hMq
  generalize w3.alloc (.cells #[.int .i64 0, .slice A3 (nxG G 0).length k3] 156) = w5 at *
  generalize (List.replicate (G.obs.length + 1) false).set 0 true = bg0 at *
  generalize List.replicate (G.obs.length + 1) ([] : List Int) = L0 at *
  generalize List.replicate (G.obs.length + 1) nilS = V0 at *
  have hL0 := Lib.hid hLL
  clear hLL hW3 hE3 hR3 hb3 hb4 hW2 hX2 hA2 cz fz NC hb2
  go_wp2_with fail
  go_loopg [8, 9] M0 (fun kq v8 v9 wx => ∃ (V : List Value) (L : List (List Int)) (bg : List Bool) (F : List Int) (ms : List Stm) (LB : Nat -> Prop), Hid (Dfs (nxG G) G.obs.length F (ms.map Stm.p) bg L) /\ WkAt wx w.heap.size gB gG cG (G.obs.length + 1) V L bg v9 F v8 ms LB /\ Hid (unb (wgt G) bg 0 + stW (ms.map Stm.p) <= kq) /\ Hid (∃ c, LLen L c /\ c + kq <= M0) /\ Below w.heap.size w wx)
  case atStart => exact ⟨V0, L0, bg0, [], [⟨0, [], nxG G 0, A3, k3⟩], _, hD, hW4, hM, Lib.hid ⟨0, hL0.out, by omega⟩, hb5⟩
  case round =>
   clear hW4 hD hM hL0 hb5
   obtain ⟨V, L, bg, F, ms, LB, hD, hW, hM, hL, hbr⟩ := hrel
   rcases List.eq_nil_or_concat ms with hms | ⟨st, e, hms⟩
   ·subst hms
    obtain ⟨AS, cS, rfl⟩ := Kd.R_slice hW.st
    have hst := hW.st
    simp only [List.map_nil, List.length_nil] at hst ⊢
    have hFl := hD.out.bound H.out
    simp only [List.map_nil, List.length_nil] at hFl
    have REV := Lib.hid (reverse_any u9 F w.heap.size wr hW.od (by omega))
    have dlt : decide ((0 : Int) < 0) = false := by decide
    go_wp2_with (go_at_call 121; refine REV.out.mono ?_; rintro e w9 ⟨rfl, hR9, hg9⟩)
    go_ret2
    exact ⟨u9, F, gB, V, L, bg, rfl, hR9, (hW.bk.other hg9 (fun k e => .inl (.inl e)) (Kd.R_ne hW.od hW.bk.out (by decide))).mono (fun k e => .inl e), hD.out, hbr.grown hg9 hbr.size (fun k hk => (RI_lt hW.od k hk).1)⟩
   ·rw [List.concat_eq_append] at hms
    subst hms
    obtain ⟨gS, cS, hT⟩ := hW.top
    obtain ⟨rfl, bS, ltS, c0, c1, f0, f1, tyS⟩ := hT
    have dlt : decide ((0 : Int) < (st.length : Int) + 1) = true := decide_eq_true (by omega)
    obtain ⟨hst, hFl⟩ := Dfs.stlen H.out hD.out
    have i0 : (0 : Int) <= (st.length : Int) := by omega
    have i1 : (st.length : Int) < (st.length : Int) + 1 := by omega
    have ewm : IntKind.i64.wrap (st.length : Int) = (st.length : Int) := w64' (leBig (Nat.le_trans hst hn))
    obtain ⟨n, c, l, A, k⟩ := e
    have hE := hW.at_ _ (List.mem_append.2 (.inr (List.mem_singleton.2 rfl)))
    simp only at c0 c1
    cases l with
    | nil =>
     simp only [List.length_nil] at c1
     have hsz := hbr.size
     have hD2 := hD.out
     rw [List.map_append] at hD2
     obtain ⟨hP, hW2⟩ := hD2.pop H.out
     have HP := Lib.hid hP
     have hk : unb (wgt G) bg 0 + stW (st.map Stm.p ++ [⟨n, c, []⟩]) <= gk := by have := hM.out; rw [List.map_append] at this; exact this
     have HK := Lib.hid (show unb (wgt G) bg 0 + stW (st.map Stm.p) + 1 <= gk from by have : stW (st.map Stm.p) < stW (st.map Stm.p ++ [⟨n, c, []⟩]) := hW2; omega)
     clear hD2 hP hW2 hD hk hM
     have hOd := hW.od
     have hcS : st.length + 1 <= cS := by have := (Kd.R_reads' hW.st).2.1; simpa using this
     have hcS2 : (st.length : Int) <= (cS : Int) := by omega
     obtain ⟨AO, cO, rfl⟩ := Kd.R_slice hOd
     go_upto_region 9 with (at_builtin; go_loud (refine app_int (w0 := w) w.heap.size rfl _ _ rfl (.slice AO F.length cO) F n rfl rfl hOd hbr hsz ?h3 ?_); (case h3 => exact leBig (Nat.le_trans hFl hn)); intro v1 w1 hR1 hb1 hg1 hat1; have hW1 := hW.ordApp hR1 hg1 hat1)
     go_wp2_with fail
     go_roundg (gk - 1)
     case measure => have := HK.out; omega
     case rel =>
      obtain ⟨cc, hc1, hc2⟩ := hL.out
      exact ⟨V, L, bg, F ++ [n], st, LB, HP, hW1.pop, Lib.hid (by have := HK.out; omega), Lib.hid ⟨cc, hc1, by omega⟩, hb1⟩
    | cons y l =>
     simp only [List.length_cons] at c1
     have hD2 : Dfs (nxG G) G.obs.length F (st.map Stm.p ++ [⟨n, c, y :: l⟩]) bg L := by have := hD.out; rw [List.map_append] at this; exact this
     have hk : unb (wgt G) bg 0 + stW (st.map Stm.p ++ [⟨n, c, y :: l⟩]) <= gk := by have := hM.out; rw [List.map_append] at this; exact this
     obtain ⟨hyn, y0, y1, n0, n1⟩ := hD2.eat_rng H.out
     obtain ⟨yn, rfl⟩ : ∃ yn : Nat, y = (yn : Int) := ⟨y.toNat, by omega⟩
     have hbgl := hD2.bl
     have hLl := hD2.ll
     have HEat := Lib.hid (fun hb => hD2.eat H.out hb)
     have HPush := Lib.hid (fun hb => hD2.push H.out hb)
     rw [Int.toNat_natCast] at HEat HPush
     have HK := Lib.hid hk
     clear hD hD2 hM hk hyn
     obtain ⟨ad, e0, hy⟩ := int_at hE.rd 0 (by simp)
     simp only at e0
     subst e0
     have hy1 : wr.cell? (ad.add 0) = some (.int .i64 (yn : Int)) := hy
     have hy0 : wr.cell? ad = some (.int .i64 (yn : Int)) := hy1
     have hlk : l.length + 1 <= k := hE.lk
     have hlk2 : (l.length : Int) + 1 <= (k : Int) := by omega
     have dl0 : decide ((l.length : Int) + 1 = 0) = false := decide_eq_false (by omega)
     have l0 : (0 : Int) < (l.length : Int) + 1 := by omega
     have l1 : (1 : Int) <= (l.length : Int) + 1 := by omega
     have hAt1 : Stm.At wr LB ⟨n, c ++ [(yn : Int)], l, if k = 1 then some ad else some ⟨ad.block, ad.off + 1, none⟩, k - 1⟩ := by
      refine ⟨by simp only; omega, ?_, fun ad' e1 hn => ?_⟩
      ·have := Kd.C_drop hE.rd (m := 1) (c := k) (by simp) hlk
       simpa [Kd.int, Kd.scalar, Addr.add] using this
      ·have hb := hE.lb ad rfl (by simp)
       simp only at e1
       split at e1 <;> (cases e1; exact hb)
     generalize hA' : (if k = 1 then some ad else some (⟨ad.block, ad.off + 1, none⟩ : Addr)) = A' at hAt1
     have hW6 := hW.cut (e1 := ⟨n, c ++ [(yn : Int)], l, A', k - 1⟩) rfl hAt1
     have hb6 := hbr.setCell (p := ⟨gS, st.length * 2 + 1, none⟩) bS (.slice A' l.length (k - 1))
     go_upto_region 12 with fail
     simp only at hW6 hb6
     generalize wr.setCell ⟨gS, st.length * 2 + 1, none⟩ (.slice A' l.length (k - 1)) = w6 at *
     obtain ⟨g6, c6, hT6⟩ := hW6.top
     have hv6 := hT6.v
     cases hv6
     obtain ⟨-, -, -, t0, t1, tf0, tf1, ⟨tcells, tyS6⟩⟩ := hT6
     simp only at t0 t1
     have hxN : yn < G.obs.length + 1 := by omega
     have hVl := hW6.bk.vl
     obtain ⟨cB, fB⟩ := blk_at hW6.bk.out
     have hcB : w6.cell? ⟨gB, yn, none⟩ = some (V.getD yn nilS) := by rw [cB yn]; simp [List.getD_eq_getElem?_getD, show yn < V.length by omega]
     have hfB := fB yn
     clear cB fB
     have hRn := hW6.bk.row yn hxN
     have hgB := hW6.bk.gb
     have hoB := hW6.bk.out
     have APP := Lib.hid (fun (w1 : World) (v1 : Value) (l1 : List Int) (h1 : RI w1 w.heap.size v1 l1) (hg : w6.grownBy w1 (V.getD yn nilS).ownBlock) (hat : v1.ownBlock = (V.getD yn nilS).ownBlock \/ ∃ b, v1.ownBlock = some b /\ w6.heap.size <= b) => hW6.rowApp hxN h1 hg hat)
     have KB := Lib.hid (fun (w1 : World) (hg : w6.grownBy w1 (V.getD yn nilS).ownBlock) => (blk_at (blk_grown hW6.bk.out hg (Kd.R_ne hRn hW6.bk.out (by decide)))).2 yn)
     have KC := Lib.hid (fun (w1 : World) (hg : w6.grownBy w1 (V.getD yn nilS).ownBlock) => ((blk_at (blk_grown hW6.bk.out hg (Kd.R_ne hRn hW6.bk.out (by decide)))).1 yn).trans (show V.toArray[yn]? = some (V.getD yn nilS) by simp [List.getD_eq_getElem?_getD, show yn < V.length by omega]))
     obtain ⟨cc, hc1, hc2⟩ := hL.out
     have hln := leBig2 (hc1 yn) hc2 hM1
     have hst1 : 1 <= stW (st.map Stm.p ++ [⟨n, c, (yn : Int) :: l⟩]) := by simp [stW] <;> omega
     have HL := Lib.hid (show ∃ c', LLen (L.set yn (L.getD yn [] ++ [n])) c' /\ c' + (gk - 1) <= M0 from ⟨cc + 1, hc1.set (by omega), by have := HK.out; omega⟩)
     clear hst1
     have hszw := hb6.size
     clear hL hc1 hc2 hW6 hW hbr hE hAt1 c0 c1 f0 f1 hy hy0 hy1 tyS
     have q0 : (0 : Int) <= (yn : Int) := by omega
     have q1 : (yn : Int) < (G.obs.length : Int) + 1 := by omega
     generalize V.getD yn nilS = vn at *
     generalize L.getD yn [] = ln at *
     have nSB : gS ≠ gB := blk_ne tyS6 hoB (by decide)
     have KE := Lib.hid (fun (W : World) (hb : Below w6.heap.size w6 W) => (⟨cell_later hb hcB, cell_later hb t0⟩ : W.cell? ⟨gB, yn, none⟩ = some vn /\ W.cell? ⟨gS, st.length * 2, none⟩ = some (.int .i64 n)))
     have hcB2 : ∀ o : Obj, (w6.alloc o).cell? ⟨gB, yn, none⟩ = some vn := fun o => (KE.out _ ((Below.refl _ _).alloc (Nat.le_refl _) o)).1
     have KT := Lib.hid (fun (w1 : World) (hg : w6.grownBy w1 vn.ownBlock) => (((blk_at (blk_grown tyS6 hg (Kd.R_ne hRn tyS6 (by decide)))).1 _).trans ((((blk_at tyS6).1 _).symm).trans t0) : w1.cell? ⟨gS, st.length * 2, none⟩ = some (.int .i64 n)))
     go_upto_region 12 with fail
     go_cut [11] (fun s11 wx => ∃ v1 : Value, s11 = .int .i64 (yn : Int) /\ WkAt wx w.heap.size gB gG cG (G.obs.length + 1) (V.set yn v1) (L.set yn (ln ++ [n])) bg u9 F (.slice (some ⟨gS, 0, none⟩) (st.length + 1) cS) (st ++ [⟨n, c ++ [(yn : Int)], l, A', k - 1⟩]) LB /\ Below w.heap.size w wx)
     case first =>
      go_region_law
       (first
        | ((refine step_app_int (w0 := w) (W := w6.drew) w.heap.size rfl _ _ rfl vn ln n rfl rfl (Kd.R_drew hRn) hb6.drew hszw hln ?_; intro v7 w7 hR7 hb7 hg7' hat7'; have hg7 : w6.grownBy w7 vn.ownBlock := (grown_of_below ((Below.refl _ _).drew) _).trans hg7'; have hat7 : v7.ownBlock = vn.ownBlock \/ ∃ b, v7.ownBlock = some b /\ w6.heap.size <= b := hat7'; have hW7 := APP.out w7 v7 _ hR7 hg7 hat7; have f7 := KB.out w7 hg7; have c7 := KC.out w7 hg7; have t7 := KT.out w7 hg7; have t8 : (w7.setCell ⟨gB, yn, none⟩ v7).cell? ⟨gS, st.length * 2, none⟩ = some (.int .i64 n) := (cell_far nSB v7).trans t7; have hb8 := hb7.setCell (p := ⟨gB, yn, none⟩) hgB v7; obtain ⟨g7, c7', rfl, -⟩ := RI_form hR7 (by simp); rw [show (ln ++ [n]).length = ln.length + 1 by simp] at hW7 hb8 t8)))
      all_goals go_wp2_with fail
      all_goals go_meet
      all_goals exact ⟨_, rfl, hW7, hb8⟩
     case rest =>
      obtain ⟨v1, rfl, hW8, hb8⟩ := hcut
      clear hRn hb6 APP KB KC KE KT hcB hcB2 t0 t1 tf0 tf1 tyS6 hoB hfB hln
      obtain ⟨cz, fz⟩ := RB_cell hW8.bg yn hxN
      have hgG := Kd.R_base hW8.bg gG rfl
      by_cases hbg : bg.getD yn false = true
      ·rw [hbg] at cz
       obtain ⟨hP, hst⟩ := HEat.out hbg
       have HP := Lib.hid hP
       have HK2 := Lib.hid (show unb (wgt G) bg 0 + stW (st.map Stm.p ++ [⟨n, c ++ [(yn : Int)], l⟩]) + 1 <= gk from by have := HK.out; omega)
       clear hP hst HEat HPush HK
       go_wp2_with fail
       go_roundg (gk - 1)
       case measure => have := HK2.out; omega
       case rel =>
        obtain ⟨c', h1, h2⟩ := HL.out
        exact ⟨_, _, bg, F, st ++ [⟨n, c ++ [(yn : Int)], l, A', k - 1⟩], LB, by rw [List.map_append]; exact HP, hW8, Lib.hid (by rw [List.map_append]; have := HK2.out; exact Nat.le_sub_of_add_le this), Lib.hid ⟨c', h1, h2⟩, hb8⟩
      ·have hbf : bg.getD yn false = false := by simpa using hbg
       rw [hbf] at cz
       obtain ⟨hP, hst⟩ := HPush.out hbf
       have HP := Lib.hid hP
       have hun := unb_set (wgt G) bg yn 0 (by omega) hbf
       have hwg : wgt G (0 + yn) = (nxG G (yn : Int)).length + 1 := by unfold wgt; rw [Nat.zero_add]
       have HK2 := Lib.hid (show unb (wgt G) (bg.set yn true) 0 + stW (st.map Stm.p ++ [⟨n, c ++ [(yn : Int)], l⟩] ++ [⟨(yn : Int), [], nxG G (yn : Int)⟩]) + 1 <= gk from by have := HK.out; omega)
       clear hP hst HEat HPush HK hun hwg
       have hW9 := hW8.bgPut yn true
       have hb9 := hb8.setCell (p := ⟨gG, yn, none⟩) hgG (.bool true)
       go_upto_region 15 with fail
       generalize wc.setCell ⟨gG, yn, none⟩ (.bool true) = w9 at *
       have NC := Lib.hid (dom1_any g G bx yn w9 (box_keep hX hb9) (hA.below hb9) s (by omega) (by omega))
       have hstl : ((st ++ [(⟨n, c ++ [(yn : Int)], l, A', k - 1⟩ : Stm)]).map Stm.cells).length <= 1099511627 := by simp; omega
       clear hW8 hb8 cz fz
       go_wp2_with (first
        | (at_builtin; go_loud (refine app_stp (w0 := w) w.heap.size rfl _ _ rfl (.slice (some ⟨gS, 0, none⟩) (st.length + 1) cS) ((st ++ [(⟨n, c ++ [(yn : Int)], l, A', k - 1⟩ : Stm)]).map Stm.cells) ⟨(yn : Int), [], nxG G (yn : Int), A10, k10⟩ rfl rfl hW10.st hb10 hb10.size hstl ?_); intro v11 w11 hR11 hb11 hg11 hat11; have hW11 := hW10.stApp hE10 hR11 hg11)
        | (go_at_call 86; refine NC.out.mono ?_; rintro e w10 ⟨v10, rfl, hR10, hb10'⟩; obtain ⟨A10, k10, rfl, -⟩ := Kd.R_reads hR10; obtain ⟨hW10, hE10⟩ := hW9.lent hb10' hR10 (yn : Int); have hb10 := hb9.trans (hb10'.mono hb9.size)))
       go_roundg (gk - 1)
       case measure => have := HK2.out; omega
       case rel =>
        obtain ⟨c', h1, h2⟩ := HL.out
        exact ⟨_, _, bg.set yn true, F, st ++ [⟨n, c ++ [(yn : Int)], l, A', k - 1⟩] ++ [⟨(yn : Int), [], nxG G (yn : Int), A10, k10⟩], _, by rw [List.map_append, List.map_append]; exact HP, hW11, Lib.hid (by rw [List.map_append, List.map_append]; have := HK2.out; exact Nat.le_sub_of_add_le this), Lib.hid ⟨c', h1, h2⟩, hb11⟩
end
section
set_option maxRecDepth 100000 in
set_option maxHeartbeats 8000000 in
theorem common_any {nx : Int -> List Int} {N : Nat} (H : NxOk nx N) {order P U : List Int} (O : Ord nx order P) (UO : UpOk nx N P U) (hPl : P.length = N + 1) (w : World) (B gP cP gU cU : Nat) (hP : RI w B (.slice (some ⟨gP, 0, none⟩) (N + 1) cP) P) (hU : RI w B (.slice (some ⟨gU, 0, none⟩) (N + 1) cU) U) (a0 b0 : Int)
  (ua : 0 <= fa U a0) (ub : 0 <= fa U b0) (ra : Rd nx a0) (rb : Rd nx b0) :
  Calls Tryd.prog 88 #[.slice (some ⟨gP, 0, none⟩) (N + 1) cP, .slice (some ⟨gU, 0, none⟩) (N + 1) cU, .int .i64 a0, .int .i64 b0] w fun e w' => ∃ c, e = .returned (.int .i64 c) /\ Com nx U a0 b0 c /\ ∃ m, w' = w.drewN m := by
 have HM := Lib.hid (Meet.begin (N := N) ua ub ra rb)
 have HH := Lib.hid H
 have HO := Lib.hid O
 have HU := Lib.hid UO
 have hUl := UO.ul
 clear H O UO ua ub ra rb
 go_enter Tryd.func88, Tryd.ntmps88
 go_wp2_with fail
 go_loopg [2, 3] ((fa P a0).toNat + (fa P b0).toNat) (fun kq va vb wx => ∃ a b : Int, va = .int .i64 a /\ vb = .int .i64 b /\ Hid (Meet nx N U a0 b0 a b) /\ Hid ((fa P a).toNat + (fa P b).toNat <= kq) /\ ∃ m, wx = w.drewN m)
 case atStart => exact ⟨a0, b0, rfl, rfl, HM, Lib.hid (Nat.le_refl _), 0, rfl⟩
 case round =>
  obtain ⟨a, b, rfl, rfl, hM, hK, m, rfl⟩ := hrel
  by_cases hab : a = b
  ·subst hab
   have d1 : (a == a) = true := by simp
   go_wp2_with fail
   go_ret
   exact ⟨a, rfl, hM.out.met, m, rfl⟩
  ·have ar := hM.out.ra.rng HH.out
   have br := hM.out.rb.rng HH.out
   have pa0 := (HO.out.nn hM.out.ra).1
   have pb0 := (HO.out.nn hM.out.rb).1
   obtain ⟨c1, -⟩ := Kd.R_celln (d := (0 : Int)) hP a ar.1 (by omega)
   obtain ⟨c2, -⟩ := Kd.R_celln (d := (0 : Int)) hP b br.1 (by omega)
   obtain ⟨c3, -⟩ := Kd.R_celln (d := (0 : Int)) hU a ar.1 (by omega)
   obtain ⟨c4, -⟩ := Kd.R_celln (d := (0 : Int)) hU b br.1 (by omega)
   have e1 : rdOf 0 P a = fa P a := rfl
   have e2 : rdOf 0 P b = fa P b := rfl
   have e3 : rdOf 0 U a = fa U a := rfl
   have e4 : rdOf 0 U b = fa U b := rfl
   rw [e1] at c1
   rw [e2] at c2
   rw [e3] at c3
   rw [e4] at c4
   clear e1 e2 e3 e4
   obtain ⟨an, rfl⟩ : ∃ n : Nat, a = (n : Int) := ⟨a.toNat, by omega⟩
   obtain ⟨bn, rfl⟩ : ∃ n : Nat, b = (n : Int) := ⟨b.toNat, by omega⟩
   rw [Int.toNat_natCast] at c1 c2 c3 c4
   have i0 : (0 : Int) <= (an : Int) := by omega
   have i1 : (an : Int) < (N : Int) + 1 := by omega
   have j0 : (0 : Int) <= (bn : Int) := by omega
   have j1 : (bn : Int) < (N : Int) + 1 := by omega
   have d1 : ((an : Int) == (bn : Int)) = false := by simp; omega
   have d2 : ¬ (an : Int) = (bn : Int) := hab
   by_cases hlt : fa P (bn : Int) < fa P (an : Int)
   ·obtain ⟨hM2, hl⟩ := hM.out.left HH.out HO.out HU.out hlt
    have pa2 := (HO.out.nn hM2.ra).1
    have HK2 := Lib.hid (show (fa P (fa U (an : Int))).toNat + (fa P (bn : Int)).toNat + 1 <= gk from by have := hK.out; omega)
    have HM2 := Lib.hid hM2
    have dlt : decide (fa P (bn : Int) < fa P (an : Int)) = true := decide_eq_true hlt
    clear hM2 hl pa2 hK hM hlt pa0 pb0
    obtain ⟨pa, hpa⟩ : ∃ x, x = fa P (an : Int) := ⟨_, rfl⟩
    obtain ⟨pb, hpb⟩ : ∃ x, x = fa P (bn : Int) := ⟨_, rfl⟩
    rw [<- hpa] at c1 dlt
    rw [<- hpb] at c2 dlt
    clear hpa hpb
    generalize fa U (an : Int) = xa at *
    go_wp2_with fail
    go_region
    go_wp2_with fail
    go_roundg (gk - 1)
    case measure => have := HK2.out; omega
    case rel => exact ⟨xa, (bn : Int), rfl, rfl, HM2, Lib.hid (by have := HK2.out; omega), m + 1, rfl⟩
   ·obtain ⟨hM2, hl⟩ := hM.out.right HH.out HO.out HU.out hab hlt
    have pb2 := (HO.out.nn hM2.rb).1
    have HK2 := Lib.hid (show (fa P (an : Int)).toNat + (fa P (fa U (bn : Int))).toNat + 1 <= gk from by have := hK.out; omega)
    have HM2 := Lib.hid hM2
    have dlt : decide (fa P (bn : Int) < fa P (an : Int)) = false := decide_eq_false hlt
    clear hM2 hl pb2 hK hM hlt pa0 pb0
    obtain ⟨pa, hpa⟩ : ∃ x, x = fa P (an : Int) := ⟨_, rfl⟩
    obtain ⟨pb, hpb⟩ : ∃ x, x = fa P (bn : Int) := ⟨_, rfl⟩
    rw [<- hpa] at c1 dlt
    rw [<- hpb] at c2 dlt
    clear hpa hpb
    generalize fa U (bn : Int) = xb at *
    go_wp2_with fail
    go_region
    go_wp2_with fail
    go_roundg (gk - 1)
    case measure => have := HK2.out; omega
    case rel => exact ⟨(an : Int), xb, rfl, rfl, HM2, Lib.hid (by have := HK2.out; omega), m + 1, rfl⟩
end
end Go.Proofs.YtogpgkoelplknaaDoor
end
section
namespace Go.Proofs.YtogpgkoelplknaaDoor
open Go.RowKit PLensPaths
set_option linter.unusedVariables false
section
def bestStep (F : List Int) (b n : Int) : Int := if 0 <= fa F n /\ (b = 0 \/ fa F n < fa F b \/ (fa F n = fa F b /\ n < b)) then n else b
structure Best (F l : List Int) (b : Int) : Prop where
 no : b = 0 -> ∀ x ∈ l, fa F x < 0
 mem : b ≠ 0 -> b ∈ l /\ 0 <= fa F b
 le : b ≠ 0 -> ∀ x ∈ l, 0 <= fa F x -> fa F b <= fa F x /\ (fa F x = fa F b -> b <= x)
theorem Best.step {F l : List Int} {b n : Int} (h : Best F l b) (hn : 0 < n) : Best F (l ++ [n]) (bestStep F b n) := by
 unfold bestStep
 by_cases c : 0 <= fa F n /\ (b = 0 \/ fa F n < fa F b \/ (fa F n = fa F b /\ n < b))
 ·rw [if_pos c]
  refine ⟨fun e => by omega, fun _ => ⟨by simp, c.1⟩, fun _ x hx x0 => ?_⟩
  rcases List.mem_append.1 hx with q | q
  ·by_cases e : b = 0
   ·have := h.no e x q; omega
   ·have := h.le e x q x0
    rcases c.2 with c2 | c2 | c2
    ·exact absurd c2 e
    ·exact ⟨by omega, fun _ => by omega⟩
    ·exact ⟨by omega, fun e2 => by have := this.2 (by omega); omega⟩
  ·simp at q; subst q; exact ⟨Int.le_refl _, fun _ => Int.le_refl _⟩
 ·rw [if_neg c]
  refine ⟨fun e x hx => ?_, fun e => ⟨List.mem_append.2 (.inl (h.mem e).1), (h.mem e).2⟩, fun e x hx x0 => ?_⟩
  ·rcases List.mem_append.1 hx with q | q
   ·exact h.no e x q
   ·simp at q; subst q
    refine Classical.byContradiction fun d => c ⟨by omega, .inl e⟩
  ·rcases List.mem_append.1 hx with q | q
   ·exact h.le e x q x0
   ·simp at q; subst q
    refine ⟨Classical.byContradiction fun d => c ⟨x0, .inr (.inl (by omega))⟩, fun e2 => Classical.byContradiction fun d => c ⟨x0, .inr (.inr ⟨e2, by omega⟩)⟩⟩
theorem Best.nil (F : List Int) : Best F [] 0 := ⟨fun _ x hx => by simp at hx, fun e => absurd rfl e, fun e => absurd rfl e⟩
theorem Best.one {F l : List Int} {b c : Int} (h : Best F l b) (k : Best F l c) : b = c := by
 by_cases e : b = 0
 ·by_cases e2 : c = 0
  ·omega
  ·have := h.no e c (k.mem e2).1
   have := (k.mem e2).2
   omega
 ·by_cases e2 : c = 0
  ·have := k.no e2 b (h.mem e).1
   have := (h.mem e).2
   omega
  ·have a := h.le e c (k.mem e2).1 (k.mem e2).2
   have b' := k.le e2 b (h.mem e).1 (h.mem e).2
   have := a.2 (by omega)
   have := b'.2 (by omega)
   omega
inductive PathR (G : Gr) (tg : Int) (F : List Int) : List Int -> List Int -> Prop
 | no {l : List Int} {b : Int} : Best F l b -> b = 0 -> PathR G tg F l []
 | last {l : List Int} {b : Int} : Best F l b -> b ≠ 0 -> b = tg -> PathR G tg F l [b]
 | more {l p : List Int} {b : Int} : Best F l b -> b ≠ 0 -> b ≠ tg -> PathR G tg F (wayOf G b) p -> PathR G tg F l (b :: p)
theorem PathR.one {G : Gr} {tg : Int} {F : List Int} {l p : List Int} (h : PathR G tg F l p) : ∀ {q : List Int}, PathR G tg F l q -> p = q := by
 induction h with
 | no h1 h2 =>
  intro q k
  cases k with
  | no k1 k2 => rfl
  | last k1 k2 k3 => exact absurd ((h1.one k1).symm.trans h2) k2
  | more k1 k2 k3 k4 => exact absurd ((h1.one k1).symm.trans h2) k2
 | last h1 h2 h3 =>
  intro q k
  cases k with
  | no k1 k2 => exact absurd ((h1.one k1).trans k2) h2
  | last k1 k2 k3 => rw [h1.one k1]
  | more k1 k2 k3 k4 => exact absurd ((h1.one k1).symm.trans h3) k3
 | more h1 h2 h3 h4 ih =>
  intro q k
  cases k with
  | no k1 k2 => exact absurd ((h1.one k1).trans k2) h2
  | last k1 k2 k3 => exact absurd ((h1.one k1).trans k3) h3
  | more k1 k2 k3 k4 =>
   have := h1.one k1
   subst this
   rw [ih k4]
theorem posL_pos {l : List Int} : ∀ y ∈ posL l, 0 < y := fun y hy => by
 have := (List.mem_filter.1 hy).2
 simpa using this
end
end Go.Proofs.YtogpgkoelplknaaDoor
end
section
namespace Go.Proofs.YtogpgkoelplknaaDoor
open Go.RowKit Go.BigFrame PLensPaths Go.Proofs.YtogpgkoelplknaaDoorW.PrintWords Go.Proofs.YtogpgkoelplknaaDoorW.PrintMore
set_option linter.unusedVariables false
section
theorem rng_ok {G : Gr} (h : okB G = true) : Rng G := by
 unfold okB at h
 simp only [Bool.and_eq_true] at h
 exact rng_of h.1.1.1 h.1.1.2 h.1.2
theorem hold_rng {G : Gr} (R : Rng G) : ∀ x ∈ posL (holdP G), 0 < x /\ x <= (G.obs.length : Int) := fun x hx => by
 refine ⟨posL_pos x hx, R.init x ?_⟩
 have := (List.mem_filter.1 hx).1
 unfold initP
 exact List.mem_append.2 (.inl this)
end
section
structure DmAt (w : World) (B gB n : Nat) (V : List Value) (L : List (List Int)) (vO : Value) (od : List Int) (gP cP : Nat) (P : List Int) (gU cU : Nat) (U : List Int) : Prop where
 bk : BkAt w B gB n V L (fun k => k = gU \/ k = gP \/ vO.ownBlock = some k)
 od : RI w B vO od
 P : RI w B (.slice (some ⟨gP, 0, none⟩) n cP) P
 U : RI w B (.slice (some ⟨gU, 0, none⟩) n cU) U
 ne : gP ≠ gU
 oP : vO.ownBlock ≠ some gP
 oU : vO.ownBlock ≠ some gU
section
variable {w w1 : World} {B gB n gP cP gU cU : Nat} {V : List Value} {L : List (List Int)} {vO : Value} {od P U : List Int}
theorem DmAt.below (h : DmAt w B gB n V L vO od gP cP P gU cU U) (hb : Below w.heap.size w w1) : DmAt w1 B gB n V L vO od gP cP P gU cU U :=
 ⟨h.bk.below hb, Kd.R_below h.od hb, Kd.R_below h.P hb, Kd.R_below h.U hb, h.ne, h.oP, h.oU⟩
theorem DmAt.drewN (h : DmAt w B gB n V L vO od gP cP P gU cU U) (m : Nat) : DmAt (w.drewN m) B gB n V L vO od gP cP P gU cU U := h.below (below_drN (Below.refl _ _) m)
theorem DmAt.neB (h : DmAt w B gB n V L vO od gP cP P gU cU U) : gB ≠ gP /\ gB ≠ gU := by
 obtain ⟨c1, h1⟩ := Kd.R_typed h.P gP rfl
 obtain ⟨c2, h2⟩ := Kd.R_typed h.U gU rfl
 exact ⟨blk_ne h.bk.out h1 (by decide), blk_ne h.bk.out h2 (by decide)⟩
theorem DmAt.putP (h : DmAt w B gB n V L vO od gP cP P gU cU U) (i : Nat) (x : Int) : DmAt (w.setCell ⟨gP, i, none⟩ (.int .i64 x)) B gB n V L vO od gP cP (P.set i x) gU cU U :=
 ⟨h.bk.put (p := ⟨gP, i, none⟩) (.inr (.inl rfl)) h.neB.1 _, RI_far h.od (p := ⟨gP, i, none⟩) h.oP _, (RI_put h.P i x).1, RI_far h.U (p := ⟨gP, i, none⟩) (fun e => h.ne (by simpa [Value.ownBlock] using e.symm)) _, h.ne, h.oP, h.oU⟩
theorem DmAt.putU (h : DmAt w B gB n V L vO od gP cP P gU cU U) (i : Nat) (x : Int) : DmAt (w.setCell ⟨gU, i, none⟩ (.int .i64 x)) B gB n V L vO od gP cP P gU cU (U.set i x) :=
 ⟨h.bk.put (p := ⟨gU, i, none⟩) (.inl rfl) h.neB.2 _, RI_far h.od (p := ⟨gU, i, none⟩) h.oU _, RI_far h.P (p := ⟨gU, i, none⟩) (fun e => h.ne (by simpa [Value.ownBlock] using e)) _, (RI_put h.U i x).1, h.ne, h.oP, h.oU⟩
theorem DmAt.atP (h : DmAt w B gB n V L vO od gP cP P gU cU U) (i : Nat) (hi : i < n) : w.cell? ⟨gP, i, none⟩ = some (.int .i64 (fa P (i : Int))) /\ w.frozen? ⟨gP, i, none⟩ = false := by
 have := Kd.R_celln (d := (0 : Int)) h.P (i : Int) (by omega) (by omega)
 rwa [Int.toNat_natCast] at this
theorem DmAt.atU (h : DmAt w B gB n V L vO od gP cP P gU cU U) (i : Nat) (hi : i < n) : w.cell? ⟨gU, i, none⟩ = some (.int .i64 (fa U (i : Int))) /\ w.frozen? ⟨gU, i, none⟩ = false := by
 have := Kd.R_celln (d := (0 : Int)) h.U (i : Int) (by omega) (by omega)
 rwa [Int.toNat_natCast] at this
theorem DmAt.atB (h : DmAt w B gB n V L vO od gP cP P gU cU U) (i : Nat) (hi : i < n) : w.cell? ⟨gB, i, none⟩ = some (V.getD i nilS) := by
 have hVl := h.bk.vl
 rw [(blk_at h.bk.out).1 i]
 simp [List.getD_eq_getElem?_getD, show i < V.length by omega]
theorem DmAt.gPU (h : DmAt w B gB n V L vO od gP cP P gU cU U) : B <= gP /\ B <= gU := ⟨Kd.R_base h.P gP rfl, Kd.R_base h.U gU rfl⟩
end
theorem two_ints (w : World) {B gB n : Nat} {V : List Value} {L : List (List Int)} {vO : Value} {od : List Int} (hb : B <= w.heap.size) (hn : n <= 1099511627) (hk : BkAt w B gB n V L (fun k => vO.ownBlock = some k)) (ho : RI w B vO od) :
  DmAt ((w.alloc (.cells (Array.replicate n (Value.int .i64 0)) 3)).alloc (.cells (Array.replicate n (Value.int .i64 0)) 3)).drew B gB n V L vO od w.heap.size n (List.replicate n 0) (w.heap.size + 1) n (List.replicate n 0) /\
  DmAt ((w.alloc (.cells (Array.replicate n (Value.int .i64 0)) 3)).alloc (.cells (Array.replicate n (Value.int .i64 0)) 3)).drew B gB n V L vO od (w.heap.size + 1) n (List.replicate n 0) w.heap.size n (List.replicate n 0) := by
 have a1 := alloc_sz w (.cells (Array.replicate n (Value.int .i64 0)) 3)
 have h1 := Kd.R_drew (Kd.R_alloc (new_ints w n hb hn) (.cells (Array.replicate n (Value.int .i64 0)) 3))
 have h2 := Kd.R_drew (new_ints (w.alloc (.cells (Array.replicate n (Value.int .i64 0)) 3)) n (base := B) (by omega) hn)
 rw [a1] at h2
 have hbl : Below w.heap.size w ((w.alloc (.cells (Array.replicate n (Value.int .i64 0)) 3)).alloc (.cells (Array.replicate n (Value.int .i64 0)) 3)).drew := bel2 (Below.refl _ _) (Nat.le_refl _) _ _
 have lt := RI_lt ho
 have o0 : vO.ownBlock ≠ some w.heap.size := fun e => by have := (lt _ e).2; omega
 have o1 : vO.ownBlock ≠ some (w.heap.size + 1) := fun e => by have := (lt _ e).2; omega
 have k1 : ∀ a b : Nat, w.heap.size <= a -> w.heap.size <= b -> BkAt ((w.alloc (.cells (Array.replicate n (Value.int .i64 0)) 3)).alloc (.cells (Array.replicate n (Value.int .i64 0)) 3)).drew B gB n V L (fun k => k = a \/ k = b \/ vO.ownBlock = some k) := fun a b ha hb2 =>
  (hk.more fun k e => by
   rcases e with e | e | e
   ·exact .inr (by omega)
   ·exact .inr (by omega)
   ·exact .inl e).below hbl
 exact ⟨⟨k1 _ _ (by omega) (by omega), Kd.R_below ho hbl, h1, h2, by omega, o0, o1⟩, ⟨k1 _ _ (by omega) (by omega), Kd.R_below ho hbl, h2, h1, by omega, o1, o0⟩⟩
theorem up_start {nx : Int -> List Int} {N : Nat} {P U : List Int} (hl : U.length = N + 1) (h0 : fa U 0 = 0) (h1 : ∀ y : Int, 1 <= y -> y <= (N : Int) -> fa U y = -1) : UpOk nx N P U /\ Lvl nx U (fun _ => 0) := by
 have u : UpOk nx N P U := by
  refine ⟨hl, h0, fun y y0 y1 => ?_⟩
  by_cases e : y = 0
  ·subst e
   refine .inr ⟨by rw [h0]; omega, .zero, by rw [h0]; exact .zero, by rw [h0, h0]; omega, fun q => absurd rfl q⟩
  ·exact .inl (h1 y (by omega) y1)
 refine ⟨u, fun y k hk ha => ?_⟩
 obtain rfl : k = 0 := by simp only at hk; omega
 cases ha with
 | root _ =>
  refine ⟨by rw [h0]; omega, fun d hd hav => ?_⟩
  have := u.anZero hd rfl
  subst this
  exact hav.not0
def PlAt' (od P : List Int) (i : Nat) : Prop := ∀ j, j < i -> j < od.length -> fa P (od.getD j 0) = (j : Int)
theorem PlAt'.step {od P : List Int} {i N : Nat} (h : PlAt' od P i) (hi : i < od.length) (nd : od.Nodup) (rg : ∀ x ∈ od, 0 <= x /\ x <= (N : Int)) (hl : P.length = N + 1) : PlAt' od (P.set (od.getD i 0).toNat (i : Int)) (i + 1) := by
 intro j hj hjl
 have r1 := rg _ (getD_mem 0 hi)
 have r2 := rg _ (getD_mem 0 hjl)
 rw [fa_set (by omega) r2.1]
 by_cases e : j = i
 ·subst e; rw [if_pos rfl]
 ·rw [if_neg ?_]
  ·exact h j (by omega) hjl
  ·intro q
   apply e
   have a1 : od[j]? = some (od.getD j 0) := by rw [List.getD_eq_getElem?_getD, List.getElem?_eq_getElem hjl]; rfl
   have a2 : od[i]? = some (od.getD i 0) := by rw [List.getD_eq_getElem?_getD, List.getElem?_eq_getElem hi]; rfl
   rw [q] at a1
   exact (List.getElem?_inj hjl nd).1 (a1.trans a2.symm)
end
section
theorem getD_drop1 (l : List Int) (t : Nat) : (l.drop 1).getD t 0 = l.getD (t + 1) 0 := by
 rw [List.getD_eq_getElem?_getD, List.getElem?_drop, Nat.add_comm, <- List.getD_eq_getElem?_getD]
structure DomsAt (G : Gr) (w0 w : World) (vU vO : Value) (U od P : List Int) : Prop where
 ru : RI w w0.heap.size vU U
 ro : RI w w0.heap.size vO od
 ord : Ord (nxG G) od P
 doms : Doms (nxG G) G.obs.length U
 less : ∀ y, Rd (nxG G) y -> y ≠ 0 -> fa P (fa U y) < fa P y
 b : Below w0.heap.size w0 w
set_option maxRecDepth 100000 in
set_option maxHeartbeats 16000000 in
theorem dominators_any (g : Gv) (G : Gr) (w : World) (h : GAt w g G) (s : Small G) (R : Rng G) :
  Calls Tryd.prog 56 #[gval g G] w fun e w' => ∃ vU vO U od P, e = .returned (.tuple #[vU, vO]) /\ DomsAt G w w' vU vO U od P := by
 have bd := s.bd
 have hn := bd.n
 have hh : ∀ x ∈ posL (holdP G), 1 <= x /\ x <= (G.obs.length : Int) := fun x hx => by have := hold_rng R x hx; omega
 have H := Lib.hid (nx_ok R hh)
 obtain ⟨Kst, hKst⟩ := ks_ex (nxG G) G.obs.length
 have HKS := Lib.hid hKst
 clear hKst
 have BX := boxed h
 have WC := Lib.hid (fun (W : World) (hX : W.heap[w.heap.size]? = some (.cells (gcells g G) 27 (0, 0))) (hA : GAt W g G) => walked_any g G w.heap.size W hX hA s R hh)
 obtain ⟨A0, A1, A2, A3, A4, c0, c1, c2, c3, c4⟩ := g
 unfold gval gcells
 unfold gcells at BX WC
 simp only at BX WC ⊢
 go_enter Tryd.func56, Tryd.ntmps56
 go_upto_region 1 with fail
 generalize w.alloc _ = wA at *
 obtain ⟨hX, hB, lA, hA⟩ := BX
 obtain ⟨cA, fA⟩ := blk_at hX
 have WC1 := Lib.hid (WC.out wA hX hA)
 go_upto_region 3 with (go_at_call 87; refine WC1.out.mono ?_; rintro e w1 ⟨vO, F, gB, V, L, bg, rfl, hO, hBk, hD, hb1⟩)
 have hsz := hb1.size
 have cX : w1.cell? ⟨w.heap.size, 0, none⟩ = some (.slice A0 G.obs.length c0) := (blk_at (box_keep hX hb1)).1 0
 have cX2 : ∀ o : Obj, (w1.alloc o).cell? ⟨w.heap.size, 0, none⟩ = some (.slice A0 G.obs.length c0) := fun o => (blk_at (box_keep hX (hb1.alloc hsz o))).1 0
 have hr1 : ∀ W : World, (Instr.makeSlice 24 (.int .i64 ((G.obs.length : Int) + 1)) (.int .i64 ((G.obs.length : Int) + 1))).run Tryd.prog W = _ := run_ints (G.obs.length + 1) (by omega)
 clear WC WC1 cA fA
 go_cut [7, 8] (fun s7 s8 wx => ∃ gP gU : Nat, s7 = .slice (some ⟨gP, 0, none⟩) (G.obs.length + 1) (G.obs.length + 1) /\ s8 = .slice (some ⟨gU, 0, none⟩) (G.obs.length + 1) (G.obs.length + 1) /\ DmAt wx wA.heap.size gB (G.obs.length + 1) V L vO F.reverse gP (G.obs.length + 1) (List.replicate (G.obs.length + 1) 0) gU (G.obs.length + 1) (List.replicate (G.obs.length + 1) 0) /\ Below wA.heap.size wA wx)
 case first =>
  go_region
  ·go_wp2_with fail
   go_meet
   exact ⟨_, _, rfl, rfl, (two_ints w1 hsz (by omega) hBk hO).1, bel2 hb1 hsz _ _⟩
  ·go_wp2_with fail
   go_meet
   exact ⟨_, _, rfl, rfl, (two_ints w1 hsz (by omega) hBk hO).2, bel2 hb1 hsz _ _⟩
 case rest =>
  obtain ⟨gP, gU, rfl, rfl, hDm, hbr⟩ := hcut
  have hF1 : 1 <= F.reverse.length := by obtain ⟨F', e⟩ := hD.fin rfl; rw [e]; simp
  have hF0 : F.reverse.getD 0 0 = 0 := by obtain ⟨F', e⟩ := hD.fin rfl; rw [e]; simp
  have hFN : F.reverse.length <= G.obs.length + 1 := by have := hD.bound H.out; simpa using this
  have hnd : F.reverse.Nodup := by
   have := hD.nd
   simp only [List.map_nil, List.append_nil] at this
   exact List.pairwise_reverse.2 (this.imp fun h => h.symm)
  have hrg : ∀ x ∈ F.reverse, 0 <= x /\ x <= (G.obs.length : Int) := fun x hx => (hD.rd x (by simpa using hx)).rng H.out
  have HOV := Lib.hid (fun (P : List Int) (q : ∀ i, i < F.reverse.length -> fa P (F.reverse.getD i 0) = (i : Int)) => hD.over H.out (place := P) (fun i hi => q i (by simpa using hi)))
  have HND := Lib.hid hnd
  have HRG := Lib.hid hrg
  have HF0 := Lib.hid hF0
  clear hD hnd hrg hF0 hO hBk hb1 cX cX2 hr1 hsz
  generalize F.reverse = od at *
  obtain ⟨gO, cO, rfl, gO0, -, -⟩ := RI_form hDm.od (by omega)
  obtain ⟨M, hM⟩ : ∃ M, od.length = M + 1 := ⟨od.length - 1, by omega⟩
  have HM := Lib.hid hM
  have hcO : M + 1 <= cO := by have := (Kd.R_reads' hDm.od).2.1; omega
  simp only [hM] at hDm hF1 hFN ⊢
  clear hM
  have gPU := hDm.gPU
  go_wp2_with fail
  go_loopw [40] (fun iv wx => ∃ (i : Nat) (U : List Int), i <= G.obs.length + 1 /\ iv = .int .i64 i /\ Hid (U.length = G.obs.length + 1 /\ ∀ j, j < i -> fa U (j : Int) = -1) /\ DmAt wx wA.heap.size gB (G.obs.length + 1) V L (.slice (some ⟨gO, 0, none⟩) (M + 1) cO) od gP (G.obs.length + 1) (List.replicate (G.obs.length + 1) 0) gU (G.obs.length + 1) U /\ Below wA.heap.size wA wx) (fun iv _ => G.obs.length + 1 - (intOf iv).toNat)
  case atStart => exact ⟨0, _, by omega, rfl, Lib.hid ⟨by simp, fun j hj => by omega⟩, hDm, hbr⟩
  case round =>
   clear hDm hbr
   obtain ⟨i, U, hi, rfl, hU, hDm, hbr⟩ := hrel
   by_cases hlt : i < G.obs.length + 1
   ·have dlt : decide ((i : Int) < (G.obs.length : Int) + 1) = true := decide_eq_true (by omega)
    have i0 : (0 : Int) <= (i : Int) := by omega
    have i1 : (i : Int) < (G.obs.length : Int) + 1 := by omega
    obtain ⟨cU, fU⟩ := hDm.atU i hlt
    have hDm2 := hDm.putU i (-1)
    have hb2 := hbr.setCell (p := ⟨gU, i, none⟩) gPU.2 (.int .i64 (-1))
    have HU2 := Lib.hid (show (U.set i (-1)).length = G.obs.length + 1 /\ ∀ j, j < i + 1 -> fa (U.set i (-1)) (j : Int) = -1 from by
     obtain ⟨q1, q2⟩ := hU.out
     refine ⟨by simp [q1], fun j hj => ?_⟩
     have := fa_set (F := U) (x := (i : Int)) (y := (j : Int)) (v := -1) (by omega) (by omega)
     rw [Int.toNat_natCast] at this
     rw [this]
     split
     ·rfl
     ·exact q2 j (by omega))
    clear hU hDm hbr
    go_wp2_with fail
    go_roundw
    case rel => exact ⟨i + 1, _, by omega, by go_num, HU2, hDm2, hb2⟩
    case measure => simp [intOf]; omega
   ·have dlt : decide ((i : Int) < (G.obs.length : Int) + 1) = false := decide_eq_false (by omega)
    obtain rfl : i = G.obs.length + 1 := by omega
    simp only [Int.natCast_add, Int.natCast_one] at dlt ⊢
    go_wp2_with fail
    go_loopw [49] (fun iv wx => ∃ (j : Nat) (P : List Int), j <= M + 1 /\ iv = .int .i64 j /\ Hid (P.length = G.obs.length + 1 /\ PlAt' od P j) /\ DmAt wx wA.heap.size gB (G.obs.length + 1) V L (.slice (some ⟨gO, 0, none⟩) (M + 1) cO) od gP (G.obs.length + 1) P gU (G.obs.length + 1) U /\ Below wA.heap.size wA wx) (fun iv _ => M + 1 - (intOf iv).toNat)
    case atStart => exact ⟨0, _, by omega, rfl, Lib.hid ⟨by simp, fun j hj => by omega⟩, hDm, hbr⟩
    case round =>
     clear hDm hbr
     obtain ⟨j, P, hj, rfl, hP, hDm, hbr⟩ := hrel
     by_cases hlj' : j < M + 1
     ·have hlj : j < od.length := by have := HM.out; omega
      have dlj : decide ((j : Int) < (M : Int) + 1) = true := decide_eq_true (by omega)
      have j0 : (0 : Int) <= (j : Int) := by omega
      have j1 : (j : Int) < (M : Int) + 1 := by omega
      have hm := HRG.out _ (getD_mem 0 hlj)
      obtain ⟨cJ, -⟩ := Kd.R_celln (d := (0 : Int)) hDm.od (j : Int) (by omega) (by omega)
      rw [Int.toNat_natCast] at cJ
      have e1 : rdOf 0 od (j : Int) = od.getD j 0 := rfl
      rw [e1] at cJ
      have HP2 := Lib.hid (show (P.set (od.getD j 0).toNat (j : Int)).length = G.obs.length + 1 /\ PlAt' od (P.set (od.getD j 0).toNat (j : Int)) (j + 1) from ⟨by simp [hP.out.1], hP.out.2.step hlj HND.out HRG.out hP.out.1⟩)
      clear e1 hP hlj
      generalize od.getD j 0 = m at *
      obtain ⟨mn, rfl⟩ : ∃ mn : Nat, m = (mn : Int) := ⟨m.toNat, by omega⟩
      rw [Int.toNat_natCast] at HP2
      have m0 : (0 : Int) <= (mn : Int) := by omega
      have m1 : (mn : Int) < (G.obs.length : Int) + 1 := by omega
      obtain ⟨cP, fP⟩ := hDm.atP mn (by omega)
      have hDm2 := hDm.putP mn (j : Int)
      have hb2 := hbr.setCell (p := ⟨gP, mn, none⟩) gPU.1 (.int .i64 (j : Int))
      clear hDm hbr hm
      go_wp2_with fail
      go_roundw
      case rel => exact ⟨j + 1, _, by omega, by go_num, HP2, hDm2, hb2⟩
      case measure => simp [intOf]; omega
     ·have dlj : decide ((j : Int) < (M : Int) + 1) = false := decide_eq_false (by omega)
      obtain rfl : j = M + 1 := by omega
      simp only [Int.natCast_add, Int.natCast_one] at dlj ⊢
      obtain ⟨HO, HA⟩ := HOV.out P (fun i hi => hP.out.2 i (by have := HM.out; omega) hi)
      have HO := Lib.hid HO
      have HA := Lib.hid HA
      have hPl := hP.out.1
      obtain ⟨hUl, hUm⟩ := hU.out
      obtain ⟨cU, fU⟩ := hDm.atU 0 (by omega)
      have hDm2 := hDm.putU 0 0
      have hb2 := hbr.setCell (p := ⟨gU, 0, none⟩) gPU.2 (.int .i64 0)
      have HS := Lib.hid (show UpOk (nxG G) G.obs.length P (U.set 0 0) /\ Lvl (nxG G) (U.set 0 0) (fun _ => 0) from by
       have fs : ∀ y : Int, 0 <= y -> fa (U.set 0 0) y = if y = 0 then 0 else fa U y := fun y hy => fa_set (F := U) (x := (0 : Int)) (v := 0) (by omega) hy
       refine up_start (by simp [hUl]) (by rw [fs 0 (by omega), if_pos rfl]) (fun y y0 y1 => ?_)
       rw [fs y (by omega), if_neg (by omega)]
       have := hUm y.toNat (by omega)
       rwa [show ((y.toNat : Nat) : Int) = y by omega] at this)
      clear hU hUm hDm hbr hP HOV
      go_wp2_with fail
      go_loopg [12] (Kst + 2) (fun kq av wx => ∃ (ag : Bool) (U : List Int), av = .bool ag /\ DmAt wx wA.heap.size gB (G.obs.length + 1) V L (.slice (some ⟨gO, 0, none⟩) (M + 1) cO) od gP (G.obs.length + 1) P gU (G.obs.length + 1) U /\ Hid ((ag = true /\ ∃ K, K <= Kst /\ kq = Kst + 2 - K /\ UpOk (nxG G) G.obs.length P U /\ Lvl (nxG G) U (fun _ => K)) \/ (ag = false /\ Doms (nxG G) G.obs.length U /\ ∀ y, Rd (nxG G) y -> y ≠ 0 -> fa P (fa U y) < fa P y)) /\ Below wA.heap.size wA wx)
      case atStart => exact ⟨true, _, rfl, hDm2, Lib.hid (.inl ⟨rfl, 0, by omega, by omega, HS.out⟩), hb2⟩
      case round =>
       clear hDm2 hb2 HS cU fU
       obtain ⟨ag, U, rfl, hDm, hI, hbr⟩ := hrel
       cases ag with
       | false =>
        obtain ⟨q1, q2⟩ : Doms (nxG G) G.obs.length U /\ ∀ y, Rd (nxG G) y -> y ≠ 0 -> fa P (fa U y) < fa P y := by
         rcases hI.out with ⟨q, _⟩ | ⟨_, q⟩
         ·cases q
         ·exact q
        have Q1 := Lib.hid q1
        have Q2 := Lib.hid q2
        clear q1 q2
        go_wp2_with fail
        go_ret2
        exact ⟨_, _, rfl, U, od, P, Kd.R_lower hDm.U (Nat.le_of_lt lA), Kd.R_lower hDm.od (Nat.le_of_lt lA), HO.out, Q1.out, Q2.out, hB.trans (hbr.mono (Nat.le_of_lt lA))⟩
       | true =>
        obtain ⟨K, hK1, hK2, hK3, hK4⟩ : ∃ K, K <= Kst /\ gk = Kst + 2 - K /\ UpOk (nxG G) G.obs.length P U /\ Lvl (nxG G) U (fun _ => K) := by
         rcases hI.out with ⟨_, q⟩ | ⟨q, _⟩
         ·exact q
         ·cases q
        have HR := Lib.hid (Rnd.begin H.out HO.out hK3 hK4)
        have HKQ := Lib.hid hK2
        clear hK3 hK4 hK2 hI
        generalize hA' : (if cO = 1 then some (⟨gO, 0, none⟩ : Addr) else some (⟨gO, 1, none⟩ : Addr)) = A'
        have HC := Lib.hid (fun (W : World) (hw : RI W wA.heap.size (.slice (some ⟨gO, 0, none⟩) (M + 1) cO) od) => (by
         have hm := HM.out
         have := Kd.C_drop (Kd.R_reads' hw).2.2 (m := 1) (c := cO) (by omega) (by omega)
         rw [List.length_drop, hm, Nat.add_sub_cancel] at this
         rw [<- hA']
         simpa [Kd.int, Kd.scalar, Addr.add] using this : Kd.C (Kd.int .i64) W A' M (od.drop 1)))
        have hcO2 : (M : Int) + 1 <= (cO : Int) := by omega
        have l1 : (1 : Int) <= (M : Int) + 1 := by omega
        go_upto_region 19 with fail
        go_loopw [12, 65] (fun av iv wx => ∃ (t : Nat) (U : List Int) (ag : Bool), t <= M /\ iv = .int .i64 t /\ av = .bool ag /\ Hid (Rnd (nxG G) G.obs.length od P K (t + 1) ag U) /\ DmAt wx wA.heap.size gB (G.obs.length + 1) V L (.slice (some ⟨gO, 0, none⟩) (M + 1) cO) od gP (G.obs.length + 1) P gU (G.obs.length + 1) U /\ Below wA.heap.size wA wx) (fun _ iv _ => M - (intOf iv).toNat)
        case atStart => exact ⟨0, U, false, by omega, rfl, rfl, HR, hDm, hbr⟩
        case round =>
         clear hDm hbr HR
         obtain ⟨t, U, ag, ht, rfl, rfl, hR, hDm, hbr⟩ := hrel
         by_cases hlt : t < M
         ·have dlt : decide ((t : Int) < (M : Int)) = true := decide_eq_true (by omega)
          have t0 : (0 : Int) <= (t : Int) := by omega
          have t1 : (t : Int) < (M : Int) := by omega
          have htl : t + 1 < od.length := by have := HM.out; omega
          obtain ⟨hmr, hm0, -, -⟩ := hR.out.pred0 HO.out htl (by omega) rfl
          have mr := hmr.rng H.out
          obtain ⟨ad, e0, hcW⟩ := int_at (HC.out wr hDm.od) t hlt
          subst e0
          rw [getD_drop1] at hcW
          have hps := fun p => HA.out (od.getD (t + 1) 0) p (by omega) mr.2
          have HST := Lib.hid (fun (d : Int) (hf : Fold (nxG G) G.obs.length P U (L.getD (od.getD (t + 1) 0).toNat []) d) => hR.out.step H.out HO.out htl (by omega) rfl hps hf)
          have HPS := Lib.hid hps
          have HUO := Lib.hid hR.out.u
          clear hps hR htl hmr
          generalize od.getD (t + 1) 0 = m at *
          obtain ⟨mn, rfl⟩ : ∃ mn : Nat, m = (mn : Int) := ⟨m.toNat, by omega⟩
          rw [Int.toNat_natCast] at HST HPS
          have hmN : mn < G.obs.length + 1 := by omega
          have hrow := hDm.bk.row mn hmN
          have hcB := hDm.atB mn hmN
          obtain ⟨Am, cm, hVm⟩ := Kd.R_slice hrow
          rw [hVm] at hcB hrow
          clear hVm
          generalize L.getD mn [] = ln at *
          have hl63 := Kd.C_max (Kd.R_reads' hrow).2.2
          have m0 : (0 : Int) <= (mn : Int) := by omega
          have m1 : (mn : Int) < (G.obs.length : Int) + 1 := by omega
          have HF := Lib.hid (Fold.nil (nx := nxG G) (N := G.obs.length) (place := P) (up := U))
          go_wp2_with fail
          go_loopw [15, 74] (fun dv jv wx => ∃ (j : Nat) (d : Int), j <= ln.length /\ jv = .int .i64 j /\ dv = .int .i64 d /\ Hid (Fold (nxG G) G.obs.length P U (ln.take j) d) /\ ∃ q, wx = wr.drewN q) (fun _ jv _ => ln.length - (intOf jv).toNat)
          case atStart => exact ⟨0, -1, by omega, rfl, rfl, HF, 0, rfl⟩
          case round =>
           clear HF
           obtain ⟨j, d, hj, rfl, rfl, hF, q, rfl⟩ := hrel
           by_cases hlj : j < ln.length
           ·have dlj : decide ((j : Int) < (ln.length : Int)) = true := decide_eq_true (by omega)
            have j0 : (0 : Int) <= (j : Int) := by omega
            have j1 : (j : Int) < (ln.length : Int) := by omega
            obtain ⟨ap, rfl, hcP⟩ := int_at (Kd.R_reads' hrow).2.2 j hlj
            obtain ⟨hpr, -⟩ := (HPS.out (ln.getD j 0)).1 (getD_mem 0 hlj)
            have hpg := hpr.rng H.out
            have HT := Lib.hid (take_snocD ln j hlj)
            have HPR := Lib.hid hpr
            clear hpr
            generalize ln.getD j 0 = p at *
            obtain ⟨pn, rfl⟩ : ∃ pn : Nat, p = (pn : Int) := ⟨p.toNat, by omega⟩
            have p0 : (0 : Int) <= (pn : Int) := by omega
            have p1 : (pn : Int) < (G.obs.length : Int) + 1 := by omega
            obtain ⟨cU, -⟩ := hDm.atU pn (by omega)
            by_cases hu : fa U (pn : Int) < 0
            ·have HF2 := Lib.hid (hF.out.skip hu)
             have du : decide (fa U (pn : Int) < 0) = true := decide_eq_true hu
             generalize fa U (pn : Int) = ux at *
             clear hF
             go_wp2_with fail
             go_roundw
             case rel => exact ⟨j + 1, d, by omega, by go_num, rfl, by rw [HT.out]; exact HF2, q, rfl⟩
             case measure => simp [intOf]; omega
            ·have du : decide (fa U (pn : Int) < 0) = false := decide_eq_false hu
             by_cases hd : d < 0
             ·have dd : decide (d < 0) = true := decide_eq_true hd
              have HF2 := Lib.hid (hF.out.first H.out hd (by omega) HPR.out)
              generalize fa U (pn : Int) = ux at *
              clear hF
              go_wp2_with fail
              go_roundw
              case rel => exact ⟨j + 1, (pn : Int), by omega, by go_num, rfl, by rw [HT.out]; exact HF2, q, rfl⟩
              case measure => simp [intOf]; omega
             ·have dd : decide (d < 0) = false := decide_eq_false hd
              have hgt := hF.out.got (by omega)
              have hDq := hDm.drewN q
              have CM := Lib.hid (common_any H.out HO.out HUO.out hPl _ wA.heap.size gP _ gU _ hDq.P hDq.U d (pn : Int) hgt.u (by omega) hgt.r HPR.out)
              have HFN := Lib.hid (fun c k => hF.out.next H.out hd (by omega) HPR.out (c := c) k)
              generalize fa U (pn : Int) = ux at *
              clear hF hgt hDq
              go_wp2_with (go_at_call 88; refine CM.out.mono ?_; rintro e wy ⟨c, rfl, hcom, q2, rfl⟩; have HC2 := Lib.hid hcom; clear hcom)
              go_roundw
              case rel => exact ⟨j + 1, c, by omega, by go_num, rfl, by rw [HT.out]; exact Lib.hid (HFN.out c HC2.out), q + q2, by simp⟩
              case measure => simp [intOf]; omega
           ·have dlj : decide ((j : Int) < (ln.length : Int)) = false := decide_eq_false (by omega)
            have hf := hF.out
            rw [List.take_of_length_le (by omega)] at hf
            obtain ⟨⟨d0, d1⟩, hsame, hnew⟩ := HST.out d hf
            have hDq := hDm.drewN q
            have hbq := below_drN hbr q
            obtain ⟨cU, fU⟩ := hDm.atU mn hmN
            by_cases he : fa U (mn : Int) = d
            ·have HR2 := Lib.hid (hsame he)
             subst he
             have de : (fa U (mn : Int) == fa U (mn : Int)) = true := by simp
             clear hsame hnew hf hF HST
             generalize fa U (mn : Int) = ux at *
             go_wp2_with fail
             go_roundw
             case rel => exact ⟨t + 1, U, ag, by omega, by go_num, rfl, HR2, hDq, hbq⟩
             case measure => simp [intOf]; omega
            ·have HR2 := Lib.hid (hnew he)
             have HR2 : Hid (Rnd (nxG G) G.obs.length od P K (t + 1 + 1) true (U.set mn d)) := HR2
             have hDn := hDq.putU mn d
             have hbn := hbq.setCell (p := ⟨gU, mn, none⟩) gPU.2 (.int .i64 d)
             have de : (fa U (mn : Int) == d) = false := by simpa using he
             clear hsame hnew hf hF HST
             generalize fa U (mn : Int) = ux at *
             go_wp2_with fail
             go_roundw
             case rel => exact ⟨t + 1, _, true, by omega, by go_num, rfl, HR2, hDn, hbn⟩
             case measure => simp [intOf]; omega
         ·have dlt : decide ((t : Int) < (M : Int)) = false := decide_eq_false (by omega)
          obtain rfl : t = M := by omega
          have hR2 := hR.out
          rw [<- HM.out] at hR2
          cases ag with
          | false =>
           obtain ⟨q1, q2⟩ := hR2.last H.out HO.out
           have Q := Lib.hid (show Doms (nxG G) G.obs.length U /\ ∀ y, Rd (nxG G) y -> y ≠ 0 -> fa P (fa U y) < fa P y from ⟨q1, q2⟩)
           clear q1 q2 hR hR2
           go_wp2_with fail
           go_roundg (gk - 1)
           case measure => have := HKQ.out; omega
           case rel => exact ⟨false, U, rfl, hDm, Lib.hid (.inr ⟨rfl, Q.out⟩), hbr⟩
          | true =>
           obtain ⟨q1, q2⟩ := hR2.again H.out HO.out
           have hKK : ¬ Kst <= K := fun e => by have := hR2.quiet Kst HKS.out e; cases this
           have Q := Lib.hid (show UpOk (nxG G) G.obs.length P U /\ Lvl (nxG G) U (fun _ => K + 1) from ⟨q1, q2⟩)
           clear q1 q2 hR hR2
           go_wp2_with fail
           go_roundg (gk - 1)
           case measure => have := HKQ.out; omega
           case rel => exact ⟨true, U, rfl, hDm, Lib.hid (.inl ⟨rfl, K + 1, by omega, by have := HKQ.out; omega, Q.out⟩), hbr⟩
end
section
structure Wy (nx : Int -> List Int) (N : Nat) (d : Int) (i : Nat) (W : List Int) (S : List Bool) : Prop where
 sl : S.length = N + 1
 snd : ∀ y : Int, 1 <= y -> y <= (N : Int) -> S.getD y.toNat false = true -> ∃ k, Av nx d k y
 wk : ∀ y ∈ W, 1 <= y /\ y <= (N : Int) /\ (y ≠ d -> ∃ k, Av nx d k y)
 done : ∀ j, j < i -> j < W.length -> W.getD j 0 = d \/ S.getD (W.getD j 0).toNat false = true
 cl : ∀ y : Int, 1 <= y -> y <= (N : Int) -> S.getD y.toNat false = true -> ∀ z ∈ nx y, z ∈ W
 rt : ∀ z ∈ nx 0, z ≠ d -> z ∈ W
theorem getD_setB {S : List Bool} {x y : Nat} {v : Bool} (h : x < S.length) : (S.set x v).getD y false = if x = y then v else S.getD y false := by
 rw [List.getD_eq_getElem?_getD, List.getElem?_set]
 by_cases e : x = y
 ·subst e; simp [h]
 ·rw [if_neg e, if_neg e, <- List.getD_eq_getElem?_getD]
section
variable {nx : Int -> List Int} {N : Nat} {d : Int} {i : Nat} {W : List Int} {S : List Bool}
theorem Wy.begin (H : NxOk nx N) (hd : d ≠ 0) (hw : ∀ z, z ∈ W ↔ z ∈ nx 0 /\ z ≠ d) : Wy nx N d 0 W (List.replicate (N + 1) false) := by
 have rl : ∀ k, (List.replicate (N + 1) false).getD k false = false := fun k => by
  rw [List.getD_eq_getElem?_getD, List.getElem?_replicate]; split <;> rfl
 refine ⟨by simp, fun y _ _ h => (by rw [rl] at h; cases h), fun y hy => ?_, fun j hj => by omega, fun y _ _ h => (by rw [rl] at h; cases h), fun z hz hne => (hw z).2 ⟨hz, hne⟩⟩
 obtain ⟨a, b⟩ := (hw y).1 hy
 have := H.rng 0 y a
 exact ⟨this.1, this.2, fun hne => ⟨1, .step (.root hd) a hne⟩⟩
theorem Wy.skip (h : Wy nx N d i W S) (hs : W.getD i 0 = d \/ S.getD (W.getD i 0).toNat false = true) : Wy nx N d (i + 1) W S :=
 ⟨h.sl, h.snd, h.wk, fun j hj hl => by
  by_cases e : j = i
  ·subst e; exact hs
  ·exact h.done j (by omega) hl, h.cl, h.rt⟩
theorem Wy.take (H : NxOk nx N) (h : Wy nx N d i W S) (hi : i < W.length) (hne : W.getD i 0 ≠ d) : Wy nx N d (i + 1) (W ++ nx (W.getD i 0)) (S.set (W.getD i 0).toNat true) := by
 have hm := getD_mem (l := W) 0 hi
 obtain ⟨y0, y1, hk⟩ := h.wk _ hm
 obtain ⟨k, av⟩ := hk hne
 have sl := h.sl
 generalize hy : W.getD i 0 = y at *
 have gs : ∀ z : Int, 1 <= z -> (S.set y.toNat true).getD z.toNat false = if z = y then true else S.getD z.toNat false := fun z hz => by
  rw [getD_setB (by omega)]
  by_cases e : y.toNat = z.toNat
  ·rw [if_pos e, if_pos (by omega)]
  ·rw [if_neg e, if_neg (fun q => e (by rw [q]))]
 refine ⟨by simp [sl], fun z z0 z1 hz => ?_, fun z hz => ?_, fun j hj hl => ?_, fun z z0 z1 hz u hu => ?_, fun z hz hzd => List.mem_append.2 (.inl (h.rt z hz hzd))⟩
 ·rw [gs z z0] at hz
  split at hz
  ·rename_i e; rw [e]; exact ⟨k, av⟩
  ·exact h.snd z z0 z1 hz
 ·rcases List.mem_append.1 hz with q | q
  ·exact h.wk z q
  ·have := H.rng y z q
   exact ⟨this.1, this.2, fun hzd => ⟨k + 1, .step av q hzd⟩⟩
 ·by_cases e : j < W.length
  ·have ej : (W ++ nx y).getD j 0 = W.getD j 0 := by rw [List.getD_eq_getElem?_getD, List.getElem?_append_left e, <- List.getD_eq_getElem?_getD]
   rw [ej]
   have hw := h.wk _ (getD_mem (l := W) 0 e)
   rw [gs _ hw.1]
   by_cases e2 : j = i
   ·subst e2; rw [hy]; exact .inr (if_pos rfl)
   ·rcases h.done j (by omega) e with q | q
    ·exact .inl q
    ·right; split
     ·rfl
     ·exact q
  ·omega
 ·rw [gs z z0] at hz
  split at hz
  ·rename_i e; rw [e] at hu; exact List.mem_append.2 (.inr hu)
  ·exact List.mem_append.2 (.inl (h.cl z z0 z1 hz u hu))
theorem Wy.over (H : NxOk nx N) (h : Wy nx N d i W S) (hi : W.length <= i) (y : Int) (y0 : 1 <= y) (y1 : y <= (N : Int)) : S.getD y.toNat false = true ↔ ∃ k, Av nx d k y := by
 refine ⟨h.snd y y0 y1, ?_⟩
 have inW : ∀ z ∈ W, z ≠ d -> S.getD z.toNat false = true := fun z hz hne => by
  obtain ⟨j, hj, e⟩ := List.getElem_of_mem hz
  have q : W.getD j 0 = z := by rw [List.getD_eq_getElem?_getD, List.getElem?_eq_getElem hj]; exact e
  have := h.done j (by omega) hj
  rw [q] at this
  rcases this with a | a
  ·exact absurd a hne
  ·exact a
 have all : ∀ (k : Nat) (y : Int), 1 <= y -> Av nx d k y -> S.getD y.toNat false = true := by
  intro k
  induction k with
  | zero => intro y y0 av; cases av; omega
  | succ k ih =>
   intro y y0 av
   cases av with
   | @step k p _ hp hy hne =>
    by_cases e : p = 0
    ·subst e; exact inW y (h.rt y hy hne) hne
    ·have pr := hp.rng H
     exact inW y (h.cl p (by omega) pr.2 (ih p (by omega) hp) y hy) hne
 rintro ⟨k, av⟩
 exact all k y y0 av
end
end
end Go.Proofs.YtogpgkoelplknaaDoor
end
section
namespace Go.Proofs.YtogpgkoelplknaaDoor
set_option linter.unusedVariables false
section
section
variable {nx : Int -> List Int} {N : Nat}
theorem Av.split' {d m y : Int} {k : Nat} (h : Av nx d k y) (hn : ¬ Av nx m k y) (hne : y ≠ m) : ∃ j, j < k /\ Av nx d j m := by
 cases h with
 | root h0 => exact absurd (.root (fun e => hne e.symm)) hn
 | @step k p _ hp hy hd =>
  by_cases q : Av nx m k p
  ·exact absurd (.step q hy hne) hn
  ·obtain ⟨j, hj, a⟩ := hp.split q
   exact ⟨j, by omega, a⟩
theorem Dm.anti {d y : Int} (hy : Rd nx y) (h1 : Dm nx d y) (h2 : Dm nx y d) : d = y := by
 apply Classical.byContradiction
 intro hne
 have key : ∀ (k : Nat), ¬ Av nx (-1) k y := by
  intro k
  induction k using Nat.strongRecOn with
  | _ k ih =>
   intro a
   obtain ⟨j, hj, b⟩ := a.split' (h1 k) (fun e => hne e.symm)
   obtain ⟨i, hi, c⟩ := b.split' (h2 j) hne
   exact ih i (by omega) c
 obtain ⟨k, a⟩ := hy
 exact key k a
theorem Dm.chain {d1 d2 x : Int} (h10 : d1 ≠ 0) (h20 : d2 ≠ 0) (hx : Rd nx x) (h1 : Dm nx d1 x) (h2 : Dm nx d2 x) : Dm nx d1 d2 \/ Dm nx d2 d1 := by
 apply Classical.byContradiction
 intro hno
 have n1 : ∃ k, Av nx d1 k d2 := Classical.byContradiction fun q => hno (.inl fun k a => q ⟨k, a⟩)
 have n2 : ∃ k, Av nx d2 k d1 := Classical.byContradiction fun q => hno (.inr fun k a => q ⟨k, a⟩)
 have key : ∀ (k : Nat) (y : Int), Av nx (-1) k y -> (∃ j, Av nx d1 j y) \/ ∃ j, Av nx d2 j y := by
  intro k
  induction k with
  | zero => intro y a; cases a; exact .inl ⟨0, .root h10⟩
  | succ k ih =>
   intro y a
   cases a with
   | @step k p _ hp hy hd =>
    rcases ih p hp with ⟨j, q⟩ | ⟨j, q⟩
    ·by_cases e : y = d1
     ·rw [e]; exact .inr n2
     ·exact .inl ⟨j + 1, .step q hy e⟩
    ·by_cases e : y = d2
     ·rw [e]; exact .inl n1
     ·exact .inr ⟨j + 1, .step q hy e⟩
 obtain ⟨k, a⟩ := hx
 rcases key k x a with ⟨j, q⟩ | ⟨j, q⟩
 ·exact h1 j q
 ·exact h2 j q
def Ov (nx : Int -> List Int) (d x : Int) : Prop := x ≠ d /\ Rd nx x /\ Rd nx d /\ Dm nx d x
open Classical in
noncomputable def cntO (nx : Int -> List Int) (x : Int) : Nat -> Nat
 | 0 => 0
 | m + 1 => cntO nx x m + if Ov nx ((m : Int) + 1) x then 1 else 0
theorem cnt_le {b d : Int} (h : ∀ e : Int, 1 <= e -> Ov nx e b -> Ov nx e d) : ∀ m, cntO nx b m <= cntO nx d m := by
 intro m
 induction m with
 | zero => exact Nat.le_refl _
 | succ m ih =>
  unfold cntO
  by_cases q : Ov nx ((m : Int) + 1) b
  ·rw [if_pos q, if_pos (h _ (by omega) q)]; omega
  ·rw [if_neg q]; omega
theorem cnt_lt {b d : Int} (h : ∀ e : Int, 1 <= e -> Ov nx e b -> Ov nx e d) (hb : Ov nx b d) (b0 : 1 <= b) : ∀ m : Nat, b <= (m : Int) -> cntO nx b m < cntO nx d m := by
 intro m
 induction m with
 | zero => intro q; omega
 | succ m ih =>
  intro hm
  unfold cntO
  by_cases e : b = (m : Int) + 1
  ·have : ¬ Ov nx ((m : Int) + 1) b := fun q => q.1 e
   rw [if_neg this, if_pos (e ▸ hb)]
   have := cnt_le h m
   omega
  ·have := ih (by omega)
   by_cases q : Ov nx ((m : Int) + 1) b
   ·rw [if_pos q, if_pos (h _ (by omega) q)]; omega
   ·rw [if_neg q]; omega
def BestTo (nx : Int -> List Int) (N : Nat) (x : Int) (m : Nat) (b : Int) : Prop :=
 (b = 0 /\ ∀ d : Int, 1 <= d -> d <= (m : Int) -> ¬ Ov nx d x) \/ (1 <= b /\ b <= (m : Int) /\ Ov nx b x /\ ∀ d : Int, 1 <= d -> d <= (m : Int) -> Ov nx d x -> cntO nx d N <= cntO nx b N)
theorem BestTo.zero {x : Int} : BestTo nx N x 0 0 := .inl ⟨rfl, fun d h1 h2 => by omega⟩
theorem BestTo.take {x b : Int} {m : Nat} (h : BestTo nx N x m b) (ho : Ov nx ((m : Int) + 1) x) (hc : b = 0 \/ cntO nx b N < cntO nx ((m : Int) + 1) N) : BestTo nx N x (m + 1) ((m : Int) + 1) := by
 refine .inr ⟨by omega, by omega, ho, fun d h1 h2 hd => ?_⟩
 by_cases e : d = (m : Int) + 1
 ·rw [e]; omega
 ·rcases h with ⟨_, q⟩ | ⟨b0, _, _, q⟩
  ·exact absurd hd (q d h1 (by omega))
  ·have := q d h1 (by omega) hd
   rcases hc with c | c
   ·omega
   ·omega
def DomAt (nx : Int -> List Int) (x b : Int) : Prop := (¬ Rd nx x -> b = -1) /\ (Rd nx x -> 0 <= b /\ b ≠ x /\ Dm nx b x /\ ∀ d, d ≠ x -> Dm nx d x -> Dm nx d b)
theorem DomAt.one {x b c : Int} (hb : DomAt nx x b) (hc : DomAt nx x c) (hr : ∀ z, Rd nx x -> z ≠ x -> Dm nx z x -> Rd nx z) : b = c := by
 by_cases q : Rd nx x
 ·obtain ⟨b0, b1, b2, b3⟩ := hb.2 q
  obtain ⟨c0, c1, c2, c3⟩ := hc.2 q
  exact Dm.anti (hr c q c1 c2) (c3 b b1 b2) (b3 c c1 c2)
 ·rw [hb.1 q, hc.1 q]
theorem Dm.rd {z x : Int} (hx : Rd nx x) (h : Dm nx z x) : Rd nx z := by
 obtain ⟨k, a⟩ := hx
 obtain ⟨j, _, b⟩ := a.split (h k)
 exact ⟨j, b⟩
theorem BestTo.dom (H : NxOk nx N) {x b : Int} (x0 : 1 <= x) (hx : Rd nx x) (h : BestTo nx N x N b) : DomAt nx x b := by
 refine ⟨fun q => absurd hx q, fun _ => ?_⟩
 have ov : ∀ d : Int, d ≠ x -> Dm nx d x -> d ≠ 0 -> 1 <= d /\ d <= (N : Int) /\ Ov nx d x := fun d hd hdm hd0 => by
  have hr := Dm.rd hx hdm
  have := hr.rng H
  exact ⟨by omega, this.2, fun e => hd e.symm, hx, hr, hdm⟩
 rcases h with ⟨e, q⟩ | ⟨b0, b1, b2, q⟩
 ·subst e
  refine ⟨by omega, by omega, Dm.zero x, fun d hd hdm => ?_⟩
  by_cases d0 : d = 0
  ·rw [d0]; exact Dm.zero 0
  ·obtain ⟨a1, a2, a3⟩ := ov d hd hdm d0
   exact absurd a3 (q d a1 a2)
 ·refine ⟨by omega, fun e => b2.1 e.symm, b2.2.2.2, fun d hd hdm => ?_⟩
  by_cases d0 : d = 0
  ·rw [d0]; exact Dm.zero b
  ·by_cases db : d = b
   ·rw [db]; exact Dm.refl b
   ·obtain ⟨a1, a2, a3⟩ := ov d hd hdm d0
    rcases Dm.chain d0 (show b ≠ 0 by omega) hx hdm b2.2.2.2 with c | c
    ·exact c
    ·exfalso
     have hbd : Ov nx b d := ⟨db, a3.2.2.1, b2.2.2.1, c⟩
     have := cnt_lt (fun e he ho => (⟨fun q => ?_, a3.2.2.1, ho.2.2.1, ho.2.2.2.trans c⟩ : Ov nx e d)) hbd b0 N b1
     ·have := q d a1 a2 a3; omega
     ·
      rw [<- q] at ho
      exact db (Dm.anti b2.2.2.1 ho.2.2.2 c)
def DomL (nx : Int -> List Int) (N : Nat) (p : List Int) : Prop := p.length = N /\ ∀ x : Int, 1 <= x -> x <= (N : Int) -> DomAt nx x (p.getD (x - 1).toNat 0)
theorem DomL.one {p q : List Int} (hp : DomL nx N p) (hq : DomL nx N q) : p = q := by
 refine List.ext_getElem (by rw [hp.1, hq.1]) fun i h1 h2 => ?_
 have a := hp.2 ((i : Int) + 1) (by omega) (by have := hp.1; omega)
 have b := hq.2 ((i : Int) + 1) (by omega) (by have := hp.1; omega)
 rw [show ((i : Int) + 1 - 1).toNat = i by omega, List.getD_eq_getElem?_getD, List.getElem?_eq_getElem h1] at a
 rw [show ((i : Int) + 1 - 1).toNat = i by omega, List.getD_eq_getElem?_getD, List.getElem?_eq_getElem h2] at b
 exact a.one b (fun z hx _ hz => Dm.rd hx hz)
theorem Doms.list {U : List Int} (h : Doms nx N U) : DomL nx N (U.drop 1) := by
 refine ⟨by rw [List.length_drop, h.ul]; omega, fun x x0 x1 => ?_⟩
 have e : (U.drop 1).getD (x - 1).toNat 0 = fa U x := by
  rw [List.getD_eq_getElem?_getD, List.getElem?_drop, <- List.getD_eq_getElem?_getD]
  unfold fa
  congr 1
  omega
 rw [e]
 refine ⟨fun q => h.no x x0 x1 q, fun q => ?_⟩
 obtain ⟨a, _, _, b, c, d⟩ := h.yes x q (by omega)
 exact ⟨a, b, c, d⟩
end
end
section
inductive Ra (nx : Int -> List Int) (ek : Int -> Option (Int × Int)) (d : Int) : Int -> Prop
 | root {z : Int} : z ∈ nx 0 -> z ≠ d -> Ra nx ek d z
 | way {y z : Int} : Ra nx ek d y -> z ∈ nx y -> z ≠ d -> Ra nx ek d z
 | eph {y k v : Int} : Ra nx ek d y -> ek y = some (k, v) -> Ra nx ek d k -> 0 < v -> v ≠ d -> Ra nx ek d v
structure EkOk (ek : Int -> Option (Int × Int)) (N : Nat) : Prop where
 rng : ∀ y k v, ek y = some (k, v) -> 0 <= k /\ k <= (N : Int) /\ 0 <= v /\ v <= (N : Int)
def sb (S : List Bool) (y : Int) : Bool := S.getD y.toNat false
def see1 (d : Int) (p : List Bool × List Int) (n : Int) : List Bool × List Int := if 0 < n /\ sb p.1 n = false /\ n ≠ d then (p.1.set n.toNat true, p.2 ++ [n]) else p
theorem sb_set {S : List Bool} {x y : Int} (hx : 0 <= x /\ x.toNat < S.length) (hy : 0 <= y) : sb (S.set x.toNat true) y = if y = x then true else sb S y := by
 unfold sb
 rw [getD_setB hx.2]
 by_cases e : x.toNat = y.toNat
 ·rw [if_pos e, if_pos (by omega)]
 ·rw [if_neg e, if_neg (fun q => e (by rw [q]))]
structure More (N : Nat) (d : Int) (l : List Int) (S S' : List Bool) (M : List Int) : Prop where
 len : S'.length = S.length
 old : ∀ y : Int, 0 <= y -> sb S y = true -> sb S' y = true
 new : ∀ y : Int, 0 <= y -> sb S' y = true -> sb S y = true \/ y ∈ M
 all : ∀ z ∈ l, 0 < z -> z ≠ d -> sb S' z = true
 m : ∀ y ∈ M, y ∈ l /\ 0 < y /\ y ≠ d /\ sb S' y = true
 none : M = [] -> S' = S
 cnt : unb (fun _ => 1) S' 0 + M.length = unb (fun _ => 1) S 0
theorem More.nil {N : Nat} {d : Int} {S : List Bool} : More N d [] S S [] := ⟨rfl, fun _ _ h => h, fun _ _ h => .inl h, fun z h => (by cases h), fun y h => (by cases h), fun _ => rfl, rfl⟩
theorem More.step {N : Nat} {d n : Int} {l : List Int} {S S' : List Bool} {W M : List Int} (h : More N d l S S' M) (hl : S.length = N + 1) (hn : n <= (N : Int)) :
  ∃ S2 M2, see1 d (S', W ++ M) n = (S2, W ++ M2) /\ More N d (l ++ [n]) S S2 M2 := by
 have sl := h.len
 unfold see1
 by_cases q : 0 < n /\ sb S' n = false /\ n ≠ d
 ·rw [if_pos q]
  have st : ∀ y : Int, 0 <= y -> sb (S'.set n.toNat true) y = if y = n then true else sb S' y := fun y hy => sb_set (by omega) hy
  have hu := unb_set (fun _ => 1) S' n.toNat 0 (by omega) q.2.1
  refine ⟨_, M ++ [n], by rw [List.append_assoc], by simp [h.len], fun y y0 hy => ?_, fun y y0 hy => ?_, fun z hz z0 zd => ?_, fun y hy => ?_, fun e => by simp at e, ?_⟩
  ·rw [st y y0]; split
   ·rfl
   ·exact h.old y y0 hy
  ·rw [st y y0] at hy
   split at hy
   ·rename_i e; rw [e]; exact .inr (by simp)
   ·rcases h.new y y0 hy with a | a
    ·exact .inl a
    ·exact .inr (List.mem_append.2 (.inl a))
  ·rw [st z (by omega)]
   split
   ·rfl
   ·rename_i e
    rcases List.mem_append.1 hz with a | a
    ·exact h.all z a z0 zd
    ·simp at a; exact absurd a e
  ·rcases List.mem_append.1 hy with a | a
   ·obtain ⟨b1, b2, b3, b4⟩ := h.m y a
    refine ⟨List.mem_append.2 (.inl b1), b2, b3, ?_⟩
    rw [st y (by omega)]
    split
    ·rfl
    ·exact b4
   ·simp at a; subst a
    exact ⟨by simp, q.1, q.2.2, by rw [st y (by omega), if_pos rfl]⟩
  ·have := h.cnt
   simp only [List.length_append, List.length_singleton]
   omega
 ·rw [if_neg q]
  refine ⟨_, M, rfl, h.len, h.old, h.new, fun z hz z0 zd => ?_, fun y hy => ?_, h.none, h.cnt⟩
  ·rcases List.mem_append.1 hz with a | a
   ·exact h.all z a z0 zd
   ·simp at a; subst a
    cases e : sb S' z with
    | true => rfl
    | false => exact absurd ⟨z0, e, zd⟩ q
  ·obtain ⟨b1, b2⟩ := h.m y hy
   exact ⟨List.mem_append.2 (.inl b1), b2⟩
section
variable {nx : Int -> List Int} {ek : Int -> Option (Int × Int)} {N : Nat} {d : Int} {S S' : List Bool} {W E M l : List Int}
theorem Ra.rng (H : NxOk nx N) (K : EkOk ek N) {y : Int} (h : Ra nx ek d y) : 1 <= y /\ y <= (N : Int) := by
 cases h with
 | root h _ => exact H.rng _ _ h
 | way _ h _ => exact H.rng _ _ h
 | eph _ h _ h0 _ => have := K.rng _ _ _ h; omega
structure Rc (nx : Int -> List Int) (ek : Int -> Option (Int × Int)) (N : Nat) (d : Int) (S : List Bool) (W E : List Int) : Prop where
 sl : S.length = N + 1
 snd : ∀ y : Int, 1 <= y -> y <= (N : Int) -> sb S y = true -> Ra nx ek d y
 wk : ∀ y ∈ W, 1 <= y /\ y <= (N : Int) /\ sb S y = true
 wE : ∀ y ∈ E, 1 <= y /\ y <= (N : Int) /\ sb S y = true /\ ∃ k v, ek y = some (k, v)
 rt : ∀ z ∈ nx 0, z ≠ d -> sb S z = true
 cl : ∀ y : Int, 1 <= y -> y <= (N : Int) -> sb S y = true -> y ∈ W \/ ((∀ z ∈ nx y, z ≠ d -> sb S z = true) /\ ∀ k v, ek y = some (k, v) -> y ∈ E \/ (0 < v -> v ≠ d -> sb S v = true))
theorem Rc.begin (H : NxOk nx N) (h : More N d (nx 0) (List.replicate (N + 1) false) S M) : Rc nx ek N d S M [] := by
 have r0 : ∀ y, sb (List.replicate (N + 1) false) y = false := fun y => by
  unfold sb
  rw [List.getD_eq_getElem?_getD, List.getElem?_replicate]; split <;> rfl
 have inM : ∀ y : Int, 1 <= y -> sb S y = true -> y ∈ M := fun y y0 hy => by
  rcases h.new y (by omega) hy with a | a
  ·rw [r0] at a; cases a
  ·exact a
 refine ⟨by rw [h.len]; simp, fun y y0 y1 hy => ?_, fun y hy => ?_, fun y hy => (by cases hy), fun z hz zd => h.all z hz (by have := H.rng _ _ hz; omega) zd, fun y y0 y1 hy => .inl (inM y y0 hy)⟩
 ·obtain ⟨a, _, c, _⟩ := h.m y (inM y y0 hy)
  exact .root a c
 ·obtain ⟨a, b, c, e⟩ := h.m y hy
  have := H.rng _ _ a
  exact ⟨this.1, this.2, e⟩
theorem Rc.pop (H : NxOk nx N) {n : Int} (h : Rc nx ek N d S (W ++ [n]) E) (hm : More N d (nx n) S S' M) : Rc nx ek N d S' (W ++ M) (if (ek n).isSome then E ++ [n] else E) := by
 have hn := h.wk n (by simp)
 have ran : Ra nx ek d n := h.snd n hn.1 hn.2.1 hn.2.2
 have mE : ∀ y, y ∈ E -> y ∈ (if (ek n).isSome then E ++ [n] else E) := fun y hy => by
  split
  ·exact List.mem_append.2 (.inl hy)
  ·exact hy
 have inM : ∀ y ∈ M, 1 <= y /\ y <= (N : Int) /\ sb S' y = true := fun y hy => by
  obtain ⟨a, b, c, e⟩ := hm.m y hy
  have := H.rng _ _ a
  exact ⟨this.1, this.2, e⟩
 refine ⟨by rw [hm.len]; exact h.sl, fun y y0 y1 hy => ?_, fun y hy => ?_, fun y hy => ?_, fun z hz zd => hm.old z (by have := H.rng _ _ hz; omega) (h.rt z hz zd), fun y y0 y1 hy => ?_⟩
 ·rcases hm.new y (by omega) hy with a | a
  ·exact h.snd y y0 y1 a
  ·obtain ⟨a1, _, a3, _⟩ := hm.m y a
   exact .way ran a1 a3
 ·rcases List.mem_append.1 hy with a | a
  ·obtain ⟨b1, b2, b3⟩ := h.wk y (List.mem_append.2 (.inl a))
   exact ⟨b1, b2, hm.old y (by omega) b3⟩
  ·exact inM y a
 ·by_cases q : (ek n).isSome
  ·rw [if_pos q] at hy
   rcases List.mem_append.1 hy with a | a
   ·obtain ⟨b1, b2, b3, b4⟩ := h.wE y a
    exact ⟨b1, b2, hm.old y (by omega) b3, b4⟩
   ·simp at a; subst a
    obtain ⟨⟨k, v⟩, e⟩ := Option.isSome_iff_exists.1 q
    exact ⟨hn.1, hn.2.1, hm.old y (by omega) hn.2.2, k, v, e⟩
  ·rw [if_neg q] at hy
   obtain ⟨b1, b2, b3, b4⟩ := h.wE y hy
   exact ⟨b1, b2, hm.old y (by omega) b3, b4⟩
 ·by_cases hyn : y = n
  ·right
   refine ⟨fun z hz zd => by rw [hyn] at hz; exact hm.all z hz (by have := H.rng _ _ hz; omega) zd, fun k v e => .inl ?_⟩
   rw [hyn] at e ⊢
   rw [if_pos (by rw [e]; rfl)]
   simp
  ·rcases hm.new y (by omega) hy with a | a
   ·rcases h.cl y y0 y1 a with b | ⟨b1, b2⟩
    ·rcases List.mem_append.1 b with c | c
     ·exact .inl (List.mem_append.2 (.inl c))
     ·simp at c; exact absurd c hyn
    ·right
     refine ⟨fun z hz zd => hm.old z (by have := H.rng _ _ hz; omega) (b1 z hz zd), fun k v e => ?_⟩
     rcases b2 k v e with c | c
     ·exact .inl (mE y c)
     ·exact .inr fun v0 vd => hm.old v (by omega) (c v0 vd)
   ·exact .inl (List.mem_append.2 (.inr a))
theorem Rc.let (H : NxOk nx N) (K : EkOk ek N) {y k v : Int} {A R : List Int} (h : Rc nx ek N d S W (A ++ y :: R)) (he : ek y = some (k, v)) (hk : sb S k = true) (k0 : k ≠ 0) (hm : More N d [v] S S' M) : Rc nx ek N d S' (W ++ M) (A ++ R) := by
 have hy0 := h.wE y (by simp)
 have kr := K.rng _ _ _ he
 have rak : Ra nx ek d k := h.snd k (by omega) kr.2.1 hk
 have ray : Ra nx ek d y := h.snd y hy0.1 hy0.2.1 hy0.2.2.1
 refine ⟨by rw [hm.len]; exact h.sl, fun x x0 x1 hx => ?_, fun x hx => ?_, fun x hx => ?_, fun z hz zd => hm.old z (by have := H.rng _ _ hz; omega) (h.rt z hz zd), fun x x0 x1 hx => ?_⟩
 ·rcases hm.new x (by omega) hx with a | a
  ·exact h.snd x x0 x1 a
  ·obtain ⟨a1, a2, a3, _⟩ := hm.m x a
   simp at a1
   subst a1
   exact .eph ray he rak a2 a3
 ·rcases List.mem_append.1 hx with a | a
  ·obtain ⟨b1, b2, b3⟩ := h.wk x a
   exact ⟨b1, b2, hm.old x (by omega) b3⟩
  ·obtain ⟨a1, a2, a3, a4⟩ := hm.m x a
   simp at a1
   subst a1
   exact ⟨by omega, kr.2.2.2, a4⟩
 ·have : x ∈ A ++ y :: R := by
   rcases List.mem_append.1 hx with a | a
   ·exact List.mem_append.2 (.inl a)
   ·exact List.mem_append.2 (.inr (List.mem_cons_of_mem _ a))
  obtain ⟨b1, b2, b3, b4⟩ := h.wE x this
  exact ⟨b1, b2, hm.old x (by omega) b3, b4⟩
 ·rcases hm.new x (by omega) hx with a | a
  ·rcases h.cl x x0 x1 a with b | ⟨b1, b2⟩
   ·exact .inl (List.mem_append.2 (.inl b))
   ·right
    refine ⟨fun z hz zd => hm.old z (by have := H.rng _ _ hz; omega) (b1 z hz zd), fun k' v' e => ?_⟩
    by_cases exy : x = y
    ·right
     intro v0 vd
     rw [exy, he] at e
     cases e
     exact hm.all v (by simp) v0 vd
    ·rcases b2 k' v' e with c | c
     ·left
      rcases List.mem_append.1 c with q | q
      ·exact List.mem_append.2 (.inl q)
      ·rcases List.mem_cons.1 q with q | q
       ·exact absurd q exy
       ·exact List.mem_append.2 (.inr q)
     ·exact .inr fun v0 vd => hm.old v' (by omega) (c v0 vd)
  ·exact .inl (List.mem_append.2 (.inr a))
theorem Rc.over (H : NxOk nx N) (K : EkOk ek N) (h : Rc nx ek N d S [] E) (hE : ∀ y ∈ E, ∀ k v, ek y = some (k, v) -> k = 0 \/ sb S k = false) (y : Int) (y0 : 1 <= y) (y1 : y <= (N : Int)) : sb S y = true ↔ Ra nx ek d y := by
 refine ⟨h.snd y y0 y1, fun q => ?_⟩
 clear y0 y1
 induction q with
 | root hz zd => exact h.rt _ hz zd
 | @way y z hy hz zd ih =>
  have r := hy.rng H K
  rcases h.cl y r.1 r.2 ih with a | ⟨a, _⟩
  ·cases a
  ·exact a z hz zd
 | @eph y k v hy he hk v0 vd ih1 ih2 =>
  have r := hy.rng H K
  have rk := hk.rng H K
  rcases h.cl y r.1 r.2 ih1 with a | ⟨_, a⟩
  ·cases a
  ·rcases a k v he with b | b
   ·rcases hE y b k v he with c | c
    ·omega
    ·rw [ih2] at c; cases c
   ·exact b v0 vd
end
end
end Go.Proofs.YtogpgkoelplknaaDoor
end
