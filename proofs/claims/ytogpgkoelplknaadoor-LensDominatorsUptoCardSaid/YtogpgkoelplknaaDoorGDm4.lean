/- Merged texts: Dr3, Dr4, Rm5, Rm6, Rm7, Rm8, Rm9, Rm10, Rm11, Rm12, Sg1. No condition of its own: each text says what it holds. -/
import Derived.Test.YtogpgkoelplknaaDoorGDm3
import Derived.Deep.RegionHeld3
import Derived.Test.YtogpgkoelplknaaDoorPLensPathsx15
section
/- The document's lens: what middenref17.Dominators holds in memory: lists of lists of bools. No condition. -/

namespace Go.Proofs.YtogpgkoelplknaaDoor
open Go.RowKit Go.BigFrame PLensPaths Go.Proofs.YtogpgkoelplknaaDoorW.PrintWords Go.Proofs.YtogpgkoelplknaaDoorW.PrintMore
set_option linter.unusedVariables false
structure BbAt (w : World) (B gB n : Nat) (V : List Value) (D : List (List Bool)) (ex : Nat → Prop) : Prop where
  out : w.heap[gB]? = some (.cells V.toArray 52 (0, 0))
  vl : V.length = n
  dl : D.length = n
  row : ∀ x, x < n → RB w B (V.getD x nilS) (D.getD x [])
  ne : ∀ x y, x < n → y < n → x ≠ y → ∀ k, (V.getD x nilS).ownBlock = some k → (V.getD y nilS).ownBlock ≠ some k
  ex : ∀ x, x < n → ∀ k, (V.getD x nilS).ownBlock = some k → ¬ ex k
  gb : B ≤ gB
theorem RB_far {w : World} {b : Nat} {v : Value} {l : List Bool} (h : RB w b v l) {p : Addr} (hne : v.ownBlock ≠ some p.block) (u : Value) : RB (w.setCell p u) b v l :=
  Kd.R_of_own (own_setCell (Kd.own_of_R h) (fun e => hne e.symm) u) (fun _ _ => trivial)
theorem getD_setD {D : List (List Bool)} {x y : Nat} {v : List Bool} (h : x < D.length) : (D.set x v).getD y [] = if x = y then v else D.getD y [] := by
  rw [List.getD_eq_getElem?_getD, List.getElem?_set]
  by_cases e : x = y
  · subst e; simp [h]
  · rw [if_neg e, if_neg e, ← List.getD_eq_getElem?_getD]
section
variable {w w1 : World} {B gB n : Nat} {V : List Value} {D : List (List Bool)} {ex : Nat → Prop}
theorem BbAt.below (h : BbAt w B gB n V D ex) (hb : Below w.heap.size w w1) : BbAt w1 B gB n V D ex :=
  ⟨box_keep h.out hb, h.vl, h.dl, fun x hx => Kd.R_below (h.row x hx) hb, h.ne, h.ex, h.gb⟩
theorem BbAt.mono {ex' : Nat → Prop} (h : BbAt w B gB n V D ex) (hx : ∀ k, ex' k → ex k) : BbAt w B gB n V D ex' := ⟨h.out, h.vl, h.dl, h.row, h.ne, fun x q k e c => h.ex x q k e (hx k c), h.gb⟩
/-- A cell of a list of ints is written. -/
theorem BbAt.setT (h : BbAt w B gB n V D ex) {g t : Nat} {cells : Array Value} (hc : w.heap[g]? = some (.cells cells t (0, 0))) (h1 : 4 ≠ t) (h2 : 52 ≠ t) (x : Nat) (v : Value) : BbAt (w.setCell ⟨g, x, none⟩ v) B gB n V D ex :=
  ⟨blk_far h.out (blk_ne h.out hc h2) v, h.vl, h.dl, fun y hy => Kd.R_set (h.row y hy) hc (fun q hq => by simp [Kd.bool, Kd.scalar] at hq; rw [hq]; exact h1) x v, h.ne, h.ex, h.gb⟩
/-- A new row. -/
theorem BbAt.setRow (h : BbAt w B gB n V D ex) {d : Nat} (hd : d < n) {v : Value} {l : List Bool} (h1 : RB w B v l) (hv : ∀ k, v.ownBlock = some k → (∀ x, x < n → (V.getD x nilS).ownBlock ≠ some k) ∧ ¬ ex k) : BbAt (w.setCell ⟨gB, d, none⟩ v) B gB n (V.set d v) (D.set d l) ex := by
  have vl := h.vl
  have dl := h.dl
  refine ⟨blk_put h.out d v (by simp), by simp [vl], by simp [dl], fun x hx => ?_, fun x y hx hy hxy k hk => ?_, fun x hx k hk => ?_, h.gb⟩
  · rw [getD_setV (by omega), getD_setD (by omega)]
    split
    · exact Kd.R_set h1 h.out (by decide) d v
    · exact Kd.R_set (h.row x hx) h.out (by decide) d v
  · rw [getD_setV (by omega)] at hk ⊢
    by_cases e : d = x
    · rw [if_pos e] at hk
      rw [if_neg (by omega)]
      exact (hv k hk).1 y hy
    · rw [if_neg e] at hk
      split
      · exact fun q => (hv k q).1 x hx hk
      · exact h.ne x y hx hy hxy k hk
  · rw [getD_setV (by omega)] at hk
    split at hk
    · exact (hv k hk).2
    · exact h.ex x hx k hk
/-- A place of a row is written. -/
theorem BbAt.putRow (h : BbAt w B gB n V D ex) {d gR m c : Nat} (hd : d < n) (hv : V.getD d nilS = .slice (some ⟨gR, 0, none⟩) m c) (x : Nat) (b : Bool) : BbAt (w.setCell ⟨gR, x, none⟩ (.bool b)) B gB n V (D.set d ((D.getD d []).set x b)) ex := by
  have dl := h.dl
  have hr := h.row d hd
  rw [hv] at hr
  obtain ⟨cells, hty⟩ := Kd.R_typed hr gR rfl
  refine ⟨blk_far h.out (blk_ne h.out hty (by decide)) _, h.vl, by simp [dl], fun y hy => ?_, h.ne, h.ex, h.gb⟩
  rw [getD_setD (by omega)]
  by_cases e : d = y
  · subst e
    rw [if_pos rfl, hv]
    exact (RB_put hr x b).1
  · rw [if_neg e]
    refine RB_far (h.row y hy) (p := ⟨gR, x, none⟩) (fun q => ?_) _
    exact h.ne d y hd hy e gR (by rw [hv]; rfl) q
theorem BbAt.at_ (h : BbAt w B gB n V D ex) (i : Nat) (hi : i < n) : w.cell? ⟨gB, i, none⟩ = some (V.getD i nilS) ∧ w.frozen? ⟨gB, i, none⟩ = false := by
  have hVl := h.vl
  refine ⟨?_, (blk_at h.out).2 i⟩
  rw [(blk_at h.out).1 i]
  simp [List.getD_eq_getElem?_getD, show i < V.length by omega]
end
theorem infoSb : (Tryd.prog.info? 52).map (fun i => (i.zero, i.size, i.bytes)) = some (some nilS, 1, 24) := by kernel_rfl
theorem run_rowsB (n : Nat) (hl : n ≤ 1099511627) (W : World) : (Instr.makeSlice 82 (.int .i64 n) (.int .i64 n)).run Tryd.prog W = .ok (.slice (some ⟨W.heap.size, 0, none⟩) n n) (W.alloc (.cells (List.replicate n nilS).toArray 52)) := by
  obtain ⟨i0, hi, hz0, hz1, hz2⟩ := info_parts infoSb
  have hr := run_make (P := Tryd.prog) W 82 52 i0 nilS Tryd.underlying82 hi hz0 .i64 .i64 (n : Int) (n : Int) (by omega) (by omega) (by rw [hz2]; omega) (by omega)
  simp only [Int.toNat_natCast] at hr
  rw [hz1, Nat.mul_one] at hr
  have e : madeCells nilS.cells n = (List.replicate n nilS).toArray := by
    have : nilS.cells = #[nilS] := rfl
    rw [this, ← toList_madeCells_one]
  rw [← e]
  exact hr
theorem new_rowsB (W : World) (n : Nat) {base : Nat} (hb : base ≤ W.heap.size) : BbAt (W.alloc (.cells (Array.replicate n nilS) 52)) base W.heap.size n (List.replicate n nilS) (List.replicate n []) (fun _ => True) := by
  have rl : ∀ k, (List.replicate n nilS).getD k nilS = nilS := fun k => by
    rw [List.getD_eq_getElem?_getD, List.getElem?_replicate]; split <;> rfl
  have rl2 : ∀ k, (List.replicate n ([] : List Bool)).getD k [] = [] := fun k => by
    rw [List.getD_eq_getElem?_getD, List.getElem?_replicate]; split <;> rfl
  rw [← List.toArray_replicate]
  refine ⟨blk_new W (.cells (List.replicate n nilS).toArray 52 (0, 0)), by simp, by simp, fun x hx => ?_, fun x y hx hy hxy k hk => ?_, fun x hx k hk => ?_, hb⟩
  · rw [rl, rl2]; exact Kd.R_nil _ _ _ _ _
  · rw [rl] at hk; simp [Value.ownBlock] at hk
  · rw [rl] at hk; simp [Value.ownBlock] at hk
theorem BbAt.more {w : World} {B gB n : Nat} {V : List Value} {D : List (List Bool)} {ex ex' : Nat → Prop} (h : BbAt w B gB n V D ex) (hx : ∀ k, ex' k → ex k ∨ w.heap.size ≤ k) : BbAt w B gB n V D ex' :=
  ⟨h.out, h.vl, h.dl, h.row, h.ne, fun x q k e c => by
    rcases hx k c with a | a
    · exact h.ex x q k e a
    · have := Kd.R_lt (h.row x q) k e
      omega, h.gb⟩
/-- The document's tables, m nodes done. -/
structure TbO (nx : Int → List Int) (N m : Nat) (D : List (List Bool)) (Mn : List Int) : Prop where
  dl : D.length = N + 1
  dn : ∀ d : Nat, 1 ≤ d → d ≤ m → (D.getD d []).length = N + 1 ∧ ∀ x : Nat, 1 ≤ x → x ≤ N → ((D.getD d []).getD x false = true ↔ Ov nx (d : Int) (x : Int))
  mn : Mn.length = N + 1
  cnt : ∀ x : Nat, 1 ≤ x → x ≤ N → fa Mn (x : Int) = (cntO nx (x : Int) m : Nat)
/-- Of the next node's row the first t places. -/
structure TbI (nx : Int → List Int) (N m t : Nat) (l : List Bool) (Mn : List Int) : Prop where
  ll : l.length = N + 1
  row : ∀ x : Nat, 1 ≤ x → x ≤ N → (l.getD x false = true ↔ x ≤ t ∧ Ov nx ((m : Int) + 1) (x : Int))
  mn : Mn.length = N + 1
  cnt : ∀ x : Nat, 1 ≤ x → x ≤ N → fa Mn (x : Int) = (cntO nx (x : Int) (if x ≤ t then m + 1 else m) : Nat)
section
variable {nx : Int → List Int} {N m t : Nat} {D : List (List Bool)} {Mn : List Int} {l : List Bool}
theorem TbO.begin : TbO nx N 0 (List.replicate (N + 1) []) (List.replicate (N + 1) 0) :=
  ⟨by simp, fun d h1 h2 => by omega, by simp, fun x h1 h2 => by
    unfold fa
    rw [Int.toNat_natCast, List.getD_eq_getElem?_getD, List.getElem?_replicate, if_pos (by omega)]
    rfl⟩
theorem TbO.row (h : TbO nx N m D Mn) : TbI nx N m 0 (List.replicate (N + 1) false) Mn := by
  refine ⟨by simp, fun x h1 h2 => ?_, h.mn, fun x h1 h2 => ?_⟩
  · rw [List.getD_eq_getElem?_getD, List.getElem?_replicate, if_pos (by omega)]
    constructor
    · intro q; cases q
    · rintro ⟨q, _⟩; omega
  · rw [if_neg (by omega)]; exact h.cnt x h1 h2
theorem TbI.yes (h : TbI nx N m t l Mn) (ht : t < N) (ho : Ov nx ((m : Int) + 1) ((t : Int) + 1)) : TbI nx N m (t + 1) (l.set (t + 1) true) (Mn.set (t + 1) (fa Mn ((t : Int) + 1) + 1)) := by
  have ll := h.ll
  have ml := h.mn
  have cc := h.cnt (t + 1) (by omega) (by omega)
  rw [if_neg (by omega)] at cc
  refine ⟨by simp [ll], fun x h1 h2 => ?_, by simp [ml], fun x h1 h2 => ?_⟩
  · rw [getD_setB (by omega)]
    by_cases e : t + 1 = x
    · subst e
      rw [if_pos rfl]
      simp only [Nat.le_refl, true_and, true_iff]
      exact ho
    · rw [if_neg e, h.row x h1 h2]
      constructor
      · rintro ⟨a, b⟩; exact ⟨by omega, b⟩
      · rintro ⟨a, b⟩; exact ⟨by omega, b⟩
  · have fs := fa_set (F := Mn) (x := ((t + 1 : Nat) : Int)) (y := (x : Int)) (v := fa Mn ((t : Int) + 1) + 1) (by omega) (by omega)
    rw [Int.toNat_natCast] at fs
    rw [fs]
    by_cases e : t + 1 = x
    · subst e
      rw [if_pos rfl, if_pos (by omega)]
      have : fa Mn ((t : Int) + 1) = (cntO nx ((t + 1 : Nat) : Int) m : Nat) := cc
      rw [this]
      rw [cnt_yes (x := ((t + 1 : Nat) : Int)) ho]
      omega
    · rw [if_neg (by omega), h.cnt x h1 h2]
      by_cases q : x ≤ t
      · rw [if_pos q, if_pos (by omega)]
      · rw [if_neg q, if_neg (by omega)]
theorem TbI.no (h : TbI nx N m t l Mn) (ht : t < N) (ho : ¬ Ov nx ((m : Int) + 1) ((t : Int) + 1)) : TbI nx N m (t + 1) l Mn := by
  refine ⟨h.ll, fun x h1 h2 => ?_, h.mn, fun x h1 h2 => ?_⟩
  · rw [h.row x h1 h2]
    constructor
    · rintro ⟨a, b⟩; exact ⟨by omega, b⟩
    · rintro ⟨a, b⟩
      refine ⟨?_, b⟩
      by_cases e : x = t + 1
      · subst e; exact absurd b ho
      · omega
  · rw [h.cnt x h1 h2]
    by_cases e : x = t + 1
    · subst e
      rw [if_neg (by omega), if_pos (by omega)]
      rw [cnt_no (x := ((t + 1 : Nat) : Int)) ho]
    · by_cases q : x ≤ t
      · rw [if_pos q, if_pos (by omega)]
      · rw [if_neg q, if_neg (by omega)]
theorem TbI.over {M0 : List Int} (h : TbI nx N m N l Mn) (h0 : TbO nx N m D M0) (hm : m < N) : TbO nx N (m + 1) (D.set (m + 1) l) Mn := by
  have dl := h0.dl
  refine ⟨by simp [dl], fun d h1 h2 => ?_, h.mn, fun x h1 h2 => ?_⟩
  · rw [getD_setD (by omega)]
    by_cases e : m + 1 = d
    · subst e
      rw [if_pos rfl]
      refine ⟨h.ll, fun x x1 x2 => ?_⟩
      rw [h.row x x1 x2]
      exact ⟨fun q => q.2, fun q => ⟨x2, q⟩⟩
    · rw [if_neg e]
      exact h0.dn d h1 (by omega)
  · rw [h.cnt x h1 h2, if_pos h2]
end
structure RdAt (w : World) (B gB n : Nat) (V : List Value) (D : List (List Bool)) (gA cA : Nat) (Sa : List Bool) (gL cL : Nat) (Sl : List Bool) (gM cM : Nat) (Mn : List Int) : Prop where
  bb : BbAt w B gB n V D (fun k => k = gA ∨ k = gL)
  al : RB w B (.slice (some ⟨gA, 0, none⟩) n cA) Sa
  lf : RB w B (.slice (some ⟨gL, 0, none⟩) n cL) Sl
  mn : RI w B (.slice (some ⟨gM, 0, none⟩) n cM) Mn
section
variable {w w1 : World} {B gB n gA cA gL cL gM cM : Nat} {V : List Value} {D : List (List Bool)} {Sa Sl : List Bool} {Mn : List Int}
theorem RdAt.below (h : RdAt w B gB n V D gA cA Sa gL cL Sl gM cM Mn) (hb : Below w.heap.size w w1) : RdAt w1 B gB n V D gA cA Sa gL cL Sl gM cM Mn :=
  ⟨h.bb.below hb, Kd.R_below h.al hb, Kd.R_below h.lf hb, Kd.R_below h.mn hb⟩
theorem RdAt.putM (h : RdAt w B gB n V D gA cA Sa gL cL Sl gM cM Mn) (x : Nat) (v : Int) : RdAt (w.setCell ⟨gM, x, none⟩ (.int .i64 v)) B gB n V D gA cA Sa gL cL Sl gM cM (Mn.set x v) := by
  obtain ⟨cs, hty⟩ := Kd.R_typed h.mn gM rfl
  exact ⟨h.bb.setT hty (by decide) (by decide) x _, Kd.R_set h.al hty (by decide) x _, Kd.R_set h.lf hty (by decide) x _, (RI_put h.mn x v).1⟩
theorem RdAt.putR (h : RdAt w B gB n V D gA cA Sa gL cL Sl gM cM Mn) {d gR m c : Nat} (hd : d < n) (hv : V.getD d nilS = .slice (some ⟨gR, 0, none⟩) m c) (x : Nat) (b : Bool) : RdAt (w.setCell ⟨gR, x, none⟩ (.bool b)) B gB n V (D.set d ((D.getD d []).set x b)) gA cA Sa gL cL Sl gM cM Mn := by
  have hr := h.bb.row d hd
  rw [hv] at hr
  obtain ⟨cs, hty⟩ := Kd.R_typed hr gR rfl
  have ne := h.bb.ex d hd gR (by rw [hv]; rfl)
  exact ⟨h.bb.putRow hd hv x b, RB_far h.al (p := ⟨gR, x, none⟩) (fun e => ne (.inl (by simpa [Value.ownBlock] using e.symm))) _, RB_far h.lf (p := ⟨gR, x, none⟩) (fun e => ne (.inr (by simpa [Value.ownBlock] using e.symm))) _, Kd.R_set h.mn hty (by decide) x _⟩
theorem RdAt.atM (h : RdAt w B gB n V D gA cA Sa gL cL Sl gM cM Mn) (i : Nat) (hi : i < n) : w.cell? ⟨gM, i, none⟩ = some (.int .i64 (fa Mn (i : Int))) ∧ w.frozen? ⟨gM, i, none⟩ = false := by
  have := Kd.R_celln (d := (0 : Int)) h.mn (i : Int) (by omega) (by omega)
  rwa [Int.toNat_natCast] at this
theorem RdAt.app (h : RdAt w B gB n V D gA cA Sa gL cL Sl gM cM Mn) {vo : Value} {o : List Int} (ho : RI w B vo o) (hne : vo.ownBlock ≠ some gM) (hg : w.grownBy w1 vo.ownBlock) : RdAt w1 B gB n V D gA cA Sa gL cL Sl gM cM Mn := by
  have ty := Kd.R_typed ho
  exact ⟨⟨blk_grown h.bb.out hg (Kd.R_ne ho h.bb.out (by decide)), h.bb.vl, h.bb.dl, fun x hx => Kd.R_over' (h.bb.row x hx) ty (by decide) hg, h.bb.ne, h.bb.ex, h.bb.gb⟩, Kd.R_over' h.al ty (by decide) hg, Kd.R_over' h.lf ty (by decide) hg, RI_other h.mn hg (.inr (fun e => hne e.symm))⟩
end
end Go.Proofs.YtogpgkoelplknaaDoor
end
section
/- The document's lens: middenref17.Dominators walked. No condition. -/

namespace Go.Proofs.YtogpgkoelplknaaDoor
open Go.RowKit Go.BigFrame PLensPaths Go.Proofs.YtogpgkoelplknaaDoorW.PrintWords Go.Proofs.YtogpgkoelplknaaDoorW.PrintMore
set_option linter.unusedVariables false
/-- The list so far. -/
def DomOut (nx : Int → List Int) (t : Nat) (o : List Int) : Prop := o.length = t ∧ ∀ x : Nat, 1 ≤ x → x ≤ t → DomAt nx (x : Int) (o.getD (x - 1) 0)
set_option maxRecDepth 100000 in
set_option maxHeartbeats 8000000 in
theorem rdoms_bad (g : Gv) (G : Gr) (w : World) (h : GAt w g G) (s : Small G) (hok : okB G = false) :
    Calls Tryd.prog 18 #[gval g G] w fun e w' => e = .returned (.tuple #[nilS, .int .i64 171]) ∧ Below w.heap.size w w' := by
  obtain ⟨A0, A1, A2, A3, A4, c0, c1, c2, c3, c4⟩ := g
  have CK := Lib.hid (fun (W : World) (hb : Below w.heap.size w W) => rcheck16_any ⟨A0, A1, A2, A3, A4, c0, c1, c2, c3, c4⟩ G W (h.below hb) s)
  have BX := boxed h
  unfold gval gcells at *
  simp only at BX CK ⊢
  rw [hok] at CK
  clear hok
  go_enter Tryd.func18, Tryd.ntmps18
  go_upto_region 1 with fail
  generalize w.alloc _ = wA at *
  obtain ⟨hX, hB, lA, hA⟩ := BX
  obtain ⟨cA, fA⟩ := blk_at hX
  go_wp2_with (go_at_call 43; refine (CK.out _ hB).mono ?_; rintro e w2 ⟨rfl, hb2⟩)
  go_ret2
  exact ⟨rfl, hB.trans (hb2.mono hB.size)⟩
set_option maxRecDepth 100000 in
set_option maxHeartbeats 16000000 in
theorem rdoms_good (g : Gv) (G : Gr) (w : World) (h : GAt w g G) (s : Small G) (hok : okB G = true) :
    Calls Tryd.prog 18 #[gval g G] w fun e w' => Told e w' w.heap.size (fun p => DomL (nxG G) G.obs.length p) ∧ Below w.heap.size w w' := by
  have R := rng_ok hok
  have bd := s.bd
  have hn := bd.n
  have hh : ∀ x ∈ posL (holdP G), 1 ≤ x ∧ x ≤ (G.obs.length : Int) := fun x hx => by have := hold_rng R x hx; omega
  have H := Lib.hid (nx_ok R hh)
  obtain ⟨A0, A1, A2, A3, A4, c0, c1, c2, c3, c4⟩ := g
  have CK := Lib.hid (fun (W : World) (hb : Below w.heap.size w W) => rcheck16_any ⟨A0, A1, A2, A3, A4, c0, c1, c2, c3, c4⟩ G W (h.below hb) s)
  have WC := Lib.hid (fun (W : World) (hb : Below w.heap.size w W) (x d : Int) (hx : (x = 0 ∧ d = -1) ∨ (1 ≤ x ∧ d = x)) => rways_any ⟨A0, A1, A2, A3, A4, c0, c1, c2, c3, c4⟩ G x d W (h.below hb) s R hx)
  have BX := boxed h
  unfold gval gcells at *
  simp only at BX CK WC ⊢
  rw [hok] at CK
  clear hok
  go_enter Tryd.func18, Tryd.ntmps18
  go_upto_region 1 with fail
  generalize w.alloc _ = wA at *
  obtain ⟨hX, hB, lA, hA⟩ := BX
  obtain ⟨cA, fA⟩ := blk_at hX
  go_upto_region 5 with (go_at_call 43; refine (CK.out _ hB).mono ?_; rintro e w2 ⟨rfl, hb2⟩; clear cA fA; obtain ⟨cA, fA⟩ := blk_at (box_keep hX hb2); have hB2 := hB.trans (hb2.mono hB.size))
  have hsz2 := hb2.size
  go_upto_region 6 with (go_at_call 58; refine (WC.out _ hB2 0 (-1) (.inl ⟨rfl, rfl⟩)).mono ?_; rintro e w3 ⟨vA, Sa, rfl, hSa, hSa2, hb3'⟩; have HSA := Lib.hid hSa2.2; have hsl := hSa2.1; clear hSa2; have hb3 := hb2.trans (hb3'.mono hsz2); have hA3 := Kd.R_lower hSa hsz2)
  obtain ⟨gA, cAA, rfl, gA0, gA1⟩ := RB_form hA3 (by omega)
  rw [hsl] at hA3 ⊢
  have hsz3 := hb3.size
  have hr1 : ∀ W : World, (Instr.makeSlice 82 (.int .i64 ((G.obs.length : Int) + 1)) (.int .i64 ((G.obs.length : Int) + 1))).run Tryd.prog W = _ := run_rowsB (G.obs.length + 1) (by omega)
  clear hSa hb3' CK
  go_upto_region 7 with fail
  have hBb := new_rowsB w3 (G.obs.length + 1) (base := wA.heap.size) hsz3
  have hb4 := hb3.alloc hsz3 (.cells (Array.replicate (G.obs.length + 1) nilS) 52)
  have hA4 := Kd.R_alloc hA3 (.cells (Array.replicate (G.obs.length + 1) nilS) 52)
  generalize w3.alloc (.cells (Array.replicate (G.obs.length + 1) nilS) 52) = w4 at *
  have hgB := hBb.gb
  generalize w3.heap.size = gB at *
  clear hr1 hb3 hA3 hsz3
  have hsz4 := hb4.size
  go_upto_region 8 with (refine make_ints (w0 := wA) wA.heap.size rfl rfl _ _ rfl (G.obs.length + 1) rfl rfl ?h1 hb4 hsz4 ?_; (case h1 => omega); intro vM w5 hM hb5 hg5 hat5)
  obtain ⟨gM, cM, rfl, gM0, -, -⟩ := RI_form hM (by simp)
  simp only [List.length_replicate] at hM ⊢
  have hb45 : Below w4.heap.size w4 w5 := ⟨hg5.os, hg5.tape, hg5.output, hg5.size, fun k hk => hg5.block k hk (by simp)⟩
  have hRd : RdAt w5 wA.heap.size gB (G.obs.length + 1) (List.replicate (G.obs.length + 1) nilS) (List.replicate (G.obs.length + 1) []) gA cAA Sa gA cAA Sa gM cM (List.replicate (G.obs.length + 1) 0) :=
    ⟨(hBb.below hb45).mono (fun _ _ => trivial), Kd.R_below hA4 hb45, Kd.R_below hA4 hb45, hM⟩
  have HT := Lib.hid (TbO.begin (nx := nxG G) (N := G.obs.length))
  clear hBb hb4 hA4 hM hg5 hat5 hb45 hsz4 hsl
  generalize List.replicate (G.obs.length + 1) nilS = V0 at *
  generalize List.replicate (G.obs.length + 1) ([] : List Bool) = D0 at *
  generalize List.replicate (G.obs.length + 1) (0 : Int) = M0 at *
  go_wp2_with fail
  go_loopw [9] (fun dv wx => ∃ (m : Nat) (V : List Value) (D : List (List Bool)) (Mn : List Int), m ≤ G.obs.length ∧ dv = .int .i64 ((m : Int) + 1) ∧ Hid (TbO (nxG G) G.obs.length m D Mn) ∧ RdAt wx wA.heap.size gB (G.obs.length + 1) V D gA cAA Sa gA cAA Sa gM cM Mn ∧ Below wA.heap.size wA wx) (fun dv _ => G.obs.length + 1 - (intOf dv).toNat)
  case atStart => exact ⟨0, V0, D0, M0, by omega, rfl, HT, hRd, hb5⟩
  case round =>
    clear hRd HT hb5
    obtain ⟨m, V, D, Mn, hm, rfl, hT, hRd, hbr⟩ := hrel
    by_cases hlt : m < G.obs.length
    · have dlt : decide ((m : Int) + 1 ≤ (G.obs.length : Int)) = true := decide_eq_true (by omega)
      obtain ⟨cB, fB⟩ := blk_at (box_keep hX hbr)
      have hBr := hB.trans (hbr.mono (Nat.le_of_lt lA))
      have hszr := hbr.size
      have m0 : (0 : Int) ≤ (m : Int) + 1 := by omega
      have m1 : (m : Int) + 1 < (G.obs.length : Int) + 1 := by omega
      go_upto_region 12 with (go_at_call 58; refine (WC.out _ hBr ((m : Int) + 1) ((m : Int) + 1) (.inr ⟨by omega, rfl⟩)).mono ?_; rintro e w6 ⟨vL, Sl, rfl, hSl, hSl2, hb6'⟩; have HSL := Lib.hid hSl2.2; have hsll := hSl2.1; clear hSl2; have hb6 := hbr.trans (hb6'.mono hszr); have hL6 := Kd.R_lower hSl hszr)
      obtain ⟨gL, cL, rfl, gL0, gL1⟩ := RB_form hSl (by omega)
      rw [hsll] at hL6 ⊢
      have hR6 := hRd.below hb6'
      have hR6b : RdAt w6 wA.heap.size gB (G.obs.length + 1) V D gA cAA Sa gL cL Sl gM cM Mn :=
        ⟨(hRd.bb.more (ex' := fun k => k = gA ∨ k = gL) (fun k e => by
          rcases e with e | e
          · exact .inl (.inl e)
          · exact .inr (by omega))).below hb6', hR6.al, hL6, hR6.mn⟩
      clear hR6 hSl hRd cB fB hb6' hbr hL6
      have hsz6 := hb6.size
      go_upto_region 13 with (refine make_bools (w0 := wA) wA.heap.size rfl rfl _ _ rfl (G.obs.length + 1) rfl rfl ?h1 hb6 hsz6 ?_; (case h1 => omega); intro v7 w7 hR7 hb7 hg7 hat7; have hb67 : Below w6.heap.size w6 w7 := ⟨hg7.os, hg7.tape, hg7.output, hg7.size, fun k hk => hg7.block k hk (by simp)⟩; have hRd7 := hR6b.below hb67; obtain ⟨cB, fB⟩ := hRd7.bb.at_ (m + 1) (by omega); obtain ⟨gR, cR, rfl, gR0, gR1⟩ := RB_form hR7 (by simp); simp only [List.length_replicate] at hR7 ⊢)
      simp only [List.length_replicate] at hat7
      have gR2 : w6.heap.size ≤ gR := by obtain ⟨b, e, q⟩ := hat7; cases e; exact q
      have hvl := hRd7.bb.vl
      have hVr : (V.set (m + 1) (.slice (some ⟨gR, 0, none⟩) (G.obs.length + 1) cR)).getD (m + 1) nilS = .slice (some ⟨gR, 0, none⟩) (G.obs.length + 1) cR := by rw [getD_setV (by omega), if_pos rfl]
      have hRd8 : RdAt (w7.setCell ⟨gB, m + 1, none⟩ (.slice (some ⟨gR, 0, none⟩) (G.obs.length + 1) cR)) wA.heap.size gB (G.obs.length + 1) (V.set (m + 1) (.slice (some ⟨gR, 0, none⟩) (G.obs.length + 1) cR)) (D.set (m + 1) (List.replicate (G.obs.length + 1) false)) gA cAA Sa gL cL Sl gM cM Mn := by
        refine ⟨hRd7.bb.setRow (by omega) hR7 (fun k hk => ?_), Kd.R_set hRd7.al hRd7.bb.out (by decide) _ _, Kd.R_set hRd7.lf hRd7.bb.out (by decide) _ _, Kd.R_set hRd7.mn hRd7.bb.out (by decide) _ _⟩
        have hk' : k = gR := by simpa [Value.ownBlock] using hk.symm
        subst hk'
        refine ⟨fun x hx q => ?_, fun q => ?_⟩
        · have := Kd.R_lt (hR6b.bb.row x hx) k q
          omega
        · rcases q with q | q
          · have := Kd.R_lt hR6b.al k (by rw [q]; rfl)
            omega
          · have := Kd.R_lt hR6b.lf k (by rw [q]; rfl)
            omega
      have hb8 := hb7.setCell (p := ⟨gB, m + 1, none⟩) hgB (.slice (some ⟨gR, 0, none⟩) (G.obs.length + 1) cR)
      have HI := Lib.hid (hT.out.row)
      have gRA := gR0
      clear hR6b hRd7 hR7 hb7 hg7 hat7 hb67 hb6 gR2
      generalize hV1 : V.set (m + 1) (.slice (some ⟨gR, 0, none⟩) (G.obs.length + 1) cR) = V1 at *
      clear hV1
      go_upto_region 13 with fail
      generalize w7.setCell ⟨gB, m + 1, none⟩ (.slice (some ⟨gR, 0, none⟩) (G.obs.length + 1) cR) = w8 at *
      clear cB fB
      go_wp2_with fail
      go_loopw [11] (fun xv wx => ∃ (t : Nat) (l : List Bool) (Mx : List Int), t ≤ G.obs.length ∧ xv = .int .i64 ((t : Int) + 1) ∧ Hid (TbI (nxG G) G.obs.length m t l Mx) ∧ RdAt wx wA.heap.size gB (G.obs.length + 1) V1 (D.set (m + 1) l) gA cAA Sa gL cL Sl gM cM Mx ∧ Below wA.heap.size wA wx) (fun xv _ => G.obs.length + 1 - (intOf xv).toNat)
      case atStart => exact ⟨0, _, Mn, by omega, rfl, HI, hRd8, hb8⟩
      case round =>
        clear hRd8 hb8 HI
        obtain ⟨t, l, Mx, ht, rfl, hI, hRd, hbr⟩ := hrel
        by_cases hlx : t < G.obs.length
        · have dlx : decide ((t : Int) + 1 ≤ (G.obs.length : Int)) = true := decide_eq_true (by omega)
          have t0 : (0 : Int) ≤ (t : Int) + 1 := by omega
          have t1 : (t : Int) + 1 < (G.obs.length : Int) + 1 := by omega
          have et : ((t : Int) + 1).toNat = t + 1 := by omega
          have em : ((m : Int) + 1).toNat = m + 1 := by omega
          have ha := HSA.out ((t : Int) + 1) (by omega) (by omega)
          have hbb := HSA.out ((m : Int) + 1) (by omega) (by omega)
          have hc := HSL.out ((t : Int) + 1) (by omega) (by omega)
          rw [et] at ha hc
          rw [em] at hbb
          obtain ⟨ca, -⟩ := RB_cell hRd.al (t + 1) (by omega)
          obtain ⟨cb, -⟩ := RB_cell hRd.al (m + 1) (by omega)
          obtain ⟨cc, -⟩ := RB_cell hRd.lf (t + 1) (by omega)
          have HNO := Lib.hid (fun q => hI.out.no hlx q)
          have HYES := Lib.hid (fun q => hI.out.yes hlx q)
          have HOV := Lib.hid (show Ov (nxG G) ((m : Int) + 1) ((t : Int) + 1) ↔ ((t : Int) + 1 ≠ (m : Int) + 1 ∧ Sa.getD (t + 1) false = true ∧ Sa.getD (m + 1) false = true ∧ Sl.getD (t + 1) false = false) from by
            unfold Ov Rd Dm
            rw [← ha, ← hbb]
            constructor
            · rintro ⟨q1, q2, q3, q4⟩
              refine ⟨q1, q2, q3, ?_⟩
              cases e : Sl.getD (t + 1) false with
              | false => rfl
              | true => obtain ⟨k, a⟩ := hc.1 e; exact absurd a (q4 k)
            · rintro ⟨q1, q2, q3, q4⟩
              exact ⟨q1, q2, q3, fun k a => by have := hc.2 ⟨k, a⟩; rw [q4] at this; cases this⟩)
          clear ha hbb hc et em
          generalize Sa.getD (t + 1) false = ba at *
          generalize Sa.getD (m + 1) false = bm at *
          generalize Sl.getD (t + 1) false = bl at *
          have hDl := hT.out.dl
          by_cases htm : t = m
          · subst htm
            have de : (((t : Int) + 1) == ((t : Int) + 1)) = true := by simp
            have HN2 := Lib.hid (HNO.out (fun q => (HOV.out.1 q).1 rfl))
            clear HNO HYES HOV hI
            go_wp2_with fail
            go_roundw
            case rel => exact ⟨t + 1, l, Mx, by omega, by go_num, HN2, hRd, hbr⟩
            case measure => simp [intOf]; omega
          · have d1 : ¬ ((t : Int) = (m : Int)) := by omega
            have d2 : ((t : Int) == (m : Int)) = false := by simpa using d1
            have d3 : (((t : Int) + 1) == ((m : Int) + 1)) = false := by simp; omega
            cases ba with
            | false =>
              have HN2 := Lib.hid (HNO.out (fun q => by have := (HOV.out.1 q).2.1; cases this))
              clear HNO HYES HOV hI
              go_wp2_with fail
              go_roundw
              case rel => exact ⟨t + 1, l, Mx, by omega, by go_num, HN2, hRd, hbr⟩
              case measure => simp [intOf]; omega
            | true =>
              cases bm with
              | false =>
                have HN2 := Lib.hid (HNO.out (fun q => by have := (HOV.out.1 q).2.2.1; cases this))
                clear HNO HYES HOV hI
                go_wp2_with fail
                go_roundw
                case rel => exact ⟨t + 1, l, Mx, by omega, by go_num, HN2, hRd, hbr⟩
                case measure => simp [intOf]; omega
              | true =>
                cases bl with
                | true =>
                  have HN2 := Lib.hid (HNO.out (fun q => by have := (HOV.out.1 q).2.2.2; cases this))
                  clear HNO HYES HOV hI
                  go_wp2_with fail
                  go_roundw
                  case rel => exact ⟨t + 1, l, Mx, by omega, by go_num, HN2, hRd, hbr⟩
                  case measure => simp [intOf]; omega
                | false =>
                  have hY := HYES.out (HOV.out.2 ⟨by omega, rfl, rfl, rfl⟩)
                  have hcnt := hI.out.cnt (t + 1) (by omega) (by omega)
                  have hcb := cnt_bd (nx := nxG G) ((t + 1 : Nat) : Int) (if t + 1 ≤ t then m + 1 else m)
                  rw [if_neg (by omega)] at hcnt hcb
                  have ecast : ((t + 1 : Nat) : Int) = (t : Int) + 1 := by omega
                  rw [ecast] at hcnt hcb
                  obtain ⟨cB, -⟩ := hRd.bb.at_ (m + 1) (by omega)
                  rw [hVr] at cB
                  have hrw := hRd.bb.row (m + 1) (by omega)
                  rw [hVr] at hrw
                  obtain ⟨cr, fr⟩ := RB_cell hrw (t + 1) (by omega)
                  have hRd2 := hRd.putR (d := m + 1) (by omega) hVr (t + 1) true
                  rw [getD_setD (by omega), if_pos rfl, List.set_set] at hRd2
                  have hRd3 := hRd2.putM (t + 1) (fa Mx ((t : Int) + 1) + 1)
                  obtain ⟨cM1, fM1⟩ := hRd2.atM (t + 1) (by omega)
                  rw [ecast] at cM1
                  have hb9 := hbr.setCell (p := ⟨gR, t + 1, none⟩) gR0 (.bool true)
                  have hb10 := hb9.setCell (p := ⟨gM, t + 1, none⟩) gM0 (.int .i64 (fa Mx ((t : Int) + 1) + 1))
                  have HY2 := Lib.hid hY
                  have ew : IntKind.i64.wrap (fa Mx ((t : Int) + 1) + 1) = fa Mx ((t : Int) + 1) + 1 := by rw [IntKind.wrap_i64]; omega
                  clear HNO HYES HOV hI hY hcnt hcb hrw ecast
                  generalize fa Mx ((t : Int) + 1) = fx at *
                  go_upto_region 18 with fail
                  clear hRd cr fr cB ca cb cc hRd2 hb9 hbr
                  generalize wr.setCell ⟨gR, t + 1, none⟩ (.bool true) = w9 at *
                  go_wp2_with fail
                  go_roundw
                  case rel => exact ⟨t + 1, _, _, by omega, by go_num, HY2, hRd3, hb10⟩
                  case measure => simp [intOf]; omega
        · have dlx : decide ((t : Int) + 1 ≤ (G.obs.length : Int)) = false := decide_eq_false (by omega)
          obtain rfl : t = G.obs.length := by omega
          have HO := Lib.hid (hI.out.over hT.out hlt)
          have hRx : RdAt wr wA.heap.size gB (G.obs.length + 1) V1 (D.set (m + 1) l) gA cAA Sa gA cAA Sa gM cM Mx := ⟨hRd.bb.mono (fun k e => .inl (by rcases e with e | e <;> exact e)), hRd.al, hRd.al, hRd.mn⟩
          go_wp2_with fail
          go_roundw
          case rel => exact ⟨m + 1, V1, _, Mx, by omega, by go_num, HO, hRx, hbr⟩
          case measure => simp [intOf]; omega
    · have dlt : decide ((m : Int) + 1 ≤ (G.obs.length : Int)) = false := decide_eq_false (by omega)
      obtain rfl : m = G.obs.length := by omega
      have HD := Lib.hid (show DomOut (nxG G) 0 [] from ⟨rfl, fun x h1 h2 => by omega⟩)
      have hMl := hT.out.mn
      go_wp2_with fail
      go_loopw [12, 13] (fun vo xv wx => ∃ (t : Nat) (o : List Int), t ≤ G.obs.length ∧ xv = .int .i64 ((t : Int) + 1) ∧ Hid (DomOut (nxG G) t o) ∧ RI wx wA.heap.size vo o ∧ vo.ownBlock ≠ some gM ∧ RdAt wx wA.heap.size gB (G.obs.length + 1) V D gA cAA Sa gA cAA Sa gM cM Mn ∧ Below wA.heap.size wA wx) (fun _ xv _ => G.obs.length + 1 - (intOf xv).toNat)
      case atStart => exact ⟨0, [], by omega, rfl, HD, RI_nil _ _, by simp [Value.ownBlock], hRd, hbr⟩
      case round =>
        clear hRd hbr HD
        obtain ⟨t, o, ht, rfl, hD, hRo, hno, hRd, hbr⟩ := hrel
        by_cases hlx : t < G.obs.length
        · have dlx : decide ((t : Int) + 1 ≤ (G.obs.length : Int)) = true := decide_eq_true (by omega)
          have t0 : (0 : Int) ≤ (t : Int) + 1 := by omega
          have t1 : (t : Int) + 1 < (G.obs.length : Int) + 1 := by omega
          have HB := Lib.hid (BestTo.zero (nx := nxG G) (N := G.obs.length) (x := (t : Int) + 1))
          go_wp2_with fail
          go_loopw [14, 15] (fun bv dv wx => ∃ (u : Nat) (b : Nat), u ≤ G.obs.length ∧ b ≤ G.obs.length ∧ dv = .int .i64 ((u : Int) + 1) ∧ bv = .int .i64 (b : Int) ∧ Hid (BestTo (nxG G) G.obs.length ((t : Int) + 1) u (b : Int)) ∧ ∃ q, wx = wr.drewN q) (fun _ dv _ => G.obs.length + 1 - (intOf dv).toNat)
          case atStart => exact ⟨0, 0, by omega, by omega, rfl, rfl, HB, 0, rfl⟩
          case round =>
            clear HB
            obtain ⟨u, b, hu, hb, rfl, rfl, hBt, q, rfl⟩ := hrel
            by_cases hlu : u < G.obs.length
            · have dlu : decide ((u : Int) + 1 ≤ (G.obs.length : Int)) = true := decide_eq_true (by omega)
              have u0 : (0 : Int) ≤ (u : Int) + 1 := by omega
              have u1 : (u : Int) + 1 < (G.obs.length : Int) + 1 := by omega
              have b0 : (0 : Int) ≤ (b : Int) := by omega
              have b1 : (b : Int) < (G.obs.length : Int) + 1 := by omega
              obtain ⟨hdl, hdn⟩ := hT.out.dn (u + 1) (by omega) (by omega)
              have hdt := hdn (t + 1) (by omega) (by omega)
              have hrow := hRd.bb.row (u + 1) (by omega)
              obtain ⟨gX, cX, hVx, -, -⟩ := RB_form hrow (by omega)
              rw [hdl] at hVx
              rw [hVx] at hrow
              obtain ⟨cB, -⟩ := hRd.bb.at_ (u + 1) (by omega)
              rw [hVx] at cB
              obtain ⟨cx, -⟩ := RB_cell hrow (t + 1) (by omega)
              obtain ⟨cu, -⟩ := hRd.atM (u + 1) (by omega)
              obtain ⟨cb, -⟩ := hRd.atM b (by omega)
              have eu := hT.out.cnt (u + 1) (by omega) (by omega)
              have ecu : ((u + 1 : Nat) : Int) = (u : Int) + 1 := by omega
              have ect : ((t + 1 : Nat) : Int) = (t : Int) + 1 := by omega
              rw [ecu] at hdt eu cu
              rw [ect] at hdt
              have HU := Lib.hid hdt
              have HEU := Lib.hid eu
              have HBE := Lib.hid (fun (h1 : 1 ≤ b) => hT.out.cnt b h1 hb)
              have HBT := hBt
              clear hdl hdn hdt hrow hVx eu ecu ect hBt
              generalize (D.getD (u + 1) []).getD (t + 1) false = bo at *
              cases bo with
              | false =>
                have HB2 := Lib.hid (HBT.out.pass (.inl (fun q => by have := HU.out.2 q; cases this)))
                go_wp2_with fail
                repeat (go_quiet (fail))
                go_wp2_with fail
                go_roundw
                case rel => exact ⟨u + 1, b, by omega, hb, by go_num, rfl, HB2, _, rfl⟩
                case measure => simp [intOf]; omega
              | true =>
                have hov : Ov (nxG G) ((u : Int) + 1) ((t : Int) + 1) := HU.out.1 rfl
                by_cases hbz : b = 0
                · subst hbz
                  have HB2 := Lib.hid (HBT.out.take hov (.inl rfl))
                  clear hov
                  go_wp2_with fail
                  repeat (go_quiet (fail))
                  go_wp2_with fail
                  go_roundw
                  case rel => exact ⟨u + 1, u + 1, by omega, by omega, by go_num, by go_num, by rw [show ((u + 1 : Nat) : Int) = (u : Int) + 1 by omega]; exact HB2, _, rfl⟩
                  case measure => simp [intOf]; omega
                · have hz1 : ((b : Int) == 0) = false := by simp; omega
                  have hz2 : ¬ (b : Int) = 0 := by omega
                  have hz3 : decide ((b : Int) = 0) = false := decide_eq_false hz2
                  have hbe := HBE.out (by omega)
                  have hue := HEU.out
                  by_cases hcm : fa Mn (b : Int) < fa Mn ((u : Int) + 1)
                  · have dcm : decide (fa Mn (b : Int) < fa Mn ((u : Int) + 1)) = true := decide_eq_true hcm
                    have HB2 := Lib.hid (HBT.out.take hov (.inr (by omega)))
                    clear hov hbe hue hcm
                    generalize fa Mn (b : Int) = fb at *
                    generalize fa Mn ((u : Int) + 1) = fu at *
                    go_wp2_with fail
                    repeat (go_quiet (fail))
                    go_wp2_with fail
                    go_roundw
                    case rel => exact ⟨u + 1, u + 1, by omega, by omega, by go_num, by go_num, by rw [show ((u + 1 : Nat) : Int) = (u : Int) + 1 by omega]; exact HB2, _, rfl⟩
                    case measure => simp [intOf]; omega
                  · have dcm : decide (fa Mn (b : Int) < fa Mn ((u : Int) + 1)) = false := decide_eq_false hcm
                    have HB2 := Lib.hid (HBT.out.pass (.inr ⟨by omega, by omega⟩))
                    clear hov hbe hue hcm
                    generalize fa Mn (b : Int) = fb at *
                    generalize fa Mn ((u : Int) + 1) = fu at *
                    go_wp2_with fail
                    repeat (go_quiet (fail))
                    go_wp2_with fail
                    go_roundw
                    case rel => exact ⟨u + 1, b, by omega, hb, by go_num, rfl, HB2, _, rfl⟩
                    case measure => simp [intOf]; omega
            · have dlu : decide ((u : Int) + 1 ≤ (G.obs.length : Int)) = false := decide_eq_false (by omega)
              obtain rfl : u = G.obs.length := by omega
              have ha := HSA.out ((t : Int) + 1) (by omega) (by omega)
              rw [show ((t : Int) + 1).toNat = t + 1 by omega] at ha
              have hol := hD.out.1
              have hDq := hRd.below (below_drN (Below.refl _ _) q)
              have hbq := below_drN hbr q
              have hRq := Kd.R_drewN hRo q
              obtain ⟨AO, cO, rfl⟩ := Kd.R_slice hRo
              have hszq := hbq.size
              obtain ⟨ca, -⟩ := RB_cell hRd.al (t + 1) (by omega)
              have ADD := Lib.hid (fun (b' : Int) (hb' : DomAt (nxG G) ((t + 1 : Nat) : Int) b') => (⟨by simp [hol], fun x h1 h2 => by
                by_cases e : x = t + 1
                · subst e
                  have : (o ++ [b']).getD (t + 1 - 1) 0 = b' := by
                    rw [Nat.add_sub_cancel, ← hol]; exact getD_last
                  rw [this]; exact hb'
                · rw [getD_app (by omega)]
                  exact hD.out.2 x h1 (by omega)⟩ : DomOut (nxG G) (t + 1) (o ++ [b'])))
              cases hba : Sa.getD (t + 1) false with
              | true =>
                rw [hba] at ca ha
                have hr : Rd (nxG G) ((t : Int) + 1) := ha.1 rfl
                have HN := Lib.hid (ADD.out (b : Int) (by
                  rw [show ((t + 1 : Nat) : Int) = (t : Int) + 1 by omega]
                  exact hBt.out.dom H.out (by omega) hr))
                clear ADD hr ha hBt hD
                go_wp2_with (at_builtin; go_loud (refine app_int (w0 := wA) wA.heap.size rfl _ _ rfl (.slice AO o.length cO) o (b : Int) rfl rfl hRq hbq hszq ?h3 ?_); (case h3 => omega); intro v9 w9 hR9 hb9 hg9 hat9; have hD9 := hDq.app hRq hno hg9; have hn9 : v9.ownBlock ≠ some gM := (fun e => by
                  rcases hat9 with q9 | ⟨b9, q9, hq9⟩
                  · exact hno (q9 ▸ e)
                  · rw [q9] at e
                    cases e
                    have := Kd.R_lt hDq.mn gM rfl
                    omega))
                go_roundw
                case rel => exact ⟨t + 1, _, by omega, by go_num, HN, hR9, hn9, hD9, hb9⟩
                case measure => simp [intOf]; omega
              | false =>
                rw [hba] at ca ha
                have hr : ¬ Rd (nxG G) ((t : Int) + 1) := fun q => by have := ha.2 q; cases this
                have HN := Lib.hid (ADD.out (-1) (by
                  rw [show ((t + 1 : Nat) : Int) = (t : Int) + 1 by omega]
                  exact ⟨fun _ => rfl, fun q => absurd q hr⟩))
                clear ADD hr ha hBt hD
                go_wp2_with (at_builtin; go_loud (refine app_int (w0 := wA) wA.heap.size rfl _ _ rfl (.slice AO o.length cO) o (-1) rfl rfl hRq hbq hszq ?h3 ?_); (case h3 => omega); intro v9 w9 hR9 hb9 hg9 hat9; have hD9 := hDq.app hRq hno hg9; have hn9 : v9.ownBlock ≠ some gM := (fun e => by
                  rcases hat9 with q9 | ⟨b9, q9, hq9⟩
                  · exact hno (q9 ▸ e)
                  · rw [q9] at e
                    cases e
                    have := Kd.R_lt hDq.mn gM rfl
                    omega))
                go_roundw
                case rel => exact ⟨t + 1, _, by omega, by go_num, HN, hR9, hn9, hD9, hb9⟩
                case measure => simp [intOf]; omega
        · have dlx : decide ((t : Int) + 1 ≤ (G.obs.length : Int)) = false := decide_eq_false (by omega)
          obtain rfl : t = G.obs.length := by omega
          have HL := Lib.hid (show DomL (nxG G) G.obs.length o from ⟨hD.out.1, fun x x0 x1 => by
            have := hD.out.2 x.toNat (by omega) (by omega)
            rw [show ((x.toNat : Nat) : Int) = x by omega] at this
            rw [show (x - 1).toNat = x.toNat - 1 by omega]
            exact this⟩)
          clear hD
          go_wp2_with fail
          go_ret2
          exact ⟨⟨_, o, rfl, Kd.R_lower hRo (Nat.le_of_lt lA), HL.out⟩, hB.trans (hbr.mono (Nat.le_of_lt lA))⟩
end Go.Proofs.YtogpgkoelplknaaDoor
end
section
/- middenroom: Frames. No condition. -/

namespace Go.Proofs.YtogpgkoelplknaaDoor
open Go.RowKit Go.BigFrame PLensPaths Go.Proofs.YtogpgkoelplknaaDoorW.PrintWords Go.Proofs.YtogpgkoelplknaaDoorW.PrintMore
set_option linter.unusedVariables false
theorem mk3_two : ∀ j, j < 4 → mk3.getD (2 * j) [] = [[-7701]] ∧ mk3.getD (2 * j + 1) [] = [[-7702]] := by decide
theorem infoSSS : (Tryd.prog.info? 23).map (fun i => (i.zero, i.size, i.bytes)) = some (some nilS, 1, 24) := by kernel_rfl
def cost3 (L : List (List (List Int))) : Nat := (L.map cost2).sum + 1
abbrev wA1 (W : World) (x : Int) : World := (W.alloc (.cells #[.int .i64 x] 3)).alloc (.cells #[.slice (some ⟨W.heap.size, 0, none⟩) 1 1] 24)
theorem lit_row (W : World) (x : Int) {b : Nat} (hb : b ≤ W.heap.size) : kS2.M (wA1 W x) b (fun k => W.heap.size ≤ k) [[x]] [.slice (some ⟨W.heap.size + 1, 0, none⟩) 1 1] ∧ (wA1 W x).heap.size = W.heap.size + 1 + 1 ∧ Below W.heap.size W (wA1 W x) := by
  have s1 := alloc_sz W (.cells #[.int .i64 x] 3)
  have m1 := lit_int W x hb
  have b1 := (Below.refl W.heap.size W).alloc (Nat.le_refl _) (.cells #[.int .i64 x] 3)
  have b2 := b1.alloc b1.size (.cells #[.slice (some ⟨W.heap.size, 0, none⟩) 1 1] 24)
  have m2 : kS2.M (wA1 W x) b (fun k => W.heap.size ≤ k) [[x]] [.slice (some ⟨(W.alloc (.cells #[.int .i64 x] 3)).heap.size, 0, none⟩) 1 1] := Sub.all (R_lit1 kS1 24 (cs := [.slice (some ⟨W.heap.size, 0, none⟩) 1 1]) (okp := fun k => W.heap.size ≤ k) m1 (fun _ h => h) (by show W.heap.size ≤ _; omega) (by omega))
  rw [s1] at m2
  exact ⟨m2, by rw [alloc_sz, s1], b2⟩
abbrev wA2 (W : World) (x y : Int) : World := (((W.alloc (.cells #[.int .i64 x] 3)).alloc (.cells #[.slice (some ⟨W.heap.size, 0, none⟩) 1 1] 24)).alloc (.cells #[.int .i64 y] 3)).alloc (.cells #[.slice (some ⟨W.heap.size + 1 + 1, 0, none⟩) 1 1] 24)
theorem wA2_eq (W : World) (x y : Int) : wA1 (wA1 W x) y = wA2 W x y := by
  unfold wA1 wA2
  rw [alloc_sz (W.alloc _), alloc_sz W]
theorem lits_row (W : World) (x y : Int) {b : Nat} (hb : b ≤ W.heap.size) : kS2.M (wA2 W x y) b (fun k => W.heap.size ≤ k) [[x]] [.slice (some ⟨W.heap.size + 1, 0, none⟩) 1 1] ∧ kS2.M (wA2 W x y) b (fun k => W.heap.size ≤ k) [[y]] [.slice (some ⟨W.heap.size + 1 + 1 + 1, 0, none⟩) 1 1] ∧ (wA2 W x y).heap.size = W.heap.size + 1 + 1 + 1 + 1 ∧ Below W.heap.size W (wA2 W x y) := by
  obtain ⟨m1, s1, b1⟩ := lit_row W x hb
  obtain ⟨m2, s2, b2⟩ := lit_row (wA1 W x) y (b := b) (by omega)
  rw [← wA2_eq]
  refine ⟨Kd.M_below m1 b2, ?_, by rw [s2, s1], b1.trans (b2.mono b1.size)⟩
  rw [s1] at m2
  exact kS2.M_mono (fun k hk => by omega) m2
theorem cost_drop (L : List (List (List Int))) (i : Nat) (h : i < L.length) : ((L.drop i).map cost2).sum = cost2 (L.getD i []) + ((L.drop (i + 1)).map cost2).sum := by
  rw [drop_cons [] h]; simp
set_option maxRecDepth 100000 in
set_option maxHeartbeats 8000000 in
theorem frames_room (w : World) (B r : Nat) (V : Nat → Value) (N : Nat) (ex : Nat → Prop) (A : Option Addr) (c : Nat) (L : List (List (List Int))) (hr : RoomAt w B r V N ex) (hB : B ≤ w.heap.size) (w0 : World) (h0 : Below w0.heap.size w0 w) (hB0 : w0.heap.size ≤ B) (hC : Kd.C kFrames w0 A L.length L) (hl : L.length ≤ 1048576) (hq : ∀ f ∈ L, f.length ≤ 1048576 ∧ ∀ l ∈ f, l.length ≤ 1048576) (hN : N + cost3 L ≤ 8388608) (hx : ∀ k, ex k → k < w.heap.size) :
    Calls Tryd.prog 37 #[.pointer (some ⟨r, 0, none⟩), .slice A L.length c] w fun e w' => ∃ v V', e = .returned v ∧ Went w w' B r V V' (N + cost3 L) ex ∧ kS3.M w' w.heap.size (fun k => ¬ XV V' r k) L [v] := by
  unfold cost3 at *
  have INTS := Lib.hid intLists_room
  go_enter Tryd.func37, Tryd.ntmps37
  go_wp2_with fail
  go_loopw [5, 6] (fun v iv wx => ∃ (i Nx : Nat) (Vx : Nat → Value), i ≤ L.length ∧ Nx + ((L.drop i).map cost2).sum = N + (L.map cost2).sum ∧ iv = .int .i64 i ∧ Went w wx B r V Vx Nx (fun k => ex k ∨ v.ownBlock = some k) ∧ kS2.R 30 wx w.heap.size (fun k => ¬ XV Vx r k) v (L.take i)) (fun _ iv _ => L.length - (intOf iv).toNat)
  case atStart =>
    refine ⟨0, N, V, by omega, rfl, rfl, ⟨hr.step (fun k _ hk => (Below.refl _ _).alloc (Nat.le_refl _) _ |>.block k hk) (fun k hk => ?_) (by omega), Keeps.below ((Below.refl _ _).alloc (Nat.le_refl _) _), fun _ h => .inl h, (Below.refl _ _).alloc hB _⟩, R_empty _ _ (hr.fresh (Nat.le_refl _)) (Nat.le_refl _)⟩
    rcases hk with q | q
    · exact .inl q
    · simp [Value.ownBlock] at q
      exact .inr (by omega)
  case round =>
    obtain ⟨i, Nx, Vx, hi, hNx, rfl, hW, hR⟩ := hrel
    have hb0 := h0.trans (hW.bel.mono hB0)
    by_cases hlt : i < L.length
    · have dlt : decide ((i : Int) < (L.length : Int)) = true := decide_eq_true (by omega)
      have i0 : (0 : Int) ≤ (i : Int) := by omega
      have i1 : (i : Int) < (L.length : Int) := by omega
      obtain ⟨hq1, hq2⟩ := hq _ (getD_mem [] hlt)
      obtain ⟨ad, A1, c1, rfl, hc0, hc1, hC1⟩ := sl_at hC i hlt
      have hc := cell_later hb0 hc0
      clear hc0
      rw [cost_drop L i hlt] at hNx
      have et := Lib.hid (take_snocZ L i [] hlt)
      generalize L.getD i [] = l at *
      have hvb := Kd.R_lt hR
      have C0 := Lib.hid (INTS.out wr B r Vx Nx _ A1 c1 l hW.room (Nat.le_trans hB hW.keep.size) (fun W hW' => Kd.C_below hC1 (hb0.trans (hW'.mono hB0))) hq1 hq2 (by omega) (fun k hk => by
        rcases hk with q | q
        · exact Nat.lt_of_lt_of_le (hx k q) hW.keep.size
        · exact hvb k q))
      go_wp2_with (first
        | (go_at_call 76; refine C0.out.mono ?_; rintro e w1 ⟨v1, V1, rfl, hW1, hM1⟩; obtain ⟨A4, n4, m4, rfl⟩ := Sub.form hM1)
        | (at_builtin; refine R_append1 kS2 (w0 := w1) w.heap.size rfl _ _ 23 30 nilS 24 rfl Tryd.underlying23 infoSS rfl (by decide) (by omega) u5 _ l (.slice A4 n4 m4) (fun k => ¬ XV V1 r k) (fun k => ¬ XV V1 r k ∧ wr.heap.size ≤ k) rfl rfl (kS2.M_mono (fun k hk => ⟨hk.1, hk.2.1⟩) (kS2.M_lower hW.keep.size (kS2.M_bound hM1))) (fun k hk => ⟨hk.1, fun c => by have := hvb k c.symm; omega⟩) (fun k hk => hW1.room.fresh hk) (hW1.R hR) (Below.refl _ _) ?h2 ?h3 ?_; (case h2 => exact Nat.le_trans hW.keep.size hW1.keep.size); (case h3 => simp only [List.length_take]; omega); intro v2 w2 hR2 hb2 hg2 hat2))
      go_roundw
      case rel => exact ⟨i + 1, Nx + cost2 l, V1, by omega, by omega, by go_num, (hW.trans hW1).push hg2 hat2 (fun k hk => Kd.R_base hR k hk) hB, by rw [et.out]; exact hR2⟩
      case measure => simp [intOf]; omega
    · have dlt : decide ((i : Int) < (L.length : Int)) = false := decide_eq_false (by omega)
      have hiL : i = L.length := by omega
      subst hiL
      rw [List.drop_of_length_le (Nat.le_refl _)] at hNx
      have hNx' : Nx = N + (L.map cost2).sum := hNx
      clear hNx
      generalize hsm : (L.map cost2).sum = sm at *
      have HS := Lib.hid hsm
      clear hsm
      have hR' : kS2.R 30 wr w.heap.size (fun k => ¬ XV Vx r k) u5 (L ++ mk3.take (2 * 0)) := by rw [List.take_of_length_le (by omega)] at hR; simpa using hR
      clear hR
      go_wp2_with fail
      go_loopw [5, 7] (fun v iv wx => ∃ j : Nat, j ≤ 4 ∧ iv = .int .i64 ((2 * j : Nat) : Int) ∧ Went w wx B r V Vx Nx (fun k => ex k ∨ v.ownBlock = some k) ∧ kS2.R 30 wx w.heap.size (fun k => ¬ XV Vx r k) v (L ++ mk3.take (2 * j))) (fun _ iv _ => 8 - (intOf iv).toNat)
      case atStart => exact ⟨0, by omega, rfl, hW, hR'⟩
      case round =>
        clear hR' hW hb0
        obtain ⟨j, hj, rfl, hW, hR⟩ := hrel
        have hsz := hW.keep.size
        by_cases hjt : j < 4
        · have djt : decide (((2 * j : Nat) : Int) < 8) = true := decide_eq_true (by omega)
          have et := Lib.hid (take2 mk3 (2 * j) [] (by have : mk3.length = 8 := rfl; omega))
          rw [(mk3_two j hjt).1, (mk3_two j hjt).2] at et
          have okw : ∀ k, wr.heap.size ≤ k → ¬ XV Vx r k ∧ some k ≠ u5.ownBlock := fun k hk => ⟨hW.room.fresh hk, fun c => by have := Kd.R_lt hR k c.symm; omega⟩
          have okw : ∀ k, wr.heap.size ≤ k → ¬ XV Vx r k ∧ some k ≠ u5.ownBlock := fun k hk => ⟨hW.room.fresh hk, fun c => by have := Kd.R_lt hR k c.symm; omega⟩
          obtain ⟨m1, m2, s2, hwb⟩ := lits_row wr (-7701) (-7702) hsz
          have hrb := Kd.R_below hR hwb
          have HRB := Lib.hid hrb
          have HWB := Lib.hid hwb
          have M1 := Lib.hid m1
          have M2 := Lib.hid m2
          have S2 := Lib.hid s2
          have RL := Lib.hid (show (L ++ mk3.take (2 * j)).length ≤ 1048616 by have : mk3.length = 8 := rfl; simp only [List.length_append, List.length_take]; omega)
          clear hrb hwb m1 m2 s2
          go_wp2_with (at_builtin; refine R_append2 kS2 (w0 := wr) w.heap.size rfl _ _ 23 30 nilS 24 rfl Tryd.underlying23 infoSS rfl (by decide) (by omega) u5 _ [[-7701]] [[-7702]] [.slice (some ⟨wr.heap.size + 1, 0, none⟩) 1 1] [.slice (some ⟨wr.heap.size + 1 + 1 + 1, 0, none⟩) 1 1] (fun k => ¬ XV Vx r k) (fun k => wr.heap.size ≤ k) rfl (by rw [S2.out]; rfl) M1.out M2.out okw (fun k hk => (okw k (by rw [S2.out] at hk; omega)).1) HRB.out (HWB.out.mono hsz) ?h2 ?h3 ?_; (case h2 => rw [S2.out]; omega); (case h3 => have := RL.out; omega); intro v1 w1 hR1 hb1 hg1 hat1)
          go_roundw
          case rel => exact ⟨j + 1, by omega, by go_num, hW.push (grown_after HWB.out hg1) (by
            rcases hat1 with q | ⟨b, q, hle⟩
            · exact .inl q
            · exact .inr ⟨b, q, Nat.le_trans HWB.out.size hle⟩) (fun k hk => Kd.R_base hR k hk) hB, by rw [show 2 * (j + 1) = 2 * j + 2 by omega, et.out, ← List.append_assoc]; exact hR1⟩
          case measure => simp [intOf]; omega
        · have djt : decide (((2 * j : Nat) : Int) < 8) = false := decide_eq_false (by omega)
          have hj20 : j = 4 := by omega
          subst hj20
          have hR' : kS2.R 30 wr w.heap.size (fun k => ¬ XV Vx r k) u5 (L ++ mk3) := hR
          clear hR
          have hrA := hW.room
          have hml : mk3.length = 8 := rfl
          obtain ⟨fl, hfl, hl1, hl2⟩ : ∃ fl : List (List (List Int)), Go.RowKit.Hid (L ++ mk3 = fl) ∧ L.length ≤ fl.length ∧ fl.length ≤ 1048616 := ⟨_, Lib.hid rfl, by simp, by simp; omega⟩
          rw [hfl.out] at hR'
          clear hml
          obtain ⟨A5, c5, rfl, hc5, hrd⟩ := Kd.R_reads hR'
          clear hrd
          obtain ⟨cB, fB⟩ := blk_at hrA.box
          have k1 : wr.cell? ⟨r, 6, none⟩ = some (Vx 3) := cB 6
          obtain ⟨xs, hX, hlX, hEX⟩ := hrA.row 3 (by omega)
          have hW' := hW.less (ex' := ex) (fun k hk => .inl hk) (Nat.le_refl _)
          have hok : ∀ k, ¬ XV Vx r k ∧ w.heap.size ≤ k → Ot ex Vx r 3 k ∧ some k ≠ (Vx 3).ownBlock := fun k hk => ot_of hk.1 (fun c => by have := hx k c; omega) (by omega)
          obtain ⟨xs, hX, hlX, hEX⟩ := hW'.room.row 3 (by omega)
          have hM : kS3.M wr B (fun k => ¬ XV Vx r k ∧ w.heap.size ≤ k) fl [.slice A5 fl.length c5] := Sub.all (Kd.R_lower (Kd.R_mono (Kd.R_bound hR') (fun k hk => ⟨hk.1, hk.2.1⟩)) hB)
          have hMl := Lib.hid hM
          have hR5 := Lib.hid hR'
          clear hR' hM
          go_wp2_with (at_builtin; refine R_append1 kS3 (w0 := wr) B rfl _ _ 34 23 nilS 24 rfl Tryd.underlying34 infoSSS rfl (by decide) (by omega) (Vx 3) _ fl (.slice A5 fl.length c5) (Ot ex Vx r 3) (fun k => ¬ XV Vx r k ∧ w.heap.size ≤ k) rfl rfl hMl.out hok (fun k hk => (hok k ⟨hrA.fresh hk, Nat.le_trans hsz hk⟩).1) hX (Below.refl _ _) ?h2 ?h3 ?_; (case h2 => exact Nat.le_trans hB hsz); (case h3 => omega); intro v1 w1 hR1 hb1 hg1 hat1; obtain ⟨A1, n1, m1, rfl⟩ : ∃ A n m, v1 = .slice A n m := (by obtain ⟨A1, m1, e⟩ := Kd.R_slice hR1; exact ⟨_, _, _, e⟩); obtain ⟨cC, fC⟩ := blk_at (blk_grown hrA.box hg1 (fun e => ((hrA.row 3 (by omega)).own r e.symm).1.2.1 rfl)); have k2 : w1.cell? ⟨r, 6, none⟩ = some (Vx 3) := cC 6)
          go_ret
          have hfl' := hfl.out
          obtain ⟨W1, f1⟩ := room_end (i := 3) (N' := N + (sm + 1)) hW' hB (by omega) hR5.out ⟨xs ++ [fl], hR1, by simp; omega, fun l hl => by
            rcases List.mem_append.1 hl with q | q
            · exact hEX l q
            · cases List.mem_singleton.1 q; exact ⟨L, hfl'.symm⟩⟩ hg1 hat1 (hW.bel.trans hb1) (by omega)
          subst hfl'
          have hs := HS.out
          subst hs
          exact ⟨_, _, rfl, W1, Sub.pre f1 hl1⟩
end Go.Proofs.YtogpgkoelplknaaDoor
end
section
/- middenroom: Objects. No condition. -/


namespace Go.Proofs.YtogpgkoelplknaaDoor
open Go.RowKit Go.BigFrame PLensPaths Go.Proofs.YtogpgkoelplknaaDoorW.PrintWords Go.Proofs.YtogpgkoelplknaaDoorW.PrintMore
set_option linter.unusedVariables false
theorem infoO : (Tryd.prog.info? 59).map (fun i => (i.zero, i.size, i.bytes)) = some (some (.agg #[.int .u64 0, .int .i64 0, .int .i64 0, nilS, nilS]), 5, 72) := by kernel_rfl
theorem infoSO : (Tryd.prog.info? 22).map (fun i => (i.zero, i.size, i.bytes)) = some (some nilS, 1, 24) := by kernel_rfl
theorem RoomAt.drew {w : World} {B r : Nat} {V : Nat → Value} {N : Nat} {ex : Nat → Prop} (h : RoomAt w B r V N ex) : RoomAt w.drew B r V N ex := h.step (fun _ _ _ => rfl) (fun _ h => .inl h) (Nat.le_refl _)
theorem Went.drew {w w1 : World} {B r : Nat} {V V1 : Nat → Value} {N : Nat} {ex : Nat → Prop} (h : Went w w1 B r V V1 N ex) : Went w w1.drew B r V V1 N ex := ⟨h.room.drew, ⟨h.keep.size, h.keep.blk⟩, h.ext, h.bel.drew⟩
section
variable {ops : Array Oper} {o : Oper} {a : Act} {Q : Exit → Act → World → Prop} {Kc : Act → World → Prop}
/-- append(v, Object{..}): a step of a region that draws. -/
theorem step_app_ob {w0 W : World} (base : Nat) (hgd : o.guard = none) (s x : Operand) (ho : o.op = .call { callee := .builtin .append, args := #[s, x], argTypes := #[22, 22] })
    (v : Value) (xs : List Ob) (p : Ob) (v3 v4 : Value) (ok okp : Nat → Prop) (hs : a.eval s = v) (hx : a.eval x = .slice (some ⟨W.heap.size, 0, none⟩) 1 1) (hp : kObS.M W base okp p [.int .u64 p.f0, .int .i64 p.f1, .int .i64 p.f2, v3, v4]) (hokp : ∀ k, okp k → ok k ∧ some k ≠ v.ownBlock) (hfresh : ∀ k, W.heap.size ≤ k → ok k)
    (HO : kObS.R 59 W base ok v xs) (HB : Below base w0 W) (hbase : base ≤ W.heap.size) (hl : xs.length ≤ 1099511627)
    (h : ∀ v1 w1, kObS.R 59 w1 base ok v1 (xs ++ [p]) → Below base w0 w1 → W.grownBy w1 v.ownBlock → (v1.ownBlock = v.ownBlock ∨ ∃ b, v1.ownBlock = some b ∧ W.heap.size ≤ b) → Kc (a.put o.dst v1) w1) :
    if Region.wanted o (yielded ops a.tmps) = true then Oper.wp Tryd.prog o a (W.alloc (.cells #[.int .u64 p.f0, .int .i64 p.f1, .int .i64 p.f2, v3, v4] 59)) Kc Q else Kc (a.put o.dst undef) (W.alloc (.cells #[.int .u64 p.f0, .int .i64 p.f1, .int .i64 p.f2, v3, v4] 59)) :=
  Kd.R_append_step kObS base (by simp [Region.wanted, hgd]) s x 22 59 (.agg #[.int .u64 0, .int .i64 0, .int .i64 0, nilS, nilS]) 72 ho Tryd.underlying22 infoO rfl (by decide) (by omega) v xs p [.int .u64 p.f0, .int .i64 p.f1, .int .i64 p.f2, v3, v4] ok okp hs hx hp hokp hfresh HO HB hbase (by omega) h
end
theorem okp_of {α : Type} {d : Kd α} {w : World} {b b' n : Nat} {X : Nat → Prop} {x : α} {cs : List Value} (h : d.M w b (fun k => ¬ X k) x cs) (hn : n ≤ b) (hb : b' ≤ b) : d.M w b' (fun k => ¬ X k ∧ n ≤ k) x cs :=
  d.M_lower hb (d.M_mono (fun k hk => ⟨hk.1, Nat.le_trans hn hk.2.1⟩) (d.M_bound h))
theorem mkO_two : ∀ j, j < 4 → mkO.getD (2 * j) default = obM (-7701) ∧ mkO.getD (2 * j + 1) default = obM (-7702)
  | 0, _ => ⟨rfl, rfl⟩
  | 1, _ => ⟨rfl, rfl⟩
  | 2, _ => ⟨rfl, rfl⟩
  | 3, _ => ⟨rfl, rfl⟩
  | _ + 4, h => by omega
set_option maxRecDepth 100000 in
set_option maxHeartbeats 16000000 in
theorem objects_room (w : World) (B r : Nat) (V : Nat → Value) (N : Nat) (ex : Nat → Prop) (A : Option Addr) (c : Nat) (L : List Ob) (hr : RoomAt w B r V N ex) (hB : B ≤ w.heap.size) (w0 : World) (h0 : Below w0.heap.size w0 w) (hB0 : w0.heap.size ≤ B) (hC : Kd.C kOb w0 A L.length L) (hl : L.length ≤ 1048576) (hq : ∀ o ∈ L, o.f3.length ≤ 1048576 ∧ o.f4.length ≤ 1048576) (hN : N + (2 * L.length + 1) ≤ 8388608) (hx : ∀ k, ex k → k < w.heap.size) :
    Calls Tryd.prog 36 #[.pointer (some ⟨r, 0, none⟩), .slice A L.length c] w fun e w' => ∃ v V', e = .returned v ∧ Went w w' B r V V' (N + (2 * L.length + 1)) ex ∧ kSO.M w' w.heap.size (fun k => ¬ XV V' r k) L [v] := by
  have INTS := Lib.hid ints_room
  have WORDS := Lib.hid words_room
  go_enter Tryd.func36, Tryd.ntmps36
  go_wp2_with fail
  go_loopw [5, 6] (fun v iv wx => ∃ (i : Nat) (Vx : Nat → Value), i ≤ L.length ∧ iv = .int .i64 i ∧ Went w wx B r V Vx (N + 2 * i) (fun k => ex k ∨ v.ownBlock = some k) ∧ kObS.R 59 wx w.heap.size (fun k => ¬ XV Vx r k) v (L.take i)) (fun _ iv _ => L.length - (intOf iv).toNat)
  case atStart =>
    refine ⟨0, V, by omega, rfl, ⟨hr.step (fun k _ hk => (Below.refl _ _).alloc (Nat.le_refl _) _ |>.block k hk) (fun k hk => ?_) (by omega), Keeps.below ((Below.refl _ _).alloc (Nat.le_refl _) _), fun _ h => .inl h, (Below.refl _ _).alloc hB _⟩, R_empty _ _ (hr.fresh (Nat.le_refl _)) (Nat.le_refl _)⟩
    rcases hk with q | q
    · exact .inl q
    · simp [Value.ownBlock] at q
      exact .inr (by omega)
  case round =>
    obtain ⟨i, Vx, hi, rfl, hW, hR⟩ := hrel
    have hb0 := h0.trans (hW.bel.mono hB0)
    by_cases hlt : i < L.length
    · have dlt : decide ((i : Int) < (L.length : Int)) = true := decide_eq_true (by omega)
      have i0 : (0 : Int) ≤ (i : Int) := by omega
      have i1 : (i : Int) < (L.length : Int) := by omega
      obtain ⟨hq1, hq2⟩ := hq _ (getD_mem default hlt)
      obtain ⟨ad, A3, c3, A4, c4, rfl, e0, e1, e2, e3, e4, l3, hC3, l4, hC4⟩ := ob_at hC i hlt
      have et := Lib.hid (take_snocZ L i default hlt)
      generalize L.getD i default = o at *
      obtain ⟨f0, f1, f2, f3, f4⟩ := o
      simp only at *
      have hvb := Kd.R_lt hR
      have CB := Lib.hid (fun (W : World) (hb : Below B w W) => (⟨cell_later (h0.trans (hb.mono hB0)) e0, cell_later (h0.trans (hb.mono hB0)) e1, cell_later (h0.trans (hb.mono hB0)) e2, cell_later (h0.trans (hb.mono hB0)) e3, cell_later (h0.trans (hb.mono hB0)) e4⟩ : W.cell? (ad.add (i * 5)) = some (.int .u64 f0) ∧ W.cell? ⟨(ad.add (i * 5)).block, (ad.add (i * 5)).off + 1, none⟩ = some (.int .i64 f1) ∧ W.cell? ⟨(ad.add (i * 5)).block, (ad.add (i * 5)).off + 2, none⟩ = some (.int .i64 f2) ∧ W.cell? ⟨(ad.add (i * 5)).block, (ad.add (i * 5)).off + 3, none⟩ = some (.slice A3 f3.length c3) ∧ W.cell? ⟨(ad.add (i * 5)).block, (ad.add (i * 5)).off + 4, none⟩ = some (.slice A4 f4.length c4)))
      clear e0 e1 e2 e3 e4
      have C1 := Lib.hid (fun (W : World) (hw : Went w W B r V Vx (N + 2 * i) (fun k => ex k ∨ u5.ownBlock = some k)) (hs : wr.heap.size ≤ W.heap.size) => INTS.out W B r Vx (N + 2 * i) _ A3 c3 f3 hw.room (Nat.le_trans hB hw.keep.size) (Kd.C_below hC3 (h0.trans (hw.bel.mono hB0))) hq1 (by omega) (fun k hk => by
        rcases hk with q | q
        · exact Nat.lt_of_lt_of_le (hx k q) hw.keep.size
        · exact Nat.lt_of_lt_of_le (hvb k q) hs))
      have C2 := Lib.hid (fun (W : World) (V1 : Nat → Value) (hw : Went w W B r V V1 (N + 2 * i + 1) (fun k => ex k ∨ u5.ownBlock = some k)) (hs : wr.heap.size ≤ W.heap.size) => WORDS.out W B r V1 (N + 2 * i + 1) _ A4 c4 f4 hw.room (Nat.le_trans hB hw.keep.size) (Kd.C_below hC4 (h0.trans (hw.bel.mono hB0))) hq2 (by omega) (fun k hk => by
        rcases hk with q | q
        · exact Nat.lt_of_lt_of_le (hx k q) hw.keep.size
        · exact Nat.lt_of_lt_of_le (hvb k q) hs))
      go_upto_region 5 with fail
      go_region_held3 (fun W => W.cell? (ad.add (i * 5)) = some (.int .u64 f0) ∧ W.cell? ⟨(ad.add (i * 5)).block, (ad.add (i * 5)).off + 1, none⟩ = some (.int .i64 f1) ∧ W.cell? ⟨(ad.add (i * 5)).block, (ad.add (i * 5)).off + 2, none⟩ = some (.int .i64 f2) ∧ W.cell? ⟨(ad.add (i * 5)).block, (ad.add (i * 5)).off + 3, none⟩ = some (.slice A3 f3.length c3) ∧ W.cell? ⟨(ad.add (i * 5)).block, (ad.add (i * 5)).off + 4, none⟩ = some (.slice A4 f4.length c4))
        (first
          | exact CB.out _ hW.bel
          | exact CB.out _ hW.drew.bel
          | exact CB.out _ (hW.trans hW1).bel
          | exact CB.out _ (hW.trans hW1).drew.bel
          | exact CB.out _ (hW.drew.trans hW1).bel
          | exact CB.out _ ((hW.drew.trans hW1).trans hW2).bel
          | exact CB.out _ (((hW.drew.trans hW1).trans hW2).bel.alloc (Nat.le_trans hB ((hW.drew.trans hW1).trans hW2).keep.size) _)
          | exact CB.out _ ((((hW.drew.trans hW1).trans hW2).push hg3 hat3 (fun k hk => Kd.R_base hR k hk) hB).bel))
        (first
          | ((go_at_call 38; refine (C1.out _ hW.drew (Nat.le_refl _)).mono ?_; rintro e w1 ⟨v1, V1, rfl, hW1, hM1⟩; obtain ⟨A6, n6, m6, rfl⟩ := Sub.form hM1))
          | ((go_at_call 75; refine (C2.out _ _ (hW.drew.trans hW1) hW1.keep.size).mono ?_; rintro e w2 ⟨v2, V2, rfl, hW2, hM2⟩; obtain ⟨A7, n7, m7, rfl⟩ := Sub.form hM2))
          | ((refine step_app_ob (w0 := w2) w.heap.size rfl _ _ rfl u5 _ ⟨f0, f1, f2, f3, f4⟩ (.slice A6 n6 m6) (.slice A7 n7 m7) (fun k => ¬ XV V2 r k) (fun k => ¬ XV V2 r k ∧ wr.heap.size ≤ k) rfl rfl (kObS_mkM ⟨f0, f1, f2, f3, f4⟩ (okp_of (hW2.M hM1) (Nat.le_refl _) hW.keep.size) (okp_of hM2 hW1.keep.size (Nat.le_trans hW.keep.size hW1.keep.size))) (fun k hk => ⟨hk.1, fun c => by have := hvb k c.symm; omega⟩) (fun k hk => hW2.room.fresh hk) (hW2.R (hW1.R (Kd.R_drew hR))) (Below.refl _ _) (Nat.le_trans hW.keep.size (Nat.le_trans hW1.keep.size hW2.keep.size)) (by simp only [List.length_take]; omega) ?_; intro v3 w3 hR3 hb3 hg3 hat3)))
      go_wp2_with fail
      go_roundw
      case rel => exact ⟨i + 1, V2, by omega, by go_num, (((hW.drew.trans hW1).trans hW2).push hg3 hat3 (fun k hk => Kd.R_base hR k hk) hB).less (fun _ h => h) (by omega), by rw [et.out]; exact hR3⟩
      case measure => simp [intOf]; omega
    · have dlt : decide ((i : Int) < (L.length : Int)) = false := decide_eq_false (by omega)
      have hiL : i = L.length := by omega
      subst hiL
      have hR' : kObS.R 59 wr w.heap.size (fun k => ¬ XV Vx r k) u5 (L ++ mkO.take (2 * 0)) := by rw [List.take_of_length_le (by omega)] at hR; simpa using hR
      clear hR
      go_wp2_with fail
      go_loopw [5, 7] (fun v iv wx => ∃ j : Nat, j ≤ 4 ∧ iv = .int .i64 ((2 * j : Nat) : Int) ∧ Went w wx B r V Vx (N + 2 * L.length) (fun k => ex k ∨ v.ownBlock = some k) ∧ kObS.R 59 wx w.heap.size (fun k => ¬ XV Vx r k) v (L ++ mkO.take (2 * j))) (fun _ iv _ => 8 - (intOf iv).toNat)
      case atStart => exact ⟨0, by omega, rfl, hW, hR'⟩
      case round =>
        clear hR' hW hb0
        obtain ⟨j, hj, rfl, hW, hR⟩ := hrel
        have hsz := hW.keep.size
        by_cases hjt : j < 4
        · have djt : decide (((2 * j : Nat) : Int) < 8) = true := decide_eq_true (by omega)
          have et := Lib.hid (take2 mkO (2 * j) default (by have : mkO.length = 8 := rfl; omega))
          rw [(mkO_two j hjt).1, (mkO_two j hjt).2] at et
          have okw : ∀ k, wr.heap.size ≤ k → ¬ XV Vx r k ∧ some k ≠ u5.ownBlock := fun k hk => ⟨hW.room.fresh hk, fun c => by have := Kd.R_lt hR k c.symm; omega⟩
          have okw : ∀ k, wr.heap.size ≤ k → ¬ XV Vx r k ∧ some k ≠ u5.ownBlock := fun k hk => ⟨hW.room.fresh hk, fun c => by have := Kd.R_lt hR k c.symm; omega⟩
          have RL := Lib.hid (show (L ++ mkO.take (2 * j)).length ≤ 1048616 by have : mkO.length = 8 := rfl; simp only [List.length_append, List.length_take]; omega)
          have MO := Lib.hid (fun x : Int => kObS_mkM (w := wr) (base := w.heap.size) (ok := fun k => wr.heap.size ≤ k) (obM x) (v3 := nilS) (v4 := nilS) (Sub.all (Kd.R_nil _ _ _ _ _)) (Sub.all (Kd.R_nil _ _ _ _ _)))
          go_wp2_with (at_builtin; refine R_append2 kObS (w0 := wr) w.heap.size rfl _ _ 22 59 (.agg #[.int .u64 0, .int .i64 0, .int .i64 0, nilS, nilS]) 72 rfl Tryd.underlying22 infoO rfl (by decide) (by omega) u5 _ (obM (-7701)) (obM (-7702)) [.int .u64 0, .int .i64 (-7701), .int .i64 0, nilS, nilS] [.int .u64 0, .int .i64 (-7702), .int .i64 0, nilS, nilS] (fun k => ¬ XV Vx r k) (fun k => wr.heap.size ≤ k) rfl rfl (MO.out (-7701)) (MO.out (-7702)) okw (fun k hk => (okw k hk).1) hR (Below.refl _ _) hsz ?h3 ?_; (case h3 => have := RL.out; omega); intro v1 w1 hR1 hb1 hg1 hat1)
          go_roundw
          case rel => exact ⟨j + 1, by omega, by go_num, hW.push hg1 hat1 (fun k hk => Kd.R_base hR k hk) hB, by rw [show 2 * (j + 1) = 2 * j + 2 by omega, et.out, ← List.append_assoc]; exact hR1⟩
          case measure => simp [intOf]; omega
        · have djt : decide (((2 * j : Nat) : Int) < 8) = false := decide_eq_false (by omega)
          have hj20 : j = 4 := by omega
          subst hj20
          have hR' : kObS.R 59 wr w.heap.size (fun k => ¬ XV Vx r k) u5 (L ++ mkO) := hR
          clear hR
          have hrA := hW.room
          have hml : mkO.length = 8 := rfl
          obtain ⟨fl, hfl, hl1, hl2⟩ : ∃ fl : List Ob, Go.RowKit.Hid (L ++ mkO = fl) ∧ L.length ≤ fl.length ∧ fl.length ≤ 1048616 := ⟨_, Lib.hid rfl, by simp, by simp; omega⟩
          rw [hfl.out] at hR'
          clear hml
          obtain ⟨A5, c5, rfl, hc5, hrd⟩ := Kd.R_reads hR'
          clear hrd
          obtain ⟨cB, fB⟩ := blk_at hrA.box
          have k1 : wr.cell? ⟨r, 7, none⟩ = some (Vx 4) := cB 7
          obtain ⟨xs, hX, hlX, hEX⟩ := hrA.row 4 (by omega)
          have hW' := hW.less (ex' := ex) (fun k hk => .inl hk) (Nat.le_refl _)
          have hok : ∀ k, ¬ XV Vx r k ∧ w.heap.size ≤ k → Ot ex Vx r 4 k ∧ some k ≠ (Vx 4).ownBlock := fun k hk => ot_of hk.1 (fun c => by have := hx k c; omega) (by omega)
          obtain ⟨xs, hX, hlX, hEX⟩ := hW'.room.row 4 (by omega)
          have hM : kSO.M wr B (fun k => ¬ XV Vx r k ∧ w.heap.size ≤ k) fl [.slice A5 fl.length c5] := Sub.all (Kd.R_lower (Kd.R_mono (Kd.R_bound hR') (fun k hk => ⟨hk.1, hk.2.1⟩)) hB)
          have hMl := Lib.hid hM
          have hR5 := Lib.hid hR'
          clear hR' hM
          go_wp2_with (at_builtin; refine R_append1 kSO (w0 := wr) B rfl _ _ 35 22 nilS 24 rfl Tryd.underlying35 infoSO rfl (by decide) (by omega) (Vx 4) _ fl (.slice A5 fl.length c5) (Ot ex Vx r 4) (fun k => ¬ XV Vx r k ∧ w.heap.size ≤ k) rfl rfl hMl.out hok (fun k hk => (hok k ⟨hrA.fresh hk, Nat.le_trans hsz hk⟩).1) hX (Below.refl _ _) ?h2 ?h3 ?_; (case h2 => exact Nat.le_trans hB hsz); (case h3 => omega); intro v1 w1 hR1 hb1 hg1 hat1; obtain ⟨A1, n1, m1, rfl⟩ : ∃ A n m, v1 = .slice A n m := (by obtain ⟨A1, m1, e⟩ := Kd.R_slice hR1; exact ⟨_, _, _, e⟩); obtain ⟨cC, fC⟩ := blk_at (blk_grown hrA.box hg1 (fun e => ((hrA.row 4 (by omega)).own r e.symm).1.2.1 rfl)); have k2 : w1.cell? ⟨r, 7, none⟩ = some (Vx 4) := cC 7)
          go_ret
          have hfl' := hfl.out
          obtain ⟨W1, f1⟩ := room_end (i := 4) (N' := N + (2 * L.length + 1)) hW' hB (by omega) hR5.out ⟨xs ++ [fl], hR1, by simp; omega, fun l hl => by
            rcases List.mem_append.1 hl with q | q
            · exact hEX l q
            · cases List.mem_singleton.1 q; exact ⟨L, hfl'.symm⟩⟩ hg1 hat1 (hW.bel.trans hb1) (by omega)
          subst hfl'
          exact ⟨_, _, rfl, W1, Sub.pre f1 hl1⟩
end Go.Proofs.YtogpgkoelplknaaDoor
end
section
/- middenroom: Graph. No condition. -/

namespace Go.Proofs.YtogpgkoelplknaaDoor
open Go.RowKit Go.BigFrame PLensPaths Go.Proofs.YtogpgkoelplknaaDoorW.PrintWords Go.Proofs.YtogpgkoelplknaaDoorW.PrintMore
set_option linter.unusedVariables false
/-- A graph whose lists are a room's copies. -/
structure InAt (w : World) (b : Nat) (ok : Nat → Prop) (g : Gv) (G : Gr) : Prop where
  m0 : kSO.M w b ok G.obs [.slice g.A0 G.obs.length g.c0]
  m1 : kS3.M w b ok G.slots [.slice g.A1 G.slots.length g.c1]
  m2 : kS1.M w b ok G.hands [.slice g.A2 G.hands.length g.c2]
  m3 : kS1.M w b ok G.reg [.slice g.A3 G.reg.length g.c3]
  m4 : kS1.M w b ok G.queue [.slice g.A4 G.queue.length g.c4]
theorem Sub.reads {α : Type} {e : Nat} {d : Kd α} {w : World} {b : Nat} {ok : Nat → Prop} {xs : List α} {A : Option Addr} {n c : Nat} (h : (kSub e d).M w b ok xs [.slice A n c]) : n = xs.length ∧ xs.length ≤ c ∧ Kd.C d w A xs.length xs := by
  obtain ⟨A', c', e1, h2, h3⟩ := (kSub e d).K_of_M h
  cases e1
  exact ⟨rfl, h2, h3⟩
theorem InAt.reads {w : World} {b : Nat} {ok : Nat → Prop} {g : Gv} {G : Gr} (h : InAt w b ok g G) : GAt w g G := by
  obtain ⟨h0, h1, h2, h3, h4⟩ := h
  obtain ⟨_, l0, r0⟩ := Sub.reads h0
  obtain ⟨_, l1, r1⟩ := Sub.reads h1
  obtain ⟨_, l2, r2⟩ := Sub.reads h2
  obtain ⟨_, l3, r3⟩ := Sub.reads h3
  obtain ⟨_, l4, r4⟩ := Sub.reads h4
  exact ⟨C_kObS r0, l0, C_kS2 r1, l1, r2, l2, r3, l3, r4, l4⟩
def costG (G : Gr) : Nat := (2 * G.obs.length + 1) + cost3 G.slots + 3
theorem six {w : World} {b g : Nat} (h : g ≠ b) (a0 a1 a2 a3 a4 a5 : Value) : ((((((w.setCell ⟨b, 0, none⟩ a0).setCell ⟨b, 1, none⟩ a1).setCell ⟨b, 2, none⟩ a2).setCell ⟨b, 3, none⟩ a3).setCell ⟨b, 4, none⟩ a4).setCell ⟨b, 5, none⟩ a5).heap[g]? = w.heap[g]? := by
  rw [Below.heap_setCell _ _ _ _ h, Below.heap_setCell _ _ _ _ h, Below.heap_setCell _ _ _ _ h, Below.heap_setCell _ _ _ _ h, Below.heap_setCell _ _ _ _ h, Below.heap_setCell _ _ _ _ h]
theorem six_at {w : World} {b : Nat} {t : TypeId} {z0 z1 z2 z3 z4 z5 : Value} (h : w.heap[b]? = some (.cells #[z0, z1, z2, z3, z4, z5] t (0, 0))) (a0 a1 a2 a3 a4 a5 : Value) : ((((((w.setCell ⟨b, 0, none⟩ a0).setCell ⟨b, 1, none⟩ a1).setCell ⟨b, 2, none⟩ a2).setCell ⟨b, 3, none⟩ a3).setCell ⟨b, 4, none⟩ a4).setCell ⟨b, 5, none⟩ a5).heap[b]? = some (.cells #[a0, a1, a2, a3, a4, a5] t (0, 0)) := by
  have h0 := blk_set h 0 a0
  have h1 := blk_set h0 1 a1
  have h2 := blk_set h1 2 a2
  have h3 := blk_set h2 3 a3
  have h4 := blk_set h3 4 a4
  have h5 := blk_set h4 5 a5
  simpa using h5
theorem six_below {B : Nat} {w W : World} {b : Nat} (h : Below B w W) (hb : B ≤ b) (a0 a1 a2 a3 a4 a5 : Value) : Below B w ((((((W.setCell ⟨b, 0, none⟩ a0).setCell ⟨b, 1, none⟩ a1).setCell ⟨b, 2, none⟩ a2).setCell ⟨b, 3, none⟩ a3).setCell ⟨b, 4, none⟩ a4).setCell ⟨b, 5, none⟩ a5) :=
  (((((h.setCell (p := ⟨b, 0, none⟩) hb a0).setCell (p := ⟨b, 1, none⟩) hb a1).setCell (p := ⟨b, 2, none⟩) hb a2).setCell (p := ⟨b, 3, none⟩) hb a3).setCell (p := ⟨b, 4, none⟩) hb a4).setCell (p := ⟨b, 5, none⟩) hb a5
theorem six_size {w : World} {b : Nat} (a0 a1 a2 a3 a4 a5 : Value) : ((((((w.setCell ⟨b, 0, none⟩ a0).setCell ⟨b, 1, none⟩ a1).setCell ⟨b, 2, none⟩ a2).setCell ⟨b, 3, none⟩ a3).setCell ⟨b, 4, none⟩ a4).setCell ⟨b, 5, none⟩ a5).heap.size = w.heap.size := by simp [World.setCell]
theorem M_store {α : Type} {d : Kd α} {w5 wz : World} {b b' g : Nat} {X : Nat → Prop} {x : α} {cs : List Value} (h : d.M w5 b (fun k => ¬ X k) x cs) (ho : ∀ k, k ≠ g → wz.heap[k]? = w5.heap[k]?) (hg : g < b) (hb : b' ≤ b) : d.M wz b' (fun k => ¬ X k) x cs :=
  d.M_lower hb (d.M_mono (fun k hk => hk.1) (d.M_move (fun k hk => ho k (by have := hk.2.1; omega)) (d.M_bound h)))
set_option maxRecDepth 100000 in
set_option maxHeartbeats 16000000 in
theorem graph_room (w : World) (B r : Nat) (V : Nat → Value) (N : Nat) (ex : Nat → Prop) (g : Gv) (G : Gr) (hr : RoomAt w B r V N ex) (hB : B ≤ w.heap.size) (w0 : World) (h0 : Below w0.heap.size w0 w) (hB0 : w0.heap.size ≤ B) (hG : GAt w0 g G) (bd : G.Bd) (fb : FrBd G) (hN : N + costG G ≤ 8388608) (hx : ∀ k, ex k → k < w.heap.size) :
    Calls Tryd.prog 10 #[.pointer (some ⟨r, 0, none⟩), gval g G] w fun e w' => ∃ g' V', e = .returned (gval g' G) ∧ Went w w' B r V V' (N + costG G) ex ∧ InAt w' w.heap.size (fun k => ¬ XV V' r k) g' G := by
  unfold costG at *
  obtain ⟨A0, A1, A2, A3, A4, c0, c1, c2, c3, c4⟩ := g
  have OBS := Lib.hid objects_room
  have FRS := Lib.hid frames_room
  have INTS := Lib.hid ints_room
  unfold gval gcells
  simp only
  go_enter Tryd.func10, Tryd.ntmps10
  go_upto_region 1 with fail
  have hX := blk_new w (.cells #[.slice A0 G.obs.length c0, .slice A1 G.slots.length c1, .slice A2 G.hands.length c2, .slice A3 G.reg.length c3, .slice A4 G.queue.length c4, .int .u64 G.next] 27 (0, 0))
  have b1 := (Below.refl w.heap.size w).alloc (Nat.le_refl _) (.cells #[.slice A0 G.obs.length c0, .slice A1 G.slots.length c1, .slice A2 G.hands.length c2, .slice A3 G.reg.length c3, .slice A4 G.queue.length c4, .int .u64 G.next] 27 (0, 0))
  have s1 := alloc_sz w (.cells #[.slice A0 G.obs.length c0, .slice A1 G.slots.length c1, .slice A2 G.hands.length c2, .slice A3 G.reg.length c3, .slice A4 G.queue.length c4, .int .u64 G.next] 27 (0, 0))
  generalize w.alloc (.cells #[.slice A0 G.obs.length c0, .slice A1 G.slots.length c1, .slice A2 G.hands.length c2, .slice A3 G.reg.length c3, .slice A4 G.queue.length c4, .int .u64 G.next] 27) = wB at *
  have hY := blk_new wB (.cells #[.slice none 0 0, .slice none 0 0, .slice none 0 0, .slice none 0 0, .slice none 0 0, .int .u64 0] 27 (0, 0))
  have b2 := b1.alloc b1.size (.cells #[.slice none 0 0, .slice none 0 0, .slice none 0 0, .slice none 0 0, .slice none 0 0, .int .u64 0] 27 (0, 0))
  have s2 := alloc_sz wB (.cells #[.slice none 0 0, .slice none 0 0, .slice none 0 0, .slice none 0 0, .slice none 0 0, .int .u64 0] 27 (0, 0))
  have hX2 := ((Below.refl wB.heap.size wB).alloc (Nat.le_refl _) (.cells #[.slice none 0 0, .slice none 0 0, .slice none 0 0, .slice none 0 0, .slice none 0 0, .int .u64 0] 27 (0, 0))).block w.heap.size (by omega)
  generalize wB.alloc (.cells #[.slice none 0 0, .slice none 0 0, .slice none 0 0, .slice none 0 0, .slice none 0 0, .int .u64 0] 27) = wA at *
  rw [s1] at hY s2
  replace hX2 := hX2.trans hX
  clear hX b1 s1
  have hWA : Went w wA B r V V N (fun k => ex k ∨ k = w.heap.size + 1) := ⟨hr.step (fun k _ hk => b2.block k hk) (fun k hk => by
    rcases hk with q | q
    · exact .inl q
    · exact .inr (by omega)) (Nat.le_refl _), Keeps.below b2, fun _ h => .inl h, b2.mono hB⟩
  have hex : ∀ W : World, wA.heap.size ≤ W.heap.size → ∀ k, (ex k ∨ k = w.heap.size + 1) → k < W.heap.size := fun W hW k hk => by
    rcases hk with q | q
    · have := hx k q; omega
    · omega
  have nx : ∀ k, w.heap.size ≤ k → ¬ XV V r k := fun k hk => hr.fresh hk
  have CB := Lib.hid (fun (W : World) (hk : W.heap[w.heap.size]? = wA.heap[w.heap.size]?) => (by
    have hc := (blk_at (hk.trans hX2)).1
    exact ⟨hc 0, hc 1, hc 2, hc 3, hc 4, hc 5⟩ : W.cell? ⟨w.heap.size, 0, none⟩ = some (.slice A0 G.obs.length c0) ∧ W.cell? ⟨w.heap.size, 1, none⟩ = some (.slice A1 G.slots.length c1) ∧ W.cell? ⟨w.heap.size, 2, none⟩ = some (.slice A2 G.hands.length c2) ∧ W.cell? ⟨w.heap.size, 3, none⟩ = some (.slice A3 G.reg.length c3) ∧ W.cell? ⟨w.heap.size, 4, none⟩ = some (.slice A4 G.queue.length c4) ∧ W.cell? ⟨w.heap.size, 5, none⟩ = some (.int .u64 G.next)))
  have KB := Lib.hid (fun (W : World) (hk : Keeps wA W (XV V r)) => hk.blk w.heap.size (by omega) (nx _ (Nat.le_refl _)))
  have CD := Lib.hid (fun (W : World) (hk : Keeps wA W (XV V r)) => (by
    obtain ⟨hd, hf⟩ := blk_at ((hk.blk (w.heap.size + 1) (by omega) (nx _ (Nat.le_succ _))).trans hY)
    exact ⟨hd 0, hd 1, hd 2, hd 3, hd 4, hd 5, hf 0, hf 1, hf 2, hf 3, hf 4, hf 5⟩ :W.cell? ⟨w.heap.size + 1, 0, none⟩ = some (.slice none 0 0) ∧ W.cell? ⟨w.heap.size + 1, 1, none⟩ = some (.slice none 0 0) ∧ W.cell? ⟨w.heap.size + 1, 2, none⟩ = some (.slice none 0 0) ∧ W.cell? ⟨w.heap.size + 1, 3, none⟩ = some (.slice none 0 0) ∧ W.cell? ⟨w.heap.size + 1, 4, none⟩ = some (.slice none 0 0) ∧ W.cell? ⟨w.heap.size + 1, 5, none⟩ = some (.int .u64 0) ∧ W.frozen? ⟨w.heap.size + 1, 0, none⟩ = false ∧ W.frozen? ⟨w.heap.size + 1, 1, none⟩ = false ∧ W.frozen? ⟨w.heap.size + 1, 2, none⟩ = false ∧ W.frozen? ⟨w.heap.size + 1, 3, none⟩ = false ∧ W.frozen? ⟨w.heap.size + 1, 4, none⟩ = false ∧ W.frozen? ⟨w.heap.size + 1, 5, none⟩ = false))
  have hr0 := hWA.room
  have W0 : Went wA wA.drew B r V V N (fun k => ex k ∨ k = w.heap.size + 1) := (Went.refl hr0).drew
  have hA0 := h0.trans (hWA.bel.mono hB0)
  have hfs : ∀ f ∈ G.slots, f.length ≤ 1048576 ∧ ∀ l ∈ f, l.length ≤ 1048576 := fun f hf => ⟨(fb f hf).1, (fb f hf).2.2⟩
  have hBA := Nat.le_trans hB b2.size
  have C0 := Lib.hid (OBS.out wA.drew B r V N _ A0 c0 G.obs W0.room hBA w0 (hA0.trans (W0.bel.mono hB0)) hB0 hG.r0 bd.n (fun o ho => bd.i64 o ho) (by omega) (hex _ (Nat.le_refl _)))
  have C1 := Lib.hid (fun (W : World) (V1 : Nat → Value) (hw : Went wA W B r V V1 (N + (2 * G.obs.length + 1)) (fun k => ex k ∨ k = w.heap.size + 1)) => FRS.out W B r V1 _ _ A1 c1 G.slots hw.room (Nat.le_trans hBA hw.keep.size) w0 (hA0.trans (hw.bel.mono hB0)) hB0 hG.r1 bd.m hfs (by omega) (hex _ hw.keep.size))
  have C2 := Lib.hid (fun (W : World) (V1 : Nat → Value) (n : Nat) (hw : Went wA W B r V V1 n (fun k => ex k ∨ k = w.heap.size + 1)) (hn : n ≤ 8388608) (A : Option Addr) (c : Nat) (l : List Int) (hl : Kd.C (Kd.int .i64) w0 A l.length l) (hll : l.length ≤ 1048576) => INTS.out W B r V1 n _ A c l hw.room (Nat.le_trans hBA hw.keep.size) (Kd.C_below hl (hA0.trans (hw.bel.mono hB0))) hll hn (hex _ hw.keep.size))
  clear OBS FRS INTS
  go_region_held3 (fun W => W.cell? ⟨w.heap.size, 0, none⟩ = some (.slice A0 G.obs.length c0) ∧ W.cell? ⟨w.heap.size, 1, none⟩ = some (.slice A1 G.slots.length c1) ∧ W.cell? ⟨w.heap.size, 2, none⟩ = some (.slice A2 G.hands.length c2) ∧ W.cell? ⟨w.heap.size, 3, none⟩ = some (.slice A3 G.reg.length c3) ∧ W.cell? ⟨w.heap.size, 4, none⟩ = some (.slice A4 G.queue.length c4) ∧ W.cell? ⟨w.heap.size, 5, none⟩ = some (.int .u64 G.next))
    (first
      | with_reducible exact CB.out wA (KB.out wA (Keeps.refl wA _))
      | with_reducible exact CB.out _ (KB.out _ W0.keep)
      | with_reducible exact CB.out _ (KB.out _ T1.keep)
      | with_reducible exact CB.out _ (KB.out _ T2.keep)
      | with_reducible exact CB.out _ (KB.out _ T3.keep)
      | with_reducible exact CB.out _ (KB.out _ T4.keep)
      | with_reducible exact CB.out _ (KB.out _ T5.keep)
      | exact CB.out _ ((six (by omega) _ _ _ _ _ _).trans (KB.out _ T5.keep)))
    (first
      | ((go_at_call 38; refine (C2.out _ _ _ T4 (by omega) A4 c4 G.queue hG.r4 bd.q).mono ?_; rintro e w5 ⟨v5, V5, rfl, hW5, hM5⟩; obtain ⟨A9, n9, m9, rfl⟩ := Sub.form hM5; have T5 := T4.trans hW5; obtain ⟨d0, d1, d2, d3, d4, d5, g0, g1, g2, g3, g4, g5⟩ := CD.out _ T5.keep))
      | ((go_at_call 38; refine (C2.out _ _ _ T3 (by omega) A3 c3 G.reg hG.r3 bd.r).mono ?_; rintro e w4 ⟨v4, V4, rfl, hW4, hM4⟩; obtain ⟨A8, n8, m8, rfl⟩ := Sub.form hM4; have T4 := T3.trans hW4))
      | ((go_at_call 38; refine (C2.out _ _ _ T2 (by omega) A2 c2 G.hands hG.r2 bd.h).mono ?_; rintro e w3 ⟨v3, V3, rfl, hW3, hM3⟩; obtain ⟨A7, n7, m7, rfl⟩ := Sub.form hM3; have T3 := T2.trans hW3))
      | ((go_at_call 37; refine (C1.out _ _ T1).mono ?_; rintro e w2 ⟨v2, V2, rfl, hW2, hM2⟩; obtain ⟨A6, n6, m6, rfl⟩ := Sub.form hM2; have T2 := T1.trans hW2))
      | ((go_at_call 36; refine C0.out.mono ?_; rintro e w1 ⟨v1, V1, rfl, hW1, hM1⟩; obtain ⟨A5, n5, m5, rfl⟩ := Sub.form hM1; have T1 := W0.trans hW1)))
  have T := hWA.trans T5
  have hz := six_at ((T5.keep.blk (w.heap.size + 1) (by omega) (nx _ (Nat.le_succ _))).trans hY) (.slice A5 n5 m5) (.slice A6 n6 m6) (.slice A7 n7 m7) (.slice A8 n8 m8) (.slice A9 n9 m9) (.int .u64 G.next)
  have ho := fun g (h : g ≠ w.heap.size + 1) => six (w := w5) h (.slice A5 n5 m5) (.slice A6 n6 m6) (.slice A7 n7 m7) (.slice A8 n8 m8) (.slice A9 n9 m9) (.int .u64 G.next)
  have hbz := six_below T.bel (show B ≤ w.heap.size + 1 by omega) (.slice A5 n5 m5) (.slice A6 n6 m6) (.slice A7 n7 m7) (.slice A8 n8 m8) (.slice A9 n9 m9) (.int .u64 G.next)
  have hsz := six_size (w := w5) (b := w.heap.size + 1) (.slice A5 n5 m5) (.slice A6 n6 m6) (.slice A7 n7 m7) (.slice A8 n8 m8) (.slice A9 n9 m9) (.int .u64 G.next)
  clear d0 d1 d2 d3 d4 d5 g0 g1 g2 g3 g4 g5
  generalize ((((((w5.setCell ⟨w.heap.size + 1, 0, none⟩ (.slice A5 n5 m5)).setCell ⟨w.heap.size + 1, 1, none⟩ (.slice A6 n6 m6)).setCell ⟨w.heap.size + 1, 2, none⟩ (.slice A7 n7 m7)).setCell ⟨w.heap.size + 1, 3, none⟩ (.slice A8 n8 m8)).setCell ⟨w.heap.size + 1, 4, none⟩ (.slice A9 n9 m9)).setCell ⟨w.heap.size + 1, 5, none⟩ (.int .u64 G.next)) = wz at *
  obtain ⟨cz, fz⟩ := blk_at hz
  go_wp2_with fail
  have c0' : wz.cell? ⟨w.heap.size + 1, 0, none⟩ = some (.slice A5 n5 m5) := cz 0
  have c1' : wz.cell? ⟨w.heap.size + 1, 1, none⟩ = some (.slice A6 n6 m6) := cz 1
  have c2' : wz.cell? ⟨w.heap.size + 1, 2, none⟩ = some (.slice A7 n7 m7) := cz 2
  have c3' : wz.cell? ⟨w.heap.size + 1, 3, none⟩ = some (.slice A8 n8 m8) := cz 3
  have c4' : wz.cell? ⟨w.heap.size + 1, 4, none⟩ = some (.slice A9 n9 m9) := cz 4
  have c5' : wz.cell? ⟨w.heap.size + 1, 5, none⟩ = some (.int .u64 G.next) := cz 5
  (try simp only [Exit.inBlock, Exit.then])
  refine bodyPost_ret (v := .agg #[.slice A5 n5 m5, .slice A6 n6 m6, .slice A7 n7 m7, .slice A8 n8 m8, .slice A9 n9 m9, .int .u64 G.next]) ?_ rfl ?_
  · simp [results, go_sem, c0', c1', c2', c3', c4', c5']
  obtain ⟨rfl, l0, _⟩ := Sub.reads hM1
  obtain ⟨rfl, l1, _⟩ := Sub.reads hM2
  obtain ⟨rfl, l2, _⟩ := Sub.reads hM3
  obtain ⟨rfl, l3, _⟩ := Sub.reads hM4
  obtain ⟨rfl, l4, _⟩ := Sub.reads hM5
  refine ⟨⟨A5, A6, A7, A8, A9, m5, m6, m7, m8, m9⟩, V5, rfl, ⟨T.room.step (fun k hk hlt => ho k (fun e => hk (.inr e))) (fun k hk => .inl (.inl hk)) (by omega), ⟨by have := T.keep.size; omega, fun k hk hn => (ho k (by omega)).trans (T.keep.blk k hk hn)⟩, T.ext, hbz⟩, ?_⟩
  have q1 := hW1.keep.size
  have q2 := hW2.keep.size
  have q3 := hW3.keep.size
  have q4 := hW4.keep.size
  have q0 : wA.drew.heap.size = wA.heap.size := rfl
  exact ⟨M_store (hW5.M (hW4.M (hW3.M (hW2.M hM1)))) ho (by omega) (by omega), M_store (hW5.M (hW4.M (hW3.M hM2))) ho (by omega) (by omega), M_store (hW5.M (hW4.M hM3)) ho (by omega) (by omega), M_store (hW5.M hM4) ho (by omega) (by omega), M_store hM5 ho (by omega) (by omega)⟩
end Go.Proofs.YtogpgkoelplknaaDoor
end
section
/- middenroom: holdInts, holdWords. No condition. -/

namespace Go.Proofs.YtogpgkoelplknaaDoor
open Go.RowKit Go.BigFrame PLensPaths Go.Proofs.YtogpgkoelplknaaDoorW.PrintWords Go.Proofs.YtogpgkoelplknaaDoorW.PrintMore
set_option linter.unusedVariables false
theorem Rwk.read {α : Type} {d : Kd α} {e : Nat} {mk : List α} {t : Nat} {w : World} {B : Nat} {ok : Nat → Prop} {v : Value} {N : Nat} (h : Rwk d e mk t w B ok v N) : ∃ A xs c, v = .slice A xs.length c ∧ xs.length ≤ N ∧ Kd.C (kSub e d) w A xs.length xs ∧ ∀ L ∈ xs, Ends mk L := by
  obtain ⟨xs, hR, hl, hE⟩ := h
  obtain ⟨A, c, rfl, _, hC⟩ := Kd.R_reads hR
  exact ⟨A, xs, c, rfl, hl, hC, hE⟩
theorem mk1_at : ∀ k, k < 40 → mk1.getD k 0 = if k % 2 = 0 then -7701 else -7702 := by decide
theorem mkW_at : ∀ k, k < 40 → mkW.getD k 0 = if k % 2 = 0 then 7701 else 7702 := by decide
theorem end_at {α : Type} (l mk : List α) (k : Nat) (z : α) : (l ++ mk).getD (l.length + k) z = mk.getD k z := by
  rw [List.getD_eq_getElem?_getD, List.getElem?_append_right (by omega), Nat.add_sub_cancel_left, ← List.getD_eq_getElem?_getD]
set_option maxRecDepth 100000 in
set_option maxHeartbeats 8000000 in
theorem holdInts_true (w : World) (B r : Nat) (V : Nat → Value) (N : Nat) (ex : Nat → Prop) (hr : RoomAt w B r V N ex) (hN : N ≤ 8388608) :
    Calls Tryd.prog 49 #[.pointer (some ⟨r, 0, none⟩)] w fun e w' => e = .returned (.bool true) ∧ Below w.heap.size w w' := by
  obtain ⟨A, xs, c, hv, hl, hC, hE⟩ := Rwk.read (hr.row 0 (by omega))
  have hbox := hr.box
  rw [hv] at hbox
  have rr := blk_lt hbox
  clear hr hv
  have hb := (Below.refl w.heap.size w).alloc (Nat.le_refl _) (.cells #[.int .i64 (-7701), .int .i64 (-7702)] 3 (0, 0))
  have hM := blk_new w (.cells #[.int .i64 (-7701), .int .i64 (-7702)] 3 (0, 0))
  have hb2 := box_keep hbox hb
  have hC2 := Kd.C_below hC hb
  obtain ⟨cB, fB⟩ := blk_at hb2
  obtain ⟨cM, fM⟩ := blk_at hM
  go_enter Tryd.func49, Tryd.ntmps49
  go_upto_region 2 with fail
  generalize w.alloc _ = wA at *
  have k1 : wA.cell? ⟨r, 1, none⟩ = some (.slice A xs.length c) := cB 1
  have m0 : wA.cell? ⟨w.heap.size, 0, none⟩ = some (.int .i64 (-7701)) := cM 0
  have m1 : wA.cell? ⟨w.heap.size, 1, none⟩ = some (.int .i64 (-7702)) := cM 1
  clear cB fB cM fM hbox hb2 hM hC
  go_wp2_with fail
  go_loopw [4] (fun iv wx => ∃ i : Nat, i ≤ xs.length ∧ iv = .int .i64 i ∧ wx = wA) (fun iv _ => xs.length - (intOf iv).toNat)
  case atStart => exact ⟨0, by omega, rfl, rfl⟩
  case round =>
    obtain ⟨i, hi, rfl, rfl⟩ := hrel
    by_cases hlt : i < xs.length
    · have dlt : decide ((i : Int) < (xs.length : Int)) = true := decide_eq_true (by omega)
      have i0 : (0 : Int) ≤ (i : Int) := by omega
      have i1 : (i : Int) < (xs.length : Int) := by omega
      obtain ⟨l, hl1⟩ := hE _ (getD_mem [] hlt)
      obtain ⟨ad, A1, c1, rfl, hc, hc1, hC1⟩ := sl_at (C_kS1 hC2) i hlt
      rw [hl1] at hc hc1 hC1
      have hll : (l ++ mk1).length = l.length + 40 := by rw [List.length_append]; rfl
      rw [hll] at hc hc1 hC1
      have hmx := hC1.2.1
      generalize hn : l.length = n at *
      have HN := Lib.hid hn
      clear hn hll
      go_wp2_with fail
      go_loopw [6] (fun kv wx => ∃ k : Nat, k ≤ 40 ∧ kv = .int .i64 k ∧ wx = wr) (fun kv _ => 40 - (intOf kv).toNat)
      case atStart => exact ⟨0, by omega, rfl, rfl⟩
      case round =>
        obtain ⟨k, hk, rfl, rfl⟩ := hrel
        by_cases hkt : k < 40
        · have dk : decide ((k : Int) < 40) = true := decide_eq_true (by omega)
          obtain ⟨ad1, rfl, hcx⟩ := int_at hC1 (n + k) (by omega)
          have hx : (l ++ mk1).getD (n + k) 0 = mk1.getD k 0 := by rw [← HN.out]; exact end_at l mk1 k 0
          rw [hx, mk1_at k hkt] at hcx
          have k0 : (0 : Int) ≤ (k : Int) := by omega
          have z0 : (0 : Int) ≤ (n : Int) + (k : Int) := by omega
          have z1 : (n : Int) + (k : Int) < (n : Int) + 40 := by omega
          have z2 : ((n : Int) + (k : Int)).toNat = n + k := by omega
          have e2 : ((k : Int).tmod 2) = ((k % 2 : Nat) : Int) := rfl
          rcases Nat.mod_two_eq_zero_or_one k with e | e
          · rw [if_pos e] at hcx
            rw [e] at e2
            go_wp2_with fail
            exact ⟨⟨k + 1, by omega, by simp, trivial⟩, by simp [intOf]; omega⟩
          · rw [if_neg (by omega)] at hcx
            rw [e] at e2
            go_wp2_with fail
            exact ⟨⟨k + 1, by omega, by simp, trivial⟩, by simp [intOf]; omega⟩
        · have dk : decide ((k : Int) < 40) = false := decide_eq_false (by omega)
          go_wp2_with fail
          exact ⟨⟨i + 1, by omega, by simp, trivial⟩, by simp [intOf]; omega⟩
    · have dlt : decide ((i : Int) < (xs.length : Int)) = false := decide_eq_false (by omega)
      go_wp2_with fail
      go_ret
      exact ⟨rfl, hb⟩
set_option maxRecDepth 100000 in
set_option maxHeartbeats 8000000 in
theorem holdWords_true (w : World) (B r : Nat) (V : Nat → Value) (N : Nat) (ex : Nat → Prop) (hr : RoomAt w B r V N ex) (hN : N ≤ 8388608) :
    Calls Tryd.prog 50 #[.pointer (some ⟨r, 0, none⟩)] w fun e w' => e = .returned (.bool true) ∧ Below w.heap.size w w' := by
  obtain ⟨A, xs, c, hv, hl, hC, hE⟩ := Rwk.read (hr.row 1 (by omega))
  have hbox := hr.box
  rw [hv] at hbox
  have rr := blk_lt hbox
  clear hr hv
  have hb := (Below.refl w.heap.size w).alloc (Nat.le_refl _) (.cells #[.int .u64 7701, .int .u64 7702] 25 (0, 0))
  have hM := blk_new w (.cells #[.int .u64 7701, .int .u64 7702] 25 (0, 0))
  have hb2 := box_keep hbox hb
  have hC2 := Kd.C_below hC hb
  obtain ⟨cB, fB⟩ := blk_at hb2
  obtain ⟨cM, fM⟩ := blk_at hM
  go_enter Tryd.func50, Tryd.ntmps50
  go_upto_region 2 with fail
  generalize w.alloc _ = wA at *
  have k1 : wA.cell? ⟨r, 2, none⟩ = some (.slice A xs.length c) := cB 2
  have m0 : wA.cell? ⟨w.heap.size, 0, none⟩ = some (.int .u64 7701) := cM 0
  have m1 : wA.cell? ⟨w.heap.size, 1, none⟩ = some (.int .u64 7702) := cM 1
  clear cB fB cM fM hbox hb2 hM hC
  go_wp2_with fail
  go_loopw [4] (fun iv wx => ∃ i : Nat, i ≤ xs.length ∧ iv = .int .i64 i ∧ wx = wA) (fun iv _ => xs.length - (intOf iv).toNat)
  case atStart => exact ⟨0, by omega, rfl, rfl⟩
  case round =>
    obtain ⟨i, hi, rfl, rfl⟩ := hrel
    by_cases hlt : i < xs.length
    · have dlt : decide ((i : Int) < (xs.length : Int)) = true := decide_eq_true (by omega)
      have i0 : (0 : Int) ≤ (i : Int) := by omega
      have i1 : (i : Int) < (xs.length : Int) := by omega
      obtain ⟨l, hl1⟩ := hE _ (getD_mem [] hlt)
      obtain ⟨ad, A1, c1, rfl, hc, hc1, hC1⟩ := sl_at (show Kd.C (Kd.slice 25 (Kd.int .u64)) _ _ _ _ from hC2) i hlt
      rw [hl1] at hc hc1 hC1
      have hll : (l ++ mkW).length = l.length + 40 := by rw [List.length_append]; rfl
      rw [hll] at hc hc1 hC1
      have hmx := hC1.2.1
      generalize hn : l.length = n at *
      have HN := Lib.hid hn
      clear hn hll
      go_wp2_with fail
      go_loopw [6] (fun kv wx => ∃ k : Nat, k ≤ 40 ∧ kv = .int .i64 k ∧ wx = wr) (fun kv _ => 40 - (intOf kv).toNat)
      case atStart => exact ⟨0, by omega, rfl, rfl⟩
      case round =>
        obtain ⟨k, hk, rfl, rfl⟩ := hrel
        by_cases hkt : k < 40
        · have dk : decide ((k : Int) < 40) = true := decide_eq_true (by omega)
          obtain ⟨ad1, rfl, hcx⟩ := int_at hC1 (n + k) (by omega)
          have hx : (l ++ mkW).getD (n + k) 0 = mkW.getD k 0 := by rw [← HN.out]; exact end_at l mkW k 0
          rw [hx, mkW_at k hkt] at hcx
          have k0 : (0 : Int) ≤ (k : Int) := by omega
          have z0 : (0 : Int) ≤ (n : Int) + (k : Int) := by omega
          have z1 : (n : Int) + (k : Int) < (n : Int) + 40 := by omega
          have z2 : ((n : Int) + (k : Int)).toNat = n + k := by omega
          have e2 : ((k : Int).tmod 2) = ((k % 2 : Nat) : Int) := rfl
          rcases Nat.mod_two_eq_zero_or_one k with e | e
          · rw [if_pos e] at hcx
            rw [e] at e2
            go_wp2_with fail
            exact ⟨⟨k + 1, by omega, by simp, trivial⟩, by simp [intOf]; omega⟩
          · rw [if_neg (by omega)] at hcx
            rw [e] at e2
            go_wp2_with fail
            exact ⟨⟨k + 1, by omega, by simp, trivial⟩, by simp [intOf]; omega⟩
        · have dk : decide ((k : Int) < 40) = false := decide_eq_false (by omega)
          go_wp2_with fail
          exact ⟨⟨i + 1, by omega, by simp, trivial⟩, by simp [intOf]; omega⟩
    · have dlt : decide ((i : Int) < (xs.length : Int)) = false := decide_eq_false (by omega)
      go_wp2_with fail
      go_ret
      exact ⟨rfl, hb⟩
end Go.Proofs.YtogpgkoelplknaaDoor
end
section
/- middenroom: holdIntLists. No condition. -/

namespace Go.Proofs.YtogpgkoelplknaaDoor
open Go.RowKit Go.BigFrame PLensPaths Go.Proofs.YtogpgkoelplknaaDoorW.PrintWords Go.Proofs.YtogpgkoelplknaaDoorW.PrintMore
set_option linter.unusedVariables false
theorem mk2_at : ∀ k, k < 8 → mk2.getD k [] = if k % 2 = 0 then [-7701] else [-7702] := by decide
theorem add_zero' (a : Addr) : a.add 0 = a := by
  cases a
  simp [Addr.add]
set_option maxRecDepth 100000 in
set_option maxHeartbeats 8000000 in
theorem holdIntLists_true (w : World) (B r : Nat) (V : Nat → Value) (N : Nat) (ex : Nat → Prop) (hr : RoomAt w B r V N ex) (hN : N ≤ 8388608) :
    Calls Tryd.prog 53 #[.pointer (some ⟨r, 0, none⟩)] w fun e w' => e = .returned (.bool true) ∧ Below w.heap.size w w' := by
  obtain ⟨A, xs, c, hv, hl, hC, hE⟩ := Rwk.read (hr.row 2 (by omega))
  have hbox := hr.box
  rw [hv] at hbox
  have rr := blk_lt hbox
  clear hr hv
  have s1 := alloc_sz w (.cells #[.int .i64 (-7701)] 3 (0, 0))
  have hb1 := (Below.refl w.heap.size w).alloc (Nat.le_refl _) (.cells #[.int .i64 (-7701)] 3 (0, 0))
  have hM1 := blk_new w (.cells #[.int .i64 (-7701)] 3 (0, 0))
  go_enter Tryd.func53, Tryd.ntmps53
  go_upto_region 2 with fail
  generalize w.alloc (.cells #[.int .i64 (-7701)] 3) = w1 at *
  have s2 := alloc_sz w1 (.cells #[.int .i64 (-7702)] 3 (0, 0))
  have hb2 := (Below.refl w1.heap.size w1).alloc (Nat.le_refl _) (.cells #[.int .i64 (-7702)] 3 (0, 0))
  have hM2 := blk_new w1 (.cells #[.int .i64 (-7702)] 3 (0, 0))
  generalize w1.alloc (.cells #[.int .i64 (-7702)] 3) = w2 at *
  have s3 := alloc_sz w2 (.cells #[.slice (some ⟨w.heap.size, 0, none⟩) 1 1, .slice (some ⟨w.heap.size + 1, 0, none⟩) 1 1] 24 (0, 0))
  have hb3 := (Below.refl w2.heap.size w2).alloc (Nat.le_refl _) (.cells #[.slice (some ⟨w.heap.size, 0, none⟩) 1 1, .slice (some ⟨w.heap.size + 1, 0, none⟩) 1 1] 24 (0, 0))
  have hM3 := blk_new w2 (.cells #[.slice (some ⟨w.heap.size, 0, none⟩) 1 1, .slice (some ⟨w.heap.size + 1, 0, none⟩) 1 1] 24 (0, 0))
  generalize w2.alloc _ = wA at *
  have e1 : w1.heap.size = w.heap.size + 1 := s1
  have e2 : w2.heap.size = w.heap.size + 1 + 1 := by omega
  rw [e1] at hM2
  rw [e2] at hM3
  have hbA := hb1.trans ((hb2.mono (show w.heap.size ≤ w1.heap.size by omega)).trans (hb3.mono (show w.heap.size ≤ w2.heap.size by omega)))
  have hM2' := (hb3.block (w.heap.size + 1) (by omega)).trans hM2
  have hM1' := (hb3.block w.heap.size (by omega)).trans ((hb2.block w.heap.size (by omega)).trans hM1)
  have hbox' := box_keep hbox hbA
  have hC2 : Kd.C kFrames wA A xs.length xs := C_kS2 (Kd.C_below hC hbA)
  have sA : wA.heap.size = w.heap.size + 1 + 1 + 1 := by omega
  clear hM1 hM2 hbox hC s1 s2 s3 hb1 hb2 hb3 e1 e2
  have FC := Lib.hid (fun (W : World) (hb : Below wA.heap.size wA W) => (by
    have q1 := (blk_at (box_keep hbox' hb)).1 5
    have q2 := (blk_at (box_keep hM3 hb)).1
    have q3 := (blk_at (box_keep hM1' hb)).1 0
    have q4 := (blk_at (box_keep hM2' hb)).1 0
    exact ⟨q1, q2 0, q2 1, q3, q4⟩ : W.cell? ⟨r, 5, none⟩ = some (.slice A xs.length c) ∧ W.cell? ⟨w.heap.size + 1 + 1, 0, none⟩ = some (.slice (some ⟨w.heap.size, 0, none⟩) 1 1) ∧ W.cell? ⟨w.heap.size + 1 + 1, 1, none⟩ = some (.slice (some ⟨w.heap.size + 1, 0, none⟩) 1 1) ∧ W.cell? ⟨w.heap.size, 0, none⟩ = some (.int .i64 (-7701)) ∧ W.cell? ⟨w.heap.size + 1, 0, none⟩ = some (.int .i64 (-7702))))
  go_wp2_with fail
  go_loopw [4] (fun iv wx => ∃ i : Nat, i ≤ xs.length ∧ iv = .int .i64 i ∧ Below wA.heap.size wA wx) (fun iv _ => xs.length - (intOf iv).toNat)
  case atStart => exact ⟨0, by omega, rfl, Below.refl _ _⟩
  case round =>
    obtain ⟨i, hi, rfl, hbr⟩ := hrel
    obtain ⟨q1, -, -, -, -⟩ := FC.out _ hbr
    by_cases hlt : i < xs.length
    · have dlt : decide ((i : Int) < (xs.length : Int)) = true := decide_eq_true (by omega)
      have i0 : (0 : Int) ≤ (i : Int) := by omega
      have i1 : (i : Int) < (xs.length : Int) := by omega
      obtain ⟨l, hl1⟩ := hE _ (getD_mem [] hlt)
      obtain ⟨ad, A1, c1, rfl, hc, hc1, hC1⟩ := sl_at hC2 i hlt
      rw [hl1] at hc hc1 hC1
      have hll : (l ++ mk2).length = l.length + 8 := by rw [List.length_append]; rfl
      rw [hll] at hc hc1 hC1
      have hmx := hC1.2.1
      generalize hn : l.length = n at *
      have HN := Lib.hid hn
      clear hn hll
      have hcr := cell_later hbr hc
      go_wp2_with fail
      clear q1 hcr
      go_loopw [6] (fun kv wx => ∃ k : Nat, k ≤ 8 ∧ kv = .int .i64 k ∧ Below wA.heap.size wA wx) (fun kv _ => 8 - (intOf kv).toNat)
      case atStart => exact ⟨0, by omega, rfl, hbr⟩
      case round =>
        clear hbr
        obtain ⟨k, hk, rfl, hbr⟩ := hrel
        obtain ⟨q1, q2, q3, q4, q5⟩ := FC.out _ hbr
        have hcr := cell_later hbr hc
        by_cases hkt : k < 8
        · have dk : decide ((k : Int) < 8) = true := decide_eq_true (by omega)
          obtain ⟨ad1, A2, c2, rfl, hcx, hc2, hC3⟩ := sl_at hC1 (n + k) (by omega)
          have hx : (l ++ mk2).getD (n + k) [] = mk2.getD k [] := by rw [← HN.out]; exact end_at l mk2 k []
          rw [hx, mk2_at k hkt] at hcx hc2 hC3
          have k0 : (0 : Int) ≤ (k : Int) := by omega
          have z0 : (0 : Int) ≤ (n : Int) + (k : Int) := by omega
          have z1 : (n : Int) + (k : Int) < (n : Int) + 8 := by omega
          have z2 : ((n : Int) + (k : Int)).toNat = n + k := by omega
          have e2 : ((k : Int).tmod 2) = ((k % 2 : Nat) : Int) := rfl
          rcases Nat.mod_two_eq_zero_or_one k with e | e
          · rw [if_pos e] at hcx hc2 hC3
            rw [e] at e2
            obtain ⟨ad2, rfl, hcy⟩ := int_at hC3 0 (by simp)
            rw [add_zero'] at hcy
            have hcxr := cell_later hbr hcx
            have hcyr := cell_later hbr hcy
            clear hcx hcy
            simp only [List.length_singleton, List.getD_cons_zero] at hcxr hcyr
            go_upto_region 11 with fail
            go_quiet (fail)
            go_wp2_with fail
            exact ⟨⟨k + 1, by omega, by simp, below_drN hbr nq⟩, by simp [intOf]; omega⟩
          · rw [if_neg (by omega)] at hcx hc2 hC3
            rw [e] at e2
            obtain ⟨ad2, rfl, hcy⟩ := int_at hC3 0 (by simp)
            rw [add_zero'] at hcy
            have hcxr := cell_later hbr hcx
            have hcyr := cell_later hbr hcy
            clear hcx hcy
            simp only [List.length_singleton, List.getD_cons_zero] at hcxr hcyr
            go_upto_region 11 with fail
            go_quiet (fail)
            go_wp2_with fail
            exact ⟨⟨k + 1, by omega, by simp, below_drN hbr nq⟩, by simp [intOf]; omega⟩
        · have dk : decide ((k : Int) < 8) = false := decide_eq_false (by omega)
          go_wp2_with fail
          exact ⟨⟨i + 1, by omega, by simp, hbr⟩, by simp [intOf]; omega⟩
    · have dlt : decide ((i : Int) < (xs.length : Int)) = false := decide_eq_false (by omega)
      go_wp2_with fail
      go_ret
      exact ⟨rfl, hbA.trans (hbr.mono (by omega))⟩
end Go.Proofs.YtogpgkoelplknaaDoor
end
section
/- middenroom: holdFrames. No condition. -/

namespace Go.Proofs.YtogpgkoelplknaaDoor
open Go.RowKit Go.BigFrame PLensPaths Go.Proofs.YtogpgkoelplknaaDoorW.PrintWords Go.Proofs.YtogpgkoelplknaaDoorW.PrintMore
set_option linter.unusedVariables false
theorem mk3_at : ∀ k, k < 8 → mk3.getD k [] = if k % 2 = 0 then [[-7701]] else [[-7702]] := by decide
set_option maxRecDepth 100000 in
set_option maxHeartbeats 8000000 in
theorem holdFrames_true (w : World) (B r : Nat) (V : Nat → Value) (N : Nat) (ex : Nat → Prop) (hr : RoomAt w B r V N ex) (hN : N ≤ 8388608) :
    Calls Tryd.prog 54 #[.pointer (some ⟨r, 0, none⟩)] w fun e w' => e = .returned (.bool true) ∧ Below w.heap.size w w' := by
  obtain ⟨A, xs, c, hv, hl, hC, hE⟩ := Rwk.read (hr.row 3 (by omega))
  have hbox := hr.box
  rw [hv] at hbox
  have rr := blk_lt hbox
  clear hr hv
  go_enter Tryd.func54, Tryd.ntmps54
  go_upto_region 2 with fail
  have s1 := alloc_sz w (.cells #[.int .i64 (-7701)] 3 (0, 0))
  have hb1 := (Below.refl w.heap.size w).alloc (Nat.le_refl _) (.cells #[.int .i64 (-7701)] 3 (0, 0))
  have hM1 := blk_new w (.cells #[.int .i64 (-7701)] 3 (0, 0))
  generalize w.alloc _ = w1 at *
  have s2 := alloc_sz w1 (.cells #[.slice (some ⟨w.heap.size, 0, none⟩) 1 1] 24 (0, 0))
  have hb2 := (Below.refl w1.heap.size w1).alloc (Nat.le_refl _) (.cells #[.slice (some ⟨w.heap.size, 0, none⟩) 1 1] 24 (0, 0))
  have hM2 := blk_new w1 (.cells #[.slice (some ⟨w.heap.size, 0, none⟩) 1 1] 24 (0, 0))
  generalize w1.alloc _ = w2 at *
  have s3 := alloc_sz w2 (.cells #[.int .i64 (-7702)] 3 (0, 0))
  have hb3 := (Below.refl w2.heap.size w2).alloc (Nat.le_refl _) (.cells #[.int .i64 (-7702)] 3 (0, 0))
  have hM3 := blk_new w2 (.cells #[.int .i64 (-7702)] 3 (0, 0))
  generalize w2.alloc _ = w3 at *
  have s4 := alloc_sz w3 (.cells #[.slice (some ⟨w.heap.size + 1 + 1, 0, none⟩) 1 1] 24 (0, 0))
  have hb4 := (Below.refl w3.heap.size w3).alloc (Nat.le_refl _) (.cells #[.slice (some ⟨w.heap.size + 1 + 1, 0, none⟩) 1 1] 24 (0, 0))
  have hM4 := blk_new w3 (.cells #[.slice (some ⟨w.heap.size + 1 + 1, 0, none⟩) 1 1] 24 (0, 0))
  generalize w3.alloc _ = w4 at *
  have s5 := alloc_sz w4 (.cells #[.slice (some ⟨w.heap.size + 1, 0, none⟩) 1 1, .slice (some ⟨w.heap.size + 1 + 1 + 1, 0, none⟩) 1 1] 30 (0, 0))
  have hb5 := (Below.refl w4.heap.size w4).alloc (Nat.le_refl _) (.cells #[.slice (some ⟨w.heap.size + 1, 0, none⟩) 1 1, .slice (some ⟨w.heap.size + 1 + 1 + 1, 0, none⟩) 1 1] 30 (0, 0))
  have hM5 := blk_new w4 (.cells #[.slice (some ⟨w.heap.size + 1, 0, none⟩) 1 1, .slice (some ⟨w.heap.size + 1 + 1 + 1, 0, none⟩) 1 1] 30 (0, 0))
  generalize w4.alloc _ = wA at *
  have e1 : w1.heap.size = w.heap.size + 1 := s1
  have e2 : w2.heap.size = w.heap.size + 1 + 1 := by omega
  have e3 : w3.heap.size = w.heap.size + 1 + 1 + 1 := by omega
  have e4 : w4.heap.size = w.heap.size + 1 + 1 + 1 + 1 := by omega
  rw [e1] at hM2
  rw [e2] at hM3
  rw [e3] at hM4
  rw [e4] at hM5
  have hbA := hb1.trans ((hb2.mono (show w.heap.size ≤ w1.heap.size by omega)).trans ((hb3.mono (show w.heap.size ≤ w2.heap.size by omega)).trans ((hb4.mono (show w.heap.size ≤ w3.heap.size by omega)).trans (hb5.mono (show w.heap.size ≤ w4.heap.size by omega)))))
  have up : ∀ k, k < w4.heap.size → wA.heap[k]? = w4.heap[k]? := fun k hk => hb5.block k hk
  have up3 : ∀ k, k < w3.heap.size → wA.heap[k]? = w3.heap[k]? := fun k hk => (up k (by omega)).trans (hb4.block k hk)
  have up2 : ∀ k, k < w2.heap.size → wA.heap[k]? = w2.heap[k]? := fun k hk => (up3 k (by omega)).trans (hb3.block k hk)
  have up1 : ∀ k, k < w1.heap.size → wA.heap[k]? = w1.heap[k]? := fun k hk => (up2 k (by omega)).trans (hb2.block k hk)
  have hM4' := (up _ (by omega)).trans hM4
  have hM3' := (up3 _ (by omega)).trans hM3
  have hM2' := (up2 _ (by omega)).trans hM2
  have hM1' := (up1 w.heap.size (by omega)).trans hM1
  have hbox' := box_keep hbox hbA
  have hC2 : Kd.C (Kd.slice 30 kFrames) wA A xs.length xs := Kd.C_below hC hbA
  have sA : wA.heap.size = w.heap.size + 1 + 1 + 1 + 1 + 1 := by omega
  clear up up3 up2 up1 hM1 hM2 hM3 hM4 hbox hC s1 s2 s3 s4 s5 hb1 hb2 hb3 hb4 hb5 e1 e2 e3 e4
  have FC := Lib.hid (fun (W : World) (hb : Below wA.heap.size wA W) => (by
    have q1 := (blk_at (box_keep hbox' hb)).1 6
    have q2 := (blk_at (box_keep hM5 hb)).1
    have q3 := (blk_at (box_keep hM1' hb)).1 0
    have q4 := (blk_at (box_keep hM2' hb)).1 0
    have q5 := (blk_at (box_keep hM3' hb)).1 0
    have q6 := (blk_at (box_keep hM4' hb)).1 0
    exact ⟨q1, q2 0, q2 1, q3, q5, q4, q6⟩ : W.cell? ⟨r, 6, none⟩ = some (.slice A xs.length c) ∧ W.cell? ⟨w.heap.size + 1 + 1 + 1 + 1, 0, none⟩ = some (.slice (some ⟨w.heap.size + 1, 0, none⟩) 1 1) ∧ W.cell? ⟨w.heap.size + 1 + 1 + 1 + 1, 1, none⟩ = some (.slice (some ⟨w.heap.size + 1 + 1 + 1, 0, none⟩) 1 1) ∧ W.cell? ⟨w.heap.size, 0, none⟩ = some (.int .i64 (-7701)) ∧ W.cell? ⟨w.heap.size + 1 + 1, 0, none⟩ = some (.int .i64 (-7702)) ∧ W.cell? ⟨w.heap.size + 1, 0, none⟩ = some (.slice (some ⟨w.heap.size, 0, none⟩) 1 1) ∧ W.cell? ⟨w.heap.size + 1 + 1 + 1, 0, none⟩ = some (.slice (some ⟨w.heap.size + 1 + 1, 0, none⟩) 1 1)))
  go_wp2_with fail
  go_loopw [4] (fun iv wx => ∃ i : Nat, i ≤ xs.length ∧ iv = .int .i64 i ∧ Below wA.heap.size wA wx) (fun iv _ => xs.length - (intOf iv).toNat)
  case atStart => exact ⟨0, by omega, rfl, Below.refl _ _⟩
  case round =>
    obtain ⟨i, hi, rfl, hbr⟩ := hrel
    obtain ⟨q1, -, -, -, -, -, -⟩ := FC.out _ hbr
    by_cases hlt : i < xs.length
    · have dlt : decide ((i : Int) < (xs.length : Int)) = true := decide_eq_true (by omega)
      have i0 : (0 : Int) ≤ (i : Int) := by omega
      have i1 : (i : Int) < (xs.length : Int) := by omega
      obtain ⟨l, hl1⟩ := hE _ (getD_mem [] hlt)
      obtain ⟨ad, A1, c1, rfl, hc, hc1, hC1⟩ := sl_at hC2 i hlt
      rw [hl1] at hc hc1 hC1
      have hll : (l ++ mk3).length = l.length + 8 := by rw [List.length_append]; rfl
      rw [hll] at hc hc1 hC1
      have hmx := hC1.2.1
      generalize hn : l.length = n at *
      have HN := Lib.hid hn
      clear hn hll
      have hcr := cell_later hbr hc
      go_wp2_with fail
      clear q1 hcr
      go_loopw [6] (fun kv wx => ∃ k : Nat, k ≤ 8 ∧ kv = .int .i64 k ∧ Below wA.heap.size wA wx) (fun kv _ => 8 - (intOf kv).toNat)
      case atStart => exact ⟨0, by omega, rfl, hbr⟩
      case round =>
        clear hbr
        obtain ⟨k, hk, rfl, hbr⟩ := hrel
        obtain ⟨q1, q2, q3, q4, q5, q6, q7⟩ := FC.out _ hbr
        have hcr := cell_later hbr hc
        by_cases hkt : k < 8
        · have dk : decide ((k : Int) < 8) = true := decide_eq_true (by omega)
          obtain ⟨ad1, A2, c2, rfl, hcx, hc2, hC3⟩ := sl_at hC1 (n + k) (by omega)
          have hx : (l ++ mk3).getD (n + k) [] = mk3.getD k [] := by rw [← HN.out]; exact end_at l mk3 k []
          rw [hx, mk3_at k hkt] at hcx hc2 hC3
          have k0 : (0 : Int) ≤ (k : Int) := by omega
          have z0 : (0 : Int) ≤ (n : Int) + (k : Int) := by omega
          have z1 : (n : Int) + (k : Int) < (n : Int) + 8 := by omega
          have z2 : ((n : Int) + (k : Int)).toNat = n + k := by omega
          have e2 : ((k : Int).tmod 2) = ((k % 2 : Nat) : Int) := rfl
          rcases Nat.mod_two_eq_zero_or_one k with e | e
          · rw [if_pos e] at hcx hc2 hC3
            rw [e] at e2
            obtain ⟨ad2, A3, c3, rfl, hcy, hc3, hC4⟩ := sl_at hC3 0 (by simp)
            simp only [List.getD_cons_zero] at hcy hc3 hC4
            obtain ⟨ad3, rfl, hcz⟩ := int_at hC4 0 (by simp)
            rw [add_zero'] at hcy hcz
            have hcxr := cell_later hbr hcx
            have hcyr := cell_later hbr hcy
            have hczr := cell_later hbr hcz
            clear hcx hcy hcz
            simp only [List.length_singleton, List.getD_cons_zero] at hcxr hcyr hczr
            go_upto_region 11 with fail
            go_quiet (fail)
            go_wp2_with fail
            exact ⟨⟨k + 1, by omega, by simp, below_drN hbr nq⟩, by simp [intOf]; omega⟩
          · rw [if_neg (by omega)] at hcx hc2 hC3
            rw [e] at e2
            obtain ⟨ad2, A3, c3, rfl, hcy, hc3, hC4⟩ := sl_at hC3 0 (by simp)
            simp only [List.getD_cons_zero] at hcy hc3 hC4
            obtain ⟨ad3, rfl, hcz⟩ := int_at hC4 0 (by simp)
            rw [add_zero'] at hcy hcz
            have hcxr := cell_later hbr hcx
            have hcyr := cell_later hbr hcy
            have hczr := cell_later hbr hcz
            clear hcx hcy hcz
            simp only [List.length_singleton, List.getD_cons_zero] at hcxr hcyr hczr
            go_upto_region 11 with fail
            go_quiet (fail)
            go_wp2_with fail
            exact ⟨⟨k + 1, by omega, by simp, below_drN hbr nq⟩, by simp [intOf]; omega⟩
        · have dk : decide ((k : Int) < 8) = false := decide_eq_false (by omega)
          go_wp2_with fail
          exact ⟨⟨i + 1, by omega, by simp, hbr⟩, by simp [intOf]; omega⟩
    · have dlt : decide ((i : Int) < (xs.length : Int)) = false := decide_eq_false (by omega)
      go_wp2_with fail
      go_ret
      exact ⟨rfl, hbA.trans (hbr.mono (by omega))⟩
end Go.Proofs.YtogpgkoelplknaaDoor
end
section
/- middenroom: holdObjects. No condition. -/

namespace Go.Proofs.YtogpgkoelplknaaDoor
open Go.RowKit Go.BigFrame PLensPaths Go.Proofs.YtogpgkoelplknaaDoorW.PrintWords Go.Proofs.YtogpgkoelplknaaDoorW.PrintMore
set_option linter.unusedVariables false
theorem mkO_at (k : Nat) (hk : k < 8) : mkO.getD k default = if k % 2 = 0 then obM (-7701) else obM (-7702) :=
  match k, hk with
  | 0, _ => rfl
  | 1, _ => rfl
  | 2, _ => rfl
  | 3, _ => rfl
  | 4, _ => rfl
  | 5, _ => rfl
  | 6, _ => rfl
  | 7, _ => rfl
  | _ + 8, h => by omega
set_option maxRecDepth 100000 in
set_option maxHeartbeats 8000000 in
theorem holdObjects_true (w : World) (B r : Nat) (V : Nat → Value) (N : Nat) (ex : Nat → Prop) (hr : RoomAt w B r V N ex) (hN : N ≤ 8388608) :
    Calls Tryd.prog 55 #[.pointer (some ⟨r, 0, none⟩)] w fun e w' => e = .returned (.bool true) ∧ Below w.heap.size w w' := by
  obtain ⟨A, xs, c, hv, hl, hC, hE⟩ := Rwk.read (hr.row 4 (by omega))
  have hbox := hr.box
  rw [hv] at hbox
  have rr := blk_lt hbox
  clear hr hv
  have s1 := alloc_sz w (.cells #[.int .u64 0, .int .i64 (-7701), .int .i64 0, .slice none 0 0, .slice none 0 0, .int .u64 0, .int .i64 (-7702), .int .i64 0, .slice none 0 0, .slice none 0 0] 59 (0, 0))
  have hbA := (Below.refl w.heap.size w).alloc (Nat.le_refl _) (.cells #[.int .u64 0, .int .i64 (-7701), .int .i64 0, .slice none 0 0, .slice none 0 0, .int .u64 0, .int .i64 (-7702), .int .i64 0, .slice none 0 0, .slice none 0 0] 59 (0, 0))
  have hM := blk_new w (.cells #[.int .u64 0, .int .i64 (-7701), .int .i64 0, .slice none 0 0, .slice none 0 0, .int .u64 0, .int .i64 (-7702), .int .i64 0, .slice none 0 0, .slice none 0 0] 59 (0, 0))
  go_enter Tryd.func55, Tryd.ntmps55
  go_upto_region 2 with fail
  generalize w.alloc _ = wA at *
  have hbox' := box_keep hbox hbA
  have hC2 : Kd.C (Kd.slice 59 kOb) wA A xs.length xs := Kd.C_below hC hbA
  have sA : wA.heap.size = w.heap.size + 1 := s1
  clear hbox hC s1
  have FC := Lib.hid (fun (W : World) (hb : Below wA.heap.size wA W) => (by
    have q1 := (blk_at (box_keep hbox' hb)).1 7
    have q2 := (blk_at (box_keep hM hb)).1
    exact ⟨q1, q2 0, q2 1, q2 2, q2 3, q2 4, q2 5, q2 6, q2 7, q2 8, q2 9⟩ : W.cell? ⟨r, 7, none⟩ = some (.slice A xs.length c) ∧ W.cell? ⟨w.heap.size, 0, none⟩ = some (.int .u64 0) ∧ W.cell? ⟨w.heap.size, 1, none⟩ = some (.int .i64 (-7701)) ∧ W.cell? ⟨w.heap.size, 2, none⟩ = some (.int .i64 0) ∧ W.cell? ⟨w.heap.size, 3, none⟩ = some (.slice none 0 0) ∧ W.cell? ⟨w.heap.size, 4, none⟩ = some (.slice none 0 0) ∧ W.cell? ⟨w.heap.size, 5, none⟩ = some (.int .u64 0) ∧ W.cell? ⟨w.heap.size, 6, none⟩ = some (.int .i64 (-7702)) ∧ W.cell? ⟨w.heap.size, 7, none⟩ = some (.int .i64 0) ∧ W.cell? ⟨w.heap.size, 8, none⟩ = some (.slice none 0 0) ∧ W.cell? ⟨w.heap.size, 9, none⟩ = some (.slice none 0 0)))
  go_wp2_with fail
  go_loopw [4] (fun iv wx => ∃ i : Nat, i ≤ xs.length ∧ iv = .int .i64 i ∧ Below wA.heap.size wA wx) (fun iv _ => xs.length - (intOf iv).toNat)
  case atStart => exact ⟨0, by omega, rfl, Below.refl _ _⟩
  case round =>
    obtain ⟨i, hi, rfl, hbr⟩ := hrel
    obtain ⟨q1, -⟩ := FC.out _ hbr
    by_cases hlt : i < xs.length
    · have dlt : decide ((i : Int) < (xs.length : Int)) = true := decide_eq_true (by omega)
      have i0 : (0 : Int) ≤ (i : Int) := by omega
      have i1 : (i : Int) < (xs.length : Int) := by omega
      obtain ⟨l, hl1⟩ := hE _ (getD_mem [] hlt)
      obtain ⟨ad, A1, c1, rfl, hc, hc1, hC1⟩ := sl_at hC2 i hlt
      rw [hl1] at hc hc1 hC1
      have hll : (l ++ mkO).length = l.length + 8 := by rw [List.length_append]; rfl
      rw [hll] at hc hc1 hC1
      have hmx := hC1.2.1
      generalize hn : l.length = n at *
      have HN := Lib.hid hn
      clear hn hll
      have hcr := cell_later hbr hc
      go_wp2_with fail
      clear q1 hcr
      go_loopw [6] (fun kv wx => ∃ k : Nat, k ≤ 8 ∧ kv = .int .i64 k ∧ Below wA.heap.size wA wx) (fun kv _ => 8 - (intOf kv).toNat)
      case atStart => exact ⟨0, by omega, rfl, hbr⟩
      case round =>
        clear hbr
        obtain ⟨k, hk, rfl, hbr⟩ := hrel
        obtain ⟨q1, p0, p1, p2, p3, p4, p5, p6, p7, p8, p9⟩ := FC.out _ hbr
        have hcr := cell_later hbr hc
        by_cases hkt : k < 8
        · have dk : decide ((k : Int) < 8) = true := decide_eq_true (by omega)
          obtain ⟨ad1, A3, c3, A4, c4, rfl, x0, x1, x2, x3, x4, -, -, -, -⟩ := ob_at hC1 (n + k) (by omega)
          have hx : (l ++ mkO).getD (n + k) default = mkO.getD k default := by rw [← HN.out]; exact end_at l mkO k default
          rw [hx, mkO_at k hkt] at x0 x1 x2 x3 x4
          have k0 : (0 : Int) ≤ (k : Int) := by omega
          have z0 : (0 : Int) ≤ (n : Int) + (k : Int) := by omega
          have z1 : (n : Int) + (k : Int) < (n : Int) + 8 := by omega
          have z2 : ((n : Int) + (k : Int)).toNat = n + k := by omega
          have e2 : ((k : Int).tmod 2) = ((k % 2 : Nat) : Int) := rfl
          rcases Nat.mod_two_eq_zero_or_one k with e | e
          · rw [if_pos e] at x0 x1 x2 x3 x4
            rw [e] at e2
            have y0 := cell_later hbr x0
            have y1 := cell_later hbr x1
            have y2 := cell_later hbr x2
            have y3 := cell_later hbr x3
            have y4 := cell_later hbr x4
            clear x0 x1 x2 x3 x4
            simp only [obM, List.length_nil] at y0 y1 y2 y3 y4
            go_upto_region 10 with fail
            have hbx := hbr.alloc hbr.size (.cells #[.int .u64 0, .int .i64 (-7701), .int .i64 0, .slice A3 0 c3, .slice A4 0 c4] 59 (0, 0))
            have hX := blk_new wr (.cells #[.int .u64 0, .int .i64 (-7701), .int .i64 0, .slice A3 0 c3, .slice A4 0 c4] 59 (0, 0))
            have bx := (Below.refl wr.heap.size wr).alloc (Nat.le_refl _) (.cells #[.int .u64 0, .int .i64 (-7701), .int .i64 0, .slice A3 0 c3, .slice A4 0 c4] 59 (0, 0))
            generalize wr.alloc _ = wx at *
            clear q1 p0 p1 p2 p3 p4 p5 p6 p7 p8 p9 y0 y1 y2 y3 y4
            obtain ⟨q1, p0, p1, p2, p3, p4, p5, p6, p7, p8, p9⟩ := FC.out _ hbx
            go_upto_region 11 with fail
            have hby := hbx.alloc hbx.size (.cells #[.int .u64 0, .int .i64 (-7701), .int .i64 0, .slice none 0 0, .slice none 0 0] 59 (0, 0))
            have hY := blk_new wx (.cells #[.int .u64 0, .int .i64 (-7701), .int .i64 0, .slice none 0 0, .slice none 0 0] 59 (0, 0))
            have hX' := box_keep hX ((Below.refl wx.heap.size wx).alloc (Nat.le_refl _) (.cells #[.int .u64 0, .int .i64 (-7701), .int .i64 0, .slice none 0 0, .slice none 0 0] 59 (0, 0)))
            generalize wx.alloc _ = wy at *
            have t1 : wy.cell? ⟨wr.heap.size, 1, none⟩ = some (.int .i64 (-7701)) := (blk_at hX').1 1
            have t3 : wy.cell? ⟨wr.heap.size, 3, none⟩ = some (.slice A3 0 c3) := (blk_at hX').1 3
            have t5 : wy.cell? ⟨wx.heap.size, 1, none⟩ = some (.int .i64 (-7701)) := (blk_at hY).1 1
            go_wp2_with fail
            exact ⟨⟨k + 1, by omega, by simp, hby⟩, by simp [intOf]; omega⟩
          · rw [if_neg (by omega)] at x0 x1 x2 x3 x4
            rw [e] at e2
            have y0 := cell_later hbr x0
            have y1 := cell_later hbr x1
            have y2 := cell_later hbr x2
            have y3 := cell_later hbr x3
            have y4 := cell_later hbr x4
            clear x0 x1 x2 x3 x4
            simp only [obM, List.length_nil] at y0 y1 y2 y3 y4
            go_upto_region 10 with fail
            have hbx := hbr.alloc hbr.size (.cells #[.int .u64 0, .int .i64 (-7702), .int .i64 0, .slice A3 0 c3, .slice A4 0 c4] 59 (0, 0))
            have hX := blk_new wr (.cells #[.int .u64 0, .int .i64 (-7702), .int .i64 0, .slice A3 0 c3, .slice A4 0 c4] 59 (0, 0))
            have bx := (Below.refl wr.heap.size wr).alloc (Nat.le_refl _) (.cells #[.int .u64 0, .int .i64 (-7702), .int .i64 0, .slice A3 0 c3, .slice A4 0 c4] 59 (0, 0))
            generalize wr.alloc _ = wx at *
            clear q1 p0 p1 p2 p3 p4 p5 p6 p7 p8 p9 y0 y1 y2 y3 y4
            obtain ⟨q1, p0, p1, p2, p3, p4, p5, p6, p7, p8, p9⟩ := FC.out _ hbx
            go_upto_region 11 with fail
            have hby := hbx.alloc hbx.size (.cells #[.int .u64 0, .int .i64 (-7702), .int .i64 0, .slice none 0 0, .slice none 0 0] 59 (0, 0))
            have hY := blk_new wx (.cells #[.int .u64 0, .int .i64 (-7702), .int .i64 0, .slice none 0 0, .slice none 0 0] 59 (0, 0))
            have hX' := box_keep hX ((Below.refl wx.heap.size wx).alloc (Nat.le_refl _) (.cells #[.int .u64 0, .int .i64 (-7702), .int .i64 0, .slice none 0 0, .slice none 0 0] 59 (0, 0)))
            generalize wx.alloc _ = wy at *
            have t1 : wy.cell? ⟨wr.heap.size, 1, none⟩ = some (.int .i64 (-7702)) := (blk_at hX').1 1
            have t3 : wy.cell? ⟨wr.heap.size, 3, none⟩ = some (.slice A3 0 c3) := (blk_at hX').1 3
            have t5 : wy.cell? ⟨wx.heap.size, 1, none⟩ = some (.int .i64 (-7702)) := (blk_at hY).1 1
            go_wp2_with fail
            exact ⟨⟨k + 1, by omega, by simp, hby⟩, by simp [intOf]; omega⟩
        · have dk : decide ((k : Int) < 8) = false := decide_eq_false (by omega)
          go_wp2_with fail
          exact ⟨⟨i + 1, by omega, by simp, hbr⟩, by simp [intOf]; omega⟩
    · have dlt : decide ((i : Int) < (xs.length : Int)) = false := decide_eq_false (by omega)
      go_wp2_with fail
      go_ret
      exact ⟨rfl, hbA.trans (hbr.mono (by omega))⟩
end Go.Proofs.YtogpgkoelplknaaDoor
end
section
/- middenroom: Hold. No condition. -/

namespace Go.Proofs.YtogpgkoelplknaaDoor
open Go.RowKit Go.BigFrame PLensPaths Go.Proofs.YtogpgkoelplknaaDoorW.PrintWords Go.Proofs.YtogpgkoelplknaaDoorW.PrintMore
set_option linter.unusedVariables false
set_option maxRecDepth 100000 in
set_option maxHeartbeats 8000000 in
theorem holdBytes_true (w : World) (B r : Nat) (V : Nat → Value) (N : Nat) (ex : Nat → Prop) (hr : RoomAt w B r V N ex) :
    Calls Tryd.prog 48 #[.pointer (some ⟨r, 0, none⟩)] w fun e w' => e = .returned (.bool true) ∧ Below w.heap.size w w' := by
  have hbox := hr.box
  have rr := blk_lt hbox
  clear hr
  have hb0 : ∀ o : Obj, Below w.heap.size w (w.alloc o) := fun o => (Below.refl _ _).alloc (Nat.le_refl _) o
  go_enter Tryd.func48, Tryd.ntmps48
  go_upto_region 2 with fail
  generalize hA : w.alloc _ = wA
  have hb : Below w.heap.size w wA := by rw [← hA]; exact hb0 _
  clear hA hb0
  have k1 : wA.cell? ⟨r, 0, none⟩ = some (.slice none 0 0) := (blk_at (box_keep hbox hb)).1 0
  go_wp2_with fail
  go_loopw [4] (fun iv wx => iv = .int .i64 0 ∧ wx = wA) (fun iv _ => 0)
  case atStart => exact ⟨rfl, rfl⟩
  case round =>
    obtain ⟨rfl, rfl⟩ := hrel
    go_wp2_with fail
    go_ret
    exact ⟨rfl, hb⟩
set_option maxRecDepth 100000 in
set_option maxHeartbeats 8000000 in
theorem holdTexts_true (w : World) (B r : Nat) (V : Nat → Value) (N : Nat) (ex : Nat → Prop) (hr : RoomAt w B r V N ex) :
    Calls Tryd.prog 51 #[.pointer (some ⟨r, 0, none⟩)] w fun e w' => e = .returned (.bool true) ∧ Below w.heap.size w w' := by
  have hbox := hr.box
  have rr := blk_lt hbox
  clear hr
  have hb0 : ∀ o : Obj, Below w.heap.size w (w.alloc o) := fun o => (Below.refl _ _).alloc (Nat.le_refl _) o
  go_enter Tryd.func51, Tryd.ntmps51
  go_upto_region 2 with fail
  generalize hA : w.alloc _ = wA
  have hb : Below w.heap.size w wA := by rw [← hA]; exact hb0 _
  clear hA hb0
  have k1 : wA.cell? ⟨r, 3, none⟩ = some (.slice none 0 0) := (blk_at (box_keep hbox hb)).1 3
  go_wp2_with fail
  go_loopw [4] (fun iv wx => iv = .int .i64 0 ∧ wx = wA) (fun iv _ => 0)
  case atStart => exact ⟨rfl, rfl⟩
  case round =>
    obtain ⟨rfl, rfl⟩ := hrel
    go_wp2_with fail
    go_ret
    exact ⟨rfl, hb⟩
set_option maxRecDepth 100000 in
set_option maxHeartbeats 8000000 in
theorem holdOps_true (w : World) (B r : Nat) (V : Nat → Value) (N : Nat) (ex : Nat → Prop) (hr : RoomAt w B r V N ex) :
    Calls Tryd.prog 52 #[.pointer (some ⟨r, 0, none⟩)] w fun e w' => e = .returned (.bool true) ∧ Below w.heap.size w w' := by
  have hbox := hr.box
  have rr := blk_lt hbox
  clear hr
  have hb0 : ∀ o : Obj, Below w.heap.size w (w.alloc o) := fun o => (Below.refl _ _).alloc (Nat.le_refl _) o
  go_enter Tryd.func52, Tryd.ntmps52
  go_upto_region 2 with fail
  generalize hA : w.alloc _ = wA
  have hb : Below w.heap.size w wA := by rw [← hA]; exact hb0 _
  clear hA hb0
  have k1 : wA.cell? ⟨r, 4, none⟩ = some (.slice none 0 0) := (blk_at (box_keep hbox hb)).1 4
  go_wp2_with fail
  go_loopw [4] (fun iv wx => iv = .int .i64 0 ∧ wx = wA) (fun iv _ => 0)
  case atStart => exact ⟨rfl, rfl⟩
  case round =>
    obtain ⟨rfl, rfl⟩ := hrel
    go_wp2_with fail
    go_ret
    exact ⟨rfl, hb⟩
set_option maxRecDepth 100000 in
set_option maxHeartbeats 8000000 in
theorem hold_true (w : World) (B r : Nat) (V : Nat → Value) (N : Nat) (ex : Nat → Prop) (hr : RoomAt w B r V N ex) (hN : N ≤ 8388608) :
    Calls Tryd.prog 15 #[.pointer (some ⟨r, 0, none⟩)] w fun e w' => e = .returned (.bool true) ∧ Below w.heap.size w w' := by
  have C0 := Lib.hid (fun (W : World) (hb : Below w.heap.size w W) => holdBytes_true W B r V N ex (hr.below hb))
  have C1 := Lib.hid (fun (W : World) (hb : Below w.heap.size w W) => holdInts_true W B r V N ex (hr.below hb) hN)
  have C2 := Lib.hid (fun (W : World) (hb : Below w.heap.size w W) => holdWords_true W B r V N ex (hr.below hb) hN)
  have C3 := Lib.hid (fun (W : World) (hb : Below w.heap.size w W) => holdTexts_true W B r V N ex (hr.below hb))
  have C4 := Lib.hid (fun (W : World) (hb : Below w.heap.size w W) => holdOps_true W B r V N ex (hr.below hb))
  have C5 := Lib.hid (fun (W : World) (hb : Below w.heap.size w W) => holdIntLists_true W B r V N ex (hr.below hb) hN)
  have C6 := Lib.hid (fun (W : World) (hb : Below w.heap.size w W) => holdFrames_true W B r V N ex (hr.below hb) hN)
  have C7 := Lib.hid (fun (W : World) (hb : Below w.heap.size w W) => holdObjects_true W B r V N ex (hr.below hb) hN)
  have b0 := Below.refl w.heap.size w
  go_enter Tryd.func15, Tryd.ntmps15
  go_wp2_with (first
    | (go_at_call 48; refine (C0.out _ b0).mono ?_; rintro e w1 ⟨rfl, h1⟩; have b1 := below_then b0 b0.size h1)
    | (go_at_call 49; refine (C1.out _ b1).mono ?_; rintro e w2 ⟨rfl, h2⟩; have b2 := below_then b1 b1.size h2)
    | (go_at_call 50; refine (C2.out _ b2).mono ?_; rintro e w3 ⟨rfl, h3⟩; have b3 := below_then b2 b2.size h3)
    | (go_at_call 51; refine (C3.out _ b3).mono ?_; rintro e w4 ⟨rfl, h4⟩; have b4 := below_then b3 b3.size h4)
    | (go_at_call 52; refine (C4.out _ b4).mono ?_; rintro e w5 ⟨rfl, h5⟩; have b5 := below_then b4 b4.size h5)
    | (go_at_call 53; refine (C5.out _ b5).mono ?_; rintro e w6 ⟨rfl, h6⟩; have b6 := below_then b5 b5.size h6)
    | (go_at_call 54; refine (C6.out _ b6).mono ?_; rintro e w7 ⟨rfl, h7⟩; have b7 := below_then b6 b6.size h7)
    | (go_at_call 55; refine (C7.out _ b7).mono ?_; rintro e w8 ⟨rfl, h8⟩; have b8 := below_then b7 b7.size h8))
  go_ret
  exact ⟨rfl, b8⟩
end Go.Proofs.YtogpgkoelplknaaDoor
end
section
/- middenlaw17: same and sameWords of equal lists; sameGraph of one graph at two places. No condition. -/


namespace Go.Proofs.YtogpgkoelplknaaDoor
open Go.RowKit Go.BigFrame PLensPaths Go.Proofs.YtogpgkoelplknaaDoorW.PrintWords Go.Proofs.YtogpgkoelplknaaDoorW.PrintMore
set_option linter.unusedVariables false
theorem same_ev (l : List Int) (hl : l.length ≤ 4194304) : Ev (fun k => middenlaw17_same.f k l l) true := by
  have key : ∀ (d i : Nat), i + d = l.length → Ev (fun k => middenlaw17_same.l0 k l l (i : Int)) true := by
    intro d
    induction d with
    | zero =>
      intro i hi
      exact Ev.step (fun k => by rw [middenlaw17_same.l0, if_neg (by omega)]) (Ev.now _)
    | succ d ih =>
      intro i hi
      exact Ev.step (fun k => by rw [middenlaw17_same.l0, if_pos (by omega), if_pos (by omega), if_pos (by omega), if_pos rfl, wrap_up (by omega)]) (by simpa using ih (i + 1) (by omega))
  have := key l.length 0 (by omega)
  simpa [middenlaw17_same.f] using this
theorem sameWords_ev (l : List Int) (hl : l.length ≤ 4194304) : Ev (fun k => middenlaw17_sameWords.f k l l) true := by
  have key : ∀ (d i : Nat), i + d = l.length → Ev (fun k => middenlaw17_sameWords.l0 k l l (i : Int)) true := by
    intro d
    induction d with
    | zero =>
      intro i hi
      exact Ev.step (fun k => by rw [middenlaw17_sameWords.l0, if_neg (by omega)]) (Ev.now _)
    | succ d ih =>
      intro i hi
      exact Ev.step (fun k => by rw [middenlaw17_sameWords.l0, if_pos (by omega), if_pos (by omega), if_pos (by omega), if_pos rfl, wrap_up (by omega)]) (by simpa using ih (i + 1) (by omega))
  have := key l.length 0 (by omega)
  simpa [middenlaw17_sameWords.f] using this
theorem same_q (A : Option Addr) (c : Nat) (A' : Option Addr) (c' : Nat) (l : List Int) (w : World) (h : Kd.C (Kd.int .i64) w A l.length l) (hc : l.length ≤ c) (h' : Kd.C (Kd.int .i64) w A' l.length l) (hc' : l.length ≤ c') (hl : l.length ≤ 4194304) :
    Calls Tryd.prog 13 #[.slice A l.length c, .slice A' l.length c'] w fun e w' => e = .returned (.bool true) ∧ ∃ m, w' = w.drewN m := by
  obtain ⟨k, hk⟩ := (same_ev l hl).rounds
  exact (middenlaw17_same.calls k A c l A' c' l _ w h hc h' hc' hk).mono fun e w' h => ⟨h.1, h.2.out⟩
theorem sameWords_q (A : Option Addr) (c : Nat) (A' : Option Addr) (c' : Nat) (l : List Int) (w : World) (h : Kd.C (Kd.int .u64) w A l.length l) (hc : l.length ≤ c) (h' : Kd.C (Kd.int .u64) w A' l.length l) (hc' : l.length ≤ c') (hl : l.length ≤ 4194304) :
    Calls Tryd.prog 47 #[.slice A l.length c, .slice A' l.length c'] w fun e w' => e = .returned (.bool true) ∧ ∃ m, w' = w.drewN m := by
  obtain ⟨k, hk⟩ := (sameWords_ev l hl).rounds
  exact (middenlaw17_sameWords.calls k A c l A' c' l _ w h hc h' hc' hk).mono fun e w' h => ⟨h.1, h.2.out⟩
theorem same_b {w0 : World} (A : Option Addr) (c : Nat) (A' : Option Addr) (c' : Nat) (l : List Int) (w : World) (hb : Below w0.heap.size w0 w) (h : Kd.C (Kd.int .i64) w0 A l.length l) (hc : l.length ≤ c) (h' : Kd.C (Kd.int .i64) w0 A' l.length l) (hc' : l.length ≤ c') (hl : l.length ≤ 4194304) :
    Calls Tryd.prog 13 #[.slice A l.length c, .slice A' l.length c'] w fun e w' => e = .returned (.bool true) ∧ Below w0.heap.size w0 w' :=
  (same_q A c A' c' l w (Kd.C_below h hb) hc (Kd.C_below h' hb) hc' hl).mono fun e w' q => ⟨q.1, by obtain ⟨m, rfl⟩ := q.2; exact below_drN hb m⟩
theorem two_new (W : World) (o1 o2 : Obj) : ((W.alloc o1).alloc o2).drew.heap[W.heap.size]? = some o1 ∧ ((W.alloc o1).alloc o2).drew.heap[W.heap.size + 1]? = some o2 := by
  have h2 := blk_new (W.alloc o1) o2
  rw [alloc_sz] at h2
  have s1 := alloc_sz W o1
  exact ⟨(((Below.refl (W.alloc o1).heap.size (W.alloc o1)).alloc (Nat.le_refl _) o2).block W.heap.size (by omega)).trans (blk_new W o1), h2⟩
theorem two_below {B : Nat} {w W : World} (h : Below B w W) (hB : B ≤ W.heap.size) (o1 o2 : Obj) : Below B w ((W.alloc o1).alloc o2).drew := ((h.alloc hB o1).alloc (by rw [alloc_sz]; omega) o2).drew
theorem sameWords_b {w0 : World} (A : Option Addr) (c : Nat) (A' : Option Addr) (c' : Nat) (l : List Int) (w : World) (hb : Below w0.heap.size w0 w) (h : Kd.C (Kd.int .u64) w0 A l.length l) (hc : l.length ≤ c) (h' : Kd.C (Kd.int .u64) w0 A' l.length l) (hc' : l.length ≤ c') (hl : l.length ≤ 4194304) :
    Calls Tryd.prog 47 #[.slice A l.length c, .slice A' l.length c'] w fun e w' => e = .returned (.bool true) ∧ Below w.heap.size w w' :=
  (sameWords_q A c A' c' l w (Kd.C_below h hb) hc (Kd.C_below h' hb) hc' hl).mono fun e w' q => ⟨q.1, by obtain ⟨m, rfl⟩ := q.2; exact below_drN (Below.refl _ _) m⟩
theorem same_c {w0 : World} (A : Option Addr) (c : Nat) (A' : Option Addr) (c' : Nat) (l : List Int) (w : World) (hb : Below w0.heap.size w0 w) (h : Kd.C (Kd.int .i64) w0 A l.length l) (hc : l.length ≤ c) (h' : Kd.C (Kd.int .i64) w0 A' l.length l) (hc' : l.length ≤ c') (hl : l.length ≤ 4194304) :
    Calls Tryd.prog 13 #[.slice A l.length c, .slice A' l.length c'] w fun e w' => e = .returned (.bool true) ∧ Below w.heap.size w w' :=
  (same_q A c A' c' l w (Kd.C_below h hb) hc (Kd.C_below h' hb) hc' hl).mono fun e w' q => ⟨q.1, by obtain ⟨m, rfl⟩ := q.2; exact below_drN (Below.refl _ _) m⟩
set_option maxRecDepth 100000 in
set_option maxHeartbeats 16000000 in
theorem sameGraph_q (ga gb : Gv) (G : Gr) (w : World) (ha : GAt w ga G) (hb : GAt w gb G) (bd : G.Bd) (fb : FrBd G) :
    Calls Tryd.prog 14 #[gval ga G, gval gb G] w fun e w' => e = .returned (.bool true) ∧ Below w.heap.size w w' := by
  obtain ⟨A0, A1, A2, A3, A4, c0, c1, c2, c3, c4⟩ := ga
  obtain ⟨B0, B1, B2, B3, B4, d0, d1, d2, d3, d4⟩ := gb
  have hn := bd.n
  have hm := bd.m
  have BX := boxed ha
  unfold gval gcells
  unfold gcells at BX
  simp only at BX ⊢
  go_enter Tryd.func14, Tryd.ntmps14
  go_upto_region 1 with fail
  obtain ⟨hX, hB, lA, hA⟩ := BX
  generalize hwB : w.alloc (.cells #[.slice A0 G.obs.length c0, .slice A1 G.slots.length c1, .slice A2 G.hands.length c2, .slice A3 G.reg.length c3, .slice A4 G.queue.length c4, .int .u64 G.next] 27) = wB at *
  have s1 : wB.heap.size = w.heap.size + 1 := by rw [← hwB]; exact alloc_sz _ _
  clear hwB
  have hY := blk_new wB (.cells #[.slice B0 G.obs.length d0, .slice B1 G.slots.length d1, .slice B2 G.hands.length d2, .slice B3 G.reg.length d3, .slice B4 G.queue.length d4, .int .u64 G.next] 27 (0, 0))
  have hB2 := (Below.refl wB.heap.size wB).alloc (Nat.le_refl _) (.cells #[.slice B0 G.obs.length d0, .slice B1 G.slots.length d1, .slice B2 G.hands.length d2, .slice B3 G.reg.length d3, .slice B4 G.queue.length d4, .int .u64 G.next] 27 (0, 0))
  have s2 := alloc_sz wB (.cells #[.slice B0 G.obs.length d0, .slice B1 G.slots.length d1, .slice B2 G.hands.length d2, .slice B3 G.reg.length d3, .slice B4 G.queue.length d4, .int .u64 G.next] 27 (0, 0))
  generalize wB.alloc _ = wC at *
  have hX2 := box_keep hX hB2
  have hA2 := hA.below hB2
  have hb2 := (hb.below hB).below hB2
  have hBC := below_then hB hB.size hB2
  rw [s1] at hY s2
  clear hX hB hA hB2 ha hb lA
  have FC := Lib.hid (fun (W : World) (hb : Below wC.heap.size wC W) => (by
    have q1 := (blk_at (box_keep hX2 hb)).1
    have q2 := (blk_at (box_keep hY hb)).1
    exact ⟨q1 0, q1 1, q1 2, q1 3, q1 4, q1 5, q2 0, q2 1, q2 2, q2 3, q2 4, q2 5⟩ : W.cell? ⟨w.heap.size, 0, none⟩ = some (.slice A0 G.obs.length c0) ∧ W.cell? ⟨w.heap.size, 1, none⟩ = some (.slice A1 G.slots.length c1) ∧ W.cell? ⟨w.heap.size, 2, none⟩ = some (.slice A2 G.hands.length c2) ∧ W.cell? ⟨w.heap.size, 3, none⟩ = some (.slice A3 G.reg.length c3) ∧ W.cell? ⟨w.heap.size, 4, none⟩ = some (.slice A4 G.queue.length c4) ∧ W.cell? ⟨w.heap.size, 5, none⟩ = some (.int .u64 G.next) ∧ W.cell? ⟨w.heap.size + 1, 0, none⟩ = some (.slice B0 G.obs.length d0) ∧ W.cell? ⟨w.heap.size + 1, 1, none⟩ = some (.slice B1 G.slots.length d1) ∧ W.cell? ⟨w.heap.size + 1, 2, none⟩ = some (.slice B2 G.hands.length d2) ∧ W.cell? ⟨w.heap.size + 1, 3, none⟩ = some (.slice B3 G.reg.length d3) ∧ W.cell? ⟨w.heap.size + 1, 4, none⟩ = some (.slice B4 G.queue.length d4) ∧ W.cell? ⟨w.heap.size + 1, 5, none⟩ = some (.int .u64 G.next)))
  have S2 := Lib.hid (fun (W : World) (h : Below wC.heap.size wC W) => same_b A2 c2 B2 d2 G.hands W h hA2.r2 hA2.l2 hb2.r2 hb2.l2 (by have := bd.h; omega))
  have S3 := Lib.hid (fun (W : World) (h : Below wC.heap.size wC W) => same_b A3 c3 B3 d3 G.reg W h hA2.r3 hA2.l3 hb2.r3 hb2.l3 (by have := bd.r; omega))
  have S4 := Lib.hid (fun (W : World) (h : Below wC.heap.size wC W) => same_b A4 c4 B4 d4 G.queue W h hA2.r4 hA2.l4 hb2.r4 hb2.l4 (by have := bd.q; omega))
  have b0 := Below.refl wC.heap.size wC
  obtain ⟨k0, k1, k2, k3, k4, k5, j0, j1, j2, j3, j4, j5⟩ := FC.out _ b0
  go_wp2_with (first
    | (go_at_call 13; refine (S4.out _ b2).mono ?_; rintro e w3 ⟨rfl, b3⟩; obtain ⟨k0, k1, k2, k3, k4, k5, j0, j1, j2, j3, j4, j5⟩ := FC.out _ b3)
    | (go_at_call 13; refine (S3.out _ b1).mono ?_; rintro e w2 ⟨rfl, b2⟩; obtain ⟨k0, k1, k2, k3, k4, k5, j0, j1, j2, j3, j4, j5⟩ := FC.out _ b2)
    | (go_at_call 13; refine (S2.out _ b0).mono ?_; rintro e w1 ⟨rfl, b1⟩; obtain ⟨k0, k1, k2, k3, k4, k5, j0, j1, j2, j3, j4, j5⟩ := FC.out _ b1))
  clear k0 k1 k2 k3 k4 k5 j0 j1 j2 j3 j4 j5 b0 b1 b2 S2 S3 S4
  go_loopw [5] (fun iv wx => ∃ i : Nat, i ≤ G.obs.length ∧ iv = .int .i64 i ∧ Below wC.heap.size wC wx) (fun iv _ => G.obs.length - (intOf iv).toNat)
  case atStart => exact ⟨0, by omega, rfl, b3⟩
  case round =>
    clear b3
    obtain ⟨i, hi, rfl, hbr⟩ := hrel
    obtain ⟨k0, k1, -, -, -, -, j0, j1, -⟩ := FC.out _ hbr
    by_cases hlt : i < G.obs.length
    · have dlt : decide ((i : Int) < (G.obs.length : Int)) = true := decide_eq_true (by omega)
      have i0 : (0 : Int) ≤ (i : Int) := by omega
      have i1 : (i : Int) < (G.obs.length : Int) := by omega
      obtain ⟨hq3, hq4⟩ := bd.i64 _ (getD_mem default hlt)
      obtain ⟨ad, A3, c3, A4, c4, ea, x0, x1, x2, x3, x4, l3, hC3, l4, hC4⟩ := ob_at hA2.r0 i hlt
      obtain ⟨bd', B3, d3, B4, d4, eb, y0, y1, y2, y3, y4, m3, hD3, m4, hD4⟩ := ob_at hb2.r0 i hlt
      simp only at ea eb
      subst ea eb
      generalize G.obs.getD i default = o at *
      obtain ⟨f0, f1, f2, f3, f4⟩ := o
      simp only at *
      have OC := Lib.hid (fun (W : World) (hb : Below wC.heap.size wC W) => (⟨cell_later hb x0, cell_later hb x1, cell_later hb x2, cell_later hb x3, cell_later hb x4, cell_later hb y0, cell_later hb y1, cell_later hb y2, cell_later hb y3, cell_later hb y4⟩ : W.cell? (ad.add (i * 5)) = some (.int .u64 f0) ∧ W.cell? ⟨(ad.add (i * 5)).block, (ad.add (i * 5)).off + 1, none⟩ = some (.int .i64 f1) ∧ W.cell? ⟨(ad.add (i * 5)).block, (ad.add (i * 5)).off + 2, none⟩ = some (.int .i64 f2) ∧ W.cell? ⟨(ad.add (i * 5)).block, (ad.add (i * 5)).off + 3, none⟩ = some (.slice A3 f3.length c3) ∧ W.cell? ⟨(ad.add (i * 5)).block, (ad.add (i * 5)).off + 4, none⟩ = some (.slice A4 f4.length c4) ∧ W.cell? (bd'.add (i * 5)) = some (.int .u64 f0) ∧ W.cell? ⟨(bd'.add (i * 5)).block, (bd'.add (i * 5)).off + 1, none⟩ = some (.int .i64 f1) ∧ W.cell? ⟨(bd'.add (i * 5)).block, (bd'.add (i * 5)).off + 2, none⟩ = some (.int .i64 f2) ∧ W.cell? ⟨(bd'.add (i * 5)).block, (bd'.add (i * 5)).off + 3, none⟩ = some (.slice B3 f3.length d3) ∧ W.cell? ⟨(bd'.add (i * 5)).block, (bd'.add (i * 5)).off + 4, none⟩ = some (.slice B4 f4.length d4)))
      clear x0 x1 x2 x3 x4 y0 y1 y2 y3 y4
      obtain ⟨x0, x1, x2, x3, x4, y0, y1, y2, y3, y4⟩ := OC.out _ hbr
      go_upto_region 6 with fail
      go_cut [6, 7] (fun v6 v7 wx => ∃ b6 b7 : Nat, v6 = .pointer (some ⟨b6, 0, none⟩) ∧ v7 = .pointer (some ⟨b7, 0, none⟩) ∧ wx.heap[b6]? = some (.cells #[.int .u64 f0, .int .i64 f1, .int .i64 f2, .slice A3 f3.length c3, .slice A4 f4.length c4] 59 (0, 0)) ∧ wx.heap[b7]? = some (.cells #[.int .u64 f0, .int .i64 f1, .int .i64 f2, .slice B3 f3.length d3, .slice B4 f4.length d4] 59 (0, 0)) ∧ Below wC.heap.size wC wx)
      case first =>
        have SC := Lib.hid (fun (W : World) (hb : Below wC.heap.size wC W) => (⟨(FC.out W hb).1, (FC.out W hb).2.2.2.2.2.2.1, OC.out W hb⟩ : W.cell? ⟨w.heap.size, 0, none⟩ = some (.slice (some ad) G.obs.length c0) ∧ W.cell? ⟨w.heap.size + 1, 0, none⟩ = some (.slice (some bd') G.obs.length d0) ∧ W.cell? (ad.add (i * 5)) = some (.int .u64 f0) ∧ W.cell? ⟨(ad.add (i * 5)).block, (ad.add (i * 5)).off + 1, none⟩ = some (.int .i64 f1) ∧ W.cell? ⟨(ad.add (i * 5)).block, (ad.add (i * 5)).off + 2, none⟩ = some (.int .i64 f2) ∧ W.cell? ⟨(ad.add (i * 5)).block, (ad.add (i * 5)).off + 3, none⟩ = some (.slice A3 f3.length c3) ∧ W.cell? ⟨(ad.add (i * 5)).block, (ad.add (i * 5)).off + 4, none⟩ = some (.slice A4 f4.length c4) ∧ W.cell? (bd'.add (i * 5)) = some (.int .u64 f0) ∧ W.cell? ⟨(bd'.add (i * 5)).block, (bd'.add (i * 5)).off + 1, none⟩ = some (.int .i64 f1) ∧ W.cell? ⟨(bd'.add (i * 5)).block, (bd'.add (i * 5)).off + 2, none⟩ = some (.int .i64 f2) ∧ W.cell? ⟨(bd'.add (i * 5)).block, (bd'.add (i * 5)).off + 3, none⟩ = some (.slice B3 f3.length d3) ∧ W.cell? ⟨(bd'.add (i * 5)).block, (bd'.add (i * 5)).off + 4, none⟩ = some (.slice B4 f4.length d4)))
        have hsz := hbr.size
        go_region_held3 (fun W => W.cell? ⟨w.heap.size, 0, none⟩ = some (.slice (some ad) G.obs.length c0) ∧ W.cell? ⟨w.heap.size + 1, 0, none⟩ = some (.slice (some bd') G.obs.length d0) ∧ W.cell? (ad.add (i * 5)) = some (.int .u64 f0) ∧ W.cell? ⟨(ad.add (i * 5)).block, (ad.add (i * 5)).off + 1, none⟩ = some (.int .i64 f1) ∧ W.cell? ⟨(ad.add (i * 5)).block, (ad.add (i * 5)).off + 2, none⟩ = some (.int .i64 f2) ∧ W.cell? ⟨(ad.add (i * 5)).block, (ad.add (i * 5)).off + 3, none⟩ = some (.slice A3 f3.length c3) ∧ W.cell? ⟨(ad.add (i * 5)).block, (ad.add (i * 5)).off + 4, none⟩ = some (.slice A4 f4.length c4) ∧ W.cell? (bd'.add (i * 5)) = some (.int .u64 f0) ∧ W.cell? ⟨(bd'.add (i * 5)).block, (bd'.add (i * 5)).off + 1, none⟩ = some (.int .i64 f1) ∧ W.cell? ⟨(bd'.add (i * 5)).block, (bd'.add (i * 5)).off + 2, none⟩ = some (.int .i64 f2) ∧ W.cell? ⟨(bd'.add (i * 5)).block, (bd'.add (i * 5)).off + 3, none⟩ = some (.slice B3 f3.length d3) ∧ W.cell? ⟨(bd'.add (i * 5)).block, (bd'.add (i * 5)).off + 4, none⟩ = some (.slice B4 f4.length d4))
          (exact SC.out _ (by
            repeat (first
              | exact hbr
              | refine Below.drew ?_
              | refine Below.alloc ?_ (by (try simp) <;> omega) _
              | refine Below.setCell ?_ (by (try simp) <;> omega) _)))
          (first | fail)
        · go_wp2_with fail
          go_meet
          obtain ⟨t1, t2⟩ := two_new wr (.cells #[.int .u64 f0, .int .i64 f1, .int .i64 f2, .slice A3 f3.length c3, .slice A4 f4.length c4] 59 (0, 0)) (.cells #[.int .u64 f0, .int .i64 f1, .int .i64 f2, .slice B3 f3.length d3, .slice B4 f4.length d4] 59 (0, 0))
          exact ⟨_, _, rfl, rfl, t1, t2, two_below hbr hsz _ _⟩
        · go_wp2_with fail
          go_meet
          obtain ⟨t1, t2⟩ := two_new wr (.cells #[.int .u64 f0, .int .i64 f1, .int .i64 f2, .slice B3 f3.length d3, .slice B4 f4.length d4] 59 (0, 0)) (.cells #[.int .u64 f0, .int .i64 f1, .int .i64 f2, .slice A3 f3.length c3, .slice A4 f4.length c4] 59 (0, 0))
          exact ⟨_, _, rfl, rfl, t2, t1, two_below hbr hsz _ _⟩
      case rest =>
        obtain ⟨b6, b7, rfl, rfl, hP, hQ, hbr⟩ := hcut
        clear x0 x1 x2 x3 x4 y0 y1 y2 y3 y4 k0 k1 j0 j1 OC
        have D1 := Lib.hid (fun (W : World) (h : Below wC.heap.size wC W) => same_c A3 c3 B3 d3 f3 W h hC3 l3 hD3 m3 (by omega))
        have D2 := Lib.hid (fun (W : World) (h : Below wC.heap.size wC W) => sameWords_b A4 c4 B4 d4 f4 W h hC4 l4 hD4 m4 (by omega))
        have PC := Lib.hid (fun (W : World) (h : Below wc.heap.size wc W) => (by
          have q1 := (blk_at (box_keep hP h)).1
          have q2 := (blk_at (box_keep hQ h)).1
          exact ⟨q1 0, q1 1, q1 2, q1 3, q1 4, q2 0, q2 1, q2 2, q2 3, q2 4⟩ : W.cell? ⟨b6, 0, none⟩ = some (.int .u64 f0) ∧ W.cell? ⟨b6, 1, none⟩ = some (.int .i64 f1) ∧ W.cell? ⟨b6, 2, none⟩ = some (.int .i64 f2) ∧ W.cell? ⟨b6, 3, none⟩ = some (.slice A3 f3.length c3) ∧ W.cell? ⟨b6, 4, none⟩ = some (.slice A4 f4.length c4) ∧ W.cell? ⟨b7, 0, none⟩ = some (.int .u64 f0) ∧ W.cell? ⟨b7, 1, none⟩ = some (.int .i64 f1) ∧ W.cell? ⟨b7, 2, none⟩ = some (.int .i64 f2) ∧ W.cell? ⟨b7, 3, none⟩ = some (.slice B3 f3.length d3) ∧ W.cell? ⟨b7, 4, none⟩ = some (.slice B4 f4.length d4)))
        obtain ⟨x0, x1, x2, x3, x4, y0, y1, y2, y3, y4⟩ := PC.out _ (Below.refl _ _)
        go_wp2_with (first
          | (go_at_call 13; refine (D1.out _ hbr).mono ?_; rintro e w4 ⟨rfl, b4⟩; have hb4 := below_then hbr hbr.size b4; obtain ⟨x0, x1, x2, x3, x4, y0, y1, y2, y3, y4⟩ := PC.out _ b4)
          | (go_at_call 47; refine (D2.out _ hb4).mono ?_; rintro e w5 ⟨rfl, b5⟩; have hb5 := below_then hb4 hb4.size b5))
        exact ⟨⟨i + 1, by omega, by simp, hb5⟩, by simp [intOf]; omega⟩
    · have dlt : decide ((i : Int) < (G.obs.length : Int)) = false := decide_eq_false (by omega)
      go_wp2_with fail
      clear k0 k1 j0 j1
      go_loopw [8] (fun tv wx => ∃ t : Nat, t ≤ G.slots.length ∧ tv = .int .i64 t ∧ Below wC.heap.size wC wx) (fun tv _ => G.slots.length - (intOf tv).toNat)
      case atStart => exact ⟨0, by omega, rfl, hbr⟩
      case round =>
        clear hbr
        obtain ⟨t, ht, rfl, hbr⟩ := hrel
        obtain ⟨-, k1, -, -, -, -, -, j1, -⟩ := FC.out _ hbr
        by_cases htl : t < G.slots.length
        · have dlt2 : decide ((t : Int) < (G.slots.length : Int)) = true := decide_eq_true (by omega)
          have t0 : (0 : Int) ≤ (t : Int) := by omega
          have t1 : (t : Int) < (G.slots.length : Int) := by omega
          have hm := fb _ (getD_mem [] htl)
          obtain ⟨ad, P1, p1, ea, hcA, hl1, hC1⟩ := sl_at hA2.r1 t htl
          obtain ⟨bd', Q1, q1, eb, hcB, hm1, hD1⟩ := sl_at hb2.r1 t htl
          simp only at ea eb
          subst ea eb
          generalize G.slots.getD t [] = fr at *
          obtain ⟨m1, m2, m3⟩ := hm
          have ha1 := cell_later hbr hcA
          have hb1 := cell_later hbr hcB
          go_upto_region 12 with fail
          go_quiet (fail)
          go_wp2_with fail
          clear k1 j1 ha1 hb1
          go_loopw [9] (fun fv wx => ∃ f : Nat, f ≤ fr.length ∧ fv = .int .i64 f ∧ Below wC.heap.size wC wx) (fun fv _ => fr.length - (intOf fv).toNat)
          case atStart => exact ⟨0, by omega, rfl, below_drN hbr nq⟩
          case round =>
            clear hbr
            obtain ⟨f, hf, rfl, hbr⟩ := hrel
            obtain ⟨-, k1, -, -, -, -, -, j1, -⟩ := FC.out _ hbr
            have ha1 := cell_later hbr hcA
            have hb1 := cell_later hbr hcB
            by_cases hlf : f < fr.length
            · have dlf : decide ((f : Int) < (fr.length : Int)) = true := decide_eq_true (by omega)
              have f0 : (0 : Int) ≤ (f : Int) := by omega
              have f1 : (f : Int) < (fr.length : Int) := by omega
              have hq := m3 _ (getD_mem [] hlf)
              obtain ⟨ad2, P2, p2, ea, hcP, hl2, hC2⟩ := sl_at hC1 f hlf
              obtain ⟨bd2, Q2, q2, eb, hcQ, hm2, hD2⟩ := sl_at hD1 f hlf
              subst ea eb
              have ha2 := cell_later hbr hcP
              have hb2' := cell_later hbr hcQ
              generalize fr.getD f [] = l at *
              have BQ := Lib.hid (fun n => same_q P2 p2 Q2 q2 l (wr.drewN n) (Kd.C_below hC2 (below_drN hbr n)) hl2 (Kd.C_below hD2 (below_drN hbr n)) hm2 (by omega))
              go_upto_region 17 with fail
              go_quiet ((go_at_call 13; exact Calls.quiet_of (BQ.out _)))
              go_wp2_with fail
              exact ⟨⟨f + 1, by omega, by simp, below_drN hbr nq⟩, by simp [intOf]; omega⟩
            · have dlf : decide ((f : Int) < (fr.length : Int)) = false := decide_eq_false (by omega)
              go_wp2_with fail
              exact ⟨⟨t + 1, by omega, by simp, hbr⟩, by simp [intOf]; omega⟩
        · have dlt2 : decide ((t : Int) < (G.slots.length : Int)) = false := decide_eq_false (by omega)
          go_wp2_with fail
          go_ret
          exact ⟨rfl, hBC.trans (hbr.mono (by omega))⟩
end Go.Proofs.YtogpgkoelplknaaDoor
end
