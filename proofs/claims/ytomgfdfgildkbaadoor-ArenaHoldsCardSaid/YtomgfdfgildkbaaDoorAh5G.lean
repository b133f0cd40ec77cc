/- ArenaHolds: `held`: just the things that were made are there, as they were written last. No condition. -/
import Derived.Test.YtomgfdfgildkbaaDoorAh3G
import Derived.Test.YtomgfdfgildkbaaDoorBo4G
namespace Go.Proofs.YtomgfdfgildkbaaDoor
open Go.RowKit Go.BigFrame
set_option linter.unusedVariables false
theorem Tk.over_all {most : Int} : ∀ (L : List (Int × Hd)) (a : List Int) (h : List Hd), (a.length : Int) + L.length ≤ most → (⟨a, h, 0, most, false, false⟩ : Tk).over L = ⟨a ++ L.map (·.1), h ++ L.map (·.2), 0, most, false, false⟩ := by
  intro L
  induction L with
  | nil => intro a h _; simp [Tk.over]
  | cons x l ih =>
    intro a h hl
    have e : (⟨a, h, 0, most, false, false⟩ : Tk).take x.1 x.2 = ⟨a ++ [x.1], h ++ [x.2], 0, most, false, false⟩ := by
      unfold Tk.take
      simp only [List.length_cons] at hl
      rw [if_neg (by simp)]
      have e1 : decide ((a.length : Int) + 1 = 0) = false := by rw [decide_eq_false_iff_not]; omega
      have e2 : decide (most < (a.length : Int) + 1) = false := by rw [decide_eq_false_iff_not]; omega
      rw [e1, e2]; rfl
    show (if (Tk.take _ x.1 x.2).done = true then _ else (Tk.take _ x.1 x.2).over l) = _
    rw [e, if_neg (by simp), ih _ _ (by simp only [List.length_append, List.length_cons, List.length_nil] at *; omega)]
    simp
theorem filter_split {α : Type} (p : α → Bool) (l : List α) (d : α) {i : Nat} (hi : i < l.length) : l.filter p = (l.take i).filter p ++ ((if p (l.getD i d) then [l.getD i d] else []) ++ (l.drop (i + 1)).filter p) := by
  have eq : l = l.take i ++ l.getD i d :: l.drop (i + 1) := by
    rw [List.getD_eq_getElem?_getD, List.getElem?_eq_getElem hi]
    simp
  conv => lhs; rw [eq]
  rw [List.filter_append, List.filter_cons]
  split <;> rfl
theorem filter_take_get {α : Type} (p : α → Bool) (l : List α) (d : α) {i : Nat} (hi : i < l.length) (hp : p (l.getD i d) = true) : ((l.take i).filter p).length < (l.filter p).length ∧ (l.filter p).getD ((l.take i).filter p).length d = l.getD i d := by
  have e := filter_split p l d hi
  rw [if_pos hp] at e
  generalize l.getD i d = x at *
  rw [e]
  constructor
  · simp
  · rw [List.getD_eq_getElem?_getD, List.getElem?_append_right (Nat.le_refl _)]; simp
theorem filter_take_succ {α : Type} (p : α → Bool) (l : List α) (d : α) {i : Nat} (hi : i < l.length) : ((l.take (i + 1)).filter p).length = ((l.take i).filter p).length + (if p (l.getD i d) then 1 else 0) := by
  rw [List.take_succ_eq_append_getElem hi, List.filter_append, List.length_append]
  rw [List.getD_eq_getElem?_getD, List.getElem?_eq_getElem hi]
  simp only [Option.getD_some, List.filter_cons, List.filter_nil]
  split <;> rfl
theorem getD_map' {α β : Type} (f : α → β) (l : List α) {k : Nat} (d : α) (e : β) (h : k < l.length) : (l.map f).getD k e = f (l.getD k d) := by
  rw [List.getD_eq_getElem?_getD, List.getD_eq_getElem?_getD, List.getElem?_map, List.getElem?_eq_getElem h]; rfl

set_option maxRecDepth 100000 in
set_option maxHeartbeats 16000000 in
theorem held_any (a wb B : Nat) (A : Ar) (Ls : Int → List It) (v : Value) (Q : List Gt) (w : World) (tb : Tab w) (hA : ArAt w a wb A) (ok : A.Ok) (hT : ThsAt w B wb v Q) (hH : Holds A Ls Q) (hn : Q.length ≤ 1000) (hck : chkFrom A 1 = (0, 0)) :
    Calls Tryd.prog 58 #[.pointer (some ⟨a, 0, none⟩), v] w fun e w' => e = .returned (.bool true) ∧ Below w.heap.size w w' := by
  obtain ⟨p, cap, rfl⟩ := row_form hT.row
  have OC := Lib.hid (fun (s : Int) (W : World) (hb : Below w.heap.size w W) => objects_any a wb A s 0 ((Q.length : Int) + 1) W (tb.below hb) (hA.below hb) ok)
  have HOB := Lib.hid (fun (s : Int) (hs : isSp s = true) => hH.objs ok hs)
  have HT := Lib.hid (fun (W : World) (hb : Below w.heap.size w W) => hT.below hb)
  have HPT := Lib.hid (fun (q : Gt) (hq : q ∈ Q) (k : Nat) (hk : k < q.ps.length) => hH.ptr ok hq hk)
  have HRW := Lib.hid (fun (q : Gt) (hq : q ∈ Q) (k : Nat) (hk : k < q.rs.length) => hH.raw ok hq hk)
  have PC := Lib.hid (fun (at_ i : Int) (W : World) (hb : Below w.heap.size w W) => ptr_any a wb A at_ i W (tb.below hb) (hA.below hb) ok)
  have RC := Lib.hid (fun (at_ i : Int) (W : World) (hb : Below w.heap.size w W) => raw_any a wb A at_ i W (tb.below hb) (hA.below hb) ok)
  have CC' := fun (W : World) (hb : Below w.heap.size w W) => acheck_any a wb A W (tb.below hb) (hA.below hb) ok
  rw [hck] at CC'
  have CC := Lib.hid CC'
  have SH := Lib.hid (fun (g h : Hd) (W : World) => sameHead_any g h W)
  have hl : Q.length < 1001 := by omega
  have HLI := Lib.hid (fun (q : Gt) (hq : q ∈ Q) => hH.lies ok hq)
  have b0 := Below.refl w.heap.size w
  clear CC' hck hH hT ok hA tb
  go_enter Tryd.func58, Tryd.ntmps58
  go_wp2_with fail
  go_loopw [5] (fun sv wx => ∃ s : Nat, 1 ≤ s ∧ s ≤ 5 ∧ sv = .int .i64 s ∧ Below w.heap.size w wx) (fun sv _ => 5 - (intOf sv).toNat)
  case atStart => exact ⟨1, by omega, by omega, rfl, b0⟩
  case round =>
    obtain ⟨s, hs1, hs2, rfl, hbr⟩ := hrel
    by_cases hs : s ≤ 4
    · have ds : decide ((s : Int) ≤ 4) = true := by simp; omega
      go_wp2_with fail
      have hsp : isSp s = true := by unfold isSp; rw [decide_eq_true_eq]; omega
      refine (OC.out s _ hbr).mono ?_
      rintro e w2 ⟨t, v1, v2, rfl, hK, hq⟩
      rw [HOB.out s hsp, show Tk.new 0 ((Q.length : Int) + 1) = ⟨[], [], 0, (Q.length : Int) + 1, false, false⟩ from rfl, Tk.over_all _ _ _ (by have := List.length_filter_le (inSp s) Q; simp; omega)] at hK
      simp only [List.nil_append, List.map_map] at hK
      have hb2 := hbr.trans (hq.mono hbr.size)
      have r1 := hK.r1
      have r2 := hK.r2
      simp only [List.length_map] at r1 r2
      have FG := Lib.hid (fun (i : Nat) (hi : i < Q.length) (hp : inSp s (Q.getD i gt0) = true) => filter_take_get (inSp s) Q gt0 hi hp)
      have FS := Lib.hid (fun (i : Nat) (hi : i < Q.length) => filter_take_succ (inSp s) Q gt0 hi)
      have FE : (Q.take Q.length).filter (inSp s) = Q.filter (inSp s) := by rw [List.take_length]
      have FEH := Lib.hid FE
      have fl : (Q.filter (inSp s)).length ≤ Q.length := List.length_filter_le _ _
      have fk : ∀ i, ((Q.take i).filter (inSp s)).length ≤ Q.length := fun i => Nat.le_trans (List.length_filter_le _ _) (List.length_take_le' _ _)
      have FK := Lib.hid fk
      clear FE fk
      generalize hF : Q.filter (inSp s) = F at *
      have HF := Lib.hid hF
      clear hF
      obtain ⟨p1, n1, rfl⟩ := row_form r1
      obtain ⟨p2, n2, rfl⟩ := row_form r2
      have c0 := hK.c0
      have c1 := hK.c1
      have HK := Lib.hid hK
      clear hK hq
      go_wp2_with fail
      go_loopw [8, 9] (fun kv iv wx => ∃ i : Nat, i ≤ Q.length ∧ iv = .int .i64 i ∧ kv = .int .i64 ((Q.take i).filter (inSp s)).length ∧ Below w2.heap.size w2 wx) (fun _ iv _ => Q.length - (intOf iv).toNat)
      case atStart => exact ⟨0, by omega, rfl, by simp, Below.refl _ _⟩
      case round =>
        obtain ⟨i, hi, rfl, rfl, hbi⟩ := hrel
        have hb3 := hb2.trans (hbi.mono hb2.size)
        have hTr := HT.out wr hb3
        have hKr := HK.out.below hbi
        by_cases hlt : i < Q.length
        · have dlt : decide ((i : Int) < (Q.length : Int)) = true := by simpa using hlt
          obtain ⟨g, cap', e1⟩ := hTr.form (by omega)
          cases e1
          have zc := fun j (hj : j < 11) => hTr.cell (i := i) hlt hj
          have hS := FS.out i hlt
          have hG := FG.out i hlt
          generalize hq : Q.getD i gt0 = q at *
          have HQ := Lib.hid hq
          clear hq
          generalize hkk : ((Q.take i).filter (inSp s)).length = k at *
          have HKK := Lib.hid hkk
          clear hkk
          obtain ⟨qat, qsp, ⟨x0, x1, x2, x3, x4, x5, x6⟩, ps, rs, pb, rb⟩ := q
          have i0 : (0 : Int) ≤ (i : Int) := Int.natCast_nonneg _
          have i1 : (i : Int) < (Q.length : Int) := by omega
          have z0 : wr.cell? ⟨g, i * 11, none⟩ = some (.int .i64 qat) := zc 0 (by decide)
          have z1 : wr.cell? ⟨g, i * 11 + 1, none⟩ = some (.int .i64 qsp) := zc 1 (by decide)
          have z2 : wr.cell? ⟨g, i * 11 + 2, none⟩ = some (.int .u64 x0) := zc 2 (by decide)
          have z3 : wr.cell? ⟨g, i * 11 + 3, none⟩ = some (.int .i64 x1) := zc 3 (by decide)
          have z4 : wr.cell? ⟨g, i * 11 + 4, none⟩ = some (.int .i64 x2) := zc 4 (by decide)
          have z5 : wr.cell? ⟨g, i * 11 + 5, none⟩ = some (.int .i64 x3) := zc 5 (by decide)
          have z6 : wr.cell? ⟨g, i * 11 + 6, none⟩ = some (.int .i64 x4) := zc 6 (by decide)
          have z7 : wr.cell? ⟨g, i * 11 + 7, none⟩ = some (.int .i64 x5) := zc 7 (by decide)
          have z8 : wr.cell? ⟨g, i * 11 + 8, none⟩ = some (.bool x6) := zc 8 (by decide)
          clear zc hTr
          by_cases e : qsp = s
          · subst e
            have dsp : ((s : Int) != (s : Int)) = false := by simp
            obtain ⟨hk1, hk2⟩ := hG (by simp [inSp])
            have r1' := hKr.r1
            have r2' := hKr.r2
            simp only [List.length_map] at r1' r2'
            obtain ⟨g1, cp1, e1, -, -⟩ := r1'.form (by omega)
            obtain ⟨g2, cp2, e2, -, -⟩ := r2'.form (by omega)
            cases e1
            cases e2
            have a1 := row_int r1' (i := k) (by simpa using hk1)
            have b := fun j (hj : j < 7) => row_hd r2' (i := k) (by simpa using hk1) hj (by simp)
            rw [getD_map' _ _ gt0 0 hk1] at a1
            rw [getD_map' _ _ gt0 nohd hk1] at b
            simp only [Function.comp_def] at a1 b
            rw [hk2] at a1 b
            have c0 : wr.cell? ⟨t, 0, none⟩ = _ := hKr.c0
            have c1 : wr.cell? ⟨t, 1, none⟩ = _ := hKr.c1
            have k0 : (0 : Int) ≤ (k : Int) := Int.natCast_nonneg _
            have k1 : (k : Int) < (F.length : Int) := by omega
            have dge : decide (F.length ≤ k) = false := by rw [decide_eq_false_iff_not]; omega
            have dg2 : decide ((F.length : Int) ≤ (k : Int)) = false := by rw [decide_eq_false_iff_not]; omega
            have b0 : wr.cell? ⟨g2, k * 7, none⟩ = some (.int .u64 x0) := b 0 (by decide)
            have b1 : wr.cell? ⟨g2, k * 7 + 1, none⟩ = some (.int .i64 x1) := b 1 (by decide)
            have b2 : wr.cell? ⟨g2, k * 7 + 2, none⟩ = some (.int .i64 x2) := b 2 (by decide)
            have b3 : wr.cell? ⟨g2, k * 7 + 3, none⟩ = some (.int .i64 x3) := b 3 (by decide)
            have b4 : wr.cell? ⟨g2, k * 7 + 4, none⟩ = some (.int .i64 x4) := b 4 (by decide)
            have b5 : wr.cell? ⟨g2, k * 7 + 5, none⟩ = some (.int .i64 x5) := b 5 (by decide)
            have b6 : wr.cell? ⟨g2, k * 7 + 6, none⟩ = some (.bool x6) := b 6 (by decide)
            clear b hKr r1' r2' hG hk1 hk2
            rw [if_pos (by simp [inSp])] at hS
            have HS := Lib.hid hS
            clear hS r1 r2
            have KEEP := Lib.hid (fun (W : World) (hb : Below wr.heap.size wr W) => (⟨(hb.cell (p := ⟨t, 0, none⟩) (World.block_lt_of_cell? wr ⟨t, 0, none⟩ c0)).trans c0, (hb.cell (p := ⟨t, 1, none⟩) (World.block_lt_of_cell? wr ⟨t, 1, none⟩ c1)).trans c1, (hb.cell (p := ⟨g1, k, none⟩) (World.block_lt_of_cell? wr ⟨g1, k, none⟩ a1)).trans a1, (hb.cell (p := ⟨g2, k * 7, none⟩) (World.block_lt_of_cell? wr ⟨g2, k * 7, none⟩ b0)).trans b0, (hb.cell (p := ⟨g2, k * 7 + 1, none⟩) (World.block_lt_of_cell? wr ⟨g2, k * 7 + 1, none⟩ b1)).trans b1, (hb.cell (p := ⟨g2, k * 7 + 2, none⟩) (World.block_lt_of_cell? wr ⟨g2, k * 7 + 2, none⟩ b2)).trans b2, (hb.cell (p := ⟨g2, k * 7 + 3, none⟩) (World.block_lt_of_cell? wr ⟨g2, k * 7 + 3, none⟩ b3)).trans b3, (hb.cell (p := ⟨g2, k * 7 + 4, none⟩) (World.block_lt_of_cell? wr ⟨g2, k * 7 + 4, none⟩ b4)).trans b4, (hb.cell (p := ⟨g2, k * 7 + 5, none⟩) (World.block_lt_of_cell? wr ⟨g2, k * 7 + 5, none⟩ b5)).trans b5, (hb.cell (p := ⟨g2, k * 7 + 6, none⟩) (World.block_lt_of_cell? wr ⟨g2, k * 7 + 6, none⟩ b6)).trans b6, (hb.cell (p := ⟨g, i * 11, none⟩) (World.block_lt_of_cell? wr ⟨g, i * 11, none⟩ z0)).trans z0, (hb.cell (p := ⟨g, i * 11 + 2, none⟩) (World.block_lt_of_cell? wr ⟨g, i * 11 + 2, none⟩ z2)).trans z2, (hb.cell (p := ⟨g, i * 11 + 3, none⟩) (World.block_lt_of_cell? wr ⟨g, i * 11 + 3, none⟩ z3)).trans z3, (hb.cell (p := ⟨g, i * 11 + 4, none⟩) (World.block_lt_of_cell? wr ⟨g, i * 11 + 4, none⟩ z4)).trans z4, (hb.cell (p := ⟨g, i * 11 + 5, none⟩) (World.block_lt_of_cell? wr ⟨g, i * 11 + 5, none⟩ z5)).trans z5, (hb.cell (p := ⟨g, i * 11 + 6, none⟩) (World.block_lt_of_cell? wr ⟨g, i * 11 + 6, none⟩ z6)).trans z6, (hb.cell (p := ⟨g, i * 11 + 7, none⟩) (World.block_lt_of_cell? wr ⟨g, i * 11 + 7, none⟩ z7)).trans z7, (hb.cell (p := ⟨g, i * 11 + 8, none⟩) (World.block_lt_of_cell? wr ⟨g, i * 11 + 8, none⟩ z8)).trans z8, hb⟩ : W.cell? ⟨t, 0, none⟩ = some (.slice (some ⟨g1, 0, none⟩) F.length n1) ∧ W.cell? ⟨t, 1, none⟩ = some (.slice (some ⟨g2, 0, none⟩) F.length n2) ∧ W.cell? ⟨g1, k, none⟩ = some (.int .i64 qat) ∧ W.cell? ⟨g2, k * 7, none⟩ = some (.int .u64 x0) ∧ W.cell? ⟨g2, k * 7 + 1, none⟩ = some (.int .i64 x1) ∧ W.cell? ⟨g2, k * 7 + 2, none⟩ = some (.int .i64 x2) ∧ W.cell? ⟨g2, k * 7 + 3, none⟩ = some (.int .i64 x3) ∧ W.cell? ⟨g2, k * 7 + 4, none⟩ = some (.int .i64 x4) ∧ W.cell? ⟨g2, k * 7 + 5, none⟩ = some (.int .i64 x5) ∧ W.cell? ⟨g2, k * 7 + 6, none⟩ = some (.bool x6) ∧ W.cell? ⟨g, i * 11, none⟩ = some (.int .i64 qat) ∧ W.cell? ⟨g, i * 11 + 2, none⟩ = some (.int .u64 x0) ∧ W.cell? ⟨g, i * 11 + 3, none⟩ = some (.int .i64 x1) ∧ W.cell? ⟨g, i * 11 + 4, none⟩ = some (.int .i64 x2) ∧ W.cell? ⟨g, i * 11 + 5, none⟩ = some (.int .i64 x3) ∧ W.cell? ⟨g, i * 11 + 6, none⟩ = some (.int .i64 x4) ∧ W.cell? ⟨g, i * 11 + 7, none⟩ = some (.int .i64 x5) ∧ W.cell? ⟨g, i * 11 + 8, none⟩ = some (.bool x6) ∧ Below wr.heap.size wr W))
            have SHW := Lib.hid (fun (W : World) (hb : Below wr.heap.size wr W) => (SH.out ⟨x0, x1, x2, x3, x4, x5, x6⟩ ⟨x0, x1, x2, x3, x4, x5, x6⟩ W).mono (R' := fun e w' => e = .returned (.bool true) ∧ Below wr.heap.size wr w') fun e w' ⟨h1, h2⟩ => ⟨h1.trans (by rw [hdEq_iff.2 rfl]), hb.trans (h2.mono hb.size)⟩)
            unfold Hd.val at SHW
            simp only at SHW
            go_upto_region 12 with fail
            go_region_held3 (fun W => W.cell? ⟨t, 0, none⟩ = some (.slice (some ⟨g1, 0, none⟩) F.length n1) ∧ W.cell? ⟨t, 1, none⟩ = some (.slice (some ⟨g2, 0, none⟩) F.length n2) ∧ W.cell? ⟨g1, k, none⟩ = some (.int .i64 qat) ∧ W.cell? ⟨g2, k * 7, none⟩ = some (.int .u64 x0) ∧ W.cell? ⟨g2, k * 7 + 1, none⟩ = some (.int .i64 x1) ∧ W.cell? ⟨g2, k * 7 + 2, none⟩ = some (.int .i64 x2) ∧ W.cell? ⟨g2, k * 7 + 3, none⟩ = some (.int .i64 x3) ∧ W.cell? ⟨g2, k * 7 + 4, none⟩ = some (.int .i64 x4) ∧ W.cell? ⟨g2, k * 7 + 5, none⟩ = some (.int .i64 x5) ∧ W.cell? ⟨g2, k * 7 + 6, none⟩ = some (.bool x6) ∧ W.cell? ⟨g, i * 11, none⟩ = some (.int .i64 qat) ∧ W.cell? ⟨g, i * 11 + 2, none⟩ = some (.int .u64 x0) ∧ W.cell? ⟨g, i * 11 + 3, none⟩ = some (.int .i64 x1) ∧ W.cell? ⟨g, i * 11 + 4, none⟩ = some (.int .i64 x2) ∧ W.cell? ⟨g, i * 11 + 5, none⟩ = some (.int .i64 x3) ∧ W.cell? ⟨g, i * 11 + 6, none⟩ = some (.int .i64 x4) ∧ W.cell? ⟨g, i * 11 + 7, none⟩ = some (.int .i64 x5) ∧ W.cell? ⟨g, i * 11 + 8, none⟩ = some (.bool x6) ∧ Below wr.heap.size wr W) (first | exact KEEP.out _ (Below.refl _ _).drew | exact KEEP.out _ (Below.refl _ _) | exact KEEP.out _ (by assumption)) (first | (go_at_call 96; refine (SHW.out _ ?_).mono ?_; (first | assumption | exact (Below.refl _ _).drew | exact (Below.refl _ _)); rintro e w' ⟨rfl, hb9⟩))
            all_goals
              go_wp2_with fail
              exact ⟨⟨i + 1, by omega, by go_num, by rw [HS.out]; go_num, hbi.trans (hb9.mono hbi.size)⟩, by simp [intOf]; omega⟩
          · have dsp : ((qsp : Int) != (s : Int)) = true := by simpa using e
            rw [if_neg (by simpa [inSp] using e)] at hS
            have HS := Lib.hid hS
            clear hS hG e
            go_wp2_with fail
            exact ⟨⟨i + 1, by omega, by go_num, by rw [HS.out]; go_num, hbi⟩, by simp [intOf]; omega⟩
        · obtain rfl : i = Q.length := by omega
          have dlt : decide ((Q.length : Int) < (Q.length : Int)) = false := by simp
          rw [FEH.out]
          have c0 : wr.cell? ⟨t, 0, none⟩ = _ := hKr.c0
          have dk : ((F.length : Int) != (F.length : Int)) = false := by simp
          go_wp2_with fail
          exact ⟨⟨s + 1, by omega, by omega, by go_num, hb3⟩, by simp [intOf]; omega⟩
    · have ds : decide ((s : Int) ≤ 4) = false := by simp; omega
      go_wp2_with fail
      clear OC HOB SH
      go_loopw [10] (fun iv wx => ∃ i : Nat, i ≤ Q.length ∧ iv = .int .i64 i ∧ Below w.heap.size w wx) (fun iv _ => Q.length - (intOf iv).toNat)
      case atStart => exact ⟨0, by omega, rfl, hbr⟩
      case round =>
        clear hbr
        obtain ⟨i, hi, rfl, hbr⟩ := hrel
        by_cases hlt : i < Q.length
        · have dlt : decide ((i : Int) < (Q.length : Int)) = true := by simpa using hlt
          have hTr := HT.out wr hbr
          obtain ⟨g, cap', e1⟩ := hTr.form (by omega)
          cases e1
          have zc := fun j (hj : j < 11) => hTr.cell (i := i) hlt hj
          have hm := getD_mem hlt
          generalize hq : Q.getD i gt0 = q at *
          clear hq
          have li := HLI.out q hm
          have PP := Lib.hid (HPT.out q hm)
          have RR := Lib.hid (HRW.out q hm)
          obtain ⟨qat, qsp, ⟨x0, x1, x2, x3, x4, x5, x6⟩, ps, rs, pb, rb⟩ := q
          simp only at li PP RR
          have np : ps.length ≤ 4095 := by have := li.np; have := li.fine.p1; simp only at *; omega
          have nr : rs.length ≤ 65535 := by have := li.nr; have := li.fine.r1; simp only at *; omega
          have i0 : (0 : Int) ≤ (i : Int) := Int.natCast_nonneg _
          have i1 : (i : Int) < (Q.length : Int) := by omega
          have z0 : wr.cell? ⟨g, i * 11, none⟩ = some (.int .i64 qat) := zc 0 (by decide)
          have z1 : wr.cell? ⟨g, i * 11 + 1, none⟩ = some (.int .i64 qsp) := zc 1 (by decide)
          have z2 : wr.cell? ⟨g, i * 11 + 2, none⟩ = some (.int .u64 x0) := zc 2 (by decide)
          have z3 : wr.cell? ⟨g, i * 11 + 3, none⟩ = some (.int .i64 x1) := zc 3 (by decide)
          have z4 : wr.cell? ⟨g, i * 11 + 4, none⟩ = some (.int .i64 x2) := zc 4 (by decide)
          have z5 : wr.cell? ⟨g, i * 11 + 5, none⟩ = some (.int .i64 x3) := zc 5 (by decide)
          have z6 : wr.cell? ⟨g, i * 11 + 6, none⟩ = some (.int .i64 x4) := zc 6 (by decide)
          have z7 : wr.cell? ⟨g, i * 11 + 7, none⟩ = some (.int .i64 x5) := zc 7 (by decide)
          have z8 : wr.cell? ⟨g, i * 11 + 8, none⟩ = some (.bool x6) := zc 8 (by decide)
          have z9 : wr.cell? ⟨g, i * 11 + 9, none⟩ = some (.slice (some ⟨pb, 0, none⟩) ps.length ps.length) := zc 9 (by decide)
          have z10 : wr.cell? ⟨g, i * 11 + 10, none⟩ = some (.slice (some ⟨rb, 0, none⟩) rs.length rs.length) := zc 10 (by decide)
          clear zc li
          have hX := heap_one wr (.cells #[.int .i64 qat, .int .i64 qsp, .int .u64 x0, .int .i64 x1, .int .i64 x2, .int .i64 x3, .int .i64 x4, .int .i64 x5, .bool x6, .slice (some ⟨pb, 0, none⟩) ps.length ps.length, .slice (some ⟨rb, 0, none⟩) rs.length rs.length] 143)
          have q1 := (Below.refl wr.heap.size wr).alloc (Nat.le_refl _) (.cells #[.int .i64 qat, .int .i64 qsp, .int .u64 x0, .int .i64 x1, .int .i64 x2, .int .i64 x3, .int .i64 x4, .int .i64 x5, .bool x6, .slice (some ⟨pb, 0, none⟩) ps.length ps.length, .slice (some ⟨rb, 0, none⟩) rs.length rs.length] 143)
          go_upto_region 21 with fail
          generalize wr.alloc (.cells #[.int .i64 qat, .int .i64 qsp, .int .u64 x0, .int .i64 x1, .int .i64 x2, .int .i64 x3, .int .i64 x4, .int .i64 x5, .bool x6, .slice (some ⟨pb, 0, none⟩) ps.length ps.length, .slice (some ⟨rb, 0, none⟩) rs.length rs.length] 143) = w1 at *
          have lX := lt_of_heap hX
          have HTQ := Lib.hid (fun (W : World) (hb : Below w.heap.size w W) => HT.out W hb)
          have hb1 := hbr.trans (q1.mono hbr.size)
          generalize wr.heap.size = x at *
          clear z0 z1 z2 z3 z4 z5 z6 z7 z8 z9 z10 hTr q1 hbr
          go_wp2_with fail
          go_loopw [12] (fun fv wx => ∃ f : Nat, f ≤ ps.length ∧ fv = .int .i64 f ∧ Below w1.heap.size w1 wx) (fun fv _ => ps.length - (intOf fv).toNat)
          case atStart => exact ⟨0, by omega, rfl, Below.refl _ _⟩
          case round =>
            rename_i wi _
            obtain ⟨f, hf, rfl, hbf⟩ := hrel
            have hX2 := (hbf.block _ lX).trans hX
            obtain ⟨cX, fX⟩ := hcell hX2
            have hb2 := hb1.trans (hbf.mono hb1.size)
            by_cases hlf : f < ps.length
            · have dlf : decide ((f : Int) < (ps.length : Int)) = true := by simpa using hlf
              have f0 : (0 : Int) ≤ (f : Int) := Int.natCast_nonneg _
              have f1 : (f : Int) < (ps.length : Int) := by omega
              have PCf := fun (W : World) (hb : Below w.heap.size w W) => PC.out qat (f : Int) W hb
              rw [(PP.out f hlf).1, (PP.out f hlf).2] at PCf
              have PCF := Lib.hid PCf
              clear PCf
              have HC := Lib.hid (fun (W : World) (hb : Below w.heap.size w W) => (HTQ.out W hb).pcell hm hlf)
              simp only at HC
              generalize ps.getD f 0 = pv at *
              go_wp2_with fail
              refine (PCF.out _ hb2).mono ?_
              rintro e w3 ⟨rfl, hq⟩
              have hb3 := hb2.trans (hq.mono hb2.size)
              have hbf3 := hbf.trans (hq.mono hbf.size)
              have pc := HC.out _ hb3
              clear cX fX
              obtain ⟨cX, fX⟩ := hcell ((hq.block _ (lt_of_heap hX2)).trans hX2)
              clear hq hX2
              go_wp2_with fail
              exact ⟨⟨f + 1, by omega, by go_num, hbf3⟩, by simp [intOf]; omega⟩
            · obtain rfl : f = ps.length := by omega
              have dlf : decide ((ps.length : Int) < (ps.length : Int)) = false := by simp
              go_wp2_with fail
              go_loopw [15] (fun fv wx => ∃ f : Nat, f ≤ rs.length ∧ fv = .int .i64 f ∧ Below w1.heap.size w1 wx) (fun fv _ => rs.length - (intOf fv).toNat)
              case atStart => exact ⟨0, by omega, rfl, hbf⟩
              case round =>
                clear cX fX hX2 hb2 hbf
                obtain ⟨f, hf, rfl, hbf⟩ := hrel
                have hX2 := (hbf.block _ lX).trans hX
                obtain ⟨cX, fX⟩ := hcell hX2
                have hb2 := hb1.trans (hbf.mono hb1.size)
                by_cases hlf : f < rs.length
                · have dlf : decide ((f : Int) < (rs.length : Int)) = true := by simpa using hlf
                  have f0 : (0 : Int) ≤ (f : Int) := Int.natCast_nonneg _
                  have f1 : (f : Int) < (rs.length : Int) := by omega
                  have PCf := fun (W : World) (hb : Below w.heap.size w W) => RC.out qat (f : Int) W hb
                  rw [(RR.out f hlf).1, (RR.out f hlf).2] at PCf
                  have PCF := Lib.hid PCf
                  clear PCf
                  have HC := Lib.hid (fun (W : World) (hb : Below w.heap.size w W) => (HTQ.out W hb).rcell hm hlf)
                  simp only at HC
                  generalize rs.getD f 0 = pv at *
                  go_wp2_with fail
                  refine (PCF.out _ hb2).mono ?_
                  rintro e w3 ⟨rfl, hq⟩
                  have hb3 := hb2.trans (hq.mono hb2.size)
                  have hbf3 := hbf.trans (hq.mono hbf.size)
                  have pc := HC.out _ hb3
                  clear cX fX
                  obtain ⟨cX, fX⟩ := hcell ((hq.block _ (lt_of_heap hX2)).trans hX2)
                  clear hq hX2
                  go_wp2_with fail
                  exact ⟨⟨f + 1, by omega, by go_num, hbf3⟩, by simp [intOf]; omega⟩
                · obtain rfl : f = rs.length := by omega
                  have dlf : decide ((rs.length : Int) < (rs.length : Int)) = false := by simp
                  go_wp2_with fail
                  exact ⟨⟨i + 1, by omega, by go_num, hb2⟩, by simp [intOf]; omega⟩
        · obtain rfl : i = Q.length := by omega
          have dlt : decide ((Q.length : Int) < (Q.length : Int)) = false := by simp
          go_wp2_with fail
          refine (CC.out _ hbr).mono ?_
          rintro e w3 ⟨rfl, hq⟩
          go_wp2_with fail
          go_ret
          exact ⟨rfl, hbr.trans (hq.mono hbr.size)⟩
end Go.Proofs.YtomgfdfgildkbaaDoor
