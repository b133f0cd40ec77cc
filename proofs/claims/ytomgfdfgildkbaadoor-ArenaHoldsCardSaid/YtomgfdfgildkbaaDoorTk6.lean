/- middenlaw3.objects: what Objects gives, gone through twice, and once more within itself. -/
import Derived.Test.YtomgfdfgildkbaaDoorTk5b
namespace Go.Proofs.YtomgfdfgildkbaaDoor
open Go.RowKit Go.BigFrame

theorem TkAt.fresh {w : World} {b B : Nat} {ty : TypeId} {stop most : Int} (hb : w.heap[b]? = some (.cells #[.slice none 0 0, .slice none 0 0, .int .i64 stop, .int .i64 most, .bool false, .bool false] ty (0, 0))) (bB : B ≤ b) : TkAt w b 0 ty B (Tk.new stop most) (.slice none 0 0) (.slice none 0 0) := by
  have hc := (hcell hb).1
  exact ⟨⟨_, hb⟩, by rw [hc]; rfl, by rw [hc]; rfl, by rw [hc]; rfl, by rw [hc]; rfl, by rw [hc]; rfl, by rw [hc]; rfl, World.ownsRow_nil _ _ _ _, World.ownsRow_nil _ _ _ _, by simp [Value.ownBlock], by simp [Value.ownBlock], by simp [Value.ownBlock], bB⟩
theorem Tk.run_deaf {l : List (Int × Hd)} : ∀ {T : Tk}, T.deaf = false → T.done = false → (T.over l).deaf = false := by
  induction l with
  | nil => intro T h _; exact h
  | cons x l ih =>
    intro T h hd
    have h1 : (T.take x.1 x.2).deaf = false := by unfold Tk.take; rw [hd]; exact h
    show (if (T.take x.1 x.2).done then T.take x.1 x.2 else (T.take x.1 x.2).over l).deaf = false
    cases hd' : (T.take x.1 x.2).done with
    | true => exact h1
    | false => exact ih h1 hd'
theorem Tk.over_len {l : List (Int × Hd)} : ∀ {T : Tk}, T.at_.length = T.hd.length → (T.over l).at_.length = (T.over l).hd.length ∧ (T.over l).at_.length ≤ T.at_.length + l.length := by
  induction l with
  | nil => intro T h; exact ⟨h, Nat.le_refl _⟩
  | cons x l ih =>
    intro T h
    have h1 := Tk.take_len h x.1 x.2
    have h2 : (T.take x.1 x.2).at_.length ≤ T.at_.length + 1 := by unfold Tk.take; split <;> simp
    show (if (T.take x.1 x.2).done then T.take x.1 x.2 else (T.take x.1 x.2).over l).at_.length = _ ∧ _
    cases hd' : (T.take x.1 x.2).done with
    | true =>
      have e : T.over (x :: l) = T.take x.1 x.2 := by show (if (T.take x.1 x.2).done then T.take x.1 x.2 else _) = _; rw [hd']; rfl
      rw [e]
      exact ⟨h1, by simp only [List.length_cons]; omega⟩
    | false =>
      have e : T.over (x :: l) = (T.take x.1 x.2).over l := by show (if (T.take x.1 x.2).done then T.take x.1 x.2 else _) = _; rw [hd']; rfl
      rw [e]
      have h3 := ih h1
      exact ⟨h3.1, by simp only [List.length_cons]; omega⟩
theorem eql_func (f : Fn) (b c : Array Value) (w : World) : (binOp .eql 159 (.func f b c) .nilFunc).run Tryd.prog w = .ok (.bool false) w := by kernel_rfl
theorem TkAt.freshW {w : World} {b B : Nat} {f : Value} {stop most : Int} (hb : w.heap[b]? = some (.cells #[f, .slice none 0 0, .slice none 0 0, .int .i64 stop, .int .i64 most, .bool false, .bool false, .slice none 0 0, .slice none 0 0, .int .i64 0, .int .i64 0, .bool false, .bool false] 184 (0, 0))) (bB : B ≤ b) :
    TkAt w b 1 184 B (Tk.new stop most) (.slice none 0 0) (.slice none 0 0) ∧ TkAt w b 7 184 B (Tk.new 0 0) (.slice none 0 0) (.slice none 0 0) := by
  have hc := (hcell hb).1
  exact ⟨⟨⟨_, hb⟩, by rw [hc]; rfl, by rw [hc]; rfl, by rw [hc]; rfl, by rw [hc]; rfl, by rw [hc]; rfl, by rw [hc]; rfl, World.ownsRow_nil _ _ _ _, World.ownsRow_nil _ _ _ _, by simp [Value.ownBlock], by simp [Value.ownBlock], by simp [Value.ownBlock], bB⟩,
    ⟨⟨_, hb⟩, by rw [hc]; rfl, by rw [hc]; rfl, by rw [hc]; rfl, by rw [hc]; rfl, by rw [hc]; rfl, by rw [hc]; rfl, World.ownsRow_nil _ _ _ _, World.ownsRow_nil _ _ _ _, by simp [Value.ownBlock], by simp [Value.ownBlock], by simp [Value.ownBlock], bB⟩⟩
set_option maxRecDepth 100000 in
set_option maxHeartbeats 8000000 in
theorem objects_any (a wb : Nat) (A : Ar) (s stop most : Int) (w : World) (tb : Tab w) (hA : ArAt w a wb A) (ok : A.Ok) :
    Calls Tryd.prog 89 #[.pointer (some ⟨a, 0, none⟩), .int .i64 s, .int .i64 stop, .int .i64 most] w fun e w' => ∃ t v1 v2, e = .returned (.tuple #[.pointer (some ⟨t, 0, none⟩), .bool true]) ∧ TkAt w' t 0 140 w.heap.size ((Tk.new stop most).over (A.objs s)) v1 v2 ∧ Below w.heap.size w w' := by
  have hmf : ∀ (fn : Fn) (first cap : Array Value) (w : World), (Instr.makeFunc fn first cap).run Tryd.prog w = .ok (.func fn first cap) w := fun _ _ _ _ => rfl
  have OM := Lib.hid (fun w => objects_mk a s w)
  have EF := eql_func
  have hs1 := tb.hs
  have hs2 := tb.ht
  have la := lt_of_heap hA.st
  have lwb := lt_of_heap hA.ws
  go_enter Tryd.func89, Tryd.ntmps89
  go_wp2_with fail
  refine (OM.out _).mono ?_
  rintro e w2 ⟨rfl, hw2⟩
  have hX := heap_one w (.cells #[.slice none 0 0, .slice none 0 0, .int .i64 stop, .int .i64 most, .bool false, .bool false] 140)
  have hb1 := (Below.refl w.heap.size w).alloc (Nat.le_refl _) (.cells #[.slice none 0 0, .slice none 0 0, .int .i64 stop, .int .i64 most, .bool false, .bool false] 140)
  have hz1 : (w.alloc (.cells #[.slice none 0 0, .slice none 0 0, .int .i64 stop, .int .i64 most, .bool false, .bool false] 140)).heap.size = w.heap.size + 1 := by simp
  generalize w.alloc (.cells #[.slice none 0 0, .slice none 0 0, .int .i64 stop, .int .i64 most, .bool false, .bool false] 140) = w1 at *
  obtain ⟨hbx, hby⟩ := heap_two w1 (.cells #[.pointer (some ⟨a, 0, none⟩)] 47) (.cells #[.int .i64 s] 3)
  have hb2 := ((Below.refl w1.heap.size w1).alloc (Nat.le_refl _) (.cells #[.pointer (some ⟨a, 0, none⟩)] 47)).alloc (by simp) (.cells #[.int .i64 s] 3)
  have hz2 : ((w1.alloc (.cells #[.pointer (some ⟨a, 0, none⟩)] 47)).alloc (.cells #[.int .i64 s] 3)).heap.size = w1.heap.size + 2 := by simp
  rw [← hw2] at hbx hby hb2 hz2
  clear hw2
  rw [hz1] at hbx hby hb2 hz2 ⊢
  have hX2 := (hb2.block _ (by omega)).trans hX
  have hB2 := hb1.trans (hb2.mono (by omega))
  have hT2 := TkAt.fresh (B := w.heap.size) hX2 (Nat.le_refl _)
  have mS : ∀ k ∈ [a, wb, 1, 0, w.heap.size + 1, w.heap.size + 1 + 1], k < w2.heap.size := fun k hk => by simp at hk; omega
  have OT := Lib.hid (obj1_take a wb (w.heap.size + 1 + 1) (w.heap.size + 1) A s [a, wb, 1, 0, w.heap.size + 1, w.heap.size + 1 + 1] (by simp) (by simp) (by simp) (by simp) (by simp) (by simp) ok w2 (tb.below hB2) (hA.below hB2) (by rw [(hcell hby).1]; rfl) (by rw [(hcell hbx).1]; rfl) mS
    w.heap.size 0 140 w.heap.size (Tk.new stop most) (.slice none 0 0) (.slice none 0 0) hT2 (by decide) (by omega) (fun k hk hm => by simp [fpOf, Value.ownBlock] at hm hk; omega) rfl (by simp [Tk.new]))
  have hbx2 := hbx
  have hby2 := hby
  clear hb1 hb2 hX hX2 hz1 OM hT2 w1
  go_wp2_with fail
  refine OT.out.mono ?_
  rintro e w3 ⟨rfl, hW3⟩
  obtain ⟨⟨u1, u2, hT3, hfp3⟩, -, ho3⟩ := hW3
  have ez : ∀ b, fpOf b (.slice none 0 0) (.slice none 0 0) = [b] := fun _ => rfl
  rw [ez] at hfp3 ho3
  have hlen := (Tk.over_len (l := A.objs s) (T := Tk.new stop most) rfl)
  have hdeaf := Tk.run_deaf (l := A.objs s) (T := Tk.new stop most) rfl rfl
  have h262 := A.objs_len ok s
  have hl0 : (Tk.new stop most).at_.length = 0 := rfl
  have hn262 : ((Tk.new stop most).over (A.objs s)).hd.length ≤ 262145 := by rw [hl0] at hlen; omega
  have hemp : A.objs s = [] → (Tk.new stop most).over (A.objs s) = Tk.new stop most := fun e => by rw [e]; rfl
  have OT2 := Lib.hid (fun (W : World) (hB : Below w.heap.size w W) (h1 : W.heap[w.heap.size + 1]? = some (Obj.cells #[.pointer (some ⟨a, 0, none⟩)] 47 (0, 0))) (h2 : W.heap[w.heap.size + 1 + 1]? = some (Obj.cells #[.int .i64 s] 3 (0, 0))) (q : Nat) (hq : w.heap.size + 3 ≤ q) (hT : TkAt W q 0 140 w.heap.size (Tk.new stop most) (.slice none 0 0) (.slice none 0 0)) =>
    obj1_take a wb (w.heap.size + 1 + 1) (w.heap.size + 1) A s [a, wb, 1, 0, w.heap.size + 1, w.heap.size + 1 + 1] (by simp) (by simp) (by simp) (by simp) (by simp) (by simp) ok W (tb.below hB) (hA.below hB) (by rw [(hcell h2).1]; rfl) (by rw [(hcell h1).1]; rfl) (fun k hk => by have := hB.size; have := lt_of_heap h2; simp at hk; omega)
      q 0 140 w.heap.size (Tk.new stop most) (.slice none 0 0) (.slice none 0 0) hT (by decide) hB.size (fun k hk hm => by simp [fpOf, Value.ownBlock] at hm hk; omega) rfl (by simp [Tk.new]))
  have OW := Lib.hid (fun (W : World) (hB : Below w.heap.size w W) (h1 : W.heap[w.heap.size + 1]? = some (Obj.cells #[.pointer (some ⟨a, 0, none⟩)] 47 (0, 0))) (h2 : W.heap[w.heap.size + 1 + 1]? = some (Obj.cells #[.int .i64 s] 3 (0, 0))) (q : Nat) (hq : w.heap.size + 3 ≤ q) (Z : Tk) (hT : TkAt W q 1 184 w.heap.size (Tk.new stop most) (.slice none 0 0) (.slice none 0 0)) (hM : TkAt W q 7 184 w.heap.size Z (.slice none 0 0) (.slice none 0 0))
      (hit : W.cell? ⟨q, 0, none⟩ = some (.func (.func 152) #[] #[.pointer (some ⟨w.heap.size + 1, 0, none⟩), .pointer (some ⟨w.heap.size + 1 + 1, 0, none⟩)])) =>
    obj1_within a wb (w.heap.size + 1 + 1) (w.heap.size + 1) A s [a, wb, 1, 0, w.heap.size + 1, w.heap.size + 1 + 1] (by simp) (by simp) (by simp) (by simp) (by simp) (by simp) ok W (tb.below hB) (hA.below hB) (by rw [(hcell h2).1]; rfl) (by rw [(hcell h1).1]; rfl) (fun k hk => by have := hB.size; have := lt_of_heap h2; simp at hk; omega)
      q w.heap.size stop most Z hT hM hit (fun hk => by simp at hk; omega))
  have HE := Lib.hid hemp
  clear hemp hA tb OT hl0
  generalize hT1 : (Tk.new stop most).over (A.objs s) = T1 at *
  have hB3 := hB2.trans (ho3.below (B := w.heap.size) (by omega) (by simp))
  have hbx3 := (ho3.block (w.heap.size + 1) (by omega) (by simp)).trans hbx2
  have hby3 := (ho3.block (w.heap.size + 1 + 1) (by omega) (by simp; omega)).trans hby2
  have hz3 := ho3.size
  have hf3 : ∀ k ∈ fpOf w.heap.size u1 u2, k = w.heap.size ∨ w.heap.size + 3 ≤ k := fun k hk => by
    rcases hfp3 k hk with q | q
    · exact .inl (by simpa using q)
    · right; omega
  have HT1 := Lib.hid hT1
  clear hbx2 hby2 hbx hby ho3 hfp3 hT1
  go_upto_region 7 with fail
  have hX4 := heap_one w3 (.cells #[.slice none 0 0, .slice none 0 0, .int .i64 stop, .int .i64 most, .bool false, .bool false] 140)
  have hb4 := (Below.refl w3.heap.size w3).alloc (Nat.le_refl _) (.cells #[.slice none 0 0, .slice none 0 0, .int .i64 stop, .int .i64 most, .bool false, .bool false] 140)
  generalize w3.alloc (.cells #[.slice none 0 0, .slice none 0 0, .int .i64 stop, .int .i64 most, .bool false, .bool false] 140) = w4 at *
  have hB4 := hB3.trans (hb4.mono (by omega))
  have OTq := Lib.hid (OT2.out w4 hB4 ((hb4.block _ (by omega)).trans hbx3) ((hb4.block _ (by omega)).trans hby3) w3.heap.size (by omega) (TkAt.fresh hX4 (by omega)))
  have hT4 := hT3.below hb4
  have hbx4 := (hb4.block _ (by omega)).trans hbx3
  have hby4 := (hb4.block _ (by omega)).trans hby3
  have lq4 := lt_of_heap hX4
  have hf3' : ∀ k ∈ fpOf w.heap.size u1 u2, k < w3.heap.size := fun k hk => (hT3.lt k hk).1
  generalize w3.heap.size = q at *
  clear hb4 hX4 hB3 hT3 hbx3 hby3 OT2 w3
  go_wp2_with fail
  refine OTq.out.mono ?_
  rintro e w5 ⟨rfl, ⟨y1, y2, hT5, hfp5⟩, -, ho5⟩
  rw [ez] at hfp5 ho5
  have hU5 := hT4.same (w' := w5) (fun k hk => ho5.block k (by have := hf3' k hk; omega) (by have := hf3' k hk; simp; omega))
  have hB5 := hB4.trans (ho5.below (B := w.heap.size) (by omega) (by simp; omega))
  have hbx5 := (ho5.block (w.heap.size + 1) (by omega) (by simp; omega)).trans hbx4
  have hby5 := (ho5.block (w.heap.size + 1 + 1) (by omega) (by simp; omega)).trans hby4
  clear hT4 hbx4 hby4 ho5 hfp5 hB4 OTq hf3 hf3' lq4 w4
  obtain ⟨p1, n1, rfl⟩ := row_form hU5.r1
  obtain ⟨p2, n2, rfl⟩ := row_form hU5.r2
  obtain ⟨p3, n3, rfl⟩ := row_form hT5.r1
  obtain ⟨p4, n4, rfl⟩ := row_form hT5.r2
  have cu0 := hU5.c0
  have cu1 := hU5.c1
  have cu5 := hU5.c5
  have cy0 := hT5.c0
  have cy1 := hT5.c1
  have cy5 := hT5.c5
  rw [hdeaf] at cu5 cy5
  have lt5 := (hU5.lt w.heap.size (mem_fp.2 (.inl rfl))).1
  have lq5 := (hT5.lt q (mem_fp.2 (.inl rfl))).1
  go_upto_region 8 with fail
  go_big_region
  go_wp2_with fail
  have hdr := (Below.refl w5.heap.size w5).drew
  replace hU5 := hU5.below hdr
  replace hT5 := hT5.below hdr
  have hB6 := hB5.drew
  have lt6 : w.heap.size < w5.drew.heap.size := lt5
  have lq6 : q < w5.drew.heap.size := lq5
  have hbx6 : w5.drew.heap[w.heap.size + 1]? = _ := hbx5
  have hby6 : w5.drew.heap[w.heap.size + 1 + 1]? = _ := hby5
  clear cu0 cu1 cu5 cy0 cy1 cy5 hdr hB5 hbx5 hby5 lt5 lq5
  generalize w5.drew = w6 at *
  have SHE := Lib.hid (fun (h : Hd) (W : World) => (sameHead_any h h W).mono (R' := fun e w' => e = .returned (.bool true) ∧ Below W.heap.size W w') fun e w' ⟨h1, h2⟩ => ⟨by rw [h1, hdEq_iff.2 rfl], h2⟩)
  go_loopw [13] (fun i wx => ∃ k : Nat, k ≤ T1.hd.length ∧ i = .int .i64 k ∧ Below w6.heap.size w6 wx) (fun i _ => T1.hd.length - (intOf i).toNat)
  case atStart => exact ⟨0, Nat.zero_le _, rfl, Below.refl _ _⟩
  case round =>
    obtain ⟨k, hk, rfl, hbr⟩ := hrel
    have hUr := hU5.below hbr
    have hTr := hT5.below hbr
    have c0 := hUr.c0
    have c1 := hUr.c1
    have d0 := hTr.c0
    have d1 := hTr.c1
    by_cases hlt : k < T1.hd.length
    · obtain ⟨g1, cp1, e1, -, -⟩ := hUr.r1.form (by omega)
      obtain ⟨g2, cp2, e2, -, -⟩ := hUr.r2.form (by omega)
      obtain ⟨g3, cp3, e3, -, -⟩ := hTr.r1.form (by omega)
      obtain ⟨g4, cp4, e4, -, -⟩ := hTr.r2.form (by omega)
      cases e1
      cases e2
      cases e3
      cases e4
      rw [hlen.1] at c0 d0
      go_upto_region 13 with fail
      have a1 := row_int hUr.r1 (i := k) (by omega)
      have a3 := row_int hTr.r1 (i := k) (by omega)
      have b2 := fun j (hj : j < 7) => row_hd hUr.r2 (i := k) (by omega) hj rfl
      have b4 := fun j (hj : j < 7) => row_hd hTr.r2 (i := k) (by omega) hj rfl
      generalize T1.at_.getD k 0 = av at *
      generalize T1.hd.getD k nohd = h9 at *
      obtain ⟨x0, x1, x2, x3, x4, x5, x6⟩ := h9
      have b20 : wr.cell? ⟨g2, k * 7, none⟩ = some (.int .u64 x0) := b2 0 (by decide)
      have b21 : wr.cell? ⟨g2, k * 7 + 1, none⟩ = some (.int .i64 x1) := b2 1 (by decide)
      have b22 : wr.cell? ⟨g2, k * 7 + 2, none⟩ = some (.int .i64 x2) := b2 2 (by decide)
      have b23 : wr.cell? ⟨g2, k * 7 + 3, none⟩ = some (.int .i64 x3) := b2 3 (by decide)
      have b24 : wr.cell? ⟨g2, k * 7 + 4, none⟩ = some (.int .i64 x4) := b2 4 (by decide)
      have b25 : wr.cell? ⟨g2, k * 7 + 5, none⟩ = some (.int .i64 x5) := b2 5 (by decide)
      have b26 : wr.cell? ⟨g2, k * 7 + 6, none⟩ = some (.bool x6) := b2 6 (by decide)
      have b40 : wr.cell? ⟨g4, k * 7, none⟩ = some (.int .u64 x0) := b4 0 (by decide)
      have b41 : wr.cell? ⟨g4, k * 7 + 1, none⟩ = some (.int .i64 x1) := b4 1 (by decide)
      have b42 : wr.cell? ⟨g4, k * 7 + 2, none⟩ = some (.int .i64 x2) := b4 2 (by decide)
      have b43 : wr.cell? ⟨g4, k * 7 + 3, none⟩ = some (.int .i64 x3) := b4 3 (by decide)
      have b44 : wr.cell? ⟨g4, k * 7 + 4, none⟩ = some (.int .i64 x4) := b4 4 (by decide)
      have b45 : wr.cell? ⟨g4, k * 7 + 5, none⟩ = some (.int .i64 x5) := b4 5 (by decide)
      have b46 : wr.cell? ⟨g4, k * 7 + 6, none⟩ = some (.bool x6) := b4 6 (by decide)
      have k0 : (0 : Int) ≤ (k : Int) := Int.natCast_nonneg _
      have k1 : (k : Int) < (T1.hd.length : Int) := by omega
      clear b2 b4 hU5 hT5 hUr hTr
      have KEEP := Lib.hid (fun (W : World) (hb : Below wr.heap.size wr W) => (⟨(hb.cell (p := ⟨w.heap.size, 0, none⟩) (World.block_lt_of_cell? wr ⟨w.heap.size, 0, none⟩ c0)).trans c0, (hb.cell (p := ⟨w.heap.size, 1, none⟩) (World.block_lt_of_cell? wr ⟨w.heap.size, 1, none⟩ c1)).trans c1, (hb.cell (p := ⟨q, 0, none⟩) (World.block_lt_of_cell? wr ⟨q, 0, none⟩ d0)).trans d0, (hb.cell (p := ⟨q, 1, none⟩) (World.block_lt_of_cell? wr ⟨q, 1, none⟩ d1)).trans d1, (hb.cell (p := ⟨g1, k, none⟩) (World.block_lt_of_cell? wr ⟨g1, k, none⟩ a1)).trans a1, (hb.cell (p := ⟨g3, k, none⟩) (World.block_lt_of_cell? wr ⟨g3, k, none⟩ a3)).trans a3, (hb.cell (p := ⟨g2, k * 7, none⟩) (World.block_lt_of_cell? wr ⟨g2, k * 7, none⟩ b20)).trans b20, (hb.cell (p := ⟨g2, k * 7 + 1, none⟩) (World.block_lt_of_cell? wr ⟨g2, k * 7 + 1, none⟩ b21)).trans b21, (hb.cell (p := ⟨g2, k * 7 + 2, none⟩) (World.block_lt_of_cell? wr ⟨g2, k * 7 + 2, none⟩ b22)).trans b22, (hb.cell (p := ⟨g2, k * 7 + 3, none⟩) (World.block_lt_of_cell? wr ⟨g2, k * 7 + 3, none⟩ b23)).trans b23, (hb.cell (p := ⟨g2, k * 7 + 4, none⟩) (World.block_lt_of_cell? wr ⟨g2, k * 7 + 4, none⟩ b24)).trans b24, (hb.cell (p := ⟨g2, k * 7 + 5, none⟩) (World.block_lt_of_cell? wr ⟨g2, k * 7 + 5, none⟩ b25)).trans b25, (hb.cell (p := ⟨g2, k * 7 + 6, none⟩) (World.block_lt_of_cell? wr ⟨g2, k * 7 + 6, none⟩ b26)).trans b26, (hb.cell (p := ⟨g4, k * 7, none⟩) (World.block_lt_of_cell? wr ⟨g4, k * 7, none⟩ b40)).trans b40, (hb.cell (p := ⟨g4, k * 7 + 1, none⟩) (World.block_lt_of_cell? wr ⟨g4, k * 7 + 1, none⟩ b41)).trans b41, (hb.cell (p := ⟨g4, k * 7 + 2, none⟩) (World.block_lt_of_cell? wr ⟨g4, k * 7 + 2, none⟩ b42)).trans b42, (hb.cell (p := ⟨g4, k * 7 + 3, none⟩) (World.block_lt_of_cell? wr ⟨g4, k * 7 + 3, none⟩ b43)).trans b43, (hb.cell (p := ⟨g4, k * 7 + 4, none⟩) (World.block_lt_of_cell? wr ⟨g4, k * 7 + 4, none⟩ b44)).trans b44, (hb.cell (p := ⟨g4, k * 7 + 5, none⟩) (World.block_lt_of_cell? wr ⟨g4, k * 7 + 5, none⟩ b45)).trans b45, (hb.cell (p := ⟨g4, k * 7 + 6, none⟩) (World.block_lt_of_cell? wr ⟨g4, k * 7 + 6, none⟩ b46)).trans b46, hb⟩ : W.cell? ⟨w.heap.size, 0, none⟩ = some (.slice (some ⟨g1, 0, none⟩) T1.hd.length n1) ∧ W.cell? ⟨w.heap.size, 1, none⟩ = some (.slice (some ⟨g2, 0, none⟩) T1.hd.length n2) ∧ W.cell? ⟨q, 0, none⟩ = some (.slice (some ⟨g3, 0, none⟩) T1.hd.length n3) ∧ W.cell? ⟨q, 1, none⟩ = some (.slice (some ⟨g4, 0, none⟩) T1.hd.length n4) ∧ W.cell? ⟨g1, k, none⟩ = some (.int .i64 av) ∧ W.cell? ⟨g3, k, none⟩ = some (.int .i64 av) ∧ W.cell? ⟨g2, k * 7, none⟩ = some (.int .u64 x0) ∧ W.cell? ⟨g2, k * 7 + 1, none⟩ = some (.int .i64 x1) ∧ W.cell? ⟨g2, k * 7 + 2, none⟩ = some (.int .i64 x2) ∧ W.cell? ⟨g2, k * 7 + 3, none⟩ = some (.int .i64 x3) ∧ W.cell? ⟨g2, k * 7 + 4, none⟩ = some (.int .i64 x4) ∧ W.cell? ⟨g2, k * 7 + 5, none⟩ = some (.int .i64 x5) ∧ W.cell? ⟨g2, k * 7 + 6, none⟩ = some (.bool x6) ∧ W.cell? ⟨g4, k * 7, none⟩ = some (.int .u64 x0) ∧ W.cell? ⟨g4, k * 7 + 1, none⟩ = some (.int .i64 x1) ∧ W.cell? ⟨g4, k * 7 + 2, none⟩ = some (.int .i64 x2) ∧ W.cell? ⟨g4, k * 7 + 3, none⟩ = some (.int .i64 x3) ∧ W.cell? ⟨g4, k * 7 + 4, none⟩ = some (.int .i64 x4) ∧ W.cell? ⟨g4, k * 7 + 5, none⟩ = some (.int .i64 x5) ∧ W.cell? ⟨g4, k * 7 + 6, none⟩ = some (.bool x6) ∧ Below wr.heap.size wr W))
      have SHW := Lib.hid (fun (W : World) (hb : Below wr.heap.size wr W) => (SHE.out ⟨x0, x1, x2, x3, x4, x5, x6⟩ W).mono (R' := fun e w' => e = .returned (.bool true) ∧ Below wr.heap.size wr w') fun e w' ⟨h1, h2⟩ => ⟨h1, hb.trans (h2.mono hb.size)⟩)
      unfold Hd.val at SHW
      simp only at SHW
      clear SHE
      go_region_held3 (fun W => W.cell? ⟨w.heap.size, 0, none⟩ = some (.slice (some ⟨g1, 0, none⟩) T1.hd.length n1) ∧ W.cell? ⟨w.heap.size, 1, none⟩ = some (.slice (some ⟨g2, 0, none⟩) T1.hd.length n2) ∧ W.cell? ⟨q, 0, none⟩ = some (.slice (some ⟨g3, 0, none⟩) T1.hd.length n3) ∧ W.cell? ⟨q, 1, none⟩ = some (.slice (some ⟨g4, 0, none⟩) T1.hd.length n4) ∧ W.cell? ⟨g1, k, none⟩ = some (.int .i64 av) ∧ W.cell? ⟨g3, k, none⟩ = some (.int .i64 av) ∧ W.cell? ⟨g2, k * 7, none⟩ = some (.int .u64 x0) ∧ W.cell? ⟨g2, k * 7 + 1, none⟩ = some (.int .i64 x1) ∧ W.cell? ⟨g2, k * 7 + 2, none⟩ = some (.int .i64 x2) ∧ W.cell? ⟨g2, k * 7 + 3, none⟩ = some (.int .i64 x3) ∧ W.cell? ⟨g2, k * 7 + 4, none⟩ = some (.int .i64 x4) ∧ W.cell? ⟨g2, k * 7 + 5, none⟩ = some (.int .i64 x5) ∧ W.cell? ⟨g2, k * 7 + 6, none⟩ = some (.bool x6) ∧ W.cell? ⟨g4, k * 7, none⟩ = some (.int .u64 x0) ∧ W.cell? ⟨g4, k * 7 + 1, none⟩ = some (.int .i64 x1) ∧ W.cell? ⟨g4, k * 7 + 2, none⟩ = some (.int .i64 x2) ∧ W.cell? ⟨g4, k * 7 + 3, none⟩ = some (.int .i64 x3) ∧ W.cell? ⟨g4, k * 7 + 4, none⟩ = some (.int .i64 x4) ∧ W.cell? ⟨g4, k * 7 + 5, none⟩ = some (.int .i64 x5) ∧ W.cell? ⟨g4, k * 7 + 6, none⟩ = some (.bool x6) ∧ Below wr.heap.size wr W) (first | exact KEEP.out _ (Below.refl _ _).drew | exact KEEP.out _ (Below.refl _ _) | exact KEEP.out _ (by assumption)) (first | (go_at_call 96; refine (SHW.out _ ?_).mono ?_; (first | assumption | exact (Below.refl _ _).drew | exact (Below.refl _ _)); rintro e w' ⟨rfl, hb9⟩))
      all_goals
        go_wp2_with fail
        exact ⟨⟨k + 1, by omega, by go_num, hbr.trans (hb9.mono hbr.size)⟩, by simp [intOf]; omega⟩
    · obtain rfl : k = T1.hd.length := by omega
      go_upto_region 16 with fail
      have hX7 := heap_one wr (.cells #[.func (.func 152) #[] #[.pointer (some ⟨w.heap.size + 1, 0, none⟩), .pointer (some ⟨w.heap.size + 1 + 1, 0, none⟩)], .slice none 0 0, .slice none 0 0, .int .i64 stop, .int .i64 most, .bool false, .bool false, .slice none 0 0, .slice none 0 0, .int .i64 0, .int .i64 0, .bool false, .bool false] 184)
      have hb7 := (Below.refl wr.heap.size wr).alloc (Nat.le_refl _) (.cells #[.func (.func 152) #[] #[.pointer (some ⟨w.heap.size + 1, 0, none⟩), .pointer (some ⟨w.heap.size + 1 + 1, 0, none⟩)], .slice none 0 0, .slice none 0 0, .int .i64 stop, .int .i64 most, .bool false, .bool false, .slice none 0 0, .slice none 0 0, .int .i64 0, .int .i64 0, .bool false, .bool false] 184)
      generalize wr.alloc (.cells #[.func (.func 152) #[] #[.pointer (some ⟨w.heap.size + 1, 0, none⟩), .pointer (some ⟨w.heap.size + 1 + 1, 0, none⟩)], .slice none 0 0, .slice none 0 0, .int .i64 stop, .int .i64 most, .bool false, .bool false, .slice none 0 0, .slice none 0 0, .int .i64 0, .int .i64 0, .bool false, .bool false] 184) = w7 at *
      have hwr := hbr.size
      have hB7 := (hB6.trans (hbr.mono (by omega))).trans (hb7.mono (by omega))
      have hbx7 := (hb7.block _ (by omega)).trans ((hbr.block _ (lt_of_heap hbx6)).trans hbx6)
      have hby7 := (hb7.block _ (by have := lt_of_heap hby6; omega)).trans ((hbr.block _ (lt_of_heap hby6)).trans hby6)
      have hU7 := hUr.below hb7
      have hT7 := hTr.below hb7
      obtain ⟨hWt, hWm⟩ := TkAt.freshW (B := w.heap.size) hX7 (by omega)
      have OWr := Lib.hid (OW.out w7 hB7 hbx7 hby7 wr.heap.size (by have := lt_of_heap hby6; omega) (Tk.new 0 0) hWt hWm (by rw [(hcell hX7).1]; rfl))
      have lU : ∀ k ∈ fpOf w.heap.size (.slice p1 T1.at_.length n1) (.slice p2 T1.hd.length n2), k < wr.heap.size := fun k hk => (hUr.lt k hk).1
      have lT : ∀ k ∈ fpOf q (.slice p3 T1.at_.length n3) (.slice p4 T1.hd.length n4), k < wr.heap.size := fun k hk => (hTr.lt k hk).1
      have lr7 := lt_of_heap hX7
      clear hUr hTr c0 c1 d0 d1 hX7 hWt hWm hb7 OW hU5 hT5 hbx7 hby7 SHE
      generalize wr.heap.size = r at *
      clear hwr hbx6 hby6 hB6 lt6 lq6
      go_wp2_with fail
      refine OWr.out.mono ?_
      rintro e w8 ⟨rfl, ⟨j1, j2, j3, j4, hJ1, hJ7⟩, ho8⟩
      have hU8 := hU7.same (w' := w8) (fun k hk => ho8.block k (by have := lU k hk; omega) (by have := lU k hk; simp; omega))
      have hT8 := hT7.same (w' := w8) (fun k hk => ho8.block k (by have := lT k hk; omega) (by have := lT k hk; simp; omega))
      have lUt := lU w.heap.size (mem_fp.2 (.inl rfl))
      have hB8 := hB7.trans (ho8.below (B := w.heap.size) hB7.size (by simp; omega))
      have hMat : (if A.objs s = [] then Tk.new 0 0 else T1).at_ = T1.at_ := by
        by_cases h0 : A.objs s = []
        · rw [if_pos h0, HE.out h0]; rfl
        · rw [if_neg h0]
      have SM := Lib.hid (fun (W : World) (hb : Below w8.heap.size w8 W) => same_true r w.heap.size w.heap.size T1 _ j1 j2 j3 j4 _ _ W (hJ1.below hb) (hJ7.below hb) (hU8.below hb) hMat (by omega))
      have cu5 := hU8.c5
      have cy5 := hT8.c5
      rw [hdeaf] at cu5 cy5
      have HU8 := Lib.hid hU8
      have HB8 := Lib.hid hB8
      clear hU8 hT8 hU7 hT7 hJ1 hJ7 ho8 hMat hB7 hB8 lU lT lUt OWr HE lr7 w7
      go_wp2_with fail
      refine (SM.out _ (Below.refl _ _)).mono ?_
      rintro e w9 ⟨rfl, hb9⟩
      go_wp2_with fail
      go_ret2
      exact ⟨w.heap.size, _, _, rfl, by rw [HT1.out]; exact HU8.out.below hb9, HB8.out.trans (hb9.mono HB8.out.size)⟩
end Go.Proofs.YtomgfdfgildkbaaDoor
