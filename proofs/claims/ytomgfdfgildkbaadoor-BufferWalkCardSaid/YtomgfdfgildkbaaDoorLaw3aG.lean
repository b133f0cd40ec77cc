/- The walk of middenlaw3's first question: one object is put into eden, and found there. -/
import Derived.Test.YtomgfdfgildkbaaDoorGe
import Derived.Test.YtomgfdfgildkbaaDoorArenaW12
namespace Go.Proofs.YtomgfdfgildkbaaDoor
open Go.RowKit Go.BigFrame

def cfg3 : Cfg := ⟨64, 64, 100, 40, 30, 2, 1, 50, 3, 1, 16, 4, 0, 1⟩
theorem cfg3_valid : cfg3.valid = true := by decide
theorem small3_any (w : World) :
    Calls Tryd.prog 88 #[] w fun e w' => e = .returned cfg3.val ∧ Below w.heap.size w w' := by
  go_enter Tryd.func88, Tryd.ntmps88
  go_wp2
  refine bodyPost_ret (v := cfg3.val) (by simp [results, Tryd.results88, go_sem, cfg3, Cfg.val, Cfg.cells]) rfl ⟨rfl, (Below.refl _ _).alloc (Nat.le_refl _) _⟩
theorem Ar.Ok.lay {A : Ar} (ok : A.Ok) {s : Int} {g : Hd} (hs : isSp s = true) (f : Fine g) (hn : 2 + g.ptrs + g.raws ≤ A.free s) (h0 : 0 ≤ g.ser) (h1 : g.ser < 18446744073709551616) : (A.lay s g).Ok := by
  have eb := enc_bd f
  have ok2 := ok.take (s := s) (n := 2 + g.ptrs + g.raws) hs (by have := f.p0; have := f.r0; omega) hn
  exact Ar.Ok.put (Ar.Ok.put ok2 (A.top s).toNat (v := enc g) ⟨eb.1, by omega⟩) (A.top s + 1).toNat (v := g.ser) ⟨h0, h1⟩
theorem Ar.new_ok3 {c : Cfg} (h : c.valid = true) : (Ar.new c).Ok := by
  obtain ⟨e0, e1, s0, s1, t0, t1⟩ := Cfg.bd h
  refine ⟨h, ?_, ?_, by simp [Ar.new], ?_, ?_, ?_, ?_, ?_, ?_, ?_, .inl rfl⟩
  · show ((List.replicate c.size.toNat (0 : Int)).length : Int) = c.size
    rw [List.length_replicate]; unfold Cfg.size; omega
  · intro x hx
    have hx' : x ∈ List.replicate c.size.toNat (0 : Int) := hx
    rw [(List.mem_replicate.1 hx').2]; decide
  all_goals (simp only [Ar.new]; omega)
def hd3 : Hd := ⟨7, 1, 1, 2, 0, 0, false⟩
theorem hd3_val : hd3.val = .agg #[.int .u64 7, .int .i64 1, .int .i64 1, .int .i64 2, .int .i64 0, .int .i64 0, .bool false] := rfl
theorem ar3_is : ((Ar.new cfg3).lay 1 hd3).isObj 1 = true := by kernel_rfl
theorem ar3_hd : ((Ar.new cfg3).lay 1 hd3).hd 1 = hd3 := by kernel_rfl
theorem ar3_osz : ((Ar.new cfg3).lay 1 hd3).osz 1 = 5 := by kernel_rfl
theorem ar3_top : ((Ar.new cfg3).lay 1 hd3).top 1 = 6 := by kernel_rfl
theorem ar3_first : ((Ar.new cfg3).lay 1 hd3).first 1 = 1 := rfl
theorem ar3_objs : ((Ar.new cfg3).lay 1 hd3).objs 1 = [(1, hd3)] := by
  have ht : ((Ar.new cfg3).lay 1 hd3).th 1 1 = ⟨1, 5, hd3, true⟩ := by unfold Ar.th; rw [if_pos ar3_is, ar3_osz, ar3_hd]
  unfold Ar.objs
  rw [if_pos (by decide), ar3_first, Ar.things_on _ (by rw [ar3_top]; decide) (by rw [ht]; decide), ht, Ar.things_end _ (by rw [ar3_top]; decide)]
  rfl
theorem tk3 : (Tk.new 0 9).over [(1, hd3)] = ⟨[1], [hd3], 0, 9, false, false⟩ := by kernel_rfl
def cfg0 : Cfg := ⟨0, 0, 0, 0, 0, 0, 0, 0, 0, 0, 0, 0, 0, 0⟩
theorem cfg0_val : cfg0.val = .agg #[.int .i64 0, .int .i64 0, .int .i64 0, .int .i64 0, .int .i64 0, .int .i64 0, .int .i64 0, .int .i64 0, .int .i64 0, .int .i64 0, .int .i64 0, .int .i64 0, .int .i64 0, .int .i64 0] := rfl
set_option maxRecDepth 100000 in
set_option maxHeartbeats 4000000 in
theorem known3_any (w : World) (tb : Tab w) : Calls Tryd.prog 41 #[] w fun e w' => e = .returned (.bool true) ∧ Below w.heap.size w w' := by
  have SM := Lib.hid (fun w => small3_any w)
  have NA := Lib.hid (fun w => new_yes cfg3 w cfg3_valid)
  have NB := Lib.hid (fun w => new_no cfg0 w (by decide))
  rw [cfg0_val] at NB
  have PU := Lib.hid (fun (a wb : Nat) (w' : World) (hb : Below w.heap.size w w') (hA : ArAt w' a wb (Ar.new cfg3)) => put_yes a wb (Ar.new cfg3) 1 hd3 w' (tb.below hb) hA (Ar.new_ok3 cfg3_valid) ((chk_iff hd3).1 (by decide)) (by decide) (by decide))
  have OB := Lib.hid (fun (a wb : Nat) (w' : World) (hb : Below w.heap.size w w') (hA : ArAt w' a wb ((Ar.new cfg3).lay 1 hd3)) => objects_any a wb ((Ar.new cfg3).lay 1 hd3) 1 0 9 w' (tb.below hb) hA (Ar.Ok.lay (Ar.new_ok3 cfg3_valid) (by decide) ((chk_iff hd3).1 (by decide)) (by decide) (by decide) (by decide)))
  have TP := Lib.hid (fun (a wb : Nat) (w' : World) (hA : ArAt w' a wb ((Ar.new cfg3).lay 1 hd3)) => top_any a wb ((Ar.new cfg3).lay 1 hd3) 1 w' hA)
  rw [ar3_objs, tk3] at OB
  rw [ar3_top] at TP
  rw [hd3_val] at PU
  clear tb
  go_enter Tryd.func41, Tryd.ntmps41
  go_wp2_with fail
  refine (SM.out _).mono ?_
  rintro e w1 ⟨rfl, hb1⟩
  go_wp2_with fail
  refine (NA.out _).mono ?_
  rintro e w2 ⟨a, wb, rfl, hA, a1, a2, hb⟩
  have hb2 := hb1.trans (hb.mono hb1.size)
  replace a1 := Nat.le_trans hb1.size a1
  replace a2 := Nat.le_trans hb1.size a2
  clear hb hb1 SM NA w1
  go_wp2_with fail
  refine (PU.out a wb _ hb2 hA).mono ?_
  rintro e w3 ⟨rfl, hA3, ho⟩
  have hb3 : Below w.heap.size w w3 := hb2.trans (ho.below hb2.size (by simp; omega))
  clear ho hb2 hA PU w2
  go_wp2_with fail
  refine (OB.out a wb _ hb3 hA3).mono ?_
  rintro e w4 ⟨t, v1, v2, rfl, hT, hb⟩
  have hb4 := hb3.trans (hb.mono hb3.size)
  have hA4 := hA3.below hb
  clear hb hb3 hA3 OB
  obtain ⟨g1, n1, rfl, -, -⟩ := hT.r1.form (by decide)
  obtain ⟨g2, n2, rfl, -, -⟩ := hT.r2.form (by decide)
  have c0 : w4.cell? ⟨t, 0, none⟩ = some (.slice (some ⟨g1, 0, none⟩) 1 n1) := hT.c0
  have c1 : w4.cell? ⟨t, 1, none⟩ = some (.slice (some ⟨g2, 0, none⟩) 1 n2) := hT.c1
  have d0 : w4.cell? ⟨g1, 0, none⟩ = some (.int .i64 1) := row_int hT.r1 (i := 0) (by decide)
  have d1 : w4.cell? ⟨g2, 0, none⟩ = some (.int .u64 7) := row_hd hT.r2 (i := 0) (j := 0) (by decide) (by decide) rfl
  clear hT
  go_upto_region 6 with fail
  go_cut [71] from 30 (fun s wx => s = .bool false ∧ Below w4.heap.size w4 wx)
  case first =>
    go_wp2_with fail
    refine (TP.out a wb _ hA4).mono ?_
    rintro e w5 ⟨rfl, hb⟩
    go_wp2_with fail
    go_meet
    exact ⟨rfl, hb⟩
  case rest =>
    obtain ⟨rfl, hb⟩ := hcut
    have hb5 := hb4.trans (hb.mono hb4.size)
    clear hb hb4 c0 c1 d0 d1 hA4 TP
    go_wp2_with fail
    refine (NB.out _).mono ?_
    rintro e w6 ⟨rfl, hb⟩
    go_wp2_with fail
    go_ret
    exact ⟨rfl, hb5.trans (hb.mono hb5.size)⟩
end Go.Proofs.YtomgfdfgildkbaaDoor
