/- The walk of the law CellBack. -/
import Derived.Test.YtomgfdfgildkbaaDoorCellFormsWG
import Derived.Test.YtomgfdfgildkbaaDoorArenaP
import Derived.Deep.RegionHeld3
import Derived.Deep.DeepCutAuto
import Derived.Deep.CutBlock
import Derived.Outline
namespace Go.Proofs.YtomgfdfgildkbaaDoor
open Go.RowKit Go.BigFrame

def amongI (a n : Int) : Int := if a < 0 then (-(a + 1)) % n else a % n
theorem among_bd {a n : Int} (h : 0 < n) : 0 ≤ amongI a n ∧ amongI a n < n := by
  unfold amongI; split
  · exact ⟨Int.emod_nonneg _ (by omega), Int.emod_lt_of_pos _ h⟩
  · exact ⟨Int.emod_nonneg _ (by omega), Int.emod_lt_of_pos _ h⟩
theorem among_neg {a n : Int} (h : a < 0) : -((a + 1).tmod n) = (-(a + 1)) % n := by
  rw [← Int.neg_tmod, Int.tmod_eq_emod_of_nonneg (by omega)]
theorem among2_any (a n : Int) (w : World) (ha : -9223372036854775808 ≤ a) (ha2 : a < 9223372036854775808) (h : 0 < n) (h2 : n ≤ 1099511627776) :
    Calls Tryd.prog 31 #[.int .i64 a, .int .i64 n] w fun e w' => e = .returned (.int .i64 (amongI a n)) ∧ w = w' := by
  have hn : (n == 0) = false := by simp; omega
  unfold amongI
  by_cases c : a < 0
  · rw [if_pos c]
    go_enter Tryd.func31, Tryd.ntmps31
    go_wp2
    go_ret
    exact ⟨ret_int (by first | rfl | exact among_neg c), rfl⟩
  · rw [if_neg c]
    have c0 : 0 ≤ a := by omega
    go_enter Tryd.func31, Tryd.ntmps31
    go_wp2
    go_ret
    exact ⟨ret_int (by first | rfl | exact Int.tmod_eq_emod_of_nonneg c0), rfl⟩
theorem keep1 {W w' : World} (hb : Below W.heap.size W w') (b : Nat) (h : b < W.heap.size) : (∀ o, w'.cell? ⟨b, o, none⟩ = W.cell? ⟨b, o, none⟩) ∧ (∀ o, w'.frozen? ⟨b, o, none⟩ = W.frozen? ⟨b, o, none⟩) :=
  ⟨fun o => hb.cell (p := ⟨b, o, none⟩) h, fun o => hb.frozen (p := ⟨b, o, none⟩) h⟩
theorem withH_age {h : Hd} (f : Fine h) {a : Int} (a0 : 0 ≤ a) (a1 : a ≤ 15) : withH (enc h) (fun (g : Hd) => { g with age := a }) = enc { h with ser := 0, age := a } ∧ Fine { h with ser := 0, age := a } := by
  have f2 : Fine { h with ser := 0, age := a } := ⟨f.k0, f.k1, f.p0, f.p1, f.r0, f.r1, a0, a1, f.s0, f.s1, f.kw, f.ke⟩
  refine ⟨?_, f2⟩
  unfold withH
  rw [if_pos (isHd_enc f), dec_enc f, if_pos ((chk_iff _).2 f2)]
theorem withH_held {h : Hd} (f : Fine h) (b : Bool) : withH (enc h) (fun (g : Hd) => { g with held := b }) = enc { h with ser := 0, held := b } ∧ Fine { h with ser := 0, held := b } := by
  have f2 : Fine { h with ser := 0, held := b } := ⟨f.k0, f.k1, f.p0, f.p1, f.r0, f.r1, f.a0, f.a1, f.s0, f.s1, f.kw, f.ke⟩
  refine ⟨?_, f2⟩
  unfold withH
  rw [if_pos (isHd_enc f), dec_enc f, if_pos ((chk_iff _).2 f2)]
theorem withH_kind {h : Hd} (f : Fine h) {k : Int} (k0 : 1 ≤ k) (k1 : k ≤ 4) (hk : ¬ ((k = 2 ∧ h.ptrs < 1) ∨ (k = 3 ∧ h.ptrs < 2))) : withH (enc h) (fun (g : Hd) => { g with kind := k }) = enc { h with ser := 0, kind := k } ∧ Fine { h with ser := 0, kind := k } := by
  have f2 : Fine { h with ser := 0, kind := k } := ⟨k0, k1, f.p0, f.p1, f.r0, f.r1, f.a0, f.a1, f.s0, f.s1, fun e => by simp only at e ⊢; omega, fun e => by simp only at e ⊢; omega⟩
  refine ⟨?_, f2⟩
  unfold withH
  rw [if_pos (isHd_enc f), dec_enc f, if_pos ((chk_iff _).2 f2)]
theorem withH_kind_no {h : Hd} (f : Fine h) {k : Int} (hk : (k = 2 ∧ h.ptrs < 1) ∨ (k = 3 ∧ h.ptrs < 2)) : withH (enc h) (fun (g : Hd) => { g with kind := k }) = enc h := by
  unfold withH
  rw [if_pos (isHd_enc f), dec_enc f, if_neg]
  intro c
  have f2 := (chk_iff _).1 c
  have := f2.kw; have := f2.ke
  simp only at *
  omega
theorem withH_fwd {n a : Int} (h1 : 1 ≤ n) (h2 : n ≤ 1099511627776) : withH (wordT 2 n) (fun (g : Hd) => { g with age := a }) = wordT 2 n := by
  unfold withH
  rw [if_neg]
  intro c
  have := isHd_tag c
  unfold wordT at this
  rw [if_pos ⟨h1, h2⟩] at this
  omega
theorem numT_back {tag n : Int} (t0 : 0 ≤ tag) (t1 : tag < 4) (h1 : 1 ≤ n) (h2 : n ≤ 1099511627776) : numT tag (wordT tag n) = (n, true) := by
  unfold wordT; rw [if_pos ⟨h1, h2⟩]; unfold numT
  rw [if_pos (by omega), show (tag + 4 * n) / 4 = n by omega]

/-- The head that the law makes of its arguments. -/
def bkHd (kind ptrs raws age site : Int) (held : Bool) (serial : Int) : Hd :=
  ⟨serial, 1 + amongI kind 4, if 1 + amongI kind 4 = 2 ∨ 1 + amongI kind 4 = 3 then (if amongI ptrs 4096 < amongI kind 4 then amongI kind 4 else amongI ptrs 4096) else amongI ptrs 4096, amongI raws 65536, amongI age 16, amongI site 256, held⟩
theorem bkHd_fine (kind ptrs raws age site : Int) (held : Bool) (serial : Int) : Fine (bkHd kind ptrs raws age site held serial) := by
  have h1 := @among_bd kind 4 (by decide)
  have h2 := @among_bd ptrs 4096 (by decide)
  have h3 := @among_bd raws 65536 (by decide)
  have h4 := @among_bd age 16 (by decide)
  have h5 := @among_bd site 256 (by decide)
  unfold bkHd
  generalize amongI kind 4 = k at *
  generalize amongI ptrs 4096 = p at *
  by_cases c : 1 + k = 2 ∨ 1 + k = 3
  · by_cases d : p < k
    · constructor <;> simp only [if_pos c, if_pos d] <;> omega
    · constructor <;> simp only [if_pos c, if_neg d] <;> omega
  · constructor <;> simp only [if_neg c] <;> omega

structure I64 (n : Int) : Prop where
  lo : -9223372036854775808 ≤ n
  hi : n < 9223372036854775808

theorem set7 {W : World} {b : Nat} {c0 c1 c2 c3 c4 c5 c6 : Value} {t : TypeId} (h : W.heap[b]? = some (.cells #[c0, c1, c2, c3, c4, c5, c6] t (0, 0))) (v0 v1 v2 v3 v4 v5 v6 : Value) :
    (((((((W.setCell ⟨b, 0, none⟩ v0).setCell ⟨b, 1, none⟩ v1).setCell ⟨b, 2, none⟩ v2).setCell ⟨b, 3, none⟩ v3).setCell ⟨b, 4, none⟩ v4).setCell ⟨b, 5, none⟩ v5).setCell ⟨b, 6, none⟩ v6).heap[b]? = some (.cells #[v0, v1, v2, v3, v4, v5, v6] t (0, 0)) := by
  have h0 := block_set h 0 v0
  have h1 := block_set h0 1 v1
  have h2 := block_set h1 2 v2
  have h3 := block_set h2 3 v3
  have h4 := block_set h3 4 v4
  have h5 := block_set h4 5 v5
  have h6 := block_set h5 6 v6
  simpa using h6
theorem set7_ne {W : World} {b k : Nat} (v0 v1 v2 v3 v4 v5 v6 : Value) (h : k ≠ b) :
    (((((((W.setCell ⟨b, 0, none⟩ v0).setCell ⟨b, 1, none⟩ v1).setCell ⟨b, 2, none⟩ v2).setCell ⟨b, 3, none⟩ v3).setCell ⟨b, 4, none⟩ v4).setCell ⟨b, 5, none⟩ v5).setCell ⟨b, 6, none⟩ v6).heap[k]? = W.heap[k]? := by
  rw [block_set_ne h, block_set_ne h, block_set_ne h, block_set_ne h, block_set_ne h, block_set_ne h, block_set_ne h]
theorem set7_below {W a : World} {b B : Nat} (v0 v1 v2 v3 v4 v5 v6 : Value) (h : Below B a W) (hb : B ≤ b) :
    Below B a (((((((W.setCell ⟨b, 0, none⟩ v0).setCell ⟨b, 1, none⟩ v1).setCell ⟨b, 2, none⟩ v2).setCell ⟨b, 3, none⟩ v3).setCell ⟨b, 4, none⟩ v4).setCell ⟨b, 5, none⟩ v5).setCell ⟨b, 6, none⟩ v6) := by
  refine Below.setCell ?_ hb _
  refine Below.setCell ?_ hb _
  refine Below.setCell ?_ hb _
  refine Below.setCell ?_ hb _
  refine Below.setCell ?_ hb _
  refine Below.setCell ?_ hb _
  exact Below.setCell h hb _
theorem set7_size {W : World} {b : Nat} (v0 v1 v2 v3 v4 v5 v6 : Value) : (((((((W.setCell ⟨b, 0, none⟩ v0).setCell ⟨b, 1, none⟩ v1).setCell ⟨b, 2, none⟩ v2).setCell ⟨b, 3, none⟩ v3).setCell ⟨b, 4, none⟩ v4).setCell ⟨b, 5, none⟩ v5).setCell ⟨b, 6, none⟩ v6).heap.size = W.heap.size := by simp
end Go.Proofs.YtomgfdfgildkbaaDoor
