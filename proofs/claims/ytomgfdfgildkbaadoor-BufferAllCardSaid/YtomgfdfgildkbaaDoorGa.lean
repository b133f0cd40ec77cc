/- Merged texts: Plain, CellW, CellW2, CellW3, CellW4, CellW5. -/
import Derived.Below
import Derived.IntWalk
import Derived.Deep.Quiet
import Derived.Laws.BitsLemmas
import Derived.Laws.Bits64b
import Derived.Test.YtomgfdfgildkbaaDoorProg
import Derived.WalkKit
import Derived.ProofKit
import Derived.Deep.QuietTactic
import Derived.BigQuiet
import Derived.WalkSpells
import Derived.Lib.Hide
import Derived.Outline
import Derived.Lib.SmallJoins
/- Plain words for the cell layer: heads as numbers, what a word of memory says. No program in sight, no condition. -/





namespace Go.Proofs.YtomgfdfgildkbaaDoor
open Go.RowKit
structure Hd where
  ser : Int
  kind : Int
  ptrs : Int
  raws : Int
  age : Int
  site : Int
  held : Bool

def b2i (b : Bool) : Int := if b then 1 else 0

def chk (h : Hd) : Int :=
  if h.kind < 1 ∨ 4 < h.kind ∨ (h.kind = 2 ∧ h.ptrs < 1) ∨ (h.kind = 3 ∧ h.ptrs < 2) then 20
  else if h.ptrs < 0 ∨ 4095 < h.ptrs then 21
  else if h.raws < 0 ∨ 65535 < h.raws then 22
  else if h.age < 0 ∨ 15 < h.age then 23
  else if h.site < 0 ∨ 255 < h.site then 24
  else 0

def enc (h : Hd) : Int := 1 + 4 * h.kind + 32 * b2i h.held + 64 * h.age + 1024 * h.site + 262144 * h.ptrs + 1073741824 * h.raws
def pack (h : Hd) : Int := if chk h = 0 then enc h else 0

def nohd : Hd := ⟨0, 0, 0, 0, 0, 0, false⟩
def dec (w : Int) : Hd := ⟨0, w / 4 % 8, w / 262144 % 4096, w / 1073741824 % 65536, w / 64 % 16, w / 1024 % 256, decide (w / 32 % 2 = 1)⟩
def isHd (w : Int) : Bool := decide (w % 4 = 1) && decide (w / 70368744177664 = 0) && decide (chk (dec w) = 0)
def unp (w : Int) : Hd := if isHd w then dec w else nohd
def numT (tag w : Int) : Int × Bool := if w % 4 = tag ∧ 1 ≤ w / 4 ∧ w / 4 ≤ 1099511627776 then (w / 4, true) else (0, false)
def wordT (tag n : Int) : Int := if 1 ≤ n ∧ n ≤ 1099511627776 then tag + 4 * n else 0
def sizeW (w : Int) : Int := if isHd w then 2 + (dec w).ptrs + (dec w).raws else (numT 3 w).1
def withH (w : Int) (f : Hd → Hd) : Int := if isHd w then (if chk (f (dec w)) = 0 then enc (f (dec w)) else w) else w

structure Fine (h : Hd) : Prop where
  k0 : 1 ≤ h.kind
  k1 : h.kind ≤ 4
  p0 : 0 ≤ h.ptrs
  p1 : h.ptrs ≤ 4095
  r0 : 0 ≤ h.raws
  r1 : h.raws ≤ 65535
  a0 : 0 ≤ h.age
  a1 : h.age ≤ 15
  s0 : 0 ≤ h.site
  s1 : h.site ≤ 255
  kw : h.kind = 2 → 1 ≤ h.ptrs
  ke : h.kind = 3 → 2 ≤ h.ptrs

theorem chk_iff (h : Hd) : chk h = 0 ↔ Fine h := by
  unfold chk
  constructor
  · intro e
    split at e; · simp at e
    split at e; · simp at e
    split at e; · simp at e
    split at e; · simp at e
    split at e; · simp at e
    constructor <;> omega
  · intro ⟨_, _, _, _, _, _, _, _, _, _, _, _⟩
    rw [if_neg (by omega), if_neg (by omega), if_neg (by omega), if_neg (by omega), if_neg (by omega)]

theorem b2i_01 (b : Bool) : 0 ≤ b2i b ∧ b2i b ≤ 1 := by cases b <;> simp [b2i]

theorem enc_bd {h : Hd} (f : Fine h) : 0 ≤ enc h ∧ enc h < 70368744177664 := by
  obtain ⟨_, _, _, _, _, _, _, _, _, _, _, _⟩ := f
  have := b2i_01 h.held
  unfold enc; omega

theorem dec_enc {h : Hd} (f : Fine h) : dec (enc h) = { h with ser := 0 } := by
  obtain ⟨_, _, _, _, _, _, _, _, _, _, _, _⟩ := f
  obtain ⟨ser, kind, ptrs, raws, age, site, held⟩ := h
  simp only at *
  have hb := b2i_01 held
  unfold dec enc
  simp only
  generalize hbb : b2i held = b at *
  rw [show (1 + 4 * kind + 32 * b + 64 * age + 1024 * site + 262144 * ptrs + 1073741824 * raws) / 4 % 8 = kind by omega,
    show (1 + 4 * kind + 32 * b + 64 * age + 1024 * site + 262144 * ptrs + 1073741824 * raws) / 262144 % 4096 = ptrs by omega,
    show (1 + 4 * kind + 32 * b + 64 * age + 1024 * site + 262144 * ptrs + 1073741824 * raws) / 1073741824 % 65536 = raws by omega,
    show (1 + 4 * kind + 32 * b + 64 * age + 1024 * site + 262144 * ptrs + 1073741824 * raws) / 64 % 16 = age by omega,
    show (1 + 4 * kind + 32 * b + 64 * age + 1024 * site + 262144 * ptrs + 1073741824 * raws) / 1024 % 256 = site by omega,
    show (1 + 4 * kind + 32 * b + 64 * age + 1024 * site + 262144 * ptrs + 1073741824 * raws) / 32 % 2 = b by omega]
  cases held <;> simp [b2i] at hbb <;> subst hbb <;> simp

theorem isHd_enc {h : Hd} (f : Fine h) : isHd (enc h) = true := by
  have hd := dec_enc f
  have hb := enc_bd f
  unfold isHd
  rw [hd]
  have f' : Fine { h with ser := 0 } := ⟨f.k0, f.k1, f.p0, f.p1, f.r0, f.r1, f.a0, f.a1, f.s0, f.s1, f.kw, f.ke⟩
  rw [(chk_iff _).2 f']
  have : enc h % 4 = 1 := by
    unfold enc; have := b2i_01 h.held; omega
  simp [this]
  omega

theorem enc_dec {w : Int} (_h0 : 0 ≤ w) (h : isHd w = true) : enc (dec w) = w := by
  unfold isHd at h
  simp only [Bool.and_eq_true, decide_eq_true_eq] at h
  obtain ⟨⟨h1, h2⟩, h3⟩ := h
  unfold enc dec
  simp only
  have : b2i (decide (w / 32 % 2 = 1)) = w / 32 % 2 := by
    unfold b2i
    rcases (show w / 32 % 2 = 0 ∨ w / 32 % 2 = 1 by omega) with e | e <;> simp [e]
  rw [this]
  omega

theorem or_add (i : Nat) {a b : Int} (ha0 : 0 ≤ a) (ha : a < 2 ^ i) (hb0 : 0 ≤ b) (hb : b % 2 ^ i = 0) (hb1 : b < 18446744073709551616) (hi : (2 : Int) ^ i ≤ 18446744073709551616) : bits .or .u64 a b = a + b := by
  obtain ⟨x, rfl⟩ := Int.eq_ofNat_of_zero_le ha0
  obtain ⟨y, rfl⟩ := Int.eq_ofNat_of_zero_le hb0
  have hy : y < 18446744073709551616 := by omega
  have hx : x < 18446744073709551616 := by omega
  have hd : y % 2 ^ i = 0 := by exact_mod_cast hb
  have hx' : x < 2 ^ i := by exact_mod_cast ha
  have hq : y = 2 ^ i * (y / 2 ^ i) := by
    have := Nat.div_add_mod y (2 ^ i)
    omega
  rw [bits_or_u64_nat x y hx hy, Nat.or_comm]
  rw [hq, ← Nat.two_pow_add_eq_or_of_lt hx' (y / 2 ^ i)]
  simp
  omega
theorem pack_or {kind age site ptrs raws : Int} {held : Bool} (h0 : 0 ≤ kind) (h1 : kind < 8) (a0 : 0 ≤ age) (a1 : age < 16) (s0 : 0 ≤ site) (s1 : site < 256) (p0 : 0 ≤ ptrs) (p1 : ptrs < 4096) (r0 : 0 ≤ raws) (r1 : raws < 65536) :
    bits .or .u64 (bits .or .u64 (bits .or .u64 (bits .or .u64 (bits .or .u64 (bits .or .u64 1 (kind * 4)) (b2i held * 32)) (age * 64)) (site * 1024)) (ptrs * 262144)) (raws * 1073741824)
      = 1 + 4 * kind + 32 * b2i held + 64 * age + 1024 * site + 262144 * ptrs + 1073741824 * raws := by
  have hb := b2i_01 held
  generalize b2i held = b at *
  rw [show bits .or .u64 (1) (kind * 4) = 1 + kind * 4 from or_add 2 (by omega) (by omega) (by omega) (by omega) (by omega) (by omega)]
  rw [show bits .or .u64 (1 + kind * 4) (b * 32) = 1 + kind * 4 + b * 32 from or_add 5 (by omega) (by omega) (by omega) (by omega) (by omega) (by omega)]
  rw [show bits .or .u64 (1 + kind * 4 + b * 32) (age * 64) = 1 + kind * 4 + b * 32 + age * 64 from or_add 6 (by omega) (by omega) (by omega) (by omega) (by omega) (by omega)]
  rw [show bits .or .u64 (1 + kind * 4 + b * 32 + age * 64) (site * 1024) = 1 + kind * 4 + b * 32 + age * 64 + site * 1024 from or_add 10 (by omega) (by omega) (by omega) (by omega) (by omega) (by omega)]
  rw [show bits .or .u64 (1 + kind * 4 + b * 32 + age * 64 + site * 1024) (ptrs * 262144) = 1 + kind * 4 + b * 32 + age * 64 + site * 1024 + ptrs * 262144 from or_add 18 (by omega) (by omega) (by omega) (by omega) (by omega) (by omega)]
  rw [show bits .or .u64 (1 + kind * 4 + b * 32 + age * 64 + site * 1024 + ptrs * 262144) (raws * 1073741824) = 1 + kind * 4 + b * 32 + age * 64 + site * 1024 + ptrs * 262144 + raws * 1073741824 from or_add 30 (by omega) (by omega) (by omega) (by omega) (by omega) (by omega)]
  omega

/-- A head as Go's struct holds it. -/
def Hd.val (h : Hd) : Value := .agg #[.int .u64 h.ser, .int .i64 h.kind, .int .i64 h.ptrs, .int .i64 h.raws, .int .i64 h.age, .int .i64 h.site, .bool h.held]
theorem ret_int {k : IntKind} {a b : Int} (h : a = b) : Ending.returned (.int k a) = .returned (.int k b) := by rw [h]
theorem ret_bool {a b : Bool} (h : a = b) : Ending.returned (.bool a) = .returned (.bool b) := by rw [h]
theorem below_drewN {B : Nat} {a w : World} (h : Below B a w) (n : Nat) : Below B a (w.drewN n) := ⟨h.os, h.tape, h.output, h.size, h.block⟩
theorem below_drewN_r {B : Nat} {a w : World} {n : Nat} (h : Below B (a.drewN n) w) : Below B a w := ⟨h.os, h.tape, h.output, h.size, h.block⟩
theorem bcell {W w1 : World} (hb : Below W.heap.size W w1) : (∀ b o, b < W.heap.size → w1.cell? ⟨b, o, none⟩ = W.cell? ⟨b, o, none⟩) ∧ (∀ b o, b < W.heap.size → w1.frozen? ⟨b, o, none⟩ = W.frozen? ⟨b, o, none⟩) :=
  ⟨fun b o h => hb.cell (p := ⟨b, o, none⟩) h, fun b o h => hb.frozen (p := ⟨b, o, none⟩) h⟩
/-- A block of cells that is known whole: its cells, its marks. -/
theorem hcell {w : World} {b : Nat} {c : Array Value} {t : TypeId} (h : w.heap[b]? = some (.cells c t (0, 0))) : (∀ o, w.cell? ⟨b, o, none⟩ = c[o]?) ∧ (∀ o, w.frozen? ⟨b, o, none⟩ = false) :=
  ⟨fun o => by simp [World.cell?, h], fun o => by simp [World.frozen?, h]⟩
theorem kept_new {w w' : World} {X : Obj} (hb : Below (w.alloc X).heap.size (w.alloc X) w') : w'.heap[w.heap.size]? = some X ∧ Below w.heap.size w w' ∧ w.heap.size < w'.heap.size := by
  refine ⟨?_, ((Below.refl _ _).alloc (Nat.le_refl _) _).trans (hb.mono (by simp)), ?_⟩
  · rw [hb.block _ (by simp)]; show (w.heap.push X)[w.heap.size]? = _; simp
  · have := hb.size; simp at this; omega
theorem kept_new2 {w w' : World} {X Y : Obj} (hb : Below ((w.alloc X).alloc Y).heap.size ((w.alloc X).alloc Y) w') : w'.heap[w.heap.size]? = some X ∧ w'.heap[w.heap.size + 1]? = some Y ∧ Below w.heap.size w w' ∧ w.heap.size + 1 < w'.heap.size := by
  obtain ⟨h1, h2, h3⟩ := kept_new hb
  have h1' : w'.heap[w.heap.size + 1]? = some Y := by simpa using h1
  obtain ⟨h4, h5, h6⟩ := kept_new h2
  refine ⟨h4, h1', h5, ?_⟩
  simp at h3; omega
theorem kept_new3 {w w' : World} {X Y Z : Obj} (hb : Below (((w.alloc X).alloc Y).alloc Z).heap.size (((w.alloc X).alloc Y).alloc Z) w') : w'.heap[w.heap.size]? = some X ∧ w'.heap[w.heap.size + 1]? = some Y ∧ w'.heap[w.heap.size + 1 + 1]? = some Z ∧ Below w.heap.size w w' ∧ w.heap.size + 1 + 1 < w'.heap.size := by
  obtain ⟨h1, h2, h3⟩ := kept_new hb
  have h1' : w'.heap[w.heap.size + 1 + 1]? = some Z := by simpa using h1
  obtain ⟨h4, h5, h6, h7⟩ := kept_new2 h2
  refine ⟨h4, h5, h1', h6, ?_⟩
  simp at h3; omega
theorem cell_new1 (w : World) (v : Value) (t : TypeId) : (w.alloc (.cells #[v] t)).cell? ⟨w.heap.size, 0, none⟩ = some v := by
  have h : (w.alloc (.cells #[v] t)).heap[w.heap.size]? = some (.cells #[v] t) := by show (w.heap.push _)[w.heap.size]? = _; simp
  unfold World.cell?
  simp only [h]
  rfl
end Go.Proofs.YtomgfdfgildkbaaDoor
/- The walks of package cell: what each function returns, in the plain words of Plain. -/








namespace Go.Proofs.YtomgfdfgildkbaaDoor
open Go.RowKit Go.BigFrame

/-- The tables of package cell lie in memory. -/
structure Tab (w : World) : Prop where
  n0 : w.cell? ⟨1, 0, none⟩ = some (.int .i64 (-1))
  n1 : w.cell? ⟨1, 1, none⟩ = some (.int .i64 0)
  n2 : w.cell? ⟨1, 2, none⟩ = some (.int .i64 1)
  n3 : w.cell? ⟨1, 3, none⟩ = some (.int .i64 2)
  n4 : w.cell? ⟨1, 4, none⟩ = some (.int .i64 0)
  w0 : w.cell? ⟨0, 0, none⟩ = some (.int .i64 3)
  w1 : w.cell? ⟨0, 1, none⟩ = some (.int .i64 1)
  w2 : w.cell? ⟨0, 2, none⟩ = some (.int .i64 4)
  w3 : w.cell? ⟨0, 3, none⟩ = some (.int .i64 8)
  w4 : w.cell? ⟨0, 4, none⟩ = some (.int .i64 12)
  w5 : w.cell? ⟨0, 5, none⟩ = some (.int .i64 16)
  hs : 1 < w.heap.size
  ht : 0 < w.heap.size

theorem Tab.below {w w' : World} (h : Tab w) (hb : Below w.heap.size w w') : Tab w' := by
  obtain ⟨n0, n1, n2, n3, n4, w0, w1, w2, w3, w4, w5, hs, ht⟩ := h
  have q : ∀ b o, b < w.heap.size → w'.cell? ⟨b, o, none⟩ = w.cell? ⟨b, o, none⟩ := fun b o h => hb.cell (p := ⟨b, o, none⟩) h
  have := hb.size
  constructor <;> first | omega | (rw [q _ _ (by omega)]; assumption)

set_option maxHeartbeats 1000000 in
theorem check_any (h : Hd) (w : World) (ht : Tab w) :
    Calls Tryd.prog 74 #[h.val] w fun e w' => e = .returned (.int .i64 (chk h)) ∧ Below w.heap.size w w' := by
  obtain ⟨n0, n1, n2, n3, n4, w0, w1, w2, w3, w4, w5, hs, ht⟩ := ht
  clear w0 w1 w2 w3 w4 w5 ht
  obtain ⟨ser, kind, ptrs, raws, age, site, held⟩ := h
  unfold Hd.val
  simp only
  by_cases k0 : kind < 0
  · go_enter Tryd.func74, Tryd.ntmps74
    go_wp2
    go_big_quiet (fail)
    go_wp2
    all_goals
      go_ret
      exact ⟨ret_int (by unfold chk; simp only; (try simp only [true_and]); repeat (first | rw [if_pos (by omega)] | rw [if_neg (by omega)])), below_drewN ((Below.refl _ _).alloc (Nat.le_refl _) _) _⟩
  by_cases k5 : 5 ≤ kind
  · have d0 : decide (kind < 0) = false := by simp; omega
    go_enter Tryd.func74, Tryd.ntmps74
    go_wp2
    go_big_quiet (fail)
    go_wp2
    all_goals
      go_ret
      exact ⟨ret_int (by unfold chk; simp only; (try simp only [true_and]); repeat (first | rw [if_pos (by omega)] | rw [if_neg (by omega)])), below_drewN ((Below.refl _ _).alloc (Nat.le_refl _) _) _⟩
  have hk : kind = 0 ∨ kind = 1 ∨ kind = 4 ∨ kind = 2 ∨ kind = 3 := by omega
  clear k0 k5
  rcases hk with rfl | rfl | rfl | rfl | rfl
  · go_enter Tryd.func74, Tryd.ntmps74
    go_wp2
    go_big_quiet (fail)
    go_wp2
    all_goals
      go_ret
      exact ⟨ret_int (by unfold chk; simp only; (try simp only [true_and]); repeat (first | rw [if_pos (by omega)] | rw [if_neg (by omega)])), below_drewN ((Below.refl _ _).alloc (Nat.le_refl _) _) _⟩
  · go_enter Tryd.func74, Tryd.ntmps74
    go_wp2
    go_big_quiet (fail)
    go_wp2
    all_goals
      go_ret
      exact ⟨ret_int (by unfold chk; simp only; (try simp only [true_and]); repeat (first | rw [if_pos (by omega)] | rw [if_neg (by omega)])), below_drewN ((Below.refl _ _).alloc (Nat.le_refl _) _) _⟩
  · go_enter Tryd.func74, Tryd.ntmps74
    go_wp2
    go_big_quiet (fail)
    go_wp2
    all_goals
      go_ret
      exact ⟨ret_int (by unfold chk; simp only; (try simp only [true_and]); repeat (first | rw [if_pos (by omega)] | rw [if_neg (by omega)])), below_drewN ((Below.refl _ _).alloc (Nat.le_refl _) _) _⟩
  · by_cases p1 : ptrs < 1
    · go_enter Tryd.func74, Tryd.ntmps74
      go_wp2
      go_big_quiet (fail)
      go_wp2
      all_goals
        go_ret
        exact ⟨ret_int (by unfold chk; simp only; (try simp only [true_and]); repeat (first | rw [if_pos (by omega)] | rw [if_neg (by omega)])), below_drewN ((Below.refl _ _).alloc (Nat.le_refl _) _) _⟩
    · have d1 : decide (ptrs < 1) = false := by simp; omega
      go_enter Tryd.func74, Tryd.ntmps74
      go_wp2
      go_big_quiet (fail)
      go_wp2
      all_goals
        go_ret
        exact ⟨ret_int (by unfold chk; simp only; (try simp only [true_and]); repeat (first | rw [if_pos (by omega)] | rw [if_neg (by omega)])), below_drewN ((Below.refl _ _).alloc (Nat.le_refl _) _) _⟩
  · by_cases p1 : ptrs < 2
    · go_enter Tryd.func74, Tryd.ntmps74
      go_wp2
      go_big_quiet (fail)
      go_wp2
      all_goals
        go_ret
        exact ⟨ret_int (by unfold chk; simp only; (try simp only [true_and]); repeat (first | rw [if_pos (by omega)] | rw [if_neg (by omega)])), below_drewN ((Below.refl _ _).alloc (Nat.le_refl _) _) _⟩
    · have d1 : decide (ptrs < 2) = false := by simp; omega
      go_enter Tryd.func74, Tryd.ntmps74
      go_wp2
      go_big_quiet (fail)
      go_wp2
      all_goals
        go_ret
        exact ⟨ret_int (by unfold chk; simp only; (try simp only [true_and]); repeat (first | rw [if_pos (by omega)] | rw [if_neg (by omega)])), below_drewN ((Below.refl _ _).alloc (Nat.le_refl _) _) _⟩
end Go.Proofs.YtomgfdfgildkbaaDoor
/- The walks of package cell, second part: Pack, Unpack, Size. -/


namespace Go.Proofs.YtomgfdfgildkbaaDoor
open Go.RowKit Go.BigFrame

@[go_sem] theorem idx6_0 (a0 a1 a2 a3 a4 a5 : Value) (w : World) : (Instr.index 114 (.agg #[a0, a1, a2, a3, a4, a5]) (.int .i64 0)).run Tryd.prog w = .ok a0 w := by kernel_rfl
@[go_sem] theorem idx6_1 (a0 a1 a2 a3 a4 a5 : Value) (w : World) : (Instr.index 114 (.agg #[a0, a1, a2, a3, a4, a5]) (.int .i64 1)).run Tryd.prog w = .ok a1 w := by kernel_rfl
@[go_sem] theorem idx6_2 (a0 a1 a2 a3 a4 a5 : Value) (w : World) : (Instr.index 114 (.agg #[a0, a1, a2, a3, a4, a5]) (.int .i64 2)).run Tryd.prog w = .ok a2 w := by kernel_rfl
@[go_sem] theorem idx6_3 (a0 a1 a2 a3 a4 a5 : Value) (w : World) : (Instr.index 114 (.agg #[a0, a1, a2, a3, a4, a5]) (.int .i64 3)).run Tryd.prog w = .ok a3 w := by kernel_rfl
@[go_sem] theorem idx6_4 (a0 a1 a2 a3 a4 a5 : Value) (w : World) : (Instr.index 114 (.agg #[a0, a1, a2, a3, a4, a5]) (.int .i64 4)).run Tryd.prog w = .ok a4 w := by kernel_rfl
@[go_sem] theorem idx6_5 (a0 a1 a2 a3 a4 a5 : Value) (w : World) : (Instr.index 114 (.agg #[a0, a1, a2, a3, a4, a5]) (.int .i64 5)).run Tryd.prog w = .ok a5 w := by kernel_rfl

theorem pack_no (h : Hd) (w : World) (ht : Tab w) (f : ¬ chk h = 0) :
    Calls Tryd.prog 14 #[h.val] w fun e w' => e = .returned (.tuple #[.int .u64 (pack h), .int .i64 (chk h)]) ∧ Below w.heap.size w w' := by
  have CC := Lib.hid (fun (W : World) (hb : Below w.heap.size w W) => check_any h W (ht.below hb))
  have hp : pack h = 0 := by unfold pack; rw [if_neg f]
  rw [hp]; clear hp
  have f1 : (chk h == 0) = false := by simpa using f
  generalize chk h = c at *
  clear f
  unfold Hd.val at *
  obtain ⟨ser, kind, ptrs, raws, age, site, held⟩ := h
  simp only at *
  go_enter Tryd.func14, Tryd.ntmps14
  go_wp2_with fail
  refine (CC.out _ ((Below.refl _ _).alloc (Nat.le_refl _) _)).mono ?_
  rintro e w' ⟨rfl, hb⟩
  obtain ⟨hX, hb0, hz⟩ := kept_new hb
  clear hX hb
  go_wp2_with fail
  go_ret2
  exact ⟨rfl, hb0⟩

set_option maxHeartbeats 1000000 in
theorem pack_yes (h : Hd) (w : World) (ht : Tab w) (f : Fine h) :
    Calls Tryd.prog 14 #[h.val] w fun e w' => e = .returned (.tuple #[.int .u64 (enc h), .int .i64 0]) ∧ Below w.heap.size w w' := by
  have cc := fun (W : World) (hb : Below w.heap.size w W) => check_any h W (ht.below hb)
  rw [(chk_iff h).2 f] at cc
  have CC := Lib.hid cc; clear cc
  obtain ⟨fk0, fk1, fp0, fp1, fr0, fr1, fa0, fa1, fs0, fs1, -, -⟩ := f
  unfold Hd.val at *
  obtain ⟨ser, kind, ptrs, raws, age, site, held⟩ := h
  simp only at *
  have P := Lib.hid (@pack_or kind age site ptrs raws held (by omega) (by omega) (by omega) (by omega) (by omega) (by omega) (by omega) (by omega) (by omega) (by omega))
  cases held
  all_goals
    go_enter Tryd.func14, Tryd.ntmps14
    go_wp2_with fail
    refine (CC.out _ ((Below.refl _ _).alloc (Nat.le_refl _) _)).mono ?_
    rintro e w' ⟨rfl, hb⟩
    obtain ⟨hX, hb0, hz⟩ := kept_new hb
    obtain ⟨hc, hf⟩ := hcell hX
    clear hX hb
    obtain ⟨-, -, -, -, -, w0, w1, w2, w3, w4, w5, -, htt⟩ := ht.below hb0
    have hne : ¬ w'.heap = #[] := by intro h; rw [h] at htt; simp at htt
    go_wp2_with fail
    refine wp_loop_rounds 7 ?_
    iterate 7 (rw [rounds_succ]; go_wp2_with fail)
    go_ret2
    refine ⟨?_, ?_⟩
    · refine Eq.trans ?_ (congrArg (fun x => Ending.returned (Value.tuple #[.int .u64 x, .int .i64 0])) P.out)
      rfl
    · first | exact hb0.alloc (by omega) _ | exact (hb0.alloc (by omega) _).setCell (by simp; omega) _

theorem pack_any (h : Hd) (w : World) (ht : Tab w) :
    Calls Tryd.prog 14 #[h.val] w fun e w' => e = .returned (.tuple #[.int .u64 (pack h), .int .i64 (chk h)]) ∧ Below w.heap.size w w' := by
  by_cases f : chk h = 0
  · have hp : pack h = enc h := by unfold pack; rw [if_pos f]
    rw [hp, f]
    exact pack_yes h w ht ((chk_iff h).1 f)
  · exact pack_no h w ht f
end Go.Proofs.YtomgfdfgildkbaaDoor
/- The walks of package cell, third part: Unpack, Size. -/

namespace Go.Proofs.YtomgfdfgildkbaaDoor
open Go.RowKit Go.BigFrame

theorem wraps_u64 (n : Int) (h₀ : 0 ≤ n) (h₁ : n < 2 ^ 64) : IntKind.u64.wrap n = n := by rw [IntKind.wrap_u64]; omega
theorem and_u64 (i : Nat) (hi : i ≤ 64) {m : Int} (h0 : 0 ≤ m) (h1 : m < 18446744073709551616) : bits .and .u64 m (2 ^ i - 1) = m % 2 ^ i :=
  bits_mask .u64 64 (by decide) wraps_u64 i hi m h0 (by omega)

set_option maxHeartbeats 1000000 in
theorem unpack_no (m : Int) (w : World) (h0 : 0 ≤ m) (h1 : m < 18446744073709551616) (h : ¬ m % 4 = 1) :
    Calls Tryd.prog 16 #[.int .u64 m] w fun e w' => e = .returned (.tuple #[nohd.val, .bool false]) ∧ Below w.heap.size w w' := by
  have hA : (bits .and .u64 m 3 != 1) = true := by rw [show (3 : Int) = 2 ^ 2 - 1 by rfl, and_u64 2 (by decide) h0 h1]; simpa using h
  clear h h0 h1
  go_enter Tryd.func16, Tryd.ntmps16
  go_wp2_with fail
  exact bodyPost_ret (v := .tuple #[nohd.val, .bool false]) (by simp [results, Tryd.results16, go_sem, nohd, Hd.val]) rfl ⟨rfl, ((Below.refl _ _).alloc (by simp) _)⟩

theorem dec_cells (m : Int) : Value.agg #[.int .u64 0, .int .i64 (m / 4 % 8), .int .i64 (m / 4 / 8 / 2 / 16 / 256 % 4096), .int .i64 (m / 4 / 8 / 2 / 16 / 256 / 4096 % 65536), .int .i64 (m / 4 / 8 / 2 % 16), .int .i64 (m / 4 / 8 / 2 / 16 % 256), .bool (m / 4 / 8 % 2 == 1)] = (dec m).val := by
  unfold dec Hd.val
  simp only
  rw [show m / 4 / 8 / 2 / 16 / 256 = m / 262144 by omega, show m / 262144 / 4096 = m / 1073741824 by omega, show m / 4 / 8 / 2 / 16 = m / 1024 by omega, show m / 4 / 8 / 2 = m / 64 by omega, show m / 4 / 8 = m / 32 by omega]
  rfl

set_option maxHeartbeats 1000000 in
theorem unpack_far (m : Int) (w : World) (ht : Tab w) (h0 : 0 ≤ m) (h1 : m < 18446744073709551616) (h : m % 4 = 1) (hr : ¬ m / 4 / 8 / 2 / 16 / 256 / 4096 / 65536 = 0) :
    Calls Tryd.prog 16 #[.int .u64 m] w fun e w' => e = .returned (.tuple #[nohd.val, .bool false]) ∧ Below w.heap.size w w' := by
  obtain ⟨-, -, -, -, -, w0, w1, w2, w3, w4, w5, -, htt⟩ := id ht
  have hne : ¬ w.heap = #[] := by intro h; rw [h] at htt; simp at htt
  have A0 : (bits .and .u64 m 3 != 1) = false := by rw [show (3 : Int) = 2 ^ 2 - 1 by rfl, and_u64 2 (by decide) h0 h1]; simpa using h
  have A1 : bits .and .u64 (m / 4) 7 = m / 4 % 8 := and_u64 3 (by decide) (by omega) (by omega)
  have A2 : bits .and .u64 (m / 4 / 8) 1 = m / 4 / 8 % 2 := and_u64 1 (by decide) (by omega) (by omega)
  have A3 : bits .and .u64 (m / 4 / 8 / 2) 15 = m / 4 / 8 / 2 % 16 := and_u64 4 (by decide) (by omega) (by omega)
  have A4 : bits .and .u64 (m / 4 / 8 / 2 / 16) 255 = m / 4 / 8 / 2 / 16 % 256 := and_u64 8 (by decide) (by omega) (by omega)
  have A5 : bits .and .u64 (m / 4 / 8 / 2 / 16 / 256) 4095 = m / 4 / 8 / 2 / 16 / 256 % 4096 := and_u64 12 (by decide) (by omega) (by omega)
  have A6 : bits .and .u64 (m / 4 / 8 / 2 / 16 / 256 / 4096) 65535 = m / 4 / 8 / 2 / 16 / 256 / 4096 % 65536 := and_u64 16 (by decide) (by omega) (by omega)
  clear h
  clear h1
  go_enter Tryd.func16, Tryd.ntmps16
  go_wp2_with fail
  refine wp_loop_rounds 7 ?_
  iterate 7 (rw [rounds_succ]; go_wp2_with fail)
  exact bodyPost_ret (v := .tuple #[nohd.val, .bool false]) (by simp [results, Tryd.results16, go_sem, nohd, Hd.val]) rfl ⟨rfl, (((Below.refl _ _).alloc (by simp) _).alloc (by simp) _).alloc (by simp; omega) _⟩

set_option maxHeartbeats 1000000 in
theorem unpack_near (m : Int) (w : World) (ht : Tab w) (h0 : 0 ≤ m) (h1 : m < 18446744073709551616) (h : m % 4 = 1) (hr : m / 4 / 8 / 2 / 16 / 256 / 4096 / 65536 = 0) :
    Calls Tryd.prog 16 #[.int .u64 m] w fun e w' => e = .returned (.tuple #[(if chk (dec m) = 0 then dec m else nohd).val, .bool (decide (chk (dec m) = 0))]) ∧ Below w.heap.size w w' := by
  have CC := Lib.hid (fun (W : World) (hb : Below w.heap.size w W) => (dec_cells m) ▸ check_any (dec m) W (ht.below hb))
  obtain ⟨-, -, -, -, -, w0, w1, w2, w3, w4, w5, -, htt⟩ := id ht
  have hne : ¬ w.heap = #[] := by intro h; rw [h] at htt; simp at htt
  have A0 : (bits .and .u64 m 3 != 1) = false := by rw [show (3 : Int) = 2 ^ 2 - 1 by rfl, and_u64 2 (by decide) h0 h1]; simpa using h
  have A1 : bits .and .u64 (m / 4) 7 = m / 4 % 8 := and_u64 3 (by decide) (by omega) (by omega)
  have A2 : bits .and .u64 (m / 4 / 8) 1 = m / 4 / 8 % 2 := and_u64 1 (by decide) (by omega) (by omega)
  have A3 : bits .and .u64 (m / 4 / 8 / 2) 15 = m / 4 / 8 / 2 % 16 := and_u64 4 (by decide) (by omega) (by omega)
  have A4 : bits .and .u64 (m / 4 / 8 / 2 / 16) 255 = m / 4 / 8 / 2 / 16 % 256 := and_u64 8 (by decide) (by omega) (by omega)
  have A5 : bits .and .u64 (m / 4 / 8 / 2 / 16 / 256) 4095 = m / 4 / 8 / 2 / 16 / 256 % 4096 := and_u64 12 (by decide) (by omega) (by omega)
  have A6 : bits .and .u64 (m / 4 / 8 / 2 / 16 / 256 / 4096) 65535 = m / 4 / 8 / 2 / 16 / 256 / 4096 % 65536 := and_u64 16 (by decide) (by omega) (by omega)
  clear h
  clear h1
  by_cases c : chk (dec m) = 0
  · have D := Lib.hid (dec_cells m)
    rw [if_pos c]
    simp only [c, decide_true] at *
    go_enter Tryd.func16, Tryd.ntmps16
    go_wp2_with fail
    refine wp_loop_rounds 7 ?_
    iterate 7 (rw [rounds_succ]; go_wp2_with fail)
    refine (CC.out _ ((((Below.refl _ _).alloc (by simp) _).alloc (by simp) _).alloc (by simp; omega) _)).mono ?_
    rintro e w' ⟨rfl, hb⟩
    obtain ⟨hX, hY, hZ, hb0, hz⟩ := kept_new3 hb
    obtain ⟨hc, hf⟩ := hcell hX
    obtain ⟨hc2, hf2⟩ := hcell hZ
    clear hX hY hZ hb
    go_wp2_with fail
    exact bodyPost_ret (v := .tuple #[(dec m).val, .bool true]) (by rw [← D.out]; simp [results, Tryd.results16, go_sem, hc]) rfl ⟨rfl, by (repeat refine Below.setCell ?_ (by simp) _); exact hb0⟩
  · rw [if_neg c]
    have f1 : (chk (dec m) == 0) = false := by simpa using c
    rw [decide_eq_false c]
    generalize chk (dec m) = cc at *
    clear c
    go_enter Tryd.func16, Tryd.ntmps16
    go_wp2_with fail
    refine wp_loop_rounds 7 ?_
    iterate 7 (rw [rounds_succ]; go_wp2_with fail)
    refine (CC.out _ ((((Below.refl _ _).alloc (by simp) _).alloc (by simp) _).alloc (by simp; omega) _)).mono ?_
    rintro e w' ⟨rfl, hb⟩
    obtain ⟨hX, hY, hZ, hb0, hz⟩ := kept_new3 hb
    obtain ⟨hc, hf⟩ := hcell hX
    clear hX hY hZ hb
    go_wp2_with fail
    exact bodyPost_ret (v := .tuple #[nohd.val, .bool false]) (by simp [results, Tryd.results16, go_sem, hc, nohd, Hd.val]) rfl ⟨rfl, by (repeat refine Below.setCell ?_ (by simp) _); exact hb0⟩

theorem unpack_any (m : Int) (w : World) (ht : Tab w) (h0 : 0 ≤ m) (h1 : m < 18446744073709551616) :
    Calls Tryd.prog 16 #[.int .u64 m] w fun e w' => e = .returned (.tuple #[(unp m).val, .bool (isHd m)]) ∧ Below w.heap.size w w' := by
  by_cases h : m % 4 = 1
  · by_cases hr : m / 4 / 8 / 2 / 16 / 256 / 4096 / 65536 = 0
    · have e1 : isHd m = decide (chk (dec m) = 0) := by
        unfold isHd; rw [decide_eq_true h, decide_eq_true (show m / 70368744177664 = 0 by omega)]; rfl
      have e2 : unp m = if chk (dec m) = 0 then dec m else nohd := by unfold unp; rw [e1]; simp
      rw [e1, e2]
      exact unpack_near m w ht h0 h1 h hr
    · have e1 : isHd m = false := by
        unfold isHd; rw [decide_eq_false (show ¬ m / 70368744177664 = 0 by omega)]; simp
      rw [show unp m = nohd by unfold unp; rw [e1]; rfl, e1]
      exact unpack_far m w ht h0 h1 h hr
  · have e1 : isHd m = false := by unfold isHd; rw [decide_eq_false h]; rfl
    rw [show unp m = nohd by unfold unp; rw [e1]; rfl, e1]
    exact unpack_no m w h0 h1 h
end Go.Proofs.YtomgfdfgildkbaaDoor
/- The walks of package cell, fourth part: forwarding words, fillers, sizes, one thing of a header changed. -/

namespace Go.Proofs.YtomgfdfgildkbaaDoor
open Go.RowKit Go.BigFrame

def hdCells (h : Hd) : Array Value := #[.int .u64 h.ser, .int .i64 h.kind, .int .i64 h.ptrs, .int .i64 h.raws, .int .i64 h.age, .int .i64 h.site, .bool h.held]

theorem number_any (tag m : Int) (w : World) (h0 : 0 ≤ m) (h1 : m < 18446744073709551616) :
    Calls Tryd.prog 82 #[.int .u64 tag, .int .u64 m] w fun e w' => e = .returned (.tuple #[.int .i64 (numT tag m).1, .bool (numT tag m).2]) ∧ w = w' := by
  have hA : bits .and .u64 m 3 = m % 4 := and_u64 2 (by decide) h0 h1
  unfold numT
  by_cases c : m % 4 = tag ∧ 1 ≤ m / 4 ∧ m / 4 ≤ 1099511627776
  · rw [if_pos c]
    obtain ⟨c1, c2, c3⟩ := c
    have f1 : (m % 4 != tag) = false := by simpa using c1
    have f2 : ¬ m / 4 < 1 := by omega
    clear c1 h1
    go_enter Tryd.func82, Tryd.ntmps82
    go_wp2
    go_ret2
    exact ⟨rfl, rfl⟩
  · rw [if_neg c]
    by_cases c1 : m % 4 = tag
    · have f1 : (m % 4 != tag) = false := by simpa using c1
      by_cases c2 : m / 4 < 1
      · clear c c1 h1
        go_enter Tryd.func82, Tryd.ntmps82
        go_wp2
        go_ret2
        exact ⟨rfl, rfl⟩
      · have c3 : 1099511627776 < m / 4 := by omega
        have f2 : decide (m / 4 < 1) = false := by simp; omega
        clear c c1 h1
        go_enter Tryd.func82, Tryd.ntmps82
        go_wp2
        go_ret2
        exact ⟨rfl, rfl⟩
    · have f1 : (m % 4 != tag) = true := by simpa using c1
      clear c c1 h1
      go_enter Tryd.func82, Tryd.ntmps82
      go_wp2
      go_ret2
      exact ⟨rfl, rfl⟩

theorem numbered_any (tag n : Int) (w : World) (h0 : 0 ≤ tag) (h1 : tag < 4) :
    Calls Tryd.prog 83 #[.int .u64 tag, .int .i64 n] w fun e w' => e = .returned (.int .u64 (wordT tag n)) ∧ w = w' := by
  unfold wordT
  by_cases c : 1 ≤ n ∧ n ≤ 1099511627776
  · rw [if_pos c]
    obtain ⟨c1, c2⟩ := c
    have hA : bits .or .u64 tag (n * 4) = tag + n * 4 := or_add 2 h0 h1 (by omega) (by omega) (by omega) (by omega)
    go_enter Tryd.func83, Tryd.ntmps83
    go_wp2
    go_ret
    exact ⟨ret_int (by omega), rfl⟩
  · rw [if_neg c]
    by_cases c1 : n < 1
    · clear c
      go_enter Tryd.func83, Tryd.ntmps83
      go_wp2
      go_ret
      exact ⟨rfl, rfl⟩
    · have c2 : 1099511627776 < n := by omega
      clear c
      go_enter Tryd.func83, Tryd.ntmps83
      go_wp2
      go_ret
      exact ⟨rfl, rfl⟩

theorem forward_any (n : Int) (w : World) : Calls Tryd.prog 28 #[.int .i64 n] w fun e w' => e = .returned (.int .u64 (wordT 2 n)) ∧ w = w' := by
  go_enter Tryd.func28, Tryd.ntmps28
  go_wp2_with fail
  refine (numbered_any 2 n _ (by decide) (by decide)).mono ?_
  rintro e w' ⟨rfl, rfl⟩
  go_wp2_with fail
  go_ret
  exact ⟨rfl, rfl⟩
theorem filler_any (n : Int) (w : World) : Calls Tryd.prog 30 #[.int .i64 n] w fun e w' => e = .returned (.int .u64 (wordT 3 n)) ∧ w = w' := by
  go_enter Tryd.func30, Tryd.ntmps30
  go_wp2_with fail
  refine (numbered_any 3 n _ (by decide) (by decide)).mono ?_
  rintro e w' ⟨rfl, rfl⟩
  go_wp2_with fail
  go_ret
  exact ⟨rfl, rfl⟩
theorem forwarded_any (m : Int) (w : World) (h0 : 0 ≤ m) (h1 : m < 18446744073709551616) :
    Calls Tryd.prog 27 #[.int .u64 m] w fun e w' => e = .returned (.tuple #[.int .i64 (numT 2 m).1, .bool (numT 2 m).2]) ∧ w = w' := by
  go_enter Tryd.func27, Tryd.ntmps27
  go_wp2_with fail
  refine (number_any 2 m _ h0 h1).mono ?_
  rintro e w' ⟨rfl, rfl⟩
  go_wp2_with fail
  go_ret2
  exact ⟨rfl, rfl⟩
theorem filled_any (m : Int) (w : World) (h0 : 0 ≤ m) (h1 : m < 18446744073709551616) :
    Calls Tryd.prog 29 #[.int .u64 m] w fun e w' => e = .returned (.tuple #[.int .i64 (numT 3 m).1, .bool (numT 3 m).2]) ∧ w = w' := by
  go_enter Tryd.func29, Tryd.ntmps29
  go_wp2_with fail
  refine (number_any 3 m _ h0 h1).mono ?_
  rintro e w' ⟨rfl, rfl⟩
  go_wp2_with fail
  go_ret2
  exact ⟨rfl, rfl⟩

theorem size_any (m : Int) (w : World) (ht : Tab w) (h0 : 0 ≤ m) (h1 : m < 18446744073709551616) :
    Calls Tryd.prog 18 #[.int .u64 m] w fun e w' => e = .returned (.int .i64 (sizeW m)) ∧ Below w.heap.size w w' := by
  have U := unpack_any m w ht h0 h1
  unfold sizeW
  by_cases c : isHd m = true
  · rw [if_pos c]
    have f := (chk_iff (dec m)).1 (by unfold isHd at c; simp at c; exact c.2)
    have e1 : unp m = dec m := by unfold unp; rw [if_pos c]
    rw [e1, c] at U
    obtain ⟨-, -, fp0, fp1, fr0, fr1, -, -, -, -, -, -⟩ := f
    have hv : (dec m).val = .agg #[.int .u64 0, .int .i64 (dec m).kind, .int .i64 (dec m).ptrs, .int .i64 (dec m).raws, .int .i64 (dec m).age, .int .i64 (dec m).site, .bool (dec m).held] := rfl
    rw [hv] at U
    generalize dec m = d at *
    have UU := Lib.hid U
    clear U e1 hv c
    go_enter Tryd.func18, Tryd.ntmps18
    go_wp2_with fail
    refine UU.out.mono ?_
    rintro e w' ⟨rfl, hb⟩
    go_wp2_with fail
    go_ret
    exact ⟨rfl, hb.alloc hb.size _⟩
  · rw [if_neg c]
    have c' : isHd m = false := by simpa using c
    have e1 : unp m = nohd := by unfold unp; rw [if_neg c]
    rw [e1, c'] at U
    have UU := Lib.hid U
    clear U c c' e1
    go_enter Tryd.func18, Tryd.ntmps18
    go_wp2_with fail
    refine UU.out.mono ?_
    rintro e w' ⟨rfl, hb⟩
    unfold nohd Hd.val
    simp only
    go_wp2_with fail
    refine (filled_any m _ h0 h1).mono ?_
    rintro e w' ⟨rfl, rfl⟩
    go_wp2_with fail
    go_ret
    exact ⟨rfl, hb.alloc hb.size _⟩
end Go.Proofs.YtomgfdfgildkbaaDoor
/- The walks of package cell, fifth part: one thing of a header changed. -/


namespace Go.Proofs.YtomgfdfgildkbaaDoor
open Go.RowKit Go.BigFrame

theorem with_age (b c : Nat) (h : Hd) (v : Int) (w : World) (hb : w.heap[b]? = some (.cells (hdCells h) 24 (0, 0))) (hc : w.cell? ⟨c, 0, none⟩ = some (.int .i64 v)) :
    Calls Tryd.prog 78 #[.pointer (some ⟨b, 0, none⟩), .pointer (some ⟨c, 0, none⟩)] w fun e w' => e = .returned (.tuple #[]) ∧ w' = w.setCell ⟨b, 4, none⟩ (.int .i64 v) := by
  obtain ⟨h1, h2⟩ := hcell hb
  unfold hdCells at h1
  go_enter Tryd.func78, Tryd.ntmps78
  go_wp2
  go_end0
  exact ⟨rfl, rfl⟩
theorem with_held (b c : Nat) (h : Hd) (v : Bool) (w : World) (hb : w.heap[b]? = some (.cells (hdCells h) 24 (0, 0))) (hc : w.cell? ⟨c, 0, none⟩ = some (.bool v)) :
    Calls Tryd.prog 80 #[.pointer (some ⟨b, 0, none⟩), .pointer (some ⟨c, 0, none⟩)] w fun e w' => e = .returned (.tuple #[]) ∧ w' = w.setCell ⟨b, 6, none⟩ (.bool v) := by
  obtain ⟨h1, h2⟩ := hcell hb
  unfold hdCells at h1
  go_enter Tryd.func80, Tryd.ntmps80
  go_wp2
  go_end0
  exact ⟨rfl, rfl⟩
theorem with_kind (b c : Nat) (h : Hd) (v : Int) (w : World) (hb : w.heap[b]? = some (.cells (hdCells h) 24 (0, 0))) (hc : w.cell? ⟨c, 0, none⟩ = some (.int .i64 v)) :
    Calls Tryd.prog 81 #[.pointer (some ⟨b, 0, none⟩), .pointer (some ⟨c, 0, none⟩)] w fun e w' => e = .returned (.tuple #[]) ∧ w' = w.setCell ⟨b, 1, none⟩ (.int .i64 v) := by
  obtain ⟨h1, h2⟩ := hcell hb
  unfold hdCells at h1
  go_enter Tryd.func81, Tryd.ntmps81
  go_wp2
  go_end0
  exact ⟨rfl, rfl⟩

/-- The function handed to 'with': it changes the header in block b, nothing else. -/
def Turns (F : FuncId) (c : Nat) (v : Value) (upd : Hd → Hd) : Prop :=
  ∀ (b : Nat) (h : Hd) (w : World), w.heap[b]? = some (.cells (hdCells h) 24 (0, 0)) → w.cell? ⟨c, 0, none⟩ = some v →
    Calls Tryd.prog F #[.pointer (some ⟨b, 0, none⟩), .pointer (some ⟨c, 0, none⟩)] w fun e w' => e = .returned (.tuple #[]) ∧ w'.heap[b]? = some (.cells (hdCells (upd h)) 24 (0, 0)) ∧ Below b w w'

theorem turns_of {F : FuncId} {c : Nat} {v : Value} {upd : Hd → Hd} (o : Nat) (u : Value) (hu : ∀ h, (hdCells h).setIfInBounds o u = hdCells (upd h))
    (H : ∀ (b : Nat) (h : Hd) (w : World), w.heap[b]? = some (.cells (hdCells h) 24 (0, 0)) → w.cell? ⟨c, 0, none⟩ = some v →
      Calls Tryd.prog F #[.pointer (some ⟨b, 0, none⟩), .pointer (some ⟨c, 0, none⟩)] w fun e w' => e = .returned (.tuple #[]) ∧ w' = w.setCell ⟨b, o, none⟩ u) : Turns F c v upd := by
  intro b h w hb hc
  refine (H b h w hb hc).mono ?_
  rintro e w' ⟨rfl, rfl⟩
  refine ⟨rfl, ?_, Below.setCell (p := ⟨b, o, none⟩) (Below.refl b w) (Nat.le_refl b) u⟩
  simp [World.setCell, Array.getElem?_modify, hb, hu]

theorem with_age_any (c : Nat) (v : Int) (m : Int) (w : World) (ht : Tab w) (h0 : 0 ≤ m) (h1 : m < 18446744073709551616)
    (hc : w.cell? ⟨c, 0, none⟩ = some (.int .i64 v)) (hcs : c < w.heap.size) :
    Calls Tryd.prog 77 #[.int .u64 m, .func (.func 78) #[] #[.pointer (some ⟨c, 0, none⟩)]] w fun e w' => e = .returned (.int .u64 (withH m (fun (h : Hd) => { h with age := v }))) ∧ Below w.heap.size w w' := by
  have U := unpack_any m w ht h0 h1
  have hF : Turns 78 c (.int .i64 v) (fun (h : Hd) => { h with age := v }) := turns_of 4 (.int .i64 v) (fun h => rfl) (fun b h w hb hc => with_age b c h v w hb hc)
  generalize hu : (fun (h : Hd) => { h with age := v }) = upd at *
  clear hu
  unfold withH
  by_cases i : isHd m = true
  · rw [if_pos i]
    have e1 : unp m = dec m := by unfold unp; rw [if_pos i]
    rw [e1, i] at U
    have hv : (dec m).val = .agg (hdCells (dec m)) := rfl
    rw [hv] at U
    generalize dec m = d at *
    have P := fun W (hb : Below w.heap.size w W) => pack_any (upd d) W (ht.below hb)
    have UU := Lib.hid U
    have PP := Lib.hid P
    have FF := Lib.hid hF
    have CC := Lib.hid hc
    have hcl : hdCells d = #[.int .u64 d.ser, .int .i64 d.kind, .int .i64 d.ptrs, .int .i64 d.raws, .int .i64 d.age, .int .i64 d.site, .bool d.held] := rfl
    clear U e1 hv i P hF hc
    by_cases q : chk (upd d) = 0
    · rw [if_pos q]
      have Q := Lib.hid q; clear q
      go_enter Tryd.func77, Tryd.ntmps77
      go_wp2_with fail
      refine UU.out.mono ?_
      rintro e w1 ⟨rfl, hb1⟩
      have HL := Lib.hid hcl
      rw [hcl]; clear hcl
      go_wp2_with fail
      refine (FF.out w1.heap.size d _ (by rw [HL.out]; show (w1.heap.push _)[w1.heap.size]? = _; simp) ?_).mono ?_
      · rw [World.cell?_of_block (w := w1) (Below.heap_alloc w1 _ c (Nat.lt_of_lt_of_le hcs hb1.size)), hb1.cell hcs]
        exact CC.out
      rintro e w2 ⟨rfl, hX, hb2⟩
      have hs2 := hb2.size
      simp at hs2
      have hz : w.heap.size < w2.heap.size := by have := hb1.size; omega
      obtain ⟨k1, k2⟩ := hcell hX
      have hb3 : Below w.heap.size w w2 := (hb1.alloc hb1.size _).trans (hb2.mono hb1.size)
      have hcl2 : hdCells (upd d) = #[.int .u64 (upd d).ser, .int .i64 (upd d).kind, .int .i64 (upd d).ptrs, .int .i64 (upd d).raws, .int .i64 (upd d).age, .int .i64 (upd d).site, .bool (upd d).held] := rfl
      have hv2 : (upd d).val = .agg #[.int .u64 (upd d).ser, .int .i64 (upd d).kind, .int .i64 (upd d).ptrs, .int .i64 (upd d).raws, .int .i64 (upd d).age, .int .i64 (upd d).site, .bool (upd d).held] := rfl
      have P2 := PP.out _ hb3
      rw [hv2] at P2
      rw [hcl2] at k1
      have q := Q.out
      rw [show pack (upd d) = enc (upd d) by unfold pack; rw [if_pos q], q] at P2
      generalize hug : upd d = u at *
      have HUG := Lib.hid hug
      clear hug
      have PQ := Lib.hid P2
      clear P2 hcl2 hv2 q hX hb2 hs2
      go_wp2_with fail
      refine PQ.out.mono ?_
      rintro e w3 ⟨rfl, hb4⟩
      go_wp2_with fail
      go_ret
      exact ⟨ret_int (by rw [HUG.out]), hb3.trans (hb4.mono (by omega))⟩
    · rw [if_neg q]
      have Q := Lib.hid q; clear q
      go_enter Tryd.func77, Tryd.ntmps77
      go_wp2_with fail
      refine UU.out.mono ?_
      rintro e w1 ⟨rfl, hb1⟩
      have HL := Lib.hid hcl
      rw [hcl]; clear hcl
      go_wp2_with fail
      refine (FF.out w1.heap.size d _ (by rw [HL.out]; show (w1.heap.push _)[w1.heap.size]? = _; simp) ?_).mono ?_
      · rw [World.cell?_of_block (w := w1) (Below.heap_alloc w1 _ c (Nat.lt_of_lt_of_le hcs hb1.size)), hb1.cell hcs]
        exact CC.out
      rintro e w2 ⟨rfl, hX, hb2⟩
      have hs2 := hb2.size
      simp at hs2
      have hz : w.heap.size < w2.heap.size := by have := hb1.size; omega
      obtain ⟨k1, k2⟩ := hcell hX
      have hb3 : Below w.heap.size w w2 := (hb1.alloc hb1.size _).trans (hb2.mono hb1.size)
      have hcl2 : hdCells (upd d) = #[.int .u64 (upd d).ser, .int .i64 (upd d).kind, .int .i64 (upd d).ptrs, .int .i64 (upd d).raws, .int .i64 (upd d).age, .int .i64 (upd d).site, .bool (upd d).held] := rfl
      have hv2 : (upd d).val = .agg #[.int .u64 (upd d).ser, .int .i64 (upd d).kind, .int .i64 (upd d).ptrs, .int .i64 (upd d).raws, .int .i64 (upd d).age, .int .i64 (upd d).site, .bool (upd d).held] := rfl
      have P2 := PP.out _ hb3
      rw [hv2] at P2
      rw [hcl2] at k1
      have q := Q.out
      have q1 : (chk (upd d) == 0) = false := by simpa using q
      rw [show pack (upd d) = 0 by unfold pack; rw [if_neg q]] at P2
      generalize chk (upd d) = cc at *
      generalize upd d = u at *
      have PQ := Lib.hid P2
      clear P2 hcl2 hv2 q hX hb2 hs2
      go_wp2_with fail
      refine PQ.out.mono ?_
      rintro e w3 ⟨rfl, hb4⟩
      go_wp2_with fail
      go_ret
      exact ⟨rfl, hb3.trans (hb4.mono (by omega))⟩
  · rw [if_neg i]
    have e1 : unp m = nohd := by unfold unp; rw [if_neg i]
    have i' : isHd m = false := by simpa using i
    rw [e1, i'] at U
    have UU := Lib.hid U
    clear U e1 i i' hF hc
    go_enter Tryd.func77, Tryd.ntmps77
    go_wp2_with fail
    refine UU.out.mono ?_
    rintro e w1 ⟨rfl, hb1⟩
    unfold nohd Hd.val
    simp only
    go_wp2_with fail
    go_ret
    exact ⟨rfl, hb1.alloc hb1.size _⟩

theorem With_age_any (v : Int) (m : Int) (w : World) (ht : Tab w) (h0 : 0 ≤ m) (h1 : m < 18446744073709551616) :
    Calls Tryd.prog 20 #[.int .u64 m, .int .i64 v] w fun e w' => e = .returned (.int .u64 (withH m (fun (h : Hd) => { h with age := v }))) ∧ Below w.heap.size w w' := by
  have hb : Below w.heap.size w (w.alloc (.cells #[.int .i64 v] 3)) := (Below.refl _ _).alloc (Nat.le_refl _) _
  have W := with_age_any w.heap.size v m (w.alloc (.cells #[.int .i64 v] 3)) (ht.below hb) h0 h1 (cell_new1 w _ _) (by simp)
  have WW := Lib.hid W
  have B := Lib.hid hb
  clear W hb
  go_enter Tryd.func20, Tryd.ntmps20
  go_wp2_with fail
  refine WW.out.mono ?_
  rintro e w1 ⟨rfl, hb1⟩
  go_wp2_with fail
  go_ret
  exact ⟨rfl, B.out.trans (hb1.mono (by simp))⟩

theorem with_held_any (c : Nat) (v : Bool) (m : Int) (w : World) (ht : Tab w) (h0 : 0 ≤ m) (h1 : m < 18446744073709551616)
    (hc : w.cell? ⟨c, 0, none⟩ = some (.bool v)) (hcs : c < w.heap.size) :
    Calls Tryd.prog 77 #[.int .u64 m, .func (.func 80) #[] #[.pointer (some ⟨c, 0, none⟩)]] w fun e w' => e = .returned (.int .u64 (withH m (fun (h : Hd) => { h with held := v }))) ∧ Below w.heap.size w w' := by
  have U := unpack_any m w ht h0 h1
  have hF : Turns 80 c (.bool v) (fun (h : Hd) => { h with held := v }) := turns_of 6 (.bool v) (fun h => rfl) (fun b h w hb hc => with_held b c h v w hb hc)
  generalize hu : (fun (h : Hd) => { h with held := v }) = upd at *
  clear hu
  unfold withH
  by_cases i : isHd m = true
  · rw [if_pos i]
    have e1 : unp m = dec m := by unfold unp; rw [if_pos i]
    rw [e1, i] at U
    have hv : (dec m).val = .agg (hdCells (dec m)) := rfl
    rw [hv] at U
    generalize dec m = d at *
    have P := fun W (hb : Below w.heap.size w W) => pack_any (upd d) W (ht.below hb)
    have UU := Lib.hid U
    have PP := Lib.hid P
    have FF := Lib.hid hF
    have CC := Lib.hid hc
    have hcl : hdCells d = #[.int .u64 d.ser, .int .i64 d.kind, .int .i64 d.ptrs, .int .i64 d.raws, .int .i64 d.age, .int .i64 d.site, .bool d.held] := rfl
    clear U e1 hv i P hF hc
    by_cases q : chk (upd d) = 0
    · rw [if_pos q]
      have Q := Lib.hid q; clear q
      go_enter Tryd.func77, Tryd.ntmps77
      go_wp2_with fail
      refine UU.out.mono ?_
      rintro e w1 ⟨rfl, hb1⟩
      have HL := Lib.hid hcl
      rw [hcl]; clear hcl
      go_wp2_with fail
      refine (FF.out w1.heap.size d _ (by rw [HL.out]; show (w1.heap.push _)[w1.heap.size]? = _; simp) ?_).mono ?_
      · rw [World.cell?_of_block (w := w1) (Below.heap_alloc w1 _ c (Nat.lt_of_lt_of_le hcs hb1.size)), hb1.cell hcs]
        exact CC.out
      rintro e w2 ⟨rfl, hX, hb2⟩
      have hs2 := hb2.size
      simp at hs2
      have hz : w.heap.size < w2.heap.size := by have := hb1.size; omega
      obtain ⟨k1, k2⟩ := hcell hX
      have hb3 : Below w.heap.size w w2 := (hb1.alloc hb1.size _).trans (hb2.mono hb1.size)
      have hcl2 : hdCells (upd d) = #[.int .u64 (upd d).ser, .int .i64 (upd d).kind, .int .i64 (upd d).ptrs, .int .i64 (upd d).raws, .int .i64 (upd d).age, .int .i64 (upd d).site, .bool (upd d).held] := rfl
      have hv2 : (upd d).val = .agg #[.int .u64 (upd d).ser, .int .i64 (upd d).kind, .int .i64 (upd d).ptrs, .int .i64 (upd d).raws, .int .i64 (upd d).age, .int .i64 (upd d).site, .bool (upd d).held] := rfl
      have P2 := PP.out _ hb3
      rw [hv2] at P2
      rw [hcl2] at k1
      have q := Q.out
      rw [show pack (upd d) = enc (upd d) by unfold pack; rw [if_pos q], q] at P2
      generalize hug : upd d = u at *
      have HUG := Lib.hid hug
      clear hug
      have PQ := Lib.hid P2
      clear P2 hcl2 hv2 q hX hb2 hs2
      go_wp2_with fail
      refine PQ.out.mono ?_
      rintro e w3 ⟨rfl, hb4⟩
      go_wp2_with fail
      go_ret
      exact ⟨ret_int (by rw [HUG.out]), hb3.trans (hb4.mono (by omega))⟩
    · rw [if_neg q]
      have Q := Lib.hid q; clear q
      go_enter Tryd.func77, Tryd.ntmps77
      go_wp2_with fail
      refine UU.out.mono ?_
      rintro e w1 ⟨rfl, hb1⟩
      have HL := Lib.hid hcl
      rw [hcl]; clear hcl
      go_wp2_with fail
      refine (FF.out w1.heap.size d _ (by rw [HL.out]; show (w1.heap.push _)[w1.heap.size]? = _; simp) ?_).mono ?_
      · rw [World.cell?_of_block (w := w1) (Below.heap_alloc w1 _ c (Nat.lt_of_lt_of_le hcs hb1.size)), hb1.cell hcs]
        exact CC.out
      rintro e w2 ⟨rfl, hX, hb2⟩
      have hs2 := hb2.size
      simp at hs2
      have hz : w.heap.size < w2.heap.size := by have := hb1.size; omega
      obtain ⟨k1, k2⟩ := hcell hX
      have hb3 : Below w.heap.size w w2 := (hb1.alloc hb1.size _).trans (hb2.mono hb1.size)
      have hcl2 : hdCells (upd d) = #[.int .u64 (upd d).ser, .int .i64 (upd d).kind, .int .i64 (upd d).ptrs, .int .i64 (upd d).raws, .int .i64 (upd d).age, .int .i64 (upd d).site, .bool (upd d).held] := rfl
      have hv2 : (upd d).val = .agg #[.int .u64 (upd d).ser, .int .i64 (upd d).kind, .int .i64 (upd d).ptrs, .int .i64 (upd d).raws, .int .i64 (upd d).age, .int .i64 (upd d).site, .bool (upd d).held] := rfl
      have P2 := PP.out _ hb3
      rw [hv2] at P2
      rw [hcl2] at k1
      have q := Q.out
      have q1 : (chk (upd d) == 0) = false := by simpa using q
      rw [show pack (upd d) = 0 by unfold pack; rw [if_neg q]] at P2
      generalize chk (upd d) = cc at *
      generalize upd d = u at *
      have PQ := Lib.hid P2
      clear P2 hcl2 hv2 q hX hb2 hs2
      go_wp2_with fail
      refine PQ.out.mono ?_
      rintro e w3 ⟨rfl, hb4⟩
      go_wp2_with fail
      go_ret
      exact ⟨rfl, hb3.trans (hb4.mono (by omega))⟩
  · rw [if_neg i]
    have e1 : unp m = nohd := by unfold unp; rw [if_neg i]
    have i' : isHd m = false := by simpa using i
    rw [e1, i'] at U
    have UU := Lib.hid U
    clear U e1 i i' hF hc
    go_enter Tryd.func77, Tryd.ntmps77
    go_wp2_with fail
    refine UU.out.mono ?_
    rintro e w1 ⟨rfl, hb1⟩
    unfold nohd Hd.val
    simp only
    go_wp2_with fail
    go_ret
    exact ⟨rfl, hb1.alloc hb1.size _⟩

theorem With_held_any (v : Bool) (m : Int) (w : World) (ht : Tab w) (h0 : 0 ≤ m) (h1 : m < 18446744073709551616) :
    Calls Tryd.prog 22 #[.int .u64 m, .bool v] w fun e w' => e = .returned (.int .u64 (withH m (fun (h : Hd) => { h with held := v }))) ∧ Below w.heap.size w w' := by
  have hb : Below w.heap.size w (w.alloc (.cells #[.bool v] 4)) := (Below.refl _ _).alloc (Nat.le_refl _) _
  have W := with_held_any w.heap.size v m (w.alloc (.cells #[.bool v] 4)) (ht.below hb) h0 h1 (cell_new1 w _ _) (by simp)
  have WW := Lib.hid W
  have B := Lib.hid hb
  clear W hb
  go_enter Tryd.func22, Tryd.ntmps22
  go_wp2_with fail
  refine WW.out.mono ?_
  rintro e w1 ⟨rfl, hb1⟩
  go_wp2_with fail
  go_ret
  exact ⟨rfl, B.out.trans (hb1.mono (by simp))⟩

theorem with_kind_any (c : Nat) (v : Int) (m : Int) (w : World) (ht : Tab w) (h0 : 0 ≤ m) (h1 : m < 18446744073709551616)
    (hc : w.cell? ⟨c, 0, none⟩ = some (.int .i64 v)) (hcs : c < w.heap.size) :
    Calls Tryd.prog 77 #[.int .u64 m, .func (.func 81) #[] #[.pointer (some ⟨c, 0, none⟩)]] w fun e w' => e = .returned (.int .u64 (withH m (fun (h : Hd) => { h with kind := v }))) ∧ Below w.heap.size w w' := by
  have U := unpack_any m w ht h0 h1
  have hF : Turns 81 c (.int .i64 v) (fun (h : Hd) => { h with kind := v }) := turns_of 1 (.int .i64 v) (fun h => rfl) (fun b h w hb hc => with_kind b c h v w hb hc)
  generalize hu : (fun (h : Hd) => { h with kind := v }) = upd at *
  clear hu
  unfold withH
  by_cases i : isHd m = true
  · rw [if_pos i]
    have e1 : unp m = dec m := by unfold unp; rw [if_pos i]
    rw [e1, i] at U
    have hv : (dec m).val = .agg (hdCells (dec m)) := rfl
    rw [hv] at U
    generalize dec m = d at *
    have P := fun W (hb : Below w.heap.size w W) => pack_any (upd d) W (ht.below hb)
    have UU := Lib.hid U
    have PP := Lib.hid P
    have FF := Lib.hid hF
    have CC := Lib.hid hc
    have hcl : hdCells d = #[.int .u64 d.ser, .int .i64 d.kind, .int .i64 d.ptrs, .int .i64 d.raws, .int .i64 d.age, .int .i64 d.site, .bool d.held] := rfl
    clear U e1 hv i P hF hc
    by_cases q : chk (upd d) = 0
    · rw [if_pos q]
      have Q := Lib.hid q; clear q
      go_enter Tryd.func77, Tryd.ntmps77
      go_wp2_with fail
      refine UU.out.mono ?_
      rintro e w1 ⟨rfl, hb1⟩
      have HL := Lib.hid hcl
      rw [hcl]; clear hcl
      go_wp2_with fail
      refine (FF.out w1.heap.size d _ (by rw [HL.out]; show (w1.heap.push _)[w1.heap.size]? = _; simp) ?_).mono ?_
      · rw [World.cell?_of_block (w := w1) (Below.heap_alloc w1 _ c (Nat.lt_of_lt_of_le hcs hb1.size)), hb1.cell hcs]
        exact CC.out
      rintro e w2 ⟨rfl, hX, hb2⟩
      have hs2 := hb2.size
      simp at hs2
      have hz : w.heap.size < w2.heap.size := by have := hb1.size; omega
      obtain ⟨k1, k2⟩ := hcell hX
      have hb3 : Below w.heap.size w w2 := (hb1.alloc hb1.size _).trans (hb2.mono hb1.size)
      have hcl2 : hdCells (upd d) = #[.int .u64 (upd d).ser, .int .i64 (upd d).kind, .int .i64 (upd d).ptrs, .int .i64 (upd d).raws, .int .i64 (upd d).age, .int .i64 (upd d).site, .bool (upd d).held] := rfl
      have hv2 : (upd d).val = .agg #[.int .u64 (upd d).ser, .int .i64 (upd d).kind, .int .i64 (upd d).ptrs, .int .i64 (upd d).raws, .int .i64 (upd d).age, .int .i64 (upd d).site, .bool (upd d).held] := rfl
      have P2 := PP.out _ hb3
      rw [hv2] at P2
      rw [hcl2] at k1
      have q := Q.out
      rw [show pack (upd d) = enc (upd d) by unfold pack; rw [if_pos q], q] at P2
      generalize hug : upd d = u at *
      have HUG := Lib.hid hug
      clear hug
      have PQ := Lib.hid P2
      clear P2 hcl2 hv2 q hX hb2 hs2
      go_wp2_with fail
      refine PQ.out.mono ?_
      rintro e w3 ⟨rfl, hb4⟩
      go_wp2_with fail
      go_ret
      exact ⟨ret_int (by rw [HUG.out]), hb3.trans (hb4.mono (by omega))⟩
    · rw [if_neg q]
      have Q := Lib.hid q; clear q
      go_enter Tryd.func77, Tryd.ntmps77
      go_wp2_with fail
      refine UU.out.mono ?_
      rintro e w1 ⟨rfl, hb1⟩
      have HL := Lib.hid hcl
      rw [hcl]; clear hcl
      go_wp2_with fail
      refine (FF.out w1.heap.size d _ (by rw [HL.out]; show (w1.heap.push _)[w1.heap.size]? = _; simp) ?_).mono ?_
      · rw [World.cell?_of_block (w := w1) (Below.heap_alloc w1 _ c (Nat.lt_of_lt_of_le hcs hb1.size)), hb1.cell hcs]
        exact CC.out
      rintro e w2 ⟨rfl, hX, hb2⟩
      have hs2 := hb2.size
      simp at hs2
      have hz : w.heap.size < w2.heap.size := by have := hb1.size; omega
      obtain ⟨k1, k2⟩ := hcell hX
      have hb3 : Below w.heap.size w w2 := (hb1.alloc hb1.size _).trans (hb2.mono hb1.size)
      have hcl2 : hdCells (upd d) = #[.int .u64 (upd d).ser, .int .i64 (upd d).kind, .int .i64 (upd d).ptrs, .int .i64 (upd d).raws, .int .i64 (upd d).age, .int .i64 (upd d).site, .bool (upd d).held] := rfl
      have hv2 : (upd d).val = .agg #[.int .u64 (upd d).ser, .int .i64 (upd d).kind, .int .i64 (upd d).ptrs, .int .i64 (upd d).raws, .int .i64 (upd d).age, .int .i64 (upd d).site, .bool (upd d).held] := rfl
      have P2 := PP.out _ hb3
      rw [hv2] at P2
      rw [hcl2] at k1
      have q := Q.out
      have q1 : (chk (upd d) == 0) = false := by simpa using q
      rw [show pack (upd d) = 0 by unfold pack; rw [if_neg q]] at P2
      generalize chk (upd d) = cc at *
      generalize upd d = u at *
      have PQ := Lib.hid P2
      clear P2 hcl2 hv2 q hX hb2 hs2
      go_wp2_with fail
      refine PQ.out.mono ?_
      rintro e w3 ⟨rfl, hb4⟩
      go_wp2_with fail
      go_ret
      exact ⟨rfl, hb3.trans (hb4.mono (by omega))⟩
  · rw [if_neg i]
    have e1 : unp m = nohd := by unfold unp; rw [if_neg i]
    have i' : isHd m = false := by simpa using i
    rw [e1, i'] at U
    have UU := Lib.hid U
    clear U e1 i i' hF hc
    go_enter Tryd.func77, Tryd.ntmps77
    go_wp2_with fail
    refine UU.out.mono ?_
    rintro e w1 ⟨rfl, hb1⟩
    unfold nohd Hd.val
    simp only
    go_wp2_with fail
    go_ret
    exact ⟨rfl, hb1.alloc hb1.size _⟩

theorem With_kind_any (v : Int) (m : Int) (w : World) (ht : Tab w) (h0 : 0 ≤ m) (h1 : m < 18446744073709551616) :
    Calls Tryd.prog 24 #[.int .u64 m, .int .i64 v] w fun e w' => e = .returned (.int .u64 (withH m (fun (h : Hd) => { h with kind := v }))) ∧ Below w.heap.size w w' := by
  have hb : Below w.heap.size w (w.alloc (.cells #[.int .i64 v] 3)) := (Below.refl _ _).alloc (Nat.le_refl _) _
  have W := with_kind_any w.heap.size v m (w.alloc (.cells #[.int .i64 v] 3)) (ht.below hb) h0 h1 (cell_new1 w _ _) (by simp)
  have WW := Lib.hid W
  have B := Lib.hid hb
  clear W hb
  go_enter Tryd.func24, Tryd.ntmps24
  go_wp2_with fail
  refine WW.out.mono ?_
  rintro e w1 ⟨rfl, hb1⟩
  go_wp2_with fail
  go_ret
  exact ⟨rfl, B.out.trans (hb1.mono (by simp))⟩

end Go.Proofs.YtomgfdfgildkbaaDoor
