/- Plain words for the cell layer: heads as numbers, what a word of memory says. No program in sight, no condition. -/
import Derived.Below
import Derived.IntWalk
import Derived.Deep.Quiet
import Derived.Laws.BitsLemmas
import Derived.Laws.Bits64b
namespace Go.Proofs.YtomgfdfgildkbaaDoor
open Go.RowKit
structure Hd where
  ser : Int
  kind : Int
  ptrs : Int
  raws : Int
  age : Int
  site : Int
  held : Bool

def b2i (b : Bool) : Int := if b then 1 else 0

def chk (h : Hd) : Int :=
  if h.kind < 1 ∨ 4 < h.kind ∨ (h.kind = 2 ∧ h.ptrs < 1) ∨ (h.kind = 3 ∧ h.ptrs < 2) then 20
  else if h.ptrs < 0 ∨ 4095 < h.ptrs then 21
  else if h.raws < 0 ∨ 65535 < h.raws then 22
  else if h.age < 0 ∨ 15 < h.age then 23
  else if h.site < 0 ∨ 255 < h.site then 24
  else 0

def enc (h : Hd) : Int := 1 + 4 * h.kind + 32 * b2i h.held + 64 * h.age + 1024 * h.site + 262144 * h.ptrs + 1073741824 * h.raws
def pack (h : Hd) : Int := if chk h = 0 then enc h else 0

def nohd : Hd := ⟨0, 0, 0, 0, 0, 0, false⟩
def dec (w : Int) : Hd := ⟨0, w / 4 % 8, w / 262144 % 4096, w / 1073741824 % 65536, w / 64 % 16, w / 1024 % 256, decide (w / 32 % 2 = 1)⟩
def isHd (w : Int) : Bool := decide (w % 4 = 1) && decide (w / 70368744177664 = 0) && decide (chk (dec w) = 0)
def unp (w : Int) : Hd := if isHd w then dec w else nohd
def numT (tag w : Int) : Int × Bool := if w % 4 = tag ∧ 1 ≤ w / 4 ∧ w / 4 ≤ 1099511627776 then (w / 4, true) else (0, false)
def wordT (tag n : Int) : Int := if 1 ≤ n ∧ n ≤ 1099511627776 then tag + 4 * n else 0
def sizeW (w : Int) : Int := if isHd w then 2 + (dec w).ptrs + (dec w).raws else (numT 3 w).1
def withH (w : Int) (f : Hd → Hd) : Int := if isHd w then (if chk (f (dec w)) = 0 then enc (f (dec w)) else w) else w

structure Fine (h : Hd) : Prop where
  k0 : 1 ≤ h.kind
  k1 : h.kind ≤ 4
  p0 : 0 ≤ h.ptrs
  p1 : h.ptrs ≤ 4095
  r0 : 0 ≤ h.raws
  r1 : h.raws ≤ 65535
  a0 : 0 ≤ h.age
  a1 : h.age ≤ 15
  s0 : 0 ≤ h.site
  s1 : h.site ≤ 255
  kw : h.kind = 2 → 1 ≤ h.ptrs
  ke : h.kind = 3 → 2 ≤ h.ptrs

theorem chk_iff (h : Hd) : chk h = 0 ↔ Fine h := by
  unfold chk
  constructor
  · intro e
    split at e; · simp at e
    split at e; · simp at e
    split at e; · simp at e
    split at e; · simp at e
    split at e; · simp at e
    constructor <;> omega
  · intro ⟨_, _, _, _, _, _, _, _, _, _, _, _⟩
    rw [if_neg (by omega), if_neg (by omega), if_neg (by omega), if_neg (by omega), if_neg (by omega)]

theorem b2i_01 (b : Bool) : 0 ≤ b2i b ∧ b2i b ≤ 1 := by cases b <;> simp [b2i]

theorem enc_bd {h : Hd} (f : Fine h) : 0 ≤ enc h ∧ enc h < 70368744177664 := by
  obtain ⟨_, _, _, _, _, _, _, _, _, _, _, _⟩ := f
  have := b2i_01 h.held
  unfold enc; omega

theorem dec_enc {h : Hd} (f : Fine h) : dec (enc h) = { h with ser := 0 } := by
  obtain ⟨_, _, _, _, _, _, _, _, _, _, _, _⟩ := f
  obtain ⟨ser, kind, ptrs, raws, age, site, held⟩ := h
  simp only at *
  have hb := b2i_01 held
  unfold dec enc
  simp only
  generalize hbb : b2i held = b at *
  rw [show (1 + 4 * kind + 32 * b + 64 * age + 1024 * site + 262144 * ptrs + 1073741824 * raws) / 4 % 8 = kind by omega,
    show (1 + 4 * kind + 32 * b + 64 * age + 1024 * site + 262144 * ptrs + 1073741824 * raws) / 262144 % 4096 = ptrs by omega,
    show (1 + 4 * kind + 32 * b + 64 * age + 1024 * site + 262144 * ptrs + 1073741824 * raws) / 1073741824 % 65536 = raws by omega,
    show (1 + 4 * kind + 32 * b + 64 * age + 1024 * site + 262144 * ptrs + 1073741824 * raws) / 64 % 16 = age by omega,
    show (1 + 4 * kind + 32 * b + 64 * age + 1024 * site + 262144 * ptrs + 1073741824 * raws) / 1024 % 256 = site by omega,
    show (1 + 4 * kind + 32 * b + 64 * age + 1024 * site + 262144 * ptrs + 1073741824 * raws) / 32 % 2 = b by omega]
  cases held <;> simp [b2i] at hbb <;> subst hbb <;> simp

theorem isHd_enc {h : Hd} (f : Fine h) : isHd (enc h) = true := by
  have hd := dec_enc f
  have hb := enc_bd f
  unfold isHd
  rw [hd]
  have f' : Fine { h with ser := 0 } := ⟨f.k0, f.k1, f.p0, f.p1, f.r0, f.r1, f.a0, f.a1, f.s0, f.s1, f.kw, f.ke⟩
  rw [(chk_iff _).2 f']
  have : enc h % 4 = 1 := by
    unfold enc; have := b2i_01 h.held; omega
  simp [this]
  omega

theorem enc_dec {w : Int} (_h0 : 0 ≤ w) (h : isHd w = true) : enc (dec w) = w := by
  unfold isHd at h
  simp only [Bool.and_eq_true, decide_eq_true_eq] at h
  obtain ⟨⟨h1, h2⟩, h3⟩ := h
  unfold enc dec
  simp only
  have : b2i (decide (w / 32 % 2 = 1)) = w / 32 % 2 := by
    unfold b2i
    rcases (show w / 32 % 2 = 0 ∨ w / 32 % 2 = 1 by omega) with e | e <;> simp [e]
  rw [this]
  omega

theorem or_add (i : Nat) {a b : Int} (ha0 : 0 ≤ a) (ha : a < 2 ^ i) (hb0 : 0 ≤ b) (hb : b % 2 ^ i = 0) (hb1 : b < 18446744073709551616) (hi : (2 : Int) ^ i ≤ 18446744073709551616) : bits .or .u64 a b = a + b := by
  obtain ⟨x, rfl⟩ := Int.eq_ofNat_of_zero_le ha0
  obtain ⟨y, rfl⟩ := Int.eq_ofNat_of_zero_le hb0
  have hy : y < 18446744073709551616 := by omega
  have hx : x < 18446744073709551616 := by omega
  have hd : y % 2 ^ i = 0 := by exact_mod_cast hb
  have hx' : x < 2 ^ i := by exact_mod_cast ha
  have hq : y = 2 ^ i * (y / 2 ^ i) := by
    have := Nat.div_add_mod y (2 ^ i)
    omega
  rw [bits_or_u64_nat x y hx hy, Nat.or_comm]
  rw [hq, ← Nat.two_pow_add_eq_or_of_lt hx' (y / 2 ^ i)]
  simp
  omega
theorem pack_or {kind age site ptrs raws : Int} {held : Bool} (h0 : 0 ≤ kind) (h1 : kind < 8) (a0 : 0 ≤ age) (a1 : age < 16) (s0 : 0 ≤ site) (s1 : site < 256) (p0 : 0 ≤ ptrs) (p1 : ptrs < 4096) (r0 : 0 ≤ raws) (r1 : raws < 65536) :
    bits .or .u64 (bits .or .u64 (bits .or .u64 (bits .or .u64 (bits .or .u64 (bits .or .u64 1 (kind * 4)) (b2i held * 32)) (age * 64)) (site * 1024)) (ptrs * 262144)) (raws * 1073741824)
      = 1 + 4 * kind + 32 * b2i held + 64 * age + 1024 * site + 262144 * ptrs + 1073741824 * raws := by
  have hb := b2i_01 held
  generalize b2i held = b at *
  rw [show bits .or .u64 (1) (kind * 4) = 1 + kind * 4 from or_add 2 (by omega) (by omega) (by omega) (by omega) (by omega) (by omega)]
  rw [show bits .or .u64 (1 + kind * 4) (b * 32) = 1 + kind * 4 + b * 32 from or_add 5 (by omega) (by omega) (by omega) (by omega) (by omega) (by omega)]
  rw [show bits .or .u64 (1 + kind * 4 + b * 32) (age * 64) = 1 + kind * 4 + b * 32 + age * 64 from or_add 6 (by omega) (by omega) (by omega) (by omega) (by omega) (by omega)]
  rw [show bits .or .u64 (1 + kind * 4 + b * 32 + age * 64) (site * 1024) = 1 + kind * 4 + b * 32 + age * 64 + site * 1024 from or_add 10 (by omega) (by omega) (by omega) (by omega) (by omega) (by omega)]
  rw [show bits .or .u64 (1 + kind * 4 + b * 32 + age * 64 + site * 1024) (ptrs * 262144) = 1 + kind * 4 + b * 32 + age * 64 + site * 1024 + ptrs * 262144 from or_add 18 (by omega) (by omega) (by omega) (by omega) (by omega) (by omega)]
  rw [show bits .or .u64 (1 + kind * 4 + b * 32 + age * 64 + site * 1024 + ptrs * 262144) (raws * 1073741824) = 1 + kind * 4 + b * 32 + age * 64 + site * 1024 + ptrs * 262144 + raws * 1073741824 from or_add 30 (by omega) (by omega) (by omega) (by omega) (by omega) (by omega)]
  omega

/-- A head as Go's struct holds it. -/
def Hd.val (h : Hd) : Value := .agg #[.int .u64 h.ser, .int .i64 h.kind, .int .i64 h.ptrs, .int .i64 h.raws, .int .i64 h.age, .int .i64 h.site, .bool h.held]
theorem ret_int {k : IntKind} {a b : Int} (h : a = b) : Ending.returned (.int k a) = .returned (.int k b) := by rw [h]
theorem ret_bool {a b : Bool} (h : a = b) : Ending.returned (.bool a) = .returned (.bool b) := by rw [h]
theorem below_drewN {B : Nat} {a w : World} (h : Below B a w) (n : Nat) : Below B a (w.drewN n) := ⟨h.os, h.tape, h.output, h.size, h.block⟩
theorem below_drewN_r {B : Nat} {a w : World} {n : Nat} (h : Below B (a.drewN n) w) : Below B a w := ⟨h.os, h.tape, h.output, h.size, h.block⟩
theorem bcell {W w1 : World} (hb : Below W.heap.size W w1) : (∀ b o, b < W.heap.size → w1.cell? ⟨b, o, none⟩ = W.cell? ⟨b, o, none⟩) ∧ (∀ b o, b < W.heap.size → w1.frozen? ⟨b, o, none⟩ = W.frozen? ⟨b, o, none⟩) :=
  ⟨fun b o h => hb.cell (p := ⟨b, o, none⟩) h, fun b o h => hb.frozen (p := ⟨b, o, none⟩) h⟩
/-- A block of cells that is known whole: its cells, its marks. -/
theorem hcell {w : World} {b : Nat} {c : Array Value} {t : TypeId} (h : w.heap[b]? = some (.cells c t (0, 0))) : (∀ o, w.cell? ⟨b, o, none⟩ = c[o]?) ∧ (∀ o, w.frozen? ⟨b, o, none⟩ = false) :=
  ⟨fun o => by simp [World.cell?, h], fun o => by simp [World.frozen?, h]⟩
theorem kept_new {w w' : World} {X : Obj} (hb : Below (w.alloc X).heap.size (w.alloc X) w') : w'.heap[w.heap.size]? = some X ∧ Below w.heap.size w w' ∧ w.heap.size < w'.heap.size := by
  refine ⟨?_, ((Below.refl _ _).alloc (Nat.le_refl _) _).trans (hb.mono (by simp)), ?_⟩
  · rw [hb.block _ (by simp)]; show (w.heap.push X)[w.heap.size]? = _; simp
  · have := hb.size; simp at this; omega
theorem kept_new2 {w w' : World} {X Y : Obj} (hb : Below ((w.alloc X).alloc Y).heap.size ((w.alloc X).alloc Y) w') : w'.heap[w.heap.size]? = some X ∧ w'.heap[w.heap.size + 1]? = some Y ∧ Below w.heap.size w w' ∧ w.heap.size + 1 < w'.heap.size := by
  obtain ⟨h1, h2, h3⟩ := kept_new hb
  have h1' : w'.heap[w.heap.size + 1]? = some Y := by simpa using h1
  obtain ⟨h4, h5, h6⟩ := kept_new h2
  refine ⟨h4, h1', h5, ?_⟩
  simp at h3; omega
theorem kept_new3 {w w' : World} {X Y Z : Obj} (hb : Below (((w.alloc X).alloc Y).alloc Z).heap.size (((w.alloc X).alloc Y).alloc Z) w') : w'.heap[w.heap.size]? = some X ∧ w'.heap[w.heap.size + 1]? = some Y ∧ w'.heap[w.heap.size + 1 + 1]? = some Z ∧ Below w.heap.size w w' ∧ w.heap.size + 1 + 1 < w'.heap.size := by
  obtain ⟨h1, h2, h3⟩ := kept_new hb
  have h1' : w'.heap[w.heap.size + 1 + 1]? = some Z := by simpa using h1
  obtain ⟨h4, h5, h6, h7⟩ := kept_new2 h2
  refine ⟨h4, h5, h1', h6, ?_⟩
  simp at h3; omega
theorem cell_new1 (w : World) (v : Value) (t : TypeId) : (w.alloc (.cells #[v] t)).cell? ⟨w.heap.size, 0, none⟩ = some v := by
  have h : (w.alloc (.cells #[v] t)).heap[w.heap.size]? = some (.cells #[v] t) := by show (w.heap.push _)[w.heap.size]? = _; simp
  unfold World.cell?
  simp only [h]
  rfl
end Go.Proofs.YtomgfdfgildkbaaDoor
