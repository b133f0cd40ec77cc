/- Merged texts: Plain, CellW, CellW2, LgRef2, Lg1, Lg2, Lg3, Lg4, Lg5, Lg6, Lg7, Lg8, Lg9, Lg10, Lg11, Lg12. No condition of its own: each text says what it holds. -/
import Derived.Below
import Derived.IntWalk
import Derived.Deep.Quiet
import Derived.Laws.BitsLemmas
import Derived.Laws.Bits64b
import Derived.Test.YtogpgkoelplknaaDoorProg
import Derived.WalkKit
import Derived.ProofKit
import Derived.Deep.QuietTactic
import Derived.BigQuiet
import Derived.WalkSpells
import Derived.Lib.Hide
import Derived.Outline
import Derived.Test.YtogpgkoelplknaaDoorPLensPathsx0
import Derived.Test.YtogpgkoelplknaaDoorPLensPathsx1
import Derived.Test.YtogpgkoelplknaaDoorPLensPathsx2
import Derived.Test.YtogpgkoelplknaaDoorPLensPathsx7
import Derived.Test.YtogpgkoelplknaaDoorPLensPathsx9
import Derived.Test.YtogpgkoelplknaaDoorPLensPathsx10
import Derived.Test.YtogpgkoelplknaaDoorPLensPathsx12
import Derived.Test.YtogpgkoelplknaaDoorPLensPathsx13
section
namespace Go.Proofs.YtogpgkoelplknaaDoor
open Go.RowKit
section
structure Hd where
 ser : Int
 kind : Int
 ptrs : Int
 raws : Int
 age : Int
 site : Int
 held : Bool
def b2i (b : Bool) : Int := if b then 1 else 0
def chk (h : Hd) : Int :=
 if h.kind < 1 \/ 4 < h.kind \/ (h.kind = 2 /\ h.ptrs < 1) \/ (h.kind = 3 /\ h.ptrs < 2) then 20
 else if h.ptrs < 0 \/ 4095 < h.ptrs then 21
 else if h.raws < 0 \/ 65535 < h.raws then 22
 else if h.age < 0 \/ 15 < h.age then 23
 else if h.site < 0 \/ 255 < h.site then 24
 else 0
def enc (h : Hd) : Int := 1 + 4 * h.kind + 32 * b2i h.held + 64 * h.age + 1024 * h.site + 262144 * h.ptrs + 1073741824 * h.raws
def pack (h : Hd) : Int := if chk h = 0 then enc h else 0
structure Fine (h : Hd) : Prop where
 k0 : 1 <= h.kind
 k1 : h.kind <= 4
 p0 : 0 <= h.ptrs
 p1 : h.ptrs <= 4095
 r0 : 0 <= h.raws
 r1 : h.raws <= 65535
 a0 : 0 <= h.age
 a1 : h.age <= 15
 s0 : 0 <= h.site
 s1 : h.site <= 255
 kw : h.kind = 2 -> 1 <= h.ptrs
 ke : h.kind = 3 -> 2 <= h.ptrs
theorem chk_iff (h : Hd) : chk h = 0 ↔ Fine h := by
 unfold chk
 constructor
 ·intro e
  split at e; · simp at e
  split at e; · simp at e
  split at e; · simp at e
  split at e; · simp at e
  split at e; · simp at e
  constructor <;> omega
 ·intro ⟨_, _, _, _, _, _, _, _, _, _, _, _⟩
  rw [if_neg (by omega), if_neg (by omega), if_neg (by omega), if_neg (by omega), if_neg (by omega)]
theorem b2i_01 (b : Bool) : 0 <= b2i b /\ b2i b <= 1 := by cases b <;> simp [b2i]
theorem or_add (i : Nat) {a b : Int} (ha0 : 0 <= a) (ha : a < 2 ^ i) (hb0 : 0 <= b) (hb : b % 2 ^ i = 0) (hb1 : b < 18446744073709551616) (hi : (2 : Int) ^ i <= 18446744073709551616) : bits .or .u64 a b = a + b := by
 obtain ⟨x, rfl⟩ := Int.eq_ofNat_of_zero_le ha0
 obtain ⟨y, rfl⟩ := Int.eq_ofNat_of_zero_le hb0
 have hy : y < 18446744073709551616 := by omega
 have hx : x < 18446744073709551616 := by omega
 have hd : y % 2 ^ i = 0 := by exact_mod_cast hb
 have hx' : x < 2 ^ i := by exact_mod_cast ha
 have hq : y = 2 ^ i * (y / 2 ^ i) := by
  have := Nat.div_add_mod y (2 ^ i)
  omega
 rw [bits_or_u64_nat x y hx hy, Nat.or_comm]
 rw [hq, <- Nat.two_pow_add_eq_or_of_lt hx' (y / 2 ^ i)]
 simp
 omega
theorem pack_or {kind age site ptrs raws : Int} {held : Bool} (h0 : 0 <= kind) (h1 : kind < 8) (a0 : 0 <= age) (a1 : age < 16) (s0 : 0 <= site) (s1 : site < 256) (p0 : 0 <= ptrs) (p1 : ptrs < 4096) (r0 : 0 <= raws) (r1 : raws < 65536) :
  bits .or .u64 (bits .or .u64 (bits .or .u64 (bits .or .u64 (bits .or .u64 (bits .or .u64 1 (kind * 4)) (b2i held * 32)) (age * 64)) (site * 1024)) (ptrs * 262144)) (raws * 1073741824)
   = 1 + 4 * kind + 32 * b2i held + 64 * age + 1024 * site + 262144 * ptrs + 1073741824 * raws := by
 have hb := b2i_01 held
 generalize b2i held = b at *
 rw [show bits .or .u64 (1) (kind * 4) = 1 + kind * 4 from or_add 2 (by omega) (by omega) (by omega) (by omega) (by omega) (by omega)]
 rw [show bits .or .u64 (1 + kind * 4) (b * 32) = 1 + kind * 4 + b * 32 from or_add 5 (by omega) (by omega) (by omega) (by omega) (by omega) (by omega)]
 rw [show bits .or .u64 (1 + kind * 4 + b * 32) (age * 64) = 1 + kind * 4 + b * 32 + age * 64 from or_add 6 (by omega) (by omega) (by omega) (by omega) (by omega) (by omega)]
 rw [show bits .or .u64 (1 + kind * 4 + b * 32 + age * 64) (site * 1024) = 1 + kind * 4 + b * 32 + age * 64 + site * 1024 from or_add 10 (by omega) (by omega) (by omega) (by omega) (by omega) (by omega)]
 rw [show bits .or .u64 (1 + kind * 4 + b * 32 + age * 64 + site * 1024) (ptrs * 262144) = 1 + kind * 4 + b * 32 + age * 64 + site * 1024 + ptrs * 262144 from or_add 18 (by omega) (by omega) (by omega) (by omega) (by omega) (by omega)]
 rw [show bits .or .u64 (1 + kind * 4 + b * 32 + age * 64 + site * 1024 + ptrs * 262144) (raws * 1073741824) = 1 + kind * 4 + b * 32 + age * 64 + site * 1024 + ptrs * 262144 + raws * 1073741824 from or_add 30 (by omega) (by omega) (by omega) (by omega) (by omega) (by omega)]
 omega
def Hd.val (h : Hd) : Value := .agg #[.int .u64 h.ser, .int .i64 h.kind, .int .i64 h.ptrs, .int .i64 h.raws, .int .i64 h.age, .int .i64 h.site, .bool h.held]
theorem ret_int {k : IntKind} {a b : Int} (h : a = b) : Ending.returned (.int k a) = .returned (.int k b) := by rw [h]
theorem ret_bool {a b : Bool} (h : a = b) : Ending.returned (.bool a) = .returned (.bool b) := by rw [h]
theorem below_drewN {B : Nat} {a w : World} (h : Below B a w) (n : Nat) : Below B a (w.drewN n) := ⟨h.os, h.tape, h.output, h.size, h.block⟩
theorem hcell {w : World} {b : Nat} {c : Array Value} {t : TypeId} (h : w.heap[b]? = some (.cells c t (0, 0))) : (∀ o, w.cell? ⟨b, o, none⟩ = c[o]?) /\ (∀ o, w.frozen? ⟨b, o, none⟩ = false) :=
 ⟨fun o => by simp [World.cell?, h], fun o => by simp [World.frozen?, h]⟩
theorem kept_new {w w' : World} {X : Obj} (hb : Below (w.alloc X).heap.size (w.alloc X) w') : w'.heap[w.heap.size]? = some X /\ Below w.heap.size w w' /\ w.heap.size < w'.heap.size := by
 refine ⟨?_, ((Below.refl _ _).alloc (Nat.le_refl _) _).trans (hb.mono (by simp)), ?_⟩
 ·rw [hb.block _ (by simp)]; show (w.heap.push X)[w.heap.size]? = _; simp
 ·have := hb.size; simp at this; omega
end
end Go.Proofs.YtogpgkoelplknaaDoor
end
section
namespace Go.Proofs.YtogpgkoelplknaaDoor
open Go.RowKit Go.BigFrame
section
structure Tab (w : World) : Prop where
 n0 : w.cell? ⟨1, 0, none⟩ = some (.int .i64 (-1))
 n1 : w.cell? ⟨1, 1, none⟩ = some (.int .i64 0)
 n2 : w.cell? ⟨1, 2, none⟩ = some (.int .i64 1)
 n3 : w.cell? ⟨1, 3, none⟩ = some (.int .i64 2)
 n4 : w.cell? ⟨1, 4, none⟩ = some (.int .i64 0)
 w0 : w.cell? ⟨0, 0, none⟩ = some (.int .i64 3)
 w1 : w.cell? ⟨0, 1, none⟩ = some (.int .i64 1)
 w2 : w.cell? ⟨0, 2, none⟩ = some (.int .i64 4)
 w3 : w.cell? ⟨0, 3, none⟩ = some (.int .i64 8)
 w4 : w.cell? ⟨0, 4, none⟩ = some (.int .i64 12)
 w5 : w.cell? ⟨0, 5, none⟩ = some (.int .i64 16)
 hs : 1 < w.heap.size
 ht : 0 < w.heap.size
theorem Tab.below {w w' : World} (h : Tab w) (hb : Below w.heap.size w w') : Tab w' := by
 obtain ⟨n0, n1, n2, n3, n4, w0, w1, w2, w3, w4, w5, hs, ht⟩ := h
 have q : ∀ b o, b < w.heap.size -> w'.cell? ⟨b, o, none⟩ = w.cell? ⟨b, o, none⟩ := fun b o h => hb.cell (p := ⟨b, o, none⟩) h
 have := hb.size
 constructor <;> first | omega | (rw [q _ _ (by omega)]; assumption)
set_option maxHeartbeats 1000000 in
theorem check_any (h : Hd) (w : World) (ht : Tab w) :
  Calls Tryd.prog 131 #[h.val] w fun e w' => e = .returned (.int .i64 (chk h)) /\ Below w.heap.size w w' := by
 obtain ⟨n0, n1, n2, n3, n4, w0, w1, w2, w3, w4, w5, hs, ht⟩ := ht
 clear w0 w1 w2 w3 w4 w5 ht
 obtain ⟨ser, kind, ptrs, raws, age, site, held⟩ := h
 unfold Hd.val
 simp only
 by_cases k0 : kind < 0
 ·go_enter Tryd.func131, Tryd.ntmps131
  go_wp2
  go_big_quiet (fail)
  go_wp2
  all_goals
   go_ret
   exact ⟨ret_int (by unfold chk; simp only; (try simp only [true_and]); repeat (first | rw [if_pos (by omega)] | rw [if_neg (by omega)])), below_drewN ((Below.refl _ _).alloc (Nat.le_refl _) _) _⟩
 by_cases k5 : 5 <= kind
 ·have d0 : decide (kind < 0) = false := by simp; omega
  go_enter Tryd.func131, Tryd.ntmps131
  go_wp2
  go_big_quiet (fail)
  go_wp2
  all_goals
   go_ret
   exact ⟨ret_int (by unfold chk; simp only; (try simp only [true_and]); repeat (first | rw [if_pos (by omega)] | rw [if_neg (by omega)])), below_drewN ((Below.refl _ _).alloc (Nat.le_refl _) _) _⟩
 have hk : kind = 0 \/ kind = 1 \/ kind = 4 \/ kind = 2 \/ kind = 3 := by omega
 clear k0 k5
 rcases hk with rfl | rfl | rfl | rfl | rfl
 ·go_enter Tryd.func131, Tryd.ntmps131
  go_wp2
  go_big_quiet (fail)
  go_wp2
  all_goals
   go_ret
   exact ⟨ret_int (by unfold chk; simp only; (try simp only [true_and]); repeat (first | rw [if_pos (by omega)] | rw [if_neg (by omega)])), below_drewN ((Below.refl _ _).alloc (Nat.le_refl _) _) _⟩
 ·go_enter Tryd.func131, Tryd.ntmps131
  go_wp2
  go_big_quiet (fail)
  go_wp2
  all_goals
   go_ret
   exact ⟨ret_int (by unfold chk; simp only; (try simp only [true_and]); repeat (first | rw [if_pos (by omega)] | rw [if_neg (by omega)])), below_drewN ((Below.refl _ _).alloc (Nat.le_refl _) _) _⟩
 ·go_enter Tryd.func131, Tryd.ntmps131
  go_wp2
  go_big_quiet (fail)
  go_wp2
  all_goals
   go_ret
   exact ⟨ret_int (by unfold chk; simp only; (try simp only [true_and]); repeat (first | rw [if_pos (by omega)] | rw [if_neg (by omega)])), below_drewN ((Below.refl _ _).alloc (Nat.le_refl _) _) _⟩
 ·by_cases p1 : ptrs < 1
  ·go_enter Tryd.func131, Tryd.ntmps131
   go_wp2
   go_big_quiet (fail)
   go_wp2
   all_goals
    go_ret
    exact ⟨ret_int (by unfold chk; simp only; (try simp only [true_and]); repeat (first | rw [if_pos (by omega)] | rw [if_neg (by omega)])), below_drewN ((Below.refl _ _).alloc (Nat.le_refl _) _) _⟩
  ·have d1 : decide (ptrs < 1) = false := by simp; omega
   go_enter Tryd.func131, Tryd.ntmps131
   go_wp2
   go_big_quiet (fail)
   go_wp2
   all_goals
    go_ret
    exact ⟨ret_int (by unfold chk; simp only; (try simp only [true_and]); repeat (first | rw [if_pos (by omega)] | rw [if_neg (by omega)])), below_drewN ((Below.refl _ _).alloc (Nat.le_refl _) _) _⟩
 ·by_cases p1 : ptrs < 2
  ·go_enter Tryd.func131, Tryd.ntmps131
   go_wp2
   go_big_quiet (fail)
   go_wp2
   all_goals
    go_ret
    exact ⟨ret_int (by unfold chk; simp only; (try simp only [true_and]); repeat (first | rw [if_pos (by omega)] | rw [if_neg (by omega)])), below_drewN ((Below.refl _ _).alloc (Nat.le_refl _) _) _⟩
  ·have d1 : decide (ptrs < 2) = false := by simp; omega
   go_enter Tryd.func131, Tryd.ntmps131
   go_wp2
   go_big_quiet (fail)
   go_wp2
   all_goals
    go_ret
    exact ⟨ret_int (by unfold chk; simp only; (try simp only [true_and]); repeat (first | rw [if_pos (by omega)] | rw [if_neg (by omega)])), below_drewN ((Below.refl _ _).alloc (Nat.le_refl _) _) _⟩
end
section
@[go_sem] theorem idx6_0 (a0 a1 a2 a3 a4 a5 : Value) (w : World) : (Instr.index 169 (.agg #[a0, a1, a2, a3, a4, a5]) (.int .i64 0)).run Tryd.prog w = .ok a0 w := by kernel_rfl
@[go_sem] theorem idx6_1 (a0 a1 a2 a3 a4 a5 : Value) (w : World) : (Instr.index 169 (.agg #[a0, a1, a2, a3, a4, a5]) (.int .i64 1)).run Tryd.prog w = .ok a1 w := by kernel_rfl
@[go_sem] theorem idx6_2 (a0 a1 a2 a3 a4 a5 : Value) (w : World) : (Instr.index 169 (.agg #[a0, a1, a2, a3, a4, a5]) (.int .i64 2)).run Tryd.prog w = .ok a2 w := by kernel_rfl
@[go_sem] theorem idx6_3 (a0 a1 a2 a3 a4 a5 : Value) (w : World) : (Instr.index 169 (.agg #[a0, a1, a2, a3, a4, a5]) (.int .i64 3)).run Tryd.prog w = .ok a3 w := by kernel_rfl
@[go_sem] theorem idx6_4 (a0 a1 a2 a3 a4 a5 : Value) (w : World) : (Instr.index 169 (.agg #[a0, a1, a2, a3, a4, a5]) (.int .i64 4)).run Tryd.prog w = .ok a4 w := by kernel_rfl
@[go_sem] theorem idx6_5 (a0 a1 a2 a3 a4 a5 : Value) (w : World) : (Instr.index 169 (.agg #[a0, a1, a2, a3, a4, a5]) (.int .i64 5)).run Tryd.prog w = .ok a5 w := by kernel_rfl
theorem pack_no (h : Hd) (w : World) (ht : Tab w) (f : ¬ chk h = 0) :
  Calls Tryd.prog 113 #[h.val] w fun e w' => e = .returned (.tuple #[.int .u64 (pack h), .int .i64 (chk h)]) /\ Below w.heap.size w w' := by
 have CC := Lib.hid (fun (W : World) (hb : Below w.heap.size w W) => check_any h W (ht.below hb))
 have hp : pack h = 0 := by unfold pack; rw [if_neg f]
 rw [hp]; clear hp
 have f1 : (chk h == 0) = false := by simpa using f
 generalize chk h = c at *
 clear f
 unfold Hd.val at *
 obtain ⟨ser, kind, ptrs, raws, age, site, held⟩ := h
 simp only at *
 go_enter Tryd.func113, Tryd.ntmps113
 go_wp2_with fail
 refine (CC.out _ ((Below.refl _ _).alloc (Nat.le_refl _) _)).mono ?_
 rintro e w' ⟨rfl, hb⟩
 obtain ⟨hX, hb0, hz⟩ := kept_new hb
 clear hX hb
 go_wp2_with fail
 go_ret2
 exact ⟨rfl, hb0⟩
set_option maxHeartbeats 1000000 in
theorem pack_yes (h : Hd) (w : World) (ht : Tab w) (f : Fine h) :
  Calls Tryd.prog 113 #[h.val] w fun e w' => e = .returned (.tuple #[.int .u64 (enc h), .int .i64 0]) /\ Below w.heap.size w w' := by
 have cc := fun (W : World) (hb : Below w.heap.size w W) => check_any h W (ht.below hb)
 rw [(chk_iff h).2 f] at cc
 have CC := Lib.hid cc; clear cc
 obtain ⟨fk0, fk1, fp0, fp1, fr0, fr1, fa0, fa1, fs0, fs1, -, -⟩ := f
 unfold Hd.val at *
 obtain ⟨ser, kind, ptrs, raws, age, site, held⟩ := h
 simp only at *
 have P := Lib.hid (@pack_or kind age site ptrs raws held (by omega) (by omega) (by omega) (by omega) (by omega) (by omega) (by omega) (by omega) (by omega) (by omega))
 cases held
 all_goals
  go_enter Tryd.func113, Tryd.ntmps113
  go_wp2_with fail
  refine (CC.out _ ((Below.refl _ _).alloc (Nat.le_refl _) _)).mono ?_
  rintro e w' ⟨rfl, hb⟩
  obtain ⟨hX, hb0, hz⟩ := kept_new hb
  obtain ⟨hc, hf⟩ := hcell hX
  clear hX hb
  obtain ⟨-, -, -, -, -, w0, w1, w2, w3, w4, w5, -, htt⟩ := ht.below hb0
  have hne : ¬ w'.heap = #[] := by intro h; rw [h] at htt; simp at htt
  go_wp2_with fail
  refine wp_loop_rounds 7 ?_
  iterate 7 (rw [rounds_succ]; go_wp2_with fail)
  go_ret2
  refine ⟨?_, ?_⟩
  ·refine Eq.trans ?_ (congrArg (fun x => Ending.returned (Value.tuple #[.int .u64 x, .int .i64 0])) P.out)
   rfl
  ·first | exact hb0.alloc (by omega) _ | exact (hb0.alloc (by omega) _).setCell (by simp; omega) _
theorem pack_any (h : Hd) (w : World) (ht : Tab w) :
  Calls Tryd.prog 113 #[h.val] w fun e w' => e = .returned (.tuple #[.int .u64 (pack h), .int .i64 (chk h)]) /\ Below w.heap.size w w' := by
 by_cases f : chk h = 0
 ·have hp : pack h = enc h := by unfold pack; rw [if_pos f]
  rw [hp, f]
  exact pack_yes h w ht ((chk_iff h).1 f)
 ·exact pack_no h w ht f
end
section
end
end Go.Proofs.YtogpgkoelplknaaDoor
end
section
namespace Go.Proofs.YtogpgkoelplknaaDoor
open Go.RowKit Go.BigFrame PLensPaths Go.Proofs.YtogpgkoelplknaaDoorW.PrintWords
set_option linter.unusedVariables false
section
abbrev Ob := S59
abbrev kOb : Kd Ob := k59
abbrev kInts : Kd (List Int) := Kd.slice 3 (Kd.int .i64)
abbrev kWords : Kd (List Int) := Kd.slice 25 (Kd.int .u64)
abbrev kFrames : Kd (List (List Int)) := Kd.slice 24 kInts
instance : Inhabited Ob := ⟨z59⟩
structure Gr where
 obs : List Ob
 slots : List (List (List Int))
 hands : List Int
 reg : List Int
 queue : List Int
 next : Int
structure Gv where
 A0 : Option Addr
 A1 : Option Addr
 A2 : Option Addr
 A3 : Option Addr
 A4 : Option Addr
 c0 : Nat
 c1 : Nat
 c2 : Nat
 c3 : Nat
 c4 : Nat
def gcells (g : Gv) (G : Gr) : Array Value := #[.slice g.A0 G.obs.length g.c0, .slice g.A1 G.slots.length g.c1, .slice g.A2 G.hands.length g.c2, .slice g.A3 G.reg.length g.c3, .slice g.A4 G.queue.length g.c4, .int .u64 G.next]
def gval (g : Gv) (G : Gr) : Value := .agg (gcells g G)
structure GAt (w : World) (g : Gv) (G : Gr) : Prop where
 r0 : Kd.C kOb w g.A0 G.obs.length G.obs
 l0 : G.obs.length <= g.c0
 r1 : Kd.C kFrames w g.A1 G.slots.length G.slots
 l1 : G.slots.length <= g.c1
 r2 : Kd.C (Kd.int .i64) w g.A2 G.hands.length G.hands
 l2 : G.hands.length <= g.c2
 r3 : Kd.C (Kd.int .i64) w g.A3 G.reg.length G.reg
 l3 : G.reg.length <= g.c3
 r4 : Kd.C (Kd.int .i64) w g.A4 G.queue.length G.queue
 l4 : G.queue.length <= g.c4
theorem GAt.below {w w1 : World} {g : Gv} {G : Gr} (h : GAt w g G) (hb : Below w.heap.size w w1) : GAt w1 g G :=
 ⟨Kd.C_below h.r0 hb, h.l0, Kd.C_below h.r1 hb, h.l1, Kd.C_below h.r2 hb, h.l2, Kd.C_below h.r3 hb, h.l3, Kd.C_below h.r4 hb, h.l4⟩
structure Gr.Bd (G : Gr) : Prop where
 n : G.obs.length <= 1048576
 m : G.slots.length <= 1048576
 h : G.hands.length <= 1048576
 r : G.reg.length <= 1048576
 q : G.queue.length <= 1048576
 i64 : ∀ o ∈ G.obs, o.f3.length <= 1048576 /\ o.f4.length <= 1048576
theorem int_at {k : IntKind} {w : World} {A : Option Addr} {n : Nat} {xs : List Int} (h : Kd.C (Kd.int k) w A n xs) (i : Nat) (hi : i < n) : ∃ ad, A = some ad /\ w.cell? (ad.add i) = some (.int k (xs.getD i 0)) := by
 obtain ⟨ad, c, e, hl, hk, hc⟩ := Kd.C_get h 0 (i : Int) (by omega) (by omega)
 have hk' : c = [.int k (xs.getD i 0)] := by simpa [Kd.int, Kd.scalar] using hk
 subst hk'
 refine ⟨ad, e, ?_⟩
 have := hc 0 _ rfl
 simpa [Kd.int, Kd.scalar] using this
theorem sl_at {α : Type} {e : Nat} {d : Kd α} {w : World} {A : Option Addr} {n : Nat} {xs : List (List α)} (h : Kd.C (Kd.slice e d) w A n xs) (i : Nat) (hi : i < n) :
  ∃ ad A1 c1, A = some ad /\ w.cell? (ad.add i) = some (.slice A1 (xs.getD i []).length c1) /\ (xs.getD i []).length <= c1 /\ Kd.C d w A1 (xs.getD i []).length (xs.getD i []) := by
 obtain ⟨ad, c, e, hl, ⟨A1, c1, hk, h1, h2⟩, hc⟩ := Kd.C_get h [] (i : Int) (by omega) (by omega)
 subst hk
 refine ⟨ad, A1, c1, e, ?_, h1, h2⟩
 have := hc 0 _ rfl
 simpa [Kd.slice] using this
theorem ob_at {w : World} {A : Option Addr} {n : Nat} {xs : List Ob} (h : Kd.C kOb w A n xs) (i : Nat) (hi : i < n) :
  ∃ ad A3 c3 A4 c4, A = some ad /\ w.cell? (ad.add (i * 5)) = some (.int .u64 (xs.getD i default).f0) /\ w.cell? ⟨(ad.add (i * 5)).block, (ad.add (i * 5)).off + 1, none⟩ = some (.int .i64 (xs.getD i default).f1) /\ w.cell? ⟨(ad.add (i * 5)).block, (ad.add (i * 5)).off + 2, none⟩ = some (.int .i64 (xs.getD i default).f2)
   /\ w.cell? ⟨(ad.add (i * 5)).block, (ad.add (i * 5)).off + 3, none⟩ = some (.slice A3 (xs.getD i default).f3.length c3) /\ w.cell? ⟨(ad.add (i * 5)).block, (ad.add (i * 5)).off + 4, none⟩ = some (.slice A4 (xs.getD i default).f4.length c4)
   /\ (xs.getD i default).f3.length <= c3 /\ Kd.C (Kd.int .i64) w A3 (xs.getD i default).f3.length (xs.getD i default).f3 /\ (xs.getD i default).f4.length <= c4 /\ Kd.C (Kd.int .u64) w A4 (xs.getD i default).f4.length (xs.getD i default).f4 :=
 at_T59 h (i : Int) (by omega) (by omega)
end
section
theorem wrap_up {i : Nat} (h : i <= 1152921504606846976) : wrap64 ((i : Int) + 1) = ((i + 1 : Nat) : Int) := by unfold wrap64; omega
theorem rd_nat (l : List Int) (i : Nat) : rd l (i : Int) = l.getD i 0 := by unfold rd; simp
theorem rdT_nat (l : List Ob) (i : Nat) : rd_T59 l (i : Int) = l.getD i default := by unfold rd_T59; simp; rfl
theorem drop_cons {α : Type} {l : List α} {i : Nat} (z : α) (h : i < l.length) : l.drop i = l.getD i z :: l.drop (i + 1) := by
 rw [List.drop_eq_getElem_cons h, List.getD_eq_getElem?_getD, List.getElem?_eq_getElem h]; rfl
def numsB (n : Nat) (a : Int) (l : List Int) : Bool := l.all fun x => decide (a <= x) && decide (x <= (n : Int))
theorem numsB_cons (n : Nat) (a x : Int) (l : List Int) : numsB n a (x :: l) = (decide (a <= x) && decide (x <= (n : Int)) && numsB n a l) := rfl
theorem numbers_l (G : Gr) (a : Int) (l : List Int) (hl : l.length <= 1048576) (d : Nat) : ∀ i : Nat, i + d = l.length -> image_numbers.l0 (d + 1) a l (l.length : Int) (i : Int) G.obs G.slots G.hands G.reg G.queue G.next = some (numsB G.obs.length a (l.drop i)) := by
 induction d with
 | zero =>
  intro i hi
  unfold image_numbers.l0
  rw [if_neg (by omega), List.drop_of_length_le (by omega)]; rfl
 | succ d ih =>
  intro i hi
  unfold image_numbers.l0
  rw [if_pos (by omega), if_pos (by omega), if_pos (by omega), rd_nat, drop_cons 0 (by omega), numsB_cons]
  generalize l.getD i 0 = x
  by_cases c : x < a
  ·rw [if_pos c]; simp; omega
  ·rw [if_neg c]
   by_cases c2 : x > (G.obs.length : Int)
   ·rw [if_pos c2]; simp; omega
   ·rw [if_neg c2, wrap_up (by omega), ih (i + 1) (by omega)]
    have e1 : decide (a <= x) = true := by simp; omega
    have e2 : decide (x <= (G.obs.length : Int)) = true := by simp; omega
    rw [e1, e2]; rfl
theorem numbers_any (g : Gv) (G : Gr) (A : Option Addr) (c : Nat) (l : List Int) (a : Int) (w : World) (h : GAt w g G) (hr : Kd.C (Kd.int .i64) w A l.length l) (hc : l.length <= c) (hl : l.length <= 1048576) :
  Calls Tryd.prog 114 #[gval g G, .slice A l.length c, .int .i64 a] w fun e w' => e = .returned (.bool (numsB G.obs.length a l)) /\ Below w.heap.size w w' :=
 image_numbers.calls (l.length + 1) g.A0 g.c0 G.obs g.A1 g.c1 G.slots g.A2 g.c2 G.hands g.A3 g.c3 G.reg g.A4 g.c4 G.queue G.next A c l a _ w h.r0 h.l0 h.r1 h.l1 h.r2 h.l2 h.r3 h.l3 h.r4 h.l4 hr hc (numbers_l G a l hl l.length 0 (by omega))
def finsFrom : Nat -> List Ob -> List Int
 | _, [] => []
 | i, o :: l => if o.f1 = 4 then ((i + 1 : Nat) : Int) :: finsFrom (i + 1) l else finsFrom (i + 1) l
theorem fins_len : ∀ (l : List Ob) (i : Nat), (finsFrom i l).length <= l.length
 | [], _ => by simp [finsFrom]
 | o :: l, i => by
  have := fins_len l (i + 1)
  unfold finsFrom; split <;> simp <;> omega
theorem registry_l (obs : List Ob) (hl : obs.length <= 1048576) (d : Nat) : ∀ (i : Nat) (pre : List Int), i + d = obs.length -> pre.length <= i -> image_registry.l0 (d + 1) pre obs (obs.length : Int) (i : Int) = some (pre ++ finsFrom i (obs.drop i)) := by
 induction d with
 | zero =>
  intro i pre hi hp
  unfold image_registry.l0
  rw [if_neg (by omega), List.drop_of_length_le (by omega)]; simp [finsFrom]
 | succ d ih =>
  intro i pre hi hp
  unfold image_registry.l0
  rw [if_pos (by omega), if_pos (by omega), if_pos (by omega), rdT_nat, drop_cons default (by omega)]
  unfold finsFrom
  generalize obs.getD i default = o
  by_cases c : o.f1 = 4
  ·rw [if_pos c, if_pos c, if_pos (by omega), wrap_up (by omega), ih (i + 1) _ (by omega) (by simp; omega)]; simp
  ·rw [if_neg c, if_neg c, wrap_up (by omega), ih (i + 1) _ (by omega) (by omega)]
end
section
theorem numbers_ev (G : Gr) (l : List Int) (a : Int) (hl : l.length <= 1048576) : Ev (fun k => image_numbers.f k G.obs G.slots G.hands G.reg G.queue G.next l a) (numsB G.obs.length a l) :=
 Ev.of (fun k => image_numbers.mono _ _ _ _ _ _ _ _ k) (k := l.length + 1) (numbers_l G a l hl l.length 0 (by omega))
theorem registry_ev (G : Gr) (hn : G.obs.length <= 1048576) : Ev (fun k => image_registry.f k G.obs G.slots G.hands G.reg G.queue G.next) (finsFrom 0 G.obs) :=
 Ev.of (fun k => image_registry.mono _ _ _ _ _ _ k) (k := G.obs.length + 1) (by
  have := registry_l G.obs hn G.obs.length 0 [] (by omega) (by simp)
  simpa [image_registry.f] using this)
def queueB (obs : List Ob) : List Bool -> List Int -> Bool
 | _, [] => true
 | s, n :: l => if s.getD n.toNat false = true then false else if (obs.getD (n - 1).toNat default).f1 = 4 then false else queueB obs (s.set n.toNat true) l
def sumLen : List (List Int) -> Nat
 | [] => 0
 | f :: l => f.length + sumLen l
def framesB (n : Nat) (l : List (List Int)) : Bool := l.all fun f => decide (1 <= f.length) && numsB n 0 f
def threadsB (n : Nat) (l : List (List (List Int))) : Bool := l.all fun fr => framesB n fr && decide (sumLen fr <= 4096)
def holdersB (G : Gr) : Bool := decide (1 <= G.slots.length) && decide (G.slots.length <= 8) && decide (G.hands.length <= 1024) && threadsB G.obs.length G.slots && numsB G.obs.length (-1) G.hands && numsB G.obs.length 1 G.queue
 && decide (finsFrom 0 G.obs = G.reg) && queueB G.obs (List.replicate (G.obs.length + 1) false) G.queue
theorem queue_l (G : Gr) (hn : G.obs.length <= 1048576) (hq : G.queue.length <= 1048576) (d : Nat) : ∀ (i : Nat) (s : List Bool), i + d = G.queue.length -> s.length = G.obs.length + 1 -> numsB G.obs.length 1 (G.queue.drop i) = true ->
  Ev (fun k => image_holders.l3 k s G.queue (G.queue.length : Int) (i : Int) G.obs G.slots G.hands G.reg G.queue G.next) (queueB G.obs s (G.queue.drop i)) := by
 induction d with
 | zero =>
  intro i s hi hs _
  rw [List.drop_of_length_le (by omega), show queueB G.obs s [] = true from rfl]
  refine Ev.step (fun k => by rw [image_holders.l3, if_neg (by omega)]) (Ev.now _)
 | succ d ih =>
  intro i s hi hs hb
  rw [drop_cons 0 (by omega)] at hb ⊢
  rw [numsB_cons] at hb
  have hx : G.queue.getD i 0 = rd G.queue (i : Int) := (rd_nat _ _).symm
  rw [hx] at hb ⊢
  generalize hg : rd G.queue (i : Int) = x at *
  simp only [Bool.and_eq_true, decide_eq_true_eq] at hb
  obtain ⟨⟨b1, b2⟩, b3⟩ := hb
  unfold queueB
  have e1 : rdOf false s x = s.getD x.toNat false := by unfold rdOf; rfl
  have e2 : wrap64 (x - 1) = x - 1 := by unfold wrap64; omega
  have e3 : rd_T59 G.obs (x - 1) = G.obs.getD (x - 1).toNat default := by unfold rd_T59; rfl
  by_cases c : s.getD x.toNat false = true
  ·rw [if_pos c]
   refine Ev.step (fun k => by rw [image_holders.l3, if_pos (by omega), if_pos (by omega), if_pos (by omega), hg, if_pos (by omega), if_pos (by omega), e1, if_pos c]) (Ev.now _)
  ·rw [if_neg c]
   by_cases c2 : (G.obs.getD (x - 1).toNat default).f1 = 4
   ·rw [if_pos c2]
    refine Ev.step (fun k => by rw [image_holders.l3, if_pos (by omega), if_pos (by omega), if_pos (by omega), hg, if_pos (by omega), if_pos (by omega), e1, if_neg c, e2, if_pos (by omega), if_pos (by omega), e3, if_pos c2]) (Ev.now _)
   ·rw [if_neg c2]
    refine Ev.step (fun k => by rw [image_holders.l3, if_pos (by omega), if_pos (by omega), if_pos (by omega), hg, if_pos (by omega), if_pos (by omega), e1, if_neg c, e2, if_pos (by omega), if_pos (by omega), e3, if_neg c2, wrap_up (by omega)]) (ih (i + 1) _ (by omega) (by simp [hs]) b3)
theorem reg_l (G : Gr) (hn : G.obs.length <= 1048576) (hq : G.queue.length <= 1048576) (hb : numsB G.obs.length 1 G.queue = true) (F : List Int) (hF : F.length <= 1048576) (hl : F.length = G.reg.length) (d : Nat) : ∀ (i : Nat), i + d = F.length ->
  Ev (fun k => image_holders.l2 k F (F.length : Int) (i : Int) G.obs G.slots G.hands G.reg G.queue G.next) (decide (F.drop i = G.reg.drop i) && queueB G.obs (List.replicate (G.obs.length + 1) false) G.queue) := by
 induction d with
 | zero =>
  intro i hi
  rw [List.drop_of_length_le (by omega), List.drop_of_length_le (by omega)]
  have h1 := queue_l G hn hq G.queue.length 0 (List.replicate (G.obs.length + 1) false) (by omega) (by simp) (by simpa using hb)
  have e : wrap64 ((G.obs.length : Int) + 1) = ((G.obs.length + 1 : Nat) : Int) := wrap_up (by omega)
  simp only [decide_true, Bool.true_and]
  refine Ev.step (fun k => by rw [image_holders.l2, if_neg (by omega), e, if_pos (by omega), if_pos (by simp; omega), Int.toNat_natCast]) (by simpa using h1)
 | succ d ih =>
  intro i hi
  have e1 := drop_cons (l := F) (i := i) 0 (by omega)
  have e2 := drop_cons (l := G.reg) (i := i) 0 (by omega)
  rw [e1, e2]
  by_cases c : F.getD i 0 = G.reg.getD i 0
  ·rw [c]
   have h2 := ih (i + 1) (by omega)
   have e : (decide (G.reg.getD i 0 :: F.drop (i + 1) = G.reg.getD i 0 :: G.reg.drop (i + 1))) = decide (F.drop (i + 1) = G.reg.drop (i + 1)) := by simp
   rw [e]
   refine Ev.step (fun k => by rw [image_holders.l2, if_pos (by omega), if_pos (by omega), if_pos (by omega), if_pos (by omega), rd_nat, rd_nat, if_pos c.symm, wrap_up (by omega)]) h2
  ·have e : (decide (F.getD i 0 :: F.drop (i + 1) = G.reg.getD i 0 :: G.reg.drop (i + 1))) = false := by simp only [decide_eq_false_iff_not, List.cons.injEq, not_and]; exact fun q => absurd q c
   rw [e, Bool.false_and]
   refine Ev.step (fun k => by rw [image_holders.l2, if_pos (by omega), if_pos (by omega), if_pos (by omega), if_pos (by omega), rd_nat, rd_nat, if_neg (fun q => c q.symm)]) (Ev.now _)
def restB (G : Gr) : Bool := numsB G.obs.length (-1) G.hands && numsB G.obs.length 1 G.queue && decide (finsFrom 0 G.obs = G.reg) && queueB G.obs (List.replicate (G.obs.length + 1) false) G.queue
theorem rest_l (G : Gr) (bd : G.Bd) : Ev (fun k => (image_numbers.f k G.obs G.slots G.hands G.reg G.queue G.next G.hands (-1)).bind fun t161 => (if t161 = true then ((image_numbers.f k G.obs G.slots G.hands G.reg G.queue G.next G.queue 1).bind fun t162 => (image_holders.j3 k (!t162) G.obs G.slots G.hands G.reg G.queue G.next)) else (image_holders.j3 k true G.obs G.slots G.hands G.reg G.queue G.next))) (restB G) := by
 refine Ev.bind (numbers_ev G G.hands (-1) bd.h) ?_
 unfold restB
 have no : Ev (fun k => image_holders.j3 k true G.obs G.slots G.hands G.reg G.queue G.next) false := Ev.step (fun k => by rw [image_holders.j3, if_pos rfl]) (Ev.now _)
 cases c1 : numsB G.obs.length (-1) G.hands
 ·simpa using no
 ·simp only [if_true, Bool.true_and]
  refine Ev.bind (numbers_ev G G.queue 1 bd.q) ?_
  cases c2 : numsB G.obs.length 1 G.queue
  ·simpa using no
  ·simp only [Bool.true_and, Bool.not_true]
   have hf := fins_len G.obs 0
   refine Ev.step (fun k => by rw [image_holders.j3, if_neg (by simp)]) ?_
   refine Ev.bind (registry_ev G bd.n) ?_
   by_cases c3 : (finsFrom 0 G.obs).length = G.reg.length
   ·have h2 := reg_l G bd.n bd.q c2 (finsFrom 0 G.obs) (by have := bd.n; omega) c3 (finsFrom 0 G.obs).length 0 (by omega)
    refine Ev.congr (fun k => by rw [if_pos (by omega)]) (by simpa using h2)
   ·have e : decide (finsFrom 0 G.obs = G.reg) = false := by simp only [decide_eq_false_iff_not]; intro q; rw [q] at c3; exact c3 rfl
    rw [e, Bool.false_and]
    refine Ev.congr (fun k => by rw [if_neg (by omega)]) (Ev.now _)
theorem rdL2_nat (l : List (List Int)) (i : Nat) : rd_L2 l (i : Int) = l.getD i [] := by unfold rd_L2; simp
theorem rdL5_nat (l : List (List (List Int))) (i : Nat) : rd_L5 l (i : Int) = l.getD i [] := by unfold rd_L5; simp
theorem frames_l (G : Gr) (X : List (List (List Int))) (n : Int) (t : Int) (r : Bool) (fr : List (List Int)) (hfr : fr.length <= 1048576) (hs : sumLen fr <= 1048576) (hall : ∀ f ∈ fr, f.length <= 1048576)
  (rest : Ev (fun k => image_holders.l0 k X n (wrap64 (t + 1)) G.obs G.slots G.hands G.reg G.queue G.next) r) (d : Nat) : ∀ (i s : Nat), i + d = fr.length -> s + sumLen (fr.drop i) <= 2097152 ->
  Ev (fun k => image_holders.l1 k (s : Int) X n t fr (fr.length : Int) (i : Int) G.obs G.slots G.hands G.reg G.queue G.next) (framesB G.obs.length (fr.drop i) && decide (s + sumLen (fr.drop i) <= 4096) && r) := by
 induction d with
 | zero =>
  intro i s hi hs2
  rw [List.drop_of_length_le (by omega)]
  by_cases c : s <= 4096
  ·have e : decide (s + sumLen [] <= 4096) = true := decide_eq_true (by show s + 0 <= 4096; omega)
   rw [e]
   refine Ev.step (fun k => by rw [image_holders.l1, if_neg (by omega), if_neg (by omega)]) (by simpa [framesB] using rest)
  ·have e : decide (s + sumLen [] <= 4096) = false := decide_eq_false (by show ¬ s + 0 <= 4096; omega)
   rw [e]
   refine Ev.step (fun k => by rw [image_holders.l1, if_neg (by omega), if_pos (by omega)]) (by simpa [framesB] using Ev.now false)
 | succ d ih =>
  intro i s hi hs2
  have hm : fr.getD i [] ∈ fr := by rw [List.getD_eq_getElem?_getD, List.getElem?_eq_getElem (by omega)]; exact List.getElem_mem _
  rw [drop_cons [] (by omega)] at hs2 ⊢
  have hf := hall _ hm
  have er := rdL2_nat fr i
  generalize fr.getD i [] = f at *
  have ef : framesB G.obs.length (f :: fr.drop (i + 1)) = (decide (1 <= f.length) && numsB G.obs.length 0 f && framesB G.obs.length (fr.drop (i + 1))) := rfl
  have es : sumLen (f :: fr.drop (i + 1)) = f.length + sumLen (fr.drop (i + 1)) := rfl
  rw [ef, es]
  rw [es] at hs2
  by_cases c : f.length < 1
  ·have e : decide (1 <= f.length) = false := decide_eq_false (by omega)
   rw [e]
   refine Ev.step (fun k => by rw [image_holders.l1, if_pos (by omega), if_pos (by omega), if_pos (by omega), er, if_pos (by omega)]) (by simpa using Ev.now false)
  ·have e : decide (1 <= f.length) = true := decide_eq_true (by omega)
   rw [e]
   refine Ev.step (fun k => by rw [image_holders.l1, if_pos (by omega), if_pos (by omega), if_pos (by omega), er, if_neg (by omega)]) ?_
   refine Ev.bind (numbers_ev G f 0 hf) ?_
   cases c2 : numsB G.obs.length 0 f
   ·simpa using Ev.now false
   ·have h3 := ih (i + 1) (s + f.length) (by omega) (by omega)
    have ew : wrap64 ((s : Int) + (f.length : Int)) = ((s + f.length : Nat) : Int) := by unfold wrap64; omega
    have es2 : s + (f.length + sumLen (fr.drop (i + 1))) = s + f.length + sumLen (fr.drop (i + 1)) := by omega
    rw [es2]
    simp only [if_true, Bool.true_and]
    rw [ew, wrap_up (by omega)]
    exact h3
theorem threads_l (G : Gr) (bd : G.Bd) (hfr : ∀ fr ∈ G.slots, fr.length <= 1048576 /\ sumLen fr <= 1048576 /\ ∀ f ∈ fr, f.length <= 1048576) (d : Nat) : ∀ (i : Nat), i + d = G.slots.length ->
  Ev (fun k => image_holders.l0 k G.slots (G.slots.length : Int) (i : Int) G.obs G.slots G.hands G.reg G.queue G.next) (threadsB G.obs.length (G.slots.drop i) && restB G) := by
 induction d with
 | zero =>
  intro i hi
  rw [List.drop_of_length_le (by omega)]
  refine Ev.step (fun k => by rw [image_holders.l0, if_neg (by omega)]) (by simpa [threadsB] using rest_l G bd)
 | succ d ih =>
  intro i hi
  have hm : G.slots.getD i [] ∈ G.slots := by rw [List.getD_eq_getElem?_getD, List.getElem?_eq_getElem (by omega)]; exact List.getElem_mem _
  rw [drop_cons [] (by omega)]
  have hf := hfr _ hm
  have er := rdL5_nat G.slots i
  generalize G.slots.getD i [] = fr at *
  have ef : threadsB G.obs.length (fr :: G.slots.drop (i + 1)) = (framesB G.obs.length fr && decide (sumLen fr <= 4096) && threadsB G.obs.length (G.slots.drop (i + 1))) := rfl
  rw [ef]
  have h2 := frames_l G G.slots (G.slots.length : Int) (i : Int) _ fr hf.1 hf.2.1 hf.2.2 (by have hmm := bd.m; rw [wrap_up (by omega)]; exact ih (i + 1) (by omega)) fr.length 0 0 (by omega) (by simp; omega)
  simp only [List.drop_zero, Nat.zero_add] at h2
  rw [Bool.and_assoc (framesB G.obs.length fr && decide (sumLen fr <= 4096))]
  refine Ev.step (fun k => by rw [image_holders.l0, if_pos (by omega), if_pos (by omega), if_pos (by omega), er]) (by simpa using h2)
theorem holders_ev (G : Gr) (bd : G.Bd) (hfr : ∀ fr ∈ G.slots, fr.length <= 1048576 /\ sumLen fr <= 1048576 /\ ∀ f ∈ fr, f.length <= 1048576) : Ev (fun k => image_holders.f k G.obs G.slots G.hands G.reg G.queue G.next) (holdersB G) := by
 have h0 := threads_l G bd hfr G.slots.length 0 (by omega)
 have no : Ev (fun k => image_holders.j0 k true G.obs G.slots G.hands G.reg G.queue G.next) false := Ev.step (fun k => by rw [image_holders.j0, if_pos rfl]) (Ev.now _)
 have e0 : holdersB G = (decide (1 <= G.slots.length) && decide (G.slots.length <= 8) && decide (G.hands.length <= 1024) && (threadsB G.obs.length G.slots && restB G)) := by unfold holdersB restB; simp only [Bool.and_assoc]
 rw [e0]
 by_cases c1 : G.slots.length < 1
 ·have e : decide (1 <= G.slots.length) = false := decide_eq_false (by omega)
  rw [e]
  refine Ev.congr (fun k => by rw [image_holders.f, if_pos (by omega)]) (by simpa using no)
 ·have e : decide (1 <= G.slots.length) = true := decide_eq_true (by omega)
  rw [e]
  by_cases c2 : G.slots.length > 8
  ·have e : decide (G.slots.length <= 8) = false := decide_eq_false (by omega)
   rw [e]
   refine Ev.congr (fun k => by rw [image_holders.f, if_neg (by omega), if_pos (by omega)]) (by simpa using no)
  ·have e : decide (G.slots.length <= 8) = true := decide_eq_true (by omega)
   rw [e]
   by_cases c3 : G.hands.length > 1024
   ·have e : decide (G.hands.length <= 1024) = false := decide_eq_false (by omega)
    have e' : decide ((G.hands.length : Int) > 1024) = true := decide_eq_true (by omega)
    rw [e]
    refine Ev.congr (fun k => by rw [image_holders.f, if_neg (by omega), if_neg (by omega), e']) (by simpa using no)
   ·have e : decide (G.hands.length <= 1024) = true := decide_eq_true (by omega)
    have e' : decide ((G.hands.length : Int) > 1024) = false := decide_eq_false (by omega)
    rw [e]
    refine Ev.congr (fun k => by rw [image_holders.f, if_neg (by omega), if_neg (by omega), e']) ?_
    refine Ev.step (fun k => by rw [image_holders.j0, if_neg (by simp)]) (by simpa using h0)
theorem holders_any (g : Gv) (G : Gr) (w : World) (h : GAt w g G) (bd : G.Bd) (hfr : ∀ fr ∈ G.slots, fr.length <= 1048576 /\ sumLen fr <= 1048576 /\ ∀ f ∈ fr, f.length <= 1048576) :
  Calls Tryd.prog 78 #[gval g G] w fun e w' => e = .returned (.bool (holdersB G)) /\ Below w.heap.size w w' := by
 obtain ⟨k, hk⟩ := (holders_ev G bd hfr).rounds
 exact image_holders.calls k g.A0 g.c0 G.obs g.A1 g.c1 G.slots g.A2 g.c2 G.hands g.A3 g.c3 G.reg g.A4 g.c4 G.queue G.next _ w h.r0 h.l0 h.r1 h.l1 h.r2 h.l2 h.r3 h.l3 h.r4 h.l4 hk
end
section
theorem between_ev (n : Nat) (l : List Int) (a : Int) (hl : l.length <= 1048576) : Ev (fun k => middenref16_between.f k l a (n : Int)) (numsB n a l) := by
 have key : ∀ (d i : Nat), i + d = l.length -> Ev (fun k => middenref16_between.l0 k l a (n : Int) (i : Int)) (numsB n a (l.drop i)) := by
  intro d
  induction d with
  | zero =>
   intro i hi
   rw [List.drop_of_length_le (by omega), show numsB n a [] = true from rfl]
   exact Ev.step (fun k => by rw [middenref16_between.l0, if_neg (by omega)]) (Ev.now _)
  | succ d ih =>
   intro i hi
   rw [drop_cons 0 (by omega), numsB_cons]
   have er := rd_nat l i
   generalize l.getD i 0 = x at *
   by_cases c : x < a
   ·have e : decide (a <= x) = false := decide_eq_false (by omega)
    rw [e]
    exact Ev.step (fun k => by rw [middenref16_between.l0, if_pos (by omega), if_pos (by omega), er, if_pos c]) (by simpa using Ev.now false)
   ·have e : decide (a <= x) = true := decide_eq_true (by omega)
    rw [e]
    by_cases c2 : x > (n : Int)
    ·have e : decide (x <= (n : Int)) = false := decide_eq_false (by omega)
     rw [e]
     exact Ev.step (fun k => by rw [middenref16_between.l0, if_pos (by omega), if_pos (by omega), er, if_neg c, if_pos c2]) (by simpa using Ev.now false)
    ·have e : decide (x <= (n : Int)) = true := decide_eq_true (by omega)
     rw [e]
     have h2 := ih (i + 1) (by omega)
     exact Ev.step (fun k => by rw [middenref16_between.l0, if_pos (by omega), if_pos (by omega), er, if_neg c, if_neg c2, wrap_up (by omega)]) (by simpa using h2)
 have := key l.length 0 (by omega)
 simpa [middenref16_between.f] using this
theorem rcheck_ev (h : Hd) : Ev (fun k => middenref2_Check.f k h.ser h.kind h.ptrs h.raws h.age h.site h.held) (chk h) := by
 obtain ⟨ser, kind, ptrs, raws, age, site, held⟩ := h
 refine ⟨5, fun k hk => ?_⟩
 obtain ⟨k, rfl⟩ : ∃ m, k = m + 5 := ⟨k - 5, by omega⟩
 unfold chk
 simp only [middenref2_Check.f, middenref2_Check.j0, middenref2_Check.j1, middenref2_Check.j2, middenref2_Check.j3]
 by_cases k0 : kind < 1
 ·simp [k0]
 by_cases k4 : kind > 4
 ·simp [k0, k4]
 have hk : kind = 1 \/ kind = 4 \/ kind = 2 \/ kind = 3 := by omega
 clear k0 k4
 rcases hk with rfl | rfl | rfl | rfl
 all_goals
  simp
  repeat' split
  all_goals first | rfl | omega | (simp_all; try omega)
def obHd (o : Ob) : Hd := ⟨0, o.f1, o.f3.length, o.f4.length, 0, o.f2, false⟩
theorem rpack_ev (o : Ob) : ∃ p, Ev (fun k => middenref2_Pack.f k 0 o.f1 (o.f3.length : Int) (o.f4.length : Int) 0 o.f2 false) (p, chk (obHd o)) := by
 have h := rcheck_ev (obHd o)
 unfold obHd at h
 simp only at h
 by_cases c : chk (obHd o) = 0
 ·have c' := c
  unfold obHd at c'
  apply Exists.intro
  refine Ev.congr (fun k => by rw [middenref2_Pack.f]) (Ev.bind h ?_)
  rw [if_pos c', if_neg (by simp), c]
  exact Ev.now _
 ·have c' := c
  unfold obHd at c'
  apply Exists.intro
  refine Ev.congr (fun k => by rw [middenref2_Pack.f]) (Ev.bind h ?_)
  rw [if_neg c']
  exact Ev.now _
def objsFrom (G : Gr) : Int -> List Ob -> Bool
 | _, [] => true
 | last, o :: l => decide (last < o.f0) && decide (o.f0 < G.next) && decide (chk (obHd o) = 0) && numsB G.obs.length 0 o.f3 && objsFrom G o.f0 l
def objsB (G : Gr) : Bool := decide (1 <= G.next) && decide (G.next <= 4611686018427387905) && objsFrom G 0 G.obs
theorem robjs_l (G : Gr) (bd : G.Bd) (d : Nat) : ∀ (i : Nat) (last : Int), i + d = G.obs.length -> Ev (fun k => middenref16_objects.l0 k last (i : Int) G.obs G.slots G.hands G.reg G.queue G.next) (objsFrom G last (G.obs.drop i)) := by
 have hn := bd.n
 induction d with
 | zero =>
  intro i last hi
  rw [List.drop_of_length_le (by omega), show objsFrom G last [] = true from rfl]
  exact Ev.step (fun k => by rw [middenref16_objects.l0, if_neg (by omega)]) (Ev.now _)
 | succ d ih =>
  intro i last hi
  have hm : G.obs.getD i default ∈ G.obs := by rw [List.getD_eq_getElem?_getD, List.getElem?_eq_getElem (by omega)]; exact List.getElem_mem _
  rw [drop_cons default (by omega)]
  have er := rdT_nat G.obs i
  have hz := (bd.i64 _ hm).1
  generalize G.obs.getD i default = o at *
  have eo : objsFrom G last (o :: G.obs.drop (i + 1)) = (decide (last < o.f0) && decide (o.f0 < G.next) && decide (chk (obHd o) = 0) && numsB G.obs.length 0 o.f3 && objsFrom G o.f0 (G.obs.drop (i + 1))) := rfl
  rw [eo]
  obtain ⟨p, hp⟩ := rpack_ev o
  refine Ev.step (fun k => by rw [middenref16_objects.l0, if_pos (by omega), if_pos (by omega), er]) (Ev.bind hp ?_)
  by_cases c : o.f0 <= last
  ·rw [show decide (last < o.f0) = false from decide_eq_false (by omega)]
   exact Ev.congr (fun k => by rw [if_pos c]) (by simpa using Ev.now false)
  ·rw [show decide (last < o.f0) = true from decide_eq_true (by omega)]
   refine Ev.congr (fun k => by rw [if_neg c]) ?_
   by_cases c2 : o.f0 ≥ G.next
   ·rw [show decide (o.f0 < G.next) = false from decide_eq_false (by omega)]
    exact Ev.congr (fun k => by rw [if_pos c2]) (by simpa using Ev.now false)
   ·rw [show decide (o.f0 < G.next) = true from decide_eq_true (by omega)]
    refine Ev.congr (fun k => by rw [if_neg c2]) ?_
    by_cases c3 : chk (obHd o) = 0
    ·rw [show decide (chk (obHd o) = 0) = true from decide_eq_true c3]
     refine Ev.congr (fun k => by rw [if_pos c3]) ?_
     refine Ev.bind (between_ev G.obs.length o.f3 0 hz) ?_
     cases c4 : numsB G.obs.length 0 o.f3
     ·simpa using Ev.now false
     ·have h2 := ih (i + 1) o.f0 (by omega)
      refine Ev.congr (fun k => by rw [if_pos rfl, wrap_up (by omega)]) ?_
      simpa using h2
    ·rw [show decide (chk (obHd o) = 0) = false from decide_eq_false c3]
     exact Ev.congr (fun k => by rw [if_neg c3]) (by simpa using Ev.now false)
theorem robjs_ev (G : Gr) (bd : G.Bd) : Ev (fun k => middenref16_objects.f k G.obs G.slots G.hands G.reg G.queue G.next) (objsB G) := by
 have no : Ev (fun k => middenref16_objects.j0 k true G.obs G.slots G.hands G.reg G.queue G.next) false := Ev.step (fun k => by rw [middenref16_objects.j0, if_pos rfl]) (Ev.now _)
 have h0 := robjs_l G bd G.obs.length 0 0 (by omega)
 unfold objsB
 by_cases c : G.next < 1
 ·rw [show decide (1 <= G.next) = false from decide_eq_false (by omega)]
  exact Ev.congr (fun k => by rw [middenref16_objects.f, if_pos c]) (by simpa using no)
 ·rw [show decide (1 <= G.next) = true from decide_eq_true (by omega)]
  by_cases c2 : G.next > 4611686018427387905
  ·rw [show decide (G.next <= 4611686018427387905) = false from decide_eq_false (by omega)]
   exact Ev.congr (fun k => by rw [middenref16_objects.f, if_neg c, decide_eq_true c2]) (by simpa using no)
  ·rw [show decide (G.next <= 4611686018427387905) = true from decide_eq_true (by omega)]
   refine Ev.congr (fun k => by rw [middenref16_objects.f, if_neg c, decide_eq_false c2]) ?_
   exact Ev.step (fun k => by rw [middenref16_objects.j0, if_neg (by simp)]) (by simpa using h0)
theorem robjects_any (g : Gv) (G : Gr) (w : World) (h : GAt w g G) (bd : G.Bd) :
  Calls Tryd.prog 82 #[gval g G] w fun e w' => e = .returned (.bool (objsB G)) /\ Below w.heap.size w w' := by
 obtain ⟨k, hk⟩ := (robjs_ev G bd).rounds
 exact middenref16_objects.calls k g.A0 g.c0 G.obs g.A1 g.c1 G.slots g.A2 g.c2 G.hands g.A3 g.c3 G.reg g.A4 g.c4 G.queue G.next _ w h.r0 h.l0 h.r1 h.l1 h.r2 h.l2 h.r3 h.l3 h.r4 h.l4 hk
theorem finals_ev (G : Gr) (bd : G.Bd) : Ev (fun k => middenref16_finals.f k G.obs G.slots G.hands G.reg G.queue G.next) (finsFrom 0 G.obs) := by
 have hn := bd.n
 have key : ∀ (d i : Nat) (pre : List Int), i + d = G.obs.length -> pre.length <= i -> Ev (fun k => middenref16_finals.l0 k pre (i : Int) G.obs G.slots G.hands G.reg G.queue G.next) (pre ++ finsFrom i (G.obs.drop i)) := by
  intro d
  induction d with
  | zero =>
   intro i pre hi hp
   rw [List.drop_of_length_le (by omega), show finsFrom i [] = [] from rfl, List.append_nil]
   exact Ev.step (fun k => by rw [middenref16_finals.l0, if_neg (by omega)]) (Ev.now _)
  | succ d ih =>
   intro i pre hi hp
   rw [drop_cons default (by omega)]
   have er := rdT_nat G.obs i
   generalize G.obs.getD i default = o at *
   unfold finsFrom
   by_cases c : o.f1 = 4
   ·rw [if_pos c]
    have h2 := ih (i + 1) (pre ++ [((i + 1 : Nat) : Int)]) (by omega) (by simp; omega)
    exact Ev.step (fun k => by rw [middenref16_finals.l0, if_pos (by omega), if_pos (by omega), er, if_pos c, if_pos (by omega), wrap_up (by omega)]) (by simpa using h2)
   ·rw [if_neg c]
    have h2 := ih (i + 1) pre (by omega) (by omega)
    exact Ev.step (fun k => by rw [middenref16_finals.l0, if_pos (by omega), if_pos (by omega), er, if_neg c, wrap_up (by omega)]) h2
 have := key G.obs.length 0 [] (by omega) (by simp)
 simpa [middenref16_finals.f] using this
def listsB (G : Gr) : Bool := decide (finsFrom 0 G.obs = G.reg) && numsB G.obs.length 1 G.queue && queueB G.obs (List.replicate (G.obs.length + 1) false) G.queue
theorem rqueue_l (G : Gr) (bd : G.Bd) (d : Nat) : ∀ (i : Nat) (s : List Bool), i + d = G.queue.length -> s.length = G.obs.length + 1 -> numsB G.obs.length 1 (G.queue.drop i) = true ->
  Ev (fun k => middenref16_lists.l1 k s (i : Int) G.obs G.slots G.hands G.reg G.queue G.next) (queueB G.obs s (G.queue.drop i)) := by
 have hn := bd.n; have hq := bd.q
 induction d with
 | zero =>
  intro i s hi hs _
  rw [List.drop_of_length_le (by omega), show queueB G.obs s [] = true from rfl]
  exact Ev.step (fun k => by rw [middenref16_lists.l1, if_neg (by omega)]) (Ev.now _)
 | succ d ih =>
  intro i s hi hs hb
  rw [drop_cons 0 (by omega)] at hb ⊢
  rw [numsB_cons] at hb
  have hx : G.queue.getD i 0 = rd G.queue (i : Int) := (rd_nat _ _).symm
  rw [hx] at hb ⊢
  generalize hg : rd G.queue (i : Int) = x at *
  simp only [Bool.and_eq_true, decide_eq_true_eq] at hb
  obtain ⟨⟨b1, b2⟩, b3⟩ := hb
  unfold queueB
  have e1 : rdOf false s x = s.getD x.toNat false := by unfold rdOf; rfl
  have e2 : wrap64 (x - 1) = x - 1 := by unfold wrap64; omega
  have e3 : rd_T59 G.obs (x - 1) = G.obs.getD (x - 1).toNat default := by unfold rd_T59; rfl
  by_cases c : s.getD x.toNat false = true
  ·rw [if_pos c]
   exact Ev.step (fun k => by rw [middenref16_lists.l1, if_pos (by omega), if_pos (by omega), hg, if_pos (by omega), if_pos (by omega), e1, if_pos c]) (Ev.now _)
  ·rw [if_neg c]
   by_cases c2 : (G.obs.getD (x - 1).toNat default).f1 = 4
   ·rw [if_pos c2]
    exact Ev.step (fun k => by rw [middenref16_lists.l1, if_pos (by omega), if_pos (by omega), hg, if_pos (by omega), if_pos (by omega), e1, if_neg c, e2, if_pos (by omega), if_pos (by omega), e3, if_pos c2]) (Ev.now _)
   ·rw [if_neg c2]
    exact Ev.step (fun k => by rw [middenref16_lists.l1, if_pos (by omega), if_pos (by omega), hg, if_pos (by omega), if_pos (by omega), e1, if_neg c, e2, if_pos (by omega), if_pos (by omega), e3, if_neg c2, wrap_up (by omega)]) (ih (i + 1) _ (by omega) (by simp [hs]) b3)
theorem rreg_l (G : Gr) (bd : G.Bd) (hb : numsB G.obs.length 1 G.queue = true) (F : List Int) (hF : F.length <= 1048576) (hl : F.length = G.reg.length) (d : Nat) : ∀ (i : Nat), i + d = F.length ->
  Ev (fun k => middenref16_lists.l0 k F (i : Int) G.obs G.slots G.hands G.reg G.queue G.next) (decide (F.drop i = G.reg.drop i) && queueB G.obs (List.replicate (G.obs.length + 1) false) G.queue) := by
 have hn := bd.n
 induction d with
 | zero =>
  intro i hi
  rw [List.drop_of_length_le (by omega), List.drop_of_length_le (by omega)]
  have h1 := rqueue_l G bd G.queue.length 0 (List.replicate (G.obs.length + 1) false) (by omega) (by simp) (by simpa using hb)
  have e : wrap64 ((G.obs.length : Int) + 1) = ((G.obs.length + 1 : Nat) : Int) := wrap_up (by omega)
  simp only [decide_true, Bool.true_and]
  exact Ev.step (fun k => by rw [middenref16_lists.l0, if_neg (by omega), e, if_pos (by omega), if_pos (by simp; omega), Int.toNat_natCast]) (by simpa using h1)
 | succ d ih =>
  intro i hi
  have e1 := drop_cons (l := F) (i := i) 0 (by omega)
  have e2 := drop_cons (l := G.reg) (i := i) 0 (by omega)
  rw [e1, e2]
  by_cases c : F.getD i 0 = G.reg.getD i 0
  ·rw [c]
   have h2 := ih (i + 1) (by omega)
   have e : (decide (G.reg.getD i 0 :: F.drop (i + 1) = G.reg.getD i 0 :: G.reg.drop (i + 1))) = decide (F.drop (i + 1) = G.reg.drop (i + 1)) := by simp
   rw [e]
   exact Ev.step (fun k => by rw [middenref16_lists.l0, if_pos (by omega), if_pos (by omega), if_pos (by omega), rd_nat, rd_nat, if_pos c, wrap_up (by omega)]) h2
  ·have e : (decide (F.getD i 0 :: F.drop (i + 1) = G.reg.getD i 0 :: G.reg.drop (i + 1))) = false := by simp only [decide_eq_false_iff_not, List.cons.injEq, not_and]; exact fun q => absurd q c
   rw [e, Bool.false_and]
   exact Ev.step (fun k => by rw [middenref16_lists.l0, if_pos (by omega), if_pos (by omega), if_pos (by omega), rd_nat, rd_nat, if_neg c]) (Ev.now _)
theorem rlists_ev (G : Gr) (bd : G.Bd) : Ev (fun k => middenref16_lists.f k G.obs G.slots G.hands G.reg G.queue G.next) (listsB G) := by
 have no : ∀ F, Ev (fun k => middenref16_lists.j0 k F true G.obs G.slots G.hands G.reg G.queue G.next) false := fun F => Ev.step (fun k => by rw [middenref16_lists.j0, if_pos rfl]) (Ev.now _)
 have hf := fins_len G.obs 0
 have hn := bd.n
 unfold listsB
 refine Ev.congr (fun k => by rw [middenref16_lists.f]) (Ev.bind (finals_ev G bd) ?_)
 by_cases c : (finsFrom 0 G.obs).length = G.reg.length
 ·refine Ev.congr (fun k => by rw [if_pos (by omega)]) (Ev.bind (between_ev G.obs.length G.queue 1 bd.q) ?_)
  cases c2 : numsB G.obs.length 1 G.queue
  ·simpa using no _
  ·have h2 := rreg_l G bd c2 (finsFrom 0 G.obs) (by omega) c (finsFrom 0 G.obs).length 0 (by omega)
   refine Ev.step (fun k => by rw [middenref16_lists.j0, if_neg (by simp)]) ?_
   simpa using h2
 ·have e : decide (finsFrom 0 G.obs = G.reg) = false := decide_eq_false (fun q => c (by rw [q]))
  rw [e]
  exact Ev.congr (fun k => by rw [if_neg (by omega)]) (by simpa using no _)
theorem rlists_any (g : Gv) (G : Gr) (w : World) (h : GAt w g G) (bd : G.Bd) :
  Calls Tryd.prog 84 #[gval g G] w fun e w' => e = .returned (.bool (listsB G)) /\ Below w.heap.size w w' := by
 obtain ⟨k, hk⟩ := (rlists_ev G bd).rounds
 exact middenref16_lists.calls k g.A0 g.c0 G.obs g.A1 g.c1 G.slots g.A2 g.c2 G.hands g.A3 g.c3 G.reg g.A4 g.c4 G.queue G.next _ w h.r0 h.l0 h.r1 h.l1 h.r2 h.l2 h.r3 h.l3 h.r4 h.l4 hk
end
section
def firstP (k : Int) : Nat := if k = 2 then 1 else if k = 3 then 2 else 0
def waysP (o : Ob) : List Int := (o.f3.drop (firstP o.f1)).filter fun x => decide (0 < x)
theorem strong_ev (o : Ob) (hl : o.f3.length <= 1048576) : Ev (fun k => middenref17_strong.f k o.f0 o.f1 o.f2 o.f3 o.f4) (waysP o) := by
 have key : ∀ (d i : Nat) (pre : List Int), (i + d = o.f3.length \/ (d = 0 /\ o.f3.length <= i /\ i <= 1048578)) -> pre.length <= i -> Ev (fun k => middenref17_strong.l0 k pre (i : Int) o.f0 o.f1 o.f2 o.f3 o.f4) (pre ++ (o.f3.drop i).filter fun x => decide (0 < x)) := by
  intro d
  induction d with
  | zero =>
   intro i pre hi hp
   rw [List.drop_of_length_le (by omega), List.filter_nil, List.append_nil]
   exact Ev.step (fun k => by rw [middenref17_strong.l0, if_neg (by omega)]) (Ev.now _)
  | succ d ih =>
   intro i pre hi hp
   rw [drop_cons 0 (by omega)]
   have er := rd_nat o.f3 i
   generalize o.f3.getD i 0 = x at *
   by_cases c : x > 0
   ·rw [List.filter_cons_of_pos (by simpa using c)]
    have h2 := ih (i + 1) (pre ++ [x]) (by omega) (by simp; omega)
    rw [List.append_assoc] at h2
    exact Ev.step (fun k => by rw [middenref17_strong.l0, if_pos (by omega), if_pos (by omega), er, if_pos c, if_pos (by omega), wrap_up (by omega)]) h2
   ·rw [List.filter_cons_of_neg (by simpa using c)]
    have h2 := ih (i + 1) pre (by omega) (by omega)
    exact Ev.step (fun k => by rw [middenref17_strong.l0, if_pos (by omega), if_pos (by omega), er, if_neg c, wrap_up (by omega)]) h2
 have h0 : ∀ i : Nat, i <= 2 -> Ev (fun k => middenref17_strong.j1 k (i : Int) o.f0 o.f1 o.f2 o.f3 o.f4) ((o.f3.drop i).filter fun x => decide (0 < x)) := fun i hi => by
  refine Ev.step (fun k => by rw [middenref17_strong.j1]) ?_
  have := key (o.f3.length - i) i [] (by omega) (by simp)
  simpa using this
 unfold waysP firstP
 by_cases c2 : o.f1 = 2
 ·rw [if_pos c2]
  refine Ev.congr (fun k => by rw [middenref17_strong.f, if_pos c2]) ?_
  exact Ev.step (fun k => by rw [middenref17_strong.j0, if_neg (by omega)]; rfl) (h0 1 (by omega))
 ·rw [if_neg c2]
  refine Ev.congr (fun k => by rw [middenref17_strong.f, if_neg c2]) ?_
  by_cases c3 : o.f1 = 3
  ·rw [if_pos c3]
   exact Ev.step (fun k => by rw [middenref17_strong.j0, if_pos c3]; rfl) (h0 2 (by omega))
  ·rw [if_neg c3]
   exact Ev.step (fun k => by rw [middenref17_strong.j0, if_neg c3]; rfl) (h0 0 (by omega))
theorem rstrong_any (o : Ob) (A3 A4 : Option Addr) (c3 c4 : Nat) (w : World) (hr3 : Kd.C (Kd.int .i64) w A3 o.f3.length o.f3) (hc3 : o.f3.length <= c3) (hr4 : Kd.C (Kd.int .u64) w A4 o.f4.length o.f4) (hc4 : o.f4.length <= c4) (hl : o.f3.length <= 1048576) :
  Calls Tryd.prog 44 #[.agg #[.int .u64 o.f0, .int .i64 o.f1, .int .i64 o.f2, .slice A3 o.f3.length c3, .slice A4 o.f4.length c4]] w fun e w' => ∃ v, e = .returned v /\ Kd.R (Kd.int .i64) 3 w' w.heap.size (fun _ => True) v (waysP o) /\ Below w.heap.size w w' := by
 obtain ⟨k, hk⟩ := (strong_ev o hl).rounds
 exact middenref17_strong.calls k o.f0 o.f1 o.f2 A3 c3 o.f3 A4 c4 o.f4 _ w hr3 hc3 hr4 hc4 hk
def slotsP (l : List (List (List Int))) : List Int := (l.map List.flatten).flatten
def holdP (G : Gr) : List Int := slotsP G.slots ++ G.hands ++ G.queue
def rootsP (G : Gr) (x : Int) : List Int := (holdP G).filter fun n => decide (0 < n) && !(decide (n = x))
theorem flat_cons (f : List Int) (l : List (List Int)) : (f :: l).flatten = f ++ l.flatten := rfl
theorem roots_ev (G : Gr) (x : Int) (hl : (holdP G).length <= 1048576) (hm : G.slots.length <= 1048576) (hfr : ∀ fr ∈ G.slots, fr.length <= 1048576) : Ev (fun k => middenref17_roots.f k G.obs G.slots G.hands G.reg G.queue G.next x) (rootsP G x) := by
 have k2 : ∀ (l : List Int), l.length <= 1048576 -> ∀ (d i : Nat) (pre : List Int), i + d = l.length -> pre.length <= i -> Ev (fun k => middenref17_roots.l2 k x l pre (i : Int)) (pre ++ (l.drop i).filter fun n => decide (0 < n) && !(decide (n = x))) := by
  intro l hl d
  induction d with
  | zero =>
   intro i pre hi hp
   rw [List.drop_of_length_le (by omega), List.filter_nil, List.append_nil]
   exact Ev.step (fun k => by rw [middenref17_roots.l2, if_neg (by omega)]) (Ev.now _)
  | succ d ih =>
   intro i pre hi hp
   rw [drop_cons 0 (by omega)]
   have er := rd_nat l i
   generalize l.getD i 0 = y at *
   by_cases c : y > 0
   ·by_cases c2 : y = x
    ·rw [List.filter_cons_of_neg (by simp [c2])]
     have h2 := ih (i + 1) pre (by omega) (by omega)
     exact Ev.step (fun k => by rw [middenref17_roots.l2, if_pos (by omega), if_pos (by omega), er, if_pos c, if_pos c2, wrap_up (by omega)]) h2
    ·rw [List.filter_cons_of_pos (by simpa [c2] using c)]
     have h2 := ih (i + 1) (pre ++ [y]) (by omega) (by simp; omega)
     rw [List.append_assoc] at h2
     exact Ev.step (fun k => by rw [middenref17_roots.l2, if_pos (by omega), if_pos (by omega), er, if_pos c, if_neg c2, if_pos (by omega), wrap_up (by omega)]) h2
   ·rw [List.filter_cons_of_neg (by simp; omega)]
    have h2 := ih (i + 1) pre (by omega) (by omega)
    exact Ev.step (fun k => by rw [middenref17_roots.l2, if_pos (by omega), if_pos (by omega), er, if_neg c, wrap_up (by omega)]) h2
 have k1 : ∀ (pre : List Int) (t : Nat) (r : List Int), t < G.slots.length -> (pre ++ (G.slots.getD t []).flatten).length <= 1048576 ->
   Ev (fun k => middenref17_roots.l0 k x (pre ++ (G.slots.getD t []).flatten) ((t + 1 : Nat) : Int) G.obs G.slots G.hands G.reg G.queue G.next) r ->
   ∀ (d i : Nat) (mid : List Int), i + d = (G.slots.getD t []).length -> mid ++ ((G.slots.getD t []).drop i).flatten = pre ++ (G.slots.getD t []).flatten -> Ev (fun k => middenref17_roots.l1 k x mid (t : Int) (i : Int) G.obs G.slots G.hands G.reg G.queue G.next) r := by
  intro pre t r ht hpl rest d
  have hfl : (G.slots.getD t []).length <= 1048576 := hfr _ (by rw [List.getD_eq_getElem?_getD, List.getElem?_eq_getElem ht]; exact List.getElem_mem _)
  have e5 := rdL5_nat G.slots t
  generalize G.slots.getD t [] = fr at *
  induction d with
  | zero =>
   intro i mid hi hmid
   rw [List.drop_of_length_le (by omega), List.flatten_nil, List.append_nil] at hmid
   subst hmid
   exact Ev.step (fun k => by rw [middenref17_roots.l1, if_pos (by omega), if_pos (by omega), e5, if_neg (by omega), wrap_up (by omega)]) rest
  | succ d ih =>
   intro i mid hi hmid
   rw [drop_cons [] (by omega), flat_cons] at hmid
   have e2 := rdL2_nat fr i
   generalize fr.getD i [] = f at *
   have hlen : (mid ++ (f ++ (List.drop (i + 1) fr).flatten)).length <= 1048576 := by rw [hmid]; exact hpl
   simp only [List.length_append] at hlen
   have h2 := ih (i + 1) (mid ++ f) (by omega) (by rw [List.append_assoc]; exact hmid)
   exact Ev.step (fun k => by rw [middenref17_roots.l1, if_pos (by omega), if_pos (by omega), e5, if_pos (by omega), if_pos (by omega), e2, if_pos (by omega), wrap_up (by omega)]) h2
 have k0 : ∀ (d t : Nat) (pre : List Int), t + d = G.slots.length -> pre ++ slotsP (G.slots.drop t) = slotsP G.slots -> Ev (fun k => middenref17_roots.l0 k x pre (t : Int) G.obs G.slots G.hands G.reg G.queue G.next) (rootsP G x) := by
  intro d
  unfold holdP at hl
  simp only [List.length_append] at hl
  induction d with
  | zero =>
   intro t pre ht hp
   rw [List.drop_of_length_le (by omega)] at hp
   simp only [slotsP, List.map_nil, List.flatten_nil, List.append_nil] at hp
   have hp' : pre = slotsP G.slots := hp
   subst hp'
   have h2 := k2 (slotsP G.slots ++ G.hands ++ G.queue) (by simp only [List.length_append]; omega) (slotsP G.slots ++ G.hands ++ G.queue).length 0 [] (by omega) (by simp)
   refine Ev.step (fun k => by rw [middenref17_roots.l0, if_neg (by omega), if_pos (by omega), Option.bind_some, if_pos (by simp only [List.length_append]; omega)]) ?_
   simpa [rootsP, holdP] using h2
  | succ d ih =>
   intro t pre ht hp
   have hd := drop_cons (l := G.slots) (i := t) [] (by omega)
   have es : slotsP (G.slots.drop t) = (G.slots.getD t []).flatten ++ slotsP (G.slots.drop (t + 1)) := by rw [hd]; rfl
   rw [es, <- List.append_assoc] at hp
   have hlen : (pre ++ (G.slots.getD t []).flatten).length <= 1048576 := by
    have := congrArg List.length hp
    rw [List.length_append] at this
    omega
   have h2 := ih (t + 1) _ (by omega) hp
   have h3 := k1 pre t _ (by omega) hlen h2 (G.slots.getD t []).length 0 pre (by omega) (by simp)
   exact Ev.step (fun k => by rw [middenref17_roots.l0, if_pos (by omega)]) (by simpa using h3)
 have := k0 G.slots.length 0 [] (by omega) (by simp)
 simpa [middenref17_roots.f] using this
theorem rroots_any (g : Gv) (G : Gr) (x : Int) (w : World) (h : GAt w g G) (hl : (holdP G).length <= 1048576) (hm : G.slots.length <= 1048576) (hfr : ∀ fr ∈ G.slots, fr.length <= 1048576) :
  Calls Tryd.prog 45 #[gval g G, .int .i64 x] w fun e w' => ∃ v, e = .returned v /\ Kd.R (Kd.int .i64) 3 w' w.heap.size (fun _ => True) v (rootsP G x) /\ Below w.heap.size w w' := by
 obtain ⟨k, hk⟩ := (roots_ev G x hl hm hfr).rounds
 exact middenref17_roots.calls k g.A0 g.c0 G.obs g.A1 g.c1 G.slots g.A2 g.c2 G.hands g.A3 g.c3 G.reg g.A4 g.c4 G.queue G.next x _ w h.r0 h.l0 h.r1 h.l1 h.r2 h.l2 h.r3 h.l3 h.r4 h.l4 hk
end
end Go.Proofs.YtogpgkoelplknaaDoor
end
section
namespace Go.Proofs.YtogpgkoelplknaaDoor
open Go.RowKit Go.BigFrame PLensPaths Go.Proofs.YtogpgkoelplknaaDoorW.PrintWords Go.Proofs.YtogpgkoelplknaaDoorW.PrintMore
section
attribute [local go_sem] max2_int min2_int max_two min_two
set_option linter.unusedVariables false
theorem infoI : (Tryd.prog.info? 3).map (fun i => (i.zero, i.size, i.bytes)) = some (some (.int .i64 0), 1, 8) := by kernel_rfl
theorem blk_at {w : World} {g : Nat} {cs : Array Value} {t : TypeId} (h : w.heap[g]? = some (.cells cs t (0, 0))) : (∀ o, w.cell? ⟨g, o, none⟩ = cs[o]?) /\ (∀ o, w.frozen? ⟨g, o, none⟩ = false) := hcell h
abbrev All : Nat -> Prop := fun _ => True
abbrev RI (w : World) (base : Nat) (v : Value) (l : List Int) : Prop := Kd.R (Kd.int .i64) 3 w base All v l
section
variable {ops : Array Oper} {rest : List Oper} {o : Oper} {a : Act} {Q : Exit -> Act -> World -> Prop}
theorem app_int {w0 W : World} (base : Nat) (hgd : o.guard = none) (s x : Operand) (ho : o.op = .call { callee := .builtin .append, args := #[s, x], argTypes := #[24, 24] })
  (v : Value) (xs : List Int) (p : Int) (hs : a.eval s = v) (hx : a.eval x = .slice (some ⟨W.heap.size, 0, none⟩) 1 1) (HO : RI W base v xs) (HB : Below base w0 W) (hbase : base <= W.heap.size) (hl : xs.length <= 1099511627776)
  (h : ∀ v1 w1, RI w1 base v1 (xs ++ [p]) -> Below base w0 w1 -> W.grownBy w1 v.ownBlock -> (v1.ownBlock = v.ownBlock \/ ∃ b, v1.ownBlock = some b /\ W.heap.size <= b) -> wpList Tryd.prog ops Q rest (a.put o.dst v1) w1) :
  wpList Tryd.prog ops Q (o :: rest) a (W.alloc (.cells #[.int .i64 p] 3)) :=
 Kd.R_append (Kd.int .i64) base hgd s x 24 3 (.int .i64 0) 8 ho Tryd.underlying24 infoI rfl (by decide) (by omega) v xs p [.int .i64 p] All (fun _ => False) hs hx rfl (fun _ hk => hk.elim) (fun _ _ => trivial) HO HB hbase (by omega) h
end
theorem RI_nil (w : World) (b : Nat) : RI w b (.slice none 0 0) [] := Kd.R_nil _ _ _ _ _
theorem firstP_le (k : Int) : firstP k <= 2 := by
 unfold firstP
 split
 ·omega
 ·split <;> omega
theorem take_snocD (l : List Int) (i : Nat) (h : i < l.length) : l.take (i + 1) = l.take i ++ [l.getD i 0] := by
 rw [List.take_succ_eq_append_getElem h, List.getD_eq_getElem?_getD, List.getElem?_eq_getElem h]; rfl
theorem drop_min {l : List Int} {m : Nat} : l.drop (min m l.length) = l.drop m := by
 rcases Nat.le_total m l.length with h | h
 ·rw [Nat.min_eq_left h]
 ·rw [Nat.min_eq_right h, List.drop_of_length_le (Nat.le_refl _), List.drop_of_length_le h]
set_option maxRecDepth 100000 in
set_option maxHeartbeats 4000000 in
theorem ways_any (o : Ob) (A3 A4 : Option Addr) (c3 c4 : Nat) (w : World) (hr3 : Kd.C (Kd.int .i64) w A3 o.f3.length o.f3) (hc3 : o.f3.length <= c3) (hl : o.f3.length <= 1048576) :
  Calls Tryd.prog 42 #[.agg #[.int .u64 o.f0, .int .i64 o.f1, .int .i64 o.f2, .slice A3 o.f3.length c3, .slice A4 o.f4.length c4]] w fun e w' => ∃ v, e = .returned v /\ RI w' w.heap.size v (waysP o) /\ Below w.heap.size w w' := by
 obtain ⟨i0, hi0, hz0, hs0, hy0⟩ := info_parts infoI
 obtain ⟨f0, f1, f2, ps, rs⟩ := o
 simp only at *
 have hW : waysP ⟨f0, f1, f2, ps, rs⟩ = (ps.drop (min (firstP f1) ps.length)).filter fun x => decide (0 < x) := by unfold waysP; rw [drop_min]
 rw [hW]; clear hW
 have m2 : firstP f1 <= 2 := firstP_le f1
 have hj : min (firstP f1) ps.length <= ps.length := Nat.min_le_right _ _
 obtain ⟨A', hcut0, hA', hC'⟩ := print_cut_int (P := Tryd.prog) (k := .i64) 24 3 Tryd.underlying24 hi0 hs0 A3 c3 ps ((min (firstP f1) ps.length : Nat) : Int) (by omega) (by omega) hc3
 have hrC : Kd.C (Kd.int .i64) w A' (ps.drop (min (firstP f1) ps.length)).length (ps.drop (min (firstP f1) ps.length)) := by
  have := hA' w (Kd.reads_of_C (d := 0) hr3)
  rw [Int.toNat_natCast] at this
  exact Kd.C_of_reads this
 simp only [Int.toNat_natCast] at hcut0 hC'
 clear hA' hr3
 have hlen : (ps.drop (min (firstP f1) ps.length)).length <= 1048576 := by simp; omega
 have hmin : (if (ps.length : Int) < (firstP f1 : Nat) then (ps.length : Int) else ((firstP f1 : Nat) : Int)) = ((min (firstP f1) ps.length : Nat) : Int) := by split <;> omega
 generalize hps : ps.drop (min (firstP f1) ps.length) = qs at *
 generalize hjj : ((min (firstP f1) ps.length : Nat) : Int) = j at *
 generalize min (firstP f1) ps.length = jn at *
 have HM := Lib.hid hmin
 have hk : f1 = 2 \/ f1 = 3 \/ (f1 ≠ 2 /\ f1 ≠ 3) := by omega
 have HF := Lib.hid (show f1 ≠ 2 -> f1 ≠ 3 -> firstP f1 = 0 from fun a b => by unfold firstP; rw [if_neg a, if_neg b])
 clear hps hmin
 go_enter Tryd.func42, Tryd.ntmps42
 go_upto_region 1 with fail
 have hX : (w.alloc (.cells #[.int .u64 f0, .int .i64 f1, .int .i64 f2, .slice A3 ps.length c3, .slice A4 rs.length c4] 59)).heap[w.heap.size]? = some (.cells #[.int .u64 f0, .int .i64 f1, .int .i64 f2, .slice A3 ps.length c3, .slice A4 rs.length c4] 59 (0, 0)) := blk_new _ _
 have hB := (Below.refl w.heap.size w).alloc (Nat.le_refl _) (.cells #[.int .u64 f0, .int .i64 f1, .int .i64 f2, .slice A3 ps.length c3, .slice A4 rs.length c4] 59)
 generalize w.alloc (.cells #[.int .u64 f0, .int .i64 f1, .int .i64 f2, .slice A3 ps.length c3, .slice A4 rs.length c4] 59) = wA at *
 have hrA := Kd.C_below hrC hB
 generalize hg : w.heap.size = g at *
 obtain ⟨cA, fA⟩ := blk_at hX
 go_upto_block 0 with fail
 go_cut [3] (fun v wx => v = .int .i64 (firstP f1 : Nat) /\ wx = wA)
 case first =>
  rcases hk with rfl | rfl | ⟨k2, k3⟩
  ·go_wp2_with fail
   go_meet
   exact ⟨rfl, rfl⟩
  ·go_wp2_with fail
   go_meet
   exact ⟨rfl, rfl⟩
  ·have d2 : (f1 == 2) = false := by simpa using k2
   have d3 : (f1 == 3) = false := by simpa using k3
   go_wp2_with fail
   go_meet
   exact ⟨by rw [HF.out k2 k3]; rfl, rfl⟩
 case rest =>
  obtain ⟨rfl, rfl⟩ := hcut
  clear hk HF
  have hmin := HM.out
  generalize ((firstP f1 : Nat) : Int) = fi at *
  go_wp2_with fail
  go_loopw [4, 22] (fun v iv wx => ∃ i : Nat, i <= qs.length /\ iv = .int .i64 i /\ RI wx g v ((qs.take i).filter fun x => decide (0 < x)) /\ Below g w wx) (fun _ iv _ => qs.length - (intOf iv).toNat)
  case atStart => exact ⟨0, by omega, rfl, RI_nil _ _, hB⟩
  case round =>
   clear cA fA
   obtain ⟨i, hi, rfl, hR, hbr⟩ := hrel
   by_cases hlt : i < qs.length
   ·obtain ⟨ad, rfl, hc⟩ := int_at (Kd.C_below hrC (hg ▸ hbr)) i hlt
    have d1 : decide ((i : Int) < (qs.length : Int)) = true := by simpa using hlt
    have i0 : (0 : Int) <= (i : Int) := by omega
    have i1 : (i : Int) < (qs.length : Int) := by omega
    have et := Lib.hid (take_snocD qs i hlt)
    generalize qs.getD i 0 = x at *
    by_cases hx : 0 < x
    ·have d2 : decide (0 < x) = true := by simpa using hx
     have ef := Lib.hid (show (qs.take (i + 1)).filter (fun x => decide (0 < x)) = (qs.take i).filter (fun x => decide (0 < x)) ++ [x] by rw [et.out, List.filter_append]; simp [hx])
     have hfl : ((qs.take i).filter fun x => decide (0 < x)).length <= 1048576 := Nat.le_trans (List.length_filter_le _ _) (by simp; omega)
     go_wp2_with (at_builtin; go_loud (refine app_int (w0 := w) g rfl _ _ rfl u4 _ x rfl rfl hR hbr ?h2 ?h3 ?_); (case h2 => have := hbr.size; omega); (case h3 => omega); intro v1 w1 hR1 hb1 hg1 hat1; rw [<- ef.out] at hR1; clear hg1 hat1)
     go_roundw
     case rel => exact ⟨i + 1, by omega, by go_num, hR1, hb1⟩
     case measure => simp [intOf]; omega
    ·have d2 : decide (0 < x) = false := by simpa using hx
     have ef := Lib.hid (show (qs.take (i + 1)).filter (fun x => decide (0 < x)) = (qs.take i).filter (fun x => decide (0 < x)) by rw [et.out, List.filter_append]; simp [hx])
     go_wp2_with fail
     go_roundw
     case rel => exact ⟨i + 1, by omega, by go_num, by rw [ef.out]; exact hR, hbr⟩
     case measure => simp [intOf]; omega
   ·have d1 : decide ((i : Int) < (qs.length : Int)) = false := by simpa using hlt
    rw [List.take_of_length_le (by omega)] at hR
    go_wp2_with fail
    go_ret
    exact ⟨u4, rfl, by rw [hg]; exact hR, by rw [hg]; exact hbr⟩
end
end Go.Proofs.YtogpgkoelplknaaDoor
end
section
namespace Go.Proofs.YtogpgkoelplknaaDoor
open Go.RowKit Go.BigFrame PLensPaths Go.Proofs.YtogpgkoelplknaaDoorW.PrintWords Go.Proofs.YtogpgkoelplknaaDoorW.PrintMore
set_option linter.unusedVariables false
section
theorem box_keep {wA wr : World} {g : Nat} {o : Obj} (hX : wA.heap[g]? = some o) (hb : Below wA.heap.size wA wr) : wr.heap[g]? = some o := (hb.block g (blk_lt hX)).trans hX
structure Boxed (wA w : World) (g : Gv) (G : Gr) (cs : Array Value) : Prop where
 x : wA.heap[w.heap.size]? = some (.cells cs 27 (0, 0))
 b : Below w.heap.size w wA
 l : w.heap.size < wA.heap.size
 a : GAt wA g G
theorem boxed {w : World} {g : Gv} {G : Gr} (h : GAt w g G) : Boxed (w.alloc (.cells (gcells g G) 27)) w g G (gcells g G) := by
 have hX := blk_new w (.cells (gcells g G) 27 (0, 0))
 have hB := (Below.refl w.heap.size w).alloc (Nat.le_refl _) (.cells (gcells g G) 27 (0, 0))
 exact ⟨hX, hB, blk_lt hX, h.below hB⟩
theorem below_drN {B : Nat} {w W : World} (h : Below B w W) (n : Nat) : Below B w (W.drewN n) := pw_below_drewN h n
theorem rbetween_q (n : Nat) (A : Option Addr) (c : Nat) (l : List Int) (a : Int) (w : World) (hr : Kd.C (Kd.int .i64) w A l.length l) (hc : l.length <= c) (hl : l.length <= 1048576) :
  Calls Tryd.prog 119 #[.slice A l.length c, .int .i64 a, .int .i64 (n : Int)] w fun e w' => e = .returned (.bool (numsB n a l)) /\ ∃ m, w' = w.drewN m := by
 obtain ⟨k, hk⟩ := (between_ev n l a hl).rounds
 exact (middenref16_between.calls k A c l a (n : Int) _ w hr hc hk).mono fun e w' h => ⟨h.1, h.2.out⟩
def FrBd (G : Gr) : Prop := ∀ fr ∈ G.slots, fr.length <= 1048576 /\ sumLen fr <= 1048576 /\ ∀ f ∈ fr, f.length <= 1048576
def slotsB (G : Gr) : Bool := decide (1 <= G.slots.length) && decide (G.slots.length <= 8) && decide (G.hands.length <= 1024) && numsB G.obs.length (-1) G.hands && threadsB G.obs.length G.slots
theorem getD_mem {α : Type} {l : List α} {i : Nat} (z : α) (h : i < l.length) : l.getD i z ∈ l := by rw [List.getD_eq_getElem?_getD, List.getElem?_eq_getElem h]; exact List.getElem_mem _
theorem threads_cons (n : Nat) (fr : List (List Int)) (l : List (List (List Int))) : threadsB n (fr :: l) = (framesB n fr && decide (sumLen fr <= 4096) && threadsB n l) := rfl
theorem frames_cons (n : Nat) (f : List Int) (fr : List (List Int)) : framesB n (f :: fr) = (decide (1 <= f.length) && numsB n 0 f && framesB n fr) := rfl
theorem sumLen_cons (f : List Int) (fr : List (List Int)) : sumLen (f :: fr) = f.length + sumLen fr := rfl
def threadQ (n s : Nat) (fr : List (List Int)) : Bool := framesB n fr && decide (s + sumLen fr <= 4096)
theorem threadQ_cons (n s : Nat) (f : List Int) (fr : List (List Int)) : threadQ n s (f :: fr) = (decide (1 <= f.length) && decide (s + f.length <= 4096) && numsB n 0 f && threadQ n (s + f.length) fr) := by
 unfold threadQ
 rw [frames_cons, sumLen_cons, Bool.eq_iff_iff]
 simp only [Bool.and_eq_true, decide_eq_true_eq]
 constructor
 ·rintro ⟨⟨⟨h1, h2⟩, h3⟩, h4⟩
  exact ⟨⟨⟨h1, by omega⟩, h2⟩, h3, by omega⟩
 ·rintro ⟨⟨⟨h1, h2⟩, h3⟩, h4, h5⟩
  exact ⟨⟨⟨h1, h3⟩, h4⟩, by omega⟩
set_option maxRecDepth 100000 in
set_option maxHeartbeats 8000000 in
theorem rslots_loop (g : Gv) (G : Gr) (w : World) (h : GAt w g G) (bd : G.Bd) (fb : FrBd G) (h1 : 1 <= G.slots.length) (h2 : G.slots.length <= 8) (h3 : G.hands.length <= 1024) (h4 : numsB G.obs.length (-1) G.hands = true) :
  Calls Tryd.prog 83 #[gval g G] w fun e w' => e = .returned (.bool (threadsB G.obs.length G.slots)) /\ Below w.heap.size w w' := by
 have hn := bd.n
 have hh := bd.h
 obtain ⟨A0, A1, A2, A3, A4, c0, c1, c2, c3, c4⟩ := g
 have HB := Lib.hid (fun (W : World) (hb : Below w.heap.size w W) => rbetween_q G.obs.length A2 c2 G.hands (-1) W (Kd.C_below h.r2 hb) h.l2 hh)
 rw [h4] at HB
 have d1 : decide ((G.slots.length : Int) < 1) = false := decide_eq_false (by omega)
 have d2 : decide ((8 : Int) < (G.slots.length : Int)) = false := decide_eq_false (by omega)
 have d3 : decide ((1024 : Int) < (G.hands.length : Int)) = false := decide_eq_false (by omega)
 have BX := boxed h
 unfold gval gcells
 unfold gcells at BX
 simp only at BX ⊢
 go_enter Tryd.func83, Tryd.ntmps83
 go_upto_region 1 with fail
 generalize w.alloc _ = wA at *
 obtain ⟨hX, hB, lA, hA⟩ := BX
 have GB := Lib.hid (fun (W : World) (hb : Below wA.heap.size wA W) => hA.below hb)
 obtain ⟨cA, fA⟩ := blk_at hX
 go_upto_region 3 with (go_at_call 119; refine (HB.out _ hB).mono ?_; rintro e w2 ⟨rfl, m2, rfl⟩)
 have hbr := below_drN (Below.refl wA.heap.size wA) m2
 generalize wA.drewN m2 = wB at *
 clear cA fA
 obtain ⟨cA, fA⟩ := blk_at (box_keep hX hbr)
 go_wp2_with fail
 go_loopw [3] (fun tv wx => ∃ t : Nat, t <= G.slots.length /\ tv = .int .i64 t /\ threadsB G.obs.length G.slots = threadsB G.obs.length (G.slots.drop t) /\ Below wA.heap.size wA wx) (fun tv _ => G.slots.length - (intOf tv).toNat)
 case atStart => exact ⟨0, by omega, rfl, rfl, hbr⟩
 case round =>
  clear cA fA hbr
  obtain ⟨t, ht, rfl, het, hbr⟩ := hrel
  obtain ⟨cA, fA⟩ := blk_at (box_keep hX hbr)
  by_cases hlt : t < G.slots.length
  ·have GR := GB.out _ hbr
   obtain ⟨ad1, B1, b1, e1, hc1, hl1, hC1⟩ := sl_at GR.r1 t hlt
   simp only at e1
   subst e1
   have dlt : decide ((t : Int) < (G.slots.length : Int)) = true := decide_eq_true (by omega)
   have t0 : (0 : Int) <= (t : Int) := by omega
   have t1 : (t : Int) < (G.slots.length : Int) := by omega
   have hm := fb _ (getD_mem [] hlt)
   have het2 : threadsB G.obs.length G.slots = (threadQ G.obs.length 0 (G.slots.getD t []) && threadsB G.obs.length (G.slots.drop (t + 1))) := by
    rw [het, drop_cons [] hlt, threads_cons]; unfold threadQ; rw [Nat.zero_add]
   have HET := Lib.hid het2
   clear het het2 GR
   generalize G.slots.getD t [] = fr at *
   obtain ⟨m1, m2, m3⟩ := hm
   obtain ⟨wo, rfl⟩ : ∃ wo : World, wo = wr := ⟨_, rfl⟩
   go_wp2_with fail
   go_loopw [5, 4] (fun fv sv wx => ∃ (f s : Nat), f <= fr.length /\ s <= 4096 /\ fv = .int .i64 f /\ sv = .int .i64 s /\ threadQ G.obs.length 0 fr = threadQ G.obs.length s (fr.drop f) /\ Below wo.heap.size wo wx) (fun fv _ _ => fr.length - (intOf fv).toNat)
   case atStart => exact ⟨0, 0, by omega, by omega, rfl, rfl, rfl, Below.refl _ _⟩
   case round =>
    clear cA fA
    obtain ⟨f, s, hf, hs, rfl, rfl, heq, hbx⟩ := hrel
    have hbz := hbr.trans (hbx.mono hbr.size)
    obtain ⟨cA, fA⟩ := blk_at (box_keep hX hbz)
    have hcx := cell_later hbx hc1
    clear hc1
    by_cases hlf : f < fr.length
    ·obtain ⟨ad2, B2, b2, rfl, hc2, hl2, hC2⟩ := sl_at (Kd.C_below hC1 hbx) f hlf
     have dlf : decide ((f : Int) < (fr.length : Int)) = true := decide_eq_true (by omega)
     have f0 : (0 : Int) <= (f : Int) := by omega
     have f1 : (f : Int) < (fr.length : Int) := by omega
     have hq := m3 _ (getD_mem [] hlf)
     rw [drop_cons [] hlf, threadQ_cons] at heq
     generalize fr.getD f [] = l at *
     have HQ := Lib.hid heq
     have BQ := Lib.hid (fun (n : Nat) => rbetween_q G.obs.length B2 b2 l 0 (wr.drewN n) (Kd.C_drewN hC2 n) hl2 hq)
     clear heq hC1 hC2
     have ws : IntKind.i64.wrap ((s : Int) + (l.length : Int)) = (s : Int) + (l.length : Int) := by rw [IntKind.wrap_i64]; omega
     by_cases q1 : l.length < 1
     ·have e : threadsB G.obs.length G.slots = false := by rw [HET.out, HQ.out, show decide (1 <= l.length) = false from decide_eq_false (by omega)]; rfl
      have E := Lib.hid e
      have dq : decide ((l.length : Int) < 1) = true := decide_eq_true (by omega)
      clear e
      go_upto_region 12 with fail
      generalize hL : (l.length : Int) = L at *
      have HL := Lib.hid hL
      clear hL
      go_quiet (fail)
      go_wp2_with fail
      go_ret
      exact ⟨by rw [E.out]; rfl, hB.trans ((below_drN hbz _).mono (Nat.le_of_lt lA))⟩
     ·have dq : decide ((l.length : Int) < 1) = false := decide_eq_false (by omega)
      by_cases q2 : 4096 < s + l.length
      ·have e : threadsB G.obs.length G.slots = false := by rw [HET.out, HQ.out, show decide (s + l.length <= 4096) = false from decide_eq_false (by omega)]; simp
       have E := Lib.hid e
       have dq2 : decide ((4096 : Int) < (s : Int) + (l.length : Int)) = true := decide_eq_true (by omega)
       clear e
       go_upto_region 12 with fail
       generalize hL : (l.length : Int) = L at *
       have HL := Lib.hid hL
       clear hL
       go_quiet (fail)
       go_wp2_with fail
       go_ret
       exact ⟨by rw [E.out]; rfl, hB.trans ((below_drN hbz _).mono (Nat.le_of_lt lA))⟩
      ·have dq2 : decide ((4096 : Int) < (s : Int) + (l.length : Int)) = false := decide_eq_false (by omega)
       cases q3 : numsB G.obs.length 0 l with
       | false =>
        rw [q3] at BQ
        have e : threadsB G.obs.length G.slots = false := by rw [HET.out, HQ.out, q3]; simp
        have E := Lib.hid e
        clear e q3
        go_upto_region 12 with fail
        generalize hL : (l.length : Int) = L at *
        have HL := Lib.hid hL
        clear hL
        go_quiet ((go_at_call 119; exact Calls.quiet_of (BQ.out _)))
        go_wp2_with fail
        go_ret
        exact ⟨by rw [E.out]; rfl, hB.trans ((below_drN hbz _).mono (Nat.le_of_lt lA))⟩
       | true =>
        rw [q3] at BQ
        have HN := Lib.hid (show threadQ G.obs.length 0 fr = threadQ G.obs.length (s + l.length) (fr.drop (f + 1)) by rw [HQ.out, q3, show decide (1 <= l.length) = true from decide_eq_true (by omega), show decide (s + l.length <= 4096) = true from decide_eq_true (by omega)]; simp)
        clear q3
        go_upto_region 12 with fail
        generalize hL : (l.length : Int) = L at *
        have HL := Lib.hid hL
        clear hL
        go_quiet ((go_at_call 119; exact Calls.quiet_of (BQ.out _)))
        go_wp2_with fail
        go_roundw
        case rel => exact ⟨f + 1, s + l.length, by omega, by omega, by go_num, by rw [<- HL.out]; go_num, HN.out, below_drN hbx _⟩
        case measure => simp [intOf]; omega
    ·have dlf : decide ((f : Int) < (fr.length : Int)) = false := decide_eq_false (by omega)
     rw [List.drop_of_length_le (by omega)] at heq
     have HN := Lib.hid (show threadsB G.obs.length G.slots = threadsB G.obs.length (G.slots.drop (t + 1)) by rw [HET.out, heq]; unfold threadQ; rw [show decide (s + sumLen [] <= 4096) = true from decide_eq_true (by show s + 0 <= 4096; omega)]; simp [framesB])
     clear heq
     go_wp2_with fail
     go_roundw
     case rel => exact ⟨t + 1, by omega, by go_num, HN.out, hbz⟩
     case measure => simp [intOf]; omega
  ·have dlt : decide ((t : Int) < (G.slots.length : Int)) = false := decide_eq_false (by omega)
   have e : threadsB G.obs.length G.slots = true := by rw [het, List.drop_of_length_le (by omega)]; rfl
   have E := Lib.hid e
   clear het e
   go_wp2_with fail
   go_ret
   exact ⟨by rw [E.out]; rfl, hB.trans (hbr.mono (Nat.le_of_lt lA))⟩
set_option maxRecDepth 100000 in
set_option maxHeartbeats 4000000 in
theorem rslots_bad (g : Gv) (G : Gr) (w : World) (h : GAt w g G) (bd : G.Bd) (hbad : G.slots.length < 1 \/ 8 < G.slots.length \/ 1024 < G.hands.length \/ numsB G.obs.length (-1) G.hands = false) :
  Calls Tryd.prog 83 #[gval g G] w fun e w' => e = .returned (.bool false) /\ Below w.heap.size w w' := by
 have hh := bd.h
 obtain ⟨A0, A1, A2, A3, A4, c0, c1, c2, c3, c4⟩ := g
 have HB := Lib.hid (fun (W : World) (hb : Below w.heap.size w W) => rbetween_q G.obs.length A2 c2 G.hands (-1) W (Kd.C_below h.r2 hb) h.l2 hh)
 have BX := boxed h
 unfold gval gcells
 unfold gcells at BX
 simp only at BX ⊢
 generalize G.slots.length = n1 at *
 generalize G.hands.length = n2 at *
 by_cases k1 : n1 < 1
 ·obtain rfl : n1 = 0 := by omega
  go_enter Tryd.func83, Tryd.ntmps83
  go_upto_region 1 with fail
  generalize w.alloc _ = wA at *
  obtain ⟨hX, hB, lA, hA⟩ := BX
  obtain ⟨cA, fA⟩ := blk_at hX
  go_wp2_with fail
  go_ret
  exact ⟨rfl, hB⟩
 have d1 : decide ((n1 : Int) < 1) = false := decide_eq_false (by omega)
 by_cases k2 : 8 < n1
 ·have d2 : decide ((8 : Int) < (n1 : Int)) = true := decide_eq_true (by omega)
  go_enter Tryd.func83, Tryd.ntmps83
  go_upto_region 1 with fail
  generalize w.alloc _ = wA at *
  obtain ⟨hX, hB, lA, hA⟩ := BX
  obtain ⟨cA, fA⟩ := blk_at hX
  go_wp2_with fail
  go_ret
  exact ⟨rfl, hB⟩
 have d2 : decide ((8 : Int) < (n1 : Int)) = false := decide_eq_false (by omega)
 by_cases k3 : 1024 < n2
 ·have d3 : decide ((1024 : Int) < (n2 : Int)) = true := decide_eq_true (by omega)
  go_enter Tryd.func83, Tryd.ntmps83
  go_upto_region 1 with fail
  generalize w.alloc _ = wA at *
  obtain ⟨hX, hB, lA, hA⟩ := BX
  obtain ⟨cA, fA⟩ := blk_at hX
  go_wp2_with fail
  go_ret
  exact ⟨rfl, hB⟩
 have d3 : decide ((1024 : Int) < (n2 : Int)) = false := decide_eq_false (by omega)
 have k4 : numsB G.obs.length (-1) G.hands = false := by
  rcases hbad with q | q | q | q
  ·omega
  ·omega
  ·omega
  ·exact q
 rw [k4] at HB
 clear k4 hbad
 go_enter Tryd.func83, Tryd.ntmps83
 go_upto_region 1 with fail
 generalize w.alloc _ = wA at *
 obtain ⟨hX, hB, lA, hA⟩ := BX
 obtain ⟨cA, fA⟩ := blk_at hX
 go_wp2_with (go_at_call 119; refine (HB.out _ hB).mono ?_; rintro e w2 ⟨rfl, m2, rfl⟩)
 go_ret
 exact ⟨rfl, below_drN hB _⟩
theorem rslots_any (g : Gv) (G : Gr) (w : World) (h : GAt w g G) (bd : G.Bd) (fb : FrBd G) :
  Calls Tryd.prog 83 #[gval g G] w fun e w' => e = .returned (.bool (slotsB G)) /\ Below w.heap.size w w' := by
 by_cases k : G.slots.length < 1 \/ 8 < G.slots.length \/ 1024 < G.hands.length \/ numsB G.obs.length (-1) G.hands = false
 ·have e : slotsB G = false := by
   unfold slotsB
   rcases k with k | k | k | k
   ·rw [show decide (1 <= G.slots.length) = false from decide_eq_false (by omega)]; rfl
   ·rw [show decide (G.slots.length <= 8) = false from decide_eq_false (by omega)]; simp
   ·rw [show decide (G.hands.length <= 1024) = false from decide_eq_false (by omega)]; simp
   ·rw [k]; simp
  rw [e]
  exact rslots_bad g G w h bd k
 ·have q1 : 1 <= G.slots.length := by omega
  have q2 : G.slots.length <= 8 := by omega
  have q3 : G.hands.length <= 1024 := by omega
  have q4 : numsB G.obs.length (-1) G.hands = true := by
   cases q : numsB G.obs.length (-1) G.hands
   ·exact absurd (.inr (.inr (.inr q))) k
   ·rfl
  have e : slotsB G = threadsB G.obs.length G.slots := by
   unfold slotsB
   rw [q4, decide_eq_true q1, decide_eq_true q2, decide_eq_true q3]; rfl
  rw [e]
  exact rslots_loop g G w h bd fb q1 q2 q3 q4
end
end Go.Proofs.YtogpgkoelplknaaDoor
end
section
namespace Go.Proofs.YtogpgkoelplknaaDoor
open Go.RowKit PLensPaths
set_option linter.unusedVariables false
section
def initP (G : Gr) : List Int := slotsP G.slots ++ G.hands ++ G.queue ++ G.reg
def psOf (G : Gr) (x : Int) : List Int := (G.obs.getD (x - 1).toNat default).f3
inductive Hit (G : Gr) : Int -> Prop
 | init {x : Int} : x ∈ initP G -> 0 < x -> Hit G x
 | step {x y : Int} : Hit G x -> y ∈ psOf G x -> 0 < y -> Hit G y
structure Rng (G : Gr) : Prop where
 init : ∀ x ∈ initP G, x <= (G.obs.length : Int)
 ps : ∀ o ∈ G.obs, ∀ y ∈ o.f3, 0 <= y /\ y <= (G.obs.length : Int)
theorem psOf_le {G : Gr} (R : Rng G) {x y : Int} (h0 : 0 < x) (h1 : x <= (G.obs.length : Int)) (h : y ∈ psOf G x) : 0 <= y /\ y <= (G.obs.length : Int) := by
 unfold psOf at h
 exact R.ps _ (getD_mem default (by omega)) y h
theorem Hit.bd {G : Gr} (R : Rng G) {x : Int} (h : Hit G x) : 0 < x /\ x <= (G.obs.length : Int) := by
 induction h with
 | init h1 h2 => exact ⟨h2, R.init _ h1⟩
 | step h1 h2 h3 ih => exact ⟨h3, (psOf_le R ih.1 ih.2 h2).2⟩
open Classical in
noncomputable def knownB (G : Gr) : Bool := decide (∀ x : Int, 1 <= x -> x <= (G.obs.length : Int) -> Hit G x)
def sumOn (a : Int -> Nat) : List Int -> Nat
 | [] => 0
 | x :: l => a x + sumOn a l
def sumTo (a : Int -> Nat) : Nat -> Nat
 | 0 => 0
 | n + 1 => a ((n : Int) + 1) + sumTo a n
theorem sumOn_perm (a : Int -> Nat) {l l' : List Int} (h : l.Perm l') : sumOn a l = sumOn a l' := by
 induction h with
 | nil => rfl
 | cons x _ ih => simp [sumOn, ih]
 | swap x y l => simp [sumOn]; omega
 | trans _ _ ih1 ih2 => rw [ih1, ih2]
theorem sumOn_le (a : Int -> Nat) : ∀ (n : Nat) (L : List Int), L.Nodup -> (∀ x ∈ L, 1 <= x /\ x <= (n : Int)) -> sumOn a L <= sumTo a n := by
 intro n
 induction n with
 | zero =>
  intro L _ hb
  cases L with
  | nil => exact Nat.le_refl _
  | cons x l => have := hb x List.mem_cons_self; omega
 | succ n ih =>
  intro L nd hb
  by_cases hm : ((n : Int) + 1) ∈ L
  ·have hp := List.perm_cons_erase hm
   rw [sumOn_perm a hp]
   have hnd := nd.erase ((n : Int) + 1)
   have := ih (L.erase ((n : Int) + 1)) hnd (fun x hx => by
    have h1 := hb x (List.mem_of_mem_erase hx)
    have h2 : x ≠ (n : Int) + 1 := fun e => by rw [e] at hx; exact (List.Nodup.mem_erase_iff nd).1 hx |>.1 rfl
    omega)
   unfold sumOn sumTo
   omega
  ·have := ih L nd (fun x hx => by
    have h1 := hb x hx
    have h2 : x ≠ (n : Int) + 1 := fun e => hm (e ▸ hx)
    omega)
   unfold sumTo
   omega
theorem sumOn_one (L : List Int) : sumOn (fun _ => 1) L = L.length := by
 induction L with
 | nil => rfl
 | cons x l ih => simp [sumOn, ih]; omega
theorem sumTo_one (n : Nat) : sumTo (fun _ => 1) n = n := by
 induction n with
 | zero => rfl
 | succ n ih => simp [sumTo, ih]; omega
theorem nodup_len {n : Nat} {L : List Int} (nd : L.Nodup) (hb : ∀ x ∈ L, 1 <= x /\ x <= (n : Int)) : L.length <= n := by
 have := sumOn_le (fun _ => 1) n L nd hb
 rwa [sumOn_one, sumTo_one] at this
theorem all_len : ∀ (n : Nat) (L : List Int), (∀ x : Int, 1 <= x -> x <= (n : Int) -> x ∈ L) -> n <= L.length := by
 intro n
 induction n with
 | zero => intro L _; omega
 | succ n ih =>
  intro L h
  have hm := h ((n : Int) + 1) (by omega) (by omega)
  have := ih (L.erase ((n : Int) + 1)) (fun x h1 h2 => (List.mem_erase_of_ne (by omega)).2 (h x h1 (by omega)))
  rw [List.length_erase_of_mem hm] at this
  have := List.length_pos_of_mem hm
  omega
theorem known_count {G : Gr} (R : Rng G) {L : List Int} (nd : L.Nodup) (hit : ∀ x ∈ L, Hit G x) (hi : ∀ x ∈ initP G, 0 < x -> x ∈ L) (hc : ∀ x ∈ L, ∀ y ∈ psOf G x, 0 < y -> y ∈ L) : decide (L.length = G.obs.length) = knownB G := by
 have hb : ∀ x ∈ L, 1 <= x /\ x <= (G.obs.length : Int) := fun x hx => by have := (hit x hx).bd R; omega
 have all : ∀ x, Hit G x -> x ∈ L := fun x hx => by
  induction hx with
  | init h1 h2 => exact hi _ h1 h2
  | step h1 h2 h3 ih => exact hc _ ih _ h2 h3
 unfold knownB
 rw [Bool.eq_iff_iff]
 simp only [decide_eq_true_eq]
 constructor
 ·intro e x h1 h2
  refine Classical.byContradiction fun hx => ?_
  have hn : x ∉ L := fun q => hx (hit x q)
  have := nodup_len (n := G.obs.length) (L := x :: L) (List.nodup_cons.2 ⟨hn, nd⟩) (fun y hy => by
   rcases List.mem_cons.1 hy with rfl | q
   ·exact ⟨h1, h2⟩
   ·exact hb y q)
  simp at this
  omega
 ·intro h
  have h1 := all_len G.obs.length L (fun x a b => all x (h x a b))
  have h2 := nodup_len nd hb
  omega
theorem flat_len (G : Gr) : ∀ L : List Int, (L.flatMap (psOf G)).length = sumOn (fun x => (psOf G x).length) L
 | [] => rfl
 | x :: l => by simp [sumOn, flat_len G l]
def allPs (G : Gr) : Nat := sumTo (fun x => (psOf G x).length) G.obs.length
structure RK (G : Gr) (i : Nat) (T : List Int) (S : List Bool) (L : List Int) : Prop where
 t : T = initP G ++ L.flatMap (psOf G)
 sl : S.length = G.obs.length + 1
 s : ∀ x : Int, 0 < x -> x <= (G.obs.length : Int) -> (S.getD x.toNat false = true ↔ x ∈ L)
 nd : L.Nodup
 hit : ∀ x ∈ L, Hit G x
 done : ∀ j, j < i -> 0 < T.getD j 0 -> T.getD j 0 ∈ L
theorem RK.len {G : Gr} (R : Rng G) {i : Nat} {T : List Int} {S : List Bool} {L : List Int} (h : RK G i T S L) : T.length <= (initP G).length + allPs G := by
 rw [h.t, List.length_append, flat_len]
 have := sumOn_le (fun x => (psOf G x).length) G.obs.length L h.nd (fun x hx => by have := (h.hit x hx).bd R; omega)
 unfold allPs
 omega
theorem replicate_getD (n k : Nat) : (List.replicate n false).getD k false = false := by
 rw [List.getD_eq_getElem?_getD]
 cases h : (List.replicate n false)[k]? with
 | none => rfl
 | some b =>
  rw [List.getElem?_replicate] at h
  split at h
  ·cases h; rfl
  ·cases h
theorem RK.start (G : Gr) : RK G 0 (initP G) (List.replicate (G.obs.length + 1) false) [] :=
 ⟨by simp, by simp, fun x h0 h1 => by rw [replicate_getD]; simp, List.nodup_nil, fun x hx => by simp at hx, fun j hj => by omega⟩
theorem mem_T {G : Gr} {i : Nat} {T : List Int} {S : List Bool} {L : List Int} (h : RK G i T S L) {y : Int} (hy : y ∈ T) : y ∈ initP G \/ ∃ x ∈ L, y ∈ psOf G x := by
 rw [h.t] at hy
 rcases List.mem_append.1 hy with q | q
 ·exact .inl q
 ·obtain ⟨x, h1, h2⟩ := List.mem_flatMap.1 q
  exact .inr ⟨x, h1, h2⟩
theorem RK.hitT {G : Gr} {i : Nat} {T : List Int} {S : List Bool} {L : List Int} (h : RK G i T S L) {y : Int} (hy : y ∈ T) (h0 : 0 < y) : Hit G y := by
 rcases mem_T h hy with q | ⟨x, h1, h2⟩
 ·exact .init q h0
 ·exact .step (h.hit x h1) h2 h0
theorem set_getD {S : List Bool} {a k : Nat} (h : a < S.length) : (S.set a true).getD k false = if a = k then true else S.getD k false := by
 rw [List.getD_eq_getElem?_getD, List.getD_eq_getElem?_getD, List.getElem?_set]
 split
 ·rename_i e
  subst e
  simp
 ·rfl
theorem RK.new {G : Gr} (R : Rng G) {i : Nat} {T : List Int} {S : List Bool} {L : List Int} (h : RK G i T S L) (hi : i < T.length) (h0 : 0 < T.getD i 0) (hs : S.getD (T.getD i 0).toNat false = false) :
  RK G (i + 1) (T ++ psOf G (T.getD i 0)) (S.set (T.getD i 0).toNat true) (L ++ [T.getD i 0]) := by
 have hx := h.hitT (getD_mem 0 hi) h0
 have hb := hx.bd R
 have hT : ∀ j, j < T.length -> (T ++ psOf G (T.getD i 0)).getD j 0 = T.getD j 0 := fun j hj => by
  rw [List.getD_eq_getElem?_getD, List.getElem?_append_left hj, <- List.getD_eq_getElem?_getD]
 generalize hx0 : T.getD i 0 = x at *
 have hn : x ∉ L := fun q => by rw [(h.s x hb.1 hb.2).2 q] at hs; cases hs
 refine ⟨by rw [h.t]; simp, by simp [h.sl], fun y y0 y1 => ?_, ?_, fun y hy => ?_, fun j hj hp => ?_⟩
 ·rw [set_getD (by rw [h.sl]; omega)]
  by_cases e : x.toNat = y.toNat
  ·have : x = y := by omega
   subst this
   rw [if_pos e]; simp
  ·rw [if_neg e, h.s y y0 y1]
   have : y ≠ x := fun q => e (by rw [q])
   simp [this]
 ·rw [List.nodup_append]
  refine ⟨h.nd, by simp, fun a ha b hb' => ?_⟩
  simp at hb'
  subst hb'
  exact fun e => hn (e ▸ ha)
 ·rcases List.mem_append.1 hy with q | q
  ·exact h.hit y q
  ·simp at q; subst q; exact hx
 ·have hjT : j < T.length := by omega
  rw [hT j hjT] at hp ⊢
  by_cases e : j < i
  ·exact List.mem_append.2 (.inl (h.done j e hp))
  ·obtain rfl : j = i := by omega
   rw [hx0]; simp
theorem RK.old {G : Gr} (R : Rng G) {i : Nat} {T : List Int} {S : List Bool} {L : List Int} (h : RK G i T S L) (hi : i < T.length) (hs : ¬ 0 < T.getD i 0 \/ S.getD (T.getD i 0).toNat false = true) : RK G (i + 1) T S L := by
 refine ⟨h.t, h.sl, h.s, h.nd, h.hit, fun j hj hp => ?_⟩
 by_cases e : j < i
 ·exact h.done j e hp
 ·obtain rfl : j = i := by omega
  rcases hs with q | q
  ·exact absurd hp q
  ·have hb := (h.hitT (getD_mem 0 hi) hp).bd R
   exact (h.s _ hb.1 hb.2).1 q
theorem RK.end {G : Gr} (R : Rng G) {T : List Int} {S : List Bool} {L : List Int} (h : RK G T.length T S L) : decide (L.length = G.obs.length) = knownB G := by
 have hin : ∀ y ∈ T, 0 < y -> y ∈ L := fun y hy h0 => by
  obtain ⟨j, hj, e⟩ := List.mem_iff_getElem.1 hy
  have e' : T.getD j 0 = y := by rw [List.getD_eq_getElem?_getD, List.getElem?_eq_getElem hj]; exact e
  have := h.done j hj (by rw [e']; exact h0)
  rwa [e'] at this
 refine known_count R h.nd h.hit (fun x hx h0 => hin x ?_ h0) (fun x hx y hy h0 => hin y ?_ h0)
 ·rw [h.t]; exact List.mem_append.2 (.inl hx)
 ·rw [h.t]; exact List.mem_append.2 (.inr (List.mem_flatMap.2 ⟨x, hx, hy⟩))
end
end Go.Proofs.YtogpgkoelplknaaDoor
end
section
namespace Go.Proofs.YtogpgkoelplknaaDoor
open Go.RowKit Go.BigFrame PLensPaths Go.Proofs.YtogpgkoelplknaaDoorW.PrintWords Go.Proofs.YtogpgkoelplknaaDoorW.PrintMore
set_option linter.unusedVariables false
section
theorem infoB : (Tryd.prog.info? 4).map (fun i => (i.zero, i.size, i.bytes)) = some (some (.bool false), 1, 1) := by kernel_rfl
abbrev RB (w : World) (base : Nat) (v : Value) (l : List Bool) : Prop := Kd.R Kd.bool 4 w base All v l
section
variable {ops : Array Oper} {rest : List Oper} {o : Oper} {a : Act} {Q : Exit -> Act -> World -> Prop}
theorem app_ints {w0 W : World} (base : Nat) (hgd : o.guard = none) (s x : Operand) (ho : o.op = .call { callee := .builtin .append, args := #[s, x], argTypes := #[24, 24] })
  (v : Value) (xs ys : List Int) (A : Option Addr) (c : Nat) (hs : a.eval s = v) (hx : a.eval x = .slice A ys.length c) (HO : RI W base v xs) (HR : Kd.C (Kd.int .i64) W A ys.length ys) (HB : Below base w0 W) (hbase : base <= W.heap.size) (hl : xs.length + ys.length <= 1099511627776)
  (h : ∀ v1 w1, RI w1 base v1 (xs ++ ys) -> Below base w0 w1 -> W.grownBy w1 v.ownBlock -> (v1.ownBlock = v.ownBlock \/ ∃ b, v1.ownBlock = some b /\ W.heap.size <= b) -> wpList Tryd.prog ops Q rest (a.put o.dst v1) w1) :
  wpList Tryd.prog ops Q (o :: rest) a W :=
 Kd.R_append_row (Value.int .i64) 0 base hgd s x 24 3 (.int .i64 0) 8 ho Tryd.underlying24 infoI rfl (by omega) v xs ys A ys.length c All hs hx (fun _ _ => trivial) HO HR HB hbase (by omega) h
theorem make_bools {w0 W : World} (base : Nat) (hgd : o.guard = none) {N : Tmp} (hd : o.dst = some N) (x y : Operand) (ho : o.op = .makeSlice 52 x y) (n : Nat) (hx : a.eval x = .int .i64 n) (hy : a.eval y = .int .i64 n) (hl : n <= 1099511627776) (HB : Below base w0 W) (hbase : base <= W.heap.size)
  (h : ∀ v1 w1, RB w1 base v1 (List.replicate n false) -> Below base w0 w1 -> W.grownBy w1 none -> (∃ b, v1.ownBlock = some b /\ W.heap.size <= b) -> wpList Tryd.prog ops Q rest (a.put o.dst v1) w1) : wpList Tryd.prog ops Q (o :: rest) a W :=
 Kd.R_make Kd.bool base 4 hgd hd 52 x y ho (n : Int) hx hy Tryd.underlying52 (.bool false) 1 infoB rfl (by decide) (by omega) false (okp := fun _ => False) (ok := All) rfl (fun _ h => h.elim) trivial (by omega) (by simp; omega) HB hbase (by simpa using h)
end
theorem RI_form {w : World} {b : Nat} {v : Value} {l : List Int} (h : RI w b v l) (hp : 0 < l.length) : ∃ g cap, v = .slice (some ⟨g, 0, none⟩) l.length cap /\ b <= g /\ g < w.heap.size /\ ∀ i, i < l.length -> w.cell? ⟨g, i, none⟩ = some (.int .i64 (l.getD i 0)) /\ w.frozen? ⟨g, i, none⟩ = false := by
 obtain ⟨g, cap, rfl, h1, h2, -⟩ := Kd.R_form h hp
 refine ⟨g, cap, rfl, h1, h2, fun i hi => ?_⟩
 have := Kd.R_cell (d := (0 : Int)) h (i : Int) (by omega) (by omega)
 simpa [rdOf] using this
theorem RB_form {w : World} {b : Nat} {v : Value} {l : List Bool} (h : RB w b v l) (hp : 0 < l.length) : ∃ g cap, v = .slice (some ⟨g, 0, none⟩) l.length cap /\ b <= g /\ g < w.heap.size := by
 obtain ⟨g, cap, rfl, h1, h2, -⟩ := Kd.R_form h hp
 exact ⟨g, cap, rfl, h1, h2⟩
theorem RB_cell {w : World} {b g cap n : Nat} {l : List Bool} (h : RB w b (.slice (some ⟨g, 0, none⟩) n cap) l) (i : Nat) (hi : i < n) : w.cell? ⟨g, i, none⟩ = some (.bool (l.getD i false)) /\ w.frozen? ⟨g, i, none⟩ = false := by
 have := Kd.R_celln (d := false) h (i : Int) (by omega) (by omega)
 simpa [rdOf] using this
theorem RB_put {w : World} {b g cap n : Nat} {l : List Bool} (h : RB w b (.slice (some ⟨g, 0, none⟩) n cap) l) (i : Nat) (x : Bool) : RB (w.setCell ⟨g, i, none⟩ (.bool x)) b (.slice (some ⟨g, 0, none⟩) n cap) (l.set i x) /\ w.grownBy (w.setCell ⟨g, i, none⟩ (.bool x)) (some g) := by
 have := Kd.R_putg h (i : Int) x
 rw [Int.toNat_natCast] at this
 exact this
theorem RB_over {W w1 : World} {b b' : Nat} {u v : Value} {S : List Bool} {T : List Int} (h : RB W b u S) (hv : RI W b' v T) (hg : W.grownBy w1 v.ownBlock) : RB w1 b u S := Kd.R_over h hv (by decide) hg
theorem RI_over {W w1 : World} {b b' : Nat} {u v : Value} {S : List Bool} {T : List Int} (h : RI W b v T) (hu : RB W b' u S) (hg : W.grownBy w1 u.ownBlock) : RI w1 b v T := Kd.R_over h hu (by decide) hg
set_option maxRecDepth 100000 in
set_option maxHeartbeats 8000000 in
theorem rknown_any (g : Gv) (G : Gr) (w : World) (h : GAt w g G) (bd : G.Bd) (fb : FrBd G) (R : Rng G) (hM : (initP G).length + allPs G <= 4194304) :
  Calls Tryd.prog 85 #[gval g G] w fun e w' => e = .returned (.bool (knownB G)) /\ Below w.heap.size w w' := by
 have hn := bd.n
 obtain ⟨A0, A1, A2, A3, A4, c0, c1, c2, c3, c4⟩ := g
 have BX := boxed h
 unfold gval gcells
 unfold gcells at BX
 simp only at BX ⊢
 go_enter Tryd.func85, Tryd.ntmps85
 go_upto_region 1 with fail
 generalize w.alloc _ = wA at *
 obtain ⟨hX, hB, lA, hA⟩ := BX
 obtain ⟨cA, fA⟩ := blk_at hX
 have hI : (slotsP G.slots).length + G.hands.length + G.queue.length + G.reg.length <= 4194304 := by
  unfold initP at hM
  simp only [List.length_append] at hM
  omega
 have hnm := bd.m
 go_wp2_with fail
 go_loopw [3, 4] (fun v3 tv wx => ∃ (t : Nat) (pre : List Int), t <= G.slots.length /\ tv = .int .i64 t /\ pre ++ slotsP (G.slots.drop t) = slotsP G.slots /\ RI wx wA.heap.size v3 pre /\ Below wA.heap.size wA wx) (fun _ tv _ => G.slots.length - (intOf tv).toNat)
 case atStart => exact ⟨0, [], by omega, rfl, rfl, RI_nil _ _, Below.refl _ _⟩
 case round =>
  clear cA fA
  obtain ⟨t, pre, ht, rfl, hpre, hR, hbr⟩ := hrel
  obtain ⟨cA, fA⟩ := blk_at (box_keep hX hbr)
  by_cases hlt : t < G.slots.length
  ·have dlt : decide ((t : Int) < (G.slots.length : Int)) = true := decide_eq_true (by omega)
   have t0 : (0 : Int) <= (t : Int) := by omega
   have t1 : (t : Int) < (G.slots.length : Int) := by omega
   have hm := fb _ (getD_mem [] hlt)
   have es : slotsP (G.slots.drop t) = (G.slots.getD t []).flatten ++ slotsP (G.slots.drop (t + 1)) := by rw [drop_cons [] hlt]; rfl
   rw [es, <- List.append_assoc] at hpre
   obtain ⟨ad1, B1, b1, e1, hcA, hl1, hC1⟩ := sl_at hA.r1 t hlt
   simp only at e1
   subst e1
   have HC := Lib.hid hcA
   clear hcA
   generalize G.slots.getD t [] = fr at *
   obtain ⟨m1, m2, m3⟩ := hm
   have hpl : (pre ++ fr.flatten).length <= 4194304 := by
    have := congrArg List.length hpre
    rw [List.length_append] at this
    omega
   have HP := Lib.hid hpre
   clear hpre es
   go_wp2_with fail
   go_loopw [3, 5] (fun v3 fv wx => ∃ (f : Nat) (mid : List Int), f <= fr.length /\ fv = .int .i64 f /\ mid ++ (fr.drop f).flatten = pre ++ fr.flatten /\ RI wx wA.heap.size v3 mid /\ Below wA.heap.size wA wx) (fun _ fv _ => fr.length - (intOf fv).toNat)
   case atStart => exact ⟨0, pre, by omega, rfl, rfl, hR, hbr⟩
   case round =>
    clear cA fA hR hbr
    obtain ⟨f, mid, hf, rfl, hmid, hR, hbr⟩ := hrel
    obtain ⟨cA, fA⟩ := blk_at (box_keep hX hbr)
    have hc1 := cell_later hbr HC.out
    by_cases hlf : f < fr.length
    ·have dlf : decide ((f : Int) < (fr.length : Int)) = true := decide_eq_true (by omega)
     have f0 : (0 : Int) <= (f : Int) := by omega
     have f1 : (f : Int) < (fr.length : Int) := by omega
     obtain ⟨ad2, B2, b2, rfl, hcB, hl2, hC2⟩ := sl_at hC1 f hlf
     have hc2 := cell_later hbr hcB
     have hC3 := Kd.C_below hC2 hbr
     rw [drop_cons [] hlf, flat_cons, <- List.append_assoc] at hmid
     have hq := m3 _ (getD_mem [] hlf)
     generalize fr.getD f [] = l at *
     have hml : (mid ++ l).length <= 4194304 := by
      have := congrArg List.length hmid
      rw [List.length_append] at this
      omega
     rw [List.length_append] at hml
     have HM := Lib.hid hmid
     clear hmid
     go_wp2_with (at_builtin; go_loud (refine app_ints (w0 := wA) wA.heap.size rfl _ _ rfl u3 _ l B2 b2 rfl rfl hR hC3 hbr ?h2 ?h3 ?_); (case h2 => exact hbr.size); (case h3 => omega); intro v1 w1 hR1 hb1 hg1 hat1; clear hg1 hat1)
     go_roundw
     case rel => exact ⟨f + 1, mid ++ l, by omega, by go_num, HM.out, hR1, hb1⟩
     case measure => simp [intOf]; omega
    ·have dlf : decide ((f : Int) < (fr.length : Int)) = false := decide_eq_false (by omega)
     rw [List.drop_of_length_le (by omega), List.flatten_nil, List.append_nil] at hmid
     have HN := Lib.hid (show mid ++ slotsP (G.slots.drop (t + 1)) = slotsP G.slots by rw [hmid]; exact HP.out)
     clear hmid
     go_wp2_with fail
     go_roundw
     case rel => exact ⟨t + 1, mid, by omega, by go_num, HN.out, hR, hbr⟩
     case measure => simp [intOf]; omega
  ·have dlt : decide ((t : Int) < (G.slots.length : Int)) = false := decide_eq_false (by omega)
   rw [List.drop_of_length_le (by omega)] at hpre
   simp only [slotsP, List.map_nil, List.flatten_nil, List.append_nil] at hpre
   have hpre' : pre = slotsP G.slots := hpre
   subst hpre'
   clear hpre
   have r2 := hA.r2
   have r3 := hA.r3
   have r4 := hA.r4
   simp only at r2 r3 r4
   have q2 := Kd.C_below r2 hbr
   go_upto_region 10 with (at_builtin; refine app_ints (w0 := wA) wA.heap.size rfl _ _ rfl u3 _ G.hands A2 c2 rfl rfl hR q2 hbr ?h2 ?h3 ?_; (case h2 => exact hbr.size); (case h3 => (try simp only [List.length_append]); omega); intro v1 w1 hR1 hb1 hg1 hat1; clear hg1 hat1)
   clear cA fA hR hbr q2
   obtain ⟨cA, fA⟩ := blk_at (box_keep hX hb1)
   have q4 := Kd.C_below r4 hb1
   go_upto_region 11 with (at_builtin; refine app_ints (w0 := wA) wA.heap.size rfl _ _ rfl v1 _ G.queue A4 c4 rfl rfl hR1 q4 hb1 ?h2 ?h3 ?_; (case h2 => exact hb1.size); (case h3 => (try simp only [List.length_append]); omega); intro v2 w2 hR2 hb2 hg2 hat2; clear hg2 hat2)
   clear cA fA hR1 hb1 q4
   obtain ⟨cA, fA⟩ := blk_at (box_keep hX hb2)
   have q3 := Kd.C_below r3 hb2
   go_upto_region 12 with (at_builtin; refine app_ints (w0 := wA) wA.heap.size rfl _ _ rfl v2 _ G.reg A3 c3 rfl rfl hR2 q3 hb2 ?h2 ?h3 ?_; (case h2 => exact hb2.size); (case h3 => (try simp only [List.length_append]); omega); intro v3 w3 hR3 hb3 hg3 hat3; clear hg3 hat3)
   clear cA fA hR2 hb2 q3 r2 r3 r4
   obtain ⟨cA, fA⟩ := blk_at (box_keep hX hb3)
   go_upto_region 13 with (refine make_bools (w0 := wA) wA.heap.size rfl rfl _ _ rfl (G.obs.length + 1) rfl rfl ?h1 hb3 hb3.size ?_; (case h1 => omega); intro v4 w4 hS hb4 hg4 hat4)
   have hT : RI w4 wA.heap.size v3 (initP G) := Kd.R_grown hR3 hg4 (fun k _ => by simp)
   obtain ⟨gS, cS, rfl, gS0, gS1⟩ := RB_form hS (by simp)
   simp only [List.length_replicate] at hS ⊢
   have hK := RK.start G
   clear hg4 hat4 hR3 hb3 cA fA
   go_wp2_with fail
   go_loopw [3, 7, 8] (fun v3 nv iv wx => ∃ (i : Nat) (T : List Int) (S : List Bool) (L : List Int), i <= T.length /\ iv = .int .i64 i /\ nv = .int .i64 (L.length : Nat) /\ RK G i T S L /\ RI wx wA.heap.size v3 T /\ RB wx wA.heap.size (.slice (some ⟨gS, 0, none⟩) (G.obs.length + 1) cS) S /\ Below wA.heap.size wA wx) (fun _ _ iv _ => 4194305 - (intOf iv).toNat)
   case atStart => exact ⟨0, _, _, _, Nat.zero_le _, rfl, rfl, hK, hT, hS, hb4⟩
   case round =>
    clear hK hT hS hb4
    obtain ⟨i, T, S, L, hi, rfl, rfl, hK, hT, hS, hbr⟩ := hrel
    obtain ⟨cA, fA⟩ := blk_at (box_keep hX hbr)
    have hTl := hK.len R
    by_cases hlt : i < T.length
    ·obtain ⟨gT, cT, rfl, gT0, gT1, hcT0⟩ := RI_form hT (by omega)
     obtain ⟨hcT, hfT⟩ := hcT0 i hlt
     have dlt : decide ((i : Int) < (T.length : Int)) = true := decide_eq_true (by omega)
     have i0 : (0 : Int) <= (i : Int) := by omega
     have i1 : (i : Int) < (T.length : Int) := by omega
     have hit := hK.hitT (getD_mem 0 hlt)
     have HO := Lib.hid (hK.old R hlt)
     have HW := Lib.hid (hK.new R hlt)
     clear hcT0 hK
     generalize T.getD i 0 = x at *
     by_cases hx0 : 0 < x
     ·have hxb := (hit hx0).bd R
      obtain ⟨m, rfl⟩ : ∃ m : Nat, x = (m : Int) + 1 := ⟨(x - 1).toNat, by omega⟩
      have em : ((m : Int) + 1).toNat = m + 1 := by omega
      have hm : m < G.obs.length := by omega
      obtain ⟨hcS, hfS⟩ := RB_cell hS (m + 1) (by omega)
      rw [em] at HO HW
      have b0 : (0 : Int) <= (m : Int) + 1 := by omega
      have b1 : (m : Int) + 1 < (G.obs.length : Int) + 1 := by omega
      have d0 : decide ((0 : Int) < (m : Int) + 1) = true := decide_eq_true hx0
      clear hit
      cases hs : S.getD (m + 1) false with
      | true =>
       rw [hs] at hcS
       have HK := Lib.hid (HO.out (.inr hs))
       clear hs
       go_wp2_with fail
       go_roundw
       case rel => exact ⟨i + 1, T, S, L, by omega, by go_num, rfl, HK.out, hT, hS, hbr⟩
       case measure => simp [intOf]; omega
      | false =>
       rw [hs] at hcS
       have HK := Lib.hid (HW.out hx0 hs)
       clear hs
       go_upto_region 20 with fail
       obtain ⟨hS1, hgS⟩ := RB_put hS (m + 1) true
       have hT1 := RI_over hT hS hgS
       have hb1 := hbr.setCell (p := ⟨gS, m + 1, none⟩) gS0 (.bool true)
       generalize wr.setCell ⟨gS, m + 1, none⟩ (.bool true) = w5 at *
       clear cA fA hcT hfT hcS hfS hT hS hgS hbr
       obtain ⟨cA, fA⟩ := blk_at (box_keep hX hb1)
       obtain ⟨ad0, P3, p3, P4, p4, e0, -, -, -, hp3, -, hl3, hC3, -, -⟩ := ob_at hA.r0 m hm
       simp only at e0
       subst e0
       have hcP := cell_later hb1 hp3
       have hCP := Kd.C_below hC3 hb1
       have ew : IntKind.i64.wrap ((m : Int) + 1 - 1) = (m : Int) := by rw [IntKind.wrap_i64]; omega
       have m0 : (0 : Int) <= (m : Int) := by omega
       have m1 : (m : Int) < (G.obs.length : Int) := by omega
       have ep : psOf G ((m : Int) + 1) = (G.obs.getD m default).f3 := by unfold psOf; rw [show ((m : Int) + 1 - 1).toNat = m by omega]
       rw [ep] at HK
       have hq := (bd.i64 _ (getD_mem default hm)).1
       have hLl : L.length <= 4194304 := by have := HK.out.nd; have := nodup_len (n := G.obs.length) this (fun y hy => by have := (HK.out.hit y hy).bd R; omega); simp only [List.length_append, List.length_singleton] at this; omega
       have ewL : IntKind.i64.wrap ((L.length : Int) + 1) = (L.length : Int) + 1 := by rw [IntKind.wrap_i64]; omega
       clear hp3 hC3 ep
       generalize (G.obs.getD m default).f3 = l at *
       go_wp2_with (at_builtin; refine app_ints (w0 := wA) wA.heap.size rfl _ _ rfl (.slice (some ⟨gT, 0, none⟩) T.length cT) _ l P3 p3 rfl rfl hT1 hCP hb1 ?h2 ?h3 ?_; (case h2 => exact hb1.size); (case h3 => omega); intro v6 w6 hT6 hb6 hg6 hat6; have hS6 := RB_over hS1 hT1 hg6; clear hg6 hat6)
       go_roundw
       case rel => exact ⟨i + 1, T ++ l, S.set (m + 1) true, L ++ [(m : Int) + 1], by simp; omega, by go_num, by simp, HK.out, hT6, hS6, hb6⟩
       case measure => simp [intOf]; omega
     ·have d0 : decide ((0 : Int) < x) = false := decide_eq_false hx0
      have HK := Lib.hid (HO.out (.inl hx0))
      clear hx0 hit
      go_wp2_with fail
      go_roundw
      case rel => exact ⟨i + 1, T, S, L, by omega, by go_num, rfl, HK.out, hT, hS, hbr⟩
      case measure => simp [intOf]; omega
    ·have dlt : decide ((i : Int) < (T.length : Int)) = false := decide_eq_false (by omega)
     obtain rfl : i = T.length := by omega
     obtain ⟨AT, CT, rfl, -⟩ := Kd.R_reads hT
     have E := Lib.hid (hK.end R)
     clear hK hTl
     generalize L.length = nL at *
     go_wp2_with fail
     go_ret
     exact ⟨ret_bool (by rw [<- E.out, Bool.eq_iff_iff, beq_iff_eq, decide_eq_true_eq]; omega), hB.trans (hbr.mono (Nat.le_of_lt lA))⟩
end
section
structure Small (G : Gr) : Prop where
 bd : G.Bd
 fr : FrBd G
 m : (initP G).length + allPs G <= 4194304
 hold : (holdP G).length <= 1048576
theorem nums_mem {n : Nat} {a x : Int} {l : List Int} (h : numsB n a l = true) (hx : x ∈ l) : a <= x /\ x <= (n : Int) := by
 have := List.all_eq_true.1 h x hx
 simpa using this
theorem fins_mem {l : List Ob} : ∀ {i : Nat} {x : Int}, x ∈ finsFrom i l -> (i : Int) < x /\ x <= (i + l.length : Nat) := by
 induction l with
 | nil => intro i x h; simp [finsFrom] at h
 | cons o l ih =>
  intro i x h
  unfold finsFrom at h
  split at h
  ·rcases List.mem_cons.1 h with rfl | q
   ·simp; omega
   ·have := ih q; simp at this ⊢; omega
  ·have := ih h; simp at this ⊢; omega
theorem objs_mem {G : Gr} : ∀ {l : List Ob} {last : Int}, objsFrom G last l = true -> ∀ o ∈ l, chk (obHd o) = 0 /\ numsB G.obs.length 0 o.f3 = true := by
 intro l
 induction l with
 | nil => intro _ _ o ho; simp at ho
 | cons x l ih =>
  intro last h o ho
  unfold objsFrom at h
  simp only [Bool.and_eq_true, decide_eq_true_eq] at h
  obtain ⟨⟨⟨⟨_, _⟩, h3⟩, h4⟩, h5⟩ := h
  rcases List.mem_cons.1 ho with rfl | q
  ·exact ⟨h3, h4⟩
  ·exact ih h5 o q
theorem slots_mem {n : Nat} {l : List (List (List Int))} (h : threadsB n l = true) {x : Int} (hx : x ∈ slotsP l) : 0 <= x /\ x <= (n : Int) := by
 unfold slotsP at hx
 obtain ⟨f, hf, hxf⟩ := List.mem_flatten.1 hx
 obtain ⟨fr, hfr, rfl⟩ := List.mem_map.1 hf
 obtain ⟨f2, hf2, hx2⟩ := List.mem_flatten.1 hxf
 have h1 := List.all_eq_true.1 h fr hfr
 simp only [Bool.and_eq_true] at h1
 have h2 := List.all_eq_true.1 h1.1 f2 hf2
 simp only [Bool.and_eq_true] at h2
 exact nums_mem h2.2 hx2
theorem rng_of {G : Gr} (h1 : objsB G = true) (h2 : slotsB G = true) (h3 : listsB G = true) : Rng G := by
 unfold objsB at h1
 unfold slotsB at h2
 unfold listsB at h3
 simp only [Bool.and_eq_true, decide_eq_true_eq] at h1 h2 h3
 refine ⟨fun x hx => ?_, fun o ho y hy => nums_mem (objs_mem h1.2 o ho).2 hy⟩
 unfold initP at hx
 rcases List.mem_append.1 hx with q | q
 ·rcases List.mem_append.1 q with q | q
  ·rcases List.mem_append.1 q with q | q
   ·exact (slots_mem h2.2 q).2
   ·exact (nums_mem h2.1.2 q).2
  ·exact (nums_mem h3.1.2 q).2
 ·rw [<- h3.1.1] at q
  have := (fins_mem q).2
  simpa using this
noncomputable def okB (G : Gr) : Bool := objsB G && slotsB G && listsB G && knownB G
set_option maxRecDepth 100000 in
set_option maxHeartbeats 4000000 in
theorem rcheck16_any (g : Gv) (G : Gr) (w : World) (h : GAt w g G) (s : Small G) :
  Calls Tryd.prog 43 #[gval g G] w fun e w' => e = .returned (.int .i64 (if okB G = true then 0 else 164)) /\ Below w.heap.size w w' := by
 obtain ⟨A0, A1, A2, A3, A4, c0, c1, c2, c3, c4⟩ := g
 have q1 := fun (W : World) (hb : Below w.heap.size w W) => robjects_any ⟨A0, A1, A2, A3, A4, c0, c1, c2, c3, c4⟩ G W (h.below hb) s.bd
 have q2 := fun (W : World) (hb : Below w.heap.size w W) => rslots_any ⟨A0, A1, A2, A3, A4, c0, c1, c2, c3, c4⟩ G W (h.below hb) s.bd s.fr
 have q3 := fun (W : World) (hb : Below w.heap.size w W) => rlists_any ⟨A0, A1, A2, A3, A4, c0, c1, c2, c3, c4⟩ G W (h.below hb) s.bd
 have q4 := fun (R : Rng G) (W : World) (hb : Below w.heap.size w W) => rknown_any ⟨A0, A1, A2, A3, A4, c0, c1, c2, c3, c4⟩ G W (h.below hb) s.bd s.fr R s.m
 have BX := boxed h
 have hrng := Lib.hid (@rng_of G)
 have hok : okB G = (objsB G && slotsB G && listsB G && knownB G) := rfl
 rw [hok]
 clear hok
 unfold gval gcells at *
 simp only at *
 have C1 := Lib.hid q1
 have C2 := Lib.hid q2
 have C3 := Lib.hid q3
 have C4 := Lib.hid q4
 clear q1 q2 q3 q4
 generalize objsB G = b1 at *
 generalize slotsB G = b2 at *
 generalize listsB G = b3 at *
 generalize knownB G = b4 at *
 cases b1 <;> cases b2 <;> cases b3
 case true.true.true =>
  have R := hrng.out rfl rfl rfl
  cases b4
  all_goals
   go_enter Tryd.func43, Tryd.ntmps43
   go_upto_region 1 with fail
   generalize w.alloc _ = wA at *
   obtain ⟨hX, hB, lA, hA⟩ := BX
   obtain ⟨cA, fA⟩ := blk_at hX
   go_wp2_with (first | (go_at_call 82; refine (C1.out _ hB).mono ?_; rintro e w2 ⟨rfl, hb2⟩; have hB2 := hB.trans (hb2.mono hB.size); clear cA fA; obtain ⟨cA, fA⟩ := blk_at (box_keep hX hb2)) | (go_at_call 83; refine (C2.out _ hB2).mono ?_; rintro e w3 ⟨rfl, hb3⟩; have hB3 := hB2.trans (hb3.mono hB2.size); clear cA fA; obtain ⟨cA, fA⟩ := blk_at (box_keep hX (hb2.trans (hb3.mono hb2.size)))) | (go_at_call 84; refine (C3.out _ hB3).mono ?_; rintro e w4 ⟨rfl, hb4⟩; have hB4 := hB3.trans (hb4.mono hB3.size); clear cA fA; obtain ⟨cA, fA⟩ := blk_at (box_keep hX (hb2.trans ((hb3.trans (hb4.mono hb3.size)).mono hb2.size)))) | (go_at_call 85; refine (C4.out R _ hB4).mono ?_; rintro e w5 ⟨rfl, hb5⟩; have hB5 := hB4.trans (hb5.mono hB4.size)))
   go_ret
   exact ⟨rfl, hB5⟩
 all_goals
  go_enter Tryd.func43, Tryd.ntmps43
  go_upto_region 1 with fail
  generalize w.alloc _ = wA at *
  obtain ⟨hX, hB, lA, hA⟩ := BX
  obtain ⟨cA, fA⟩ := blk_at hX
  go_wp2_with (first | (go_at_call 82; refine (C1.out _ hB).mono ?_; rintro e w2 ⟨rfl, hb2⟩; have hB2 := hB.trans (hb2.mono hB.size); clear cA fA; obtain ⟨cA, fA⟩ := blk_at (box_keep hX hb2)) | (go_at_call 83; refine (C2.out _ hB2).mono ?_; rintro e w3 ⟨rfl, hb3⟩; have hB3 := hB2.trans (hb3.mono hB2.size); clear cA fA; obtain ⟨cA, fA⟩ := blk_at (box_keep hX (hb2.trans (hb3.mono hb2.size)))) | (go_at_call 84; refine (C3.out _ hB3).mono ?_; rintro e w4 ⟨rfl, hb4⟩; have hB4 := hB3.trans (hb4.mono hB3.size)))
  go_ret
  first | exact ⟨rfl, hB4⟩ | exact ⟨rfl, hB3⟩ | exact ⟨rfl, hB2⟩
end
section
theorem objsFrom_cons (G : Gr) (last : Int) (o : Ob) (l : List Ob) : objsFrom G last (o :: l) = (decide (last < o.f0) && decide (o.f0 < G.next) && decide (chk (obHd o) = 0) && numsB G.obs.length 0 o.f3 && objsFrom G o.f0 l) := rfl
theorem boxed_any (w : World) (cs : Array Value) (t : TypeId) : (w.alloc (.cells cs t)).heap[w.heap.size]? = some (.cells cs t (0, 0)) /\ Below w.heap.size w (w.alloc (.cells cs t)) :=
 ⟨blk_new w _, (Below.refl w.heap.size w).alloc (Nat.le_refl _) _⟩
set_option maxRecDepth 100000 in
set_option maxHeartbeats 8000000 in
theorem iobjs_loop (g : Gv) (G : Gr) (w : World) (h : GAt w g G) (tb : Tab w) (bd : G.Bd) (h1 : 1 <= G.next) (h2 : G.next <= 4611686018427387905) :
  Calls Tryd.prog 77 #[gval g G] w fun e w' => e = .returned (.bool (objsFrom G 0 G.obs)) /\ Below w.heap.size w w' := by
 have hn := bd.n
 have d1 : decide (G.next < 1) = false := decide_eq_false (by omega)
 have d2 : decide ((4611686018427387905 : Int) < G.next) = false := decide_eq_false (by omega)
 obtain ⟨A0, A1, A2, A3, A4, c0, c1, c2, c3, c4⟩ := g
 have BX := boxed h
 have NC := Lib.hid (fun (A : Option Addr) (c : Nat) (l : List Int) (W : World) (hb : Below w.heap.size w W) (hr : Kd.C (Kd.int .i64) W A l.length l) (hc : l.length <= c) (hl : l.length <= 1048576) => numbers_any ⟨A0, A1, A2, A3, A4, c0, c1, c2, c3, c4⟩ G A c l 0 W (h.below hb) hr hc hl)
 unfold gval gcells at *
 simp only at BX NC ⊢
 go_enter Tryd.func77, Tryd.ntmps77
 go_upto_region 1 with fail
 generalize w.alloc _ = wA at *
 obtain ⟨hX, hB, lA, hA⟩ := BX
 obtain ⟨cA, fA⟩ := blk_at hX
 go_wp2_with fail
 go_loopw [3, 19] (fun lv iv wx => ∃ (i : Nat) (last : Int), i <= G.obs.length /\ iv = .int .i64 i /\ lv = .int .u64 last /\ objsFrom G 0 G.obs = objsFrom G last (G.obs.drop i) /\ Below wA.heap.size wA wx) (fun _ iv _ => G.obs.length - (intOf iv).toNat)
 case atStart => exact ⟨0, 0, by omega, rfl, rfl, rfl, Below.refl _ _⟩
 case round =>
  clear cA fA
  obtain ⟨i, last, hi, rfl, rfl, hrel, hbr⟩ := hrel
  obtain ⟨cA, fA⟩ := blk_at (box_keep hX hbr)
  by_cases hlt : i < G.obs.length
  ·have dlt : decide ((i : Int) < (G.obs.length : Int)) = true := decide_eq_true (by omega)
   have i0 : (0 : Int) <= (i : Int) := by omega
   have i1 : (i : Int) < (G.obs.length : Int) := by omega
   rw [drop_cons default hlt, objsFrom_cons] at hrel
   obtain ⟨ad0, P3, p3, P4, p4, e0, k0, k1, k2, k3, k4, l3, C3, l4, C4⟩ := ob_at hA.r0 i hlt
   simp only at e0
   subst e0
   have hq := (bd.i64 _ (getD_mem default hlt)).1
   generalize G.obs.getD i default = o at *
   have j0 := cell_later hbr k0
   have j1 := cell_later hbr k1
   have j2 := cell_later hbr k2
   have j3 := cell_later hbr k3
   have j4 := cell_later hbr k4
   clear k0 k1 k2 k3 k4
   have HR := Lib.hid hrel
   clear hrel
   obtain ⟨f0, f1, f2, ps, rs⟩ := o
   simp only at *
   have PK := Lib.hid (fun (W : World) (t : Tab W) => pack_any (obHd ⟨f0, f1, f2, ps, rs⟩) W t)
   unfold obHd Hd.val at PK
   simp only at PK
   have hch : chk (obHd ⟨f0, f1, f2, ps, rs⟩) = chk ⟨0, f1, ps.length, rs.length, 0, f2, false⟩ := rfl
   rw [hch] at HR
   clear hch
   generalize chk ⟨0, f1, ps.length, rs.length, 0, f2, false⟩ = c at *
   generalize pack ⟨0, f1, ps.length, rs.length, 0, f2, false⟩ = pk at *
   go_upto_region 7 with fail
   obtain ⟨hO, bO⟩ := boxed_any wr #[.int .u64 f0, .int .i64 f1, .int .i64 f2, .slice P3 ps.length p3, .slice P4 rs.length p4] 59
   generalize wr.alloc (.cells #[.int .u64 f0, .int .i64 f1, .int .i64 f2, .slice P3 ps.length p3, .slice P4 rs.length p4] 59) = wO at *
   have hbO := hbr.trans (bO.mono hbr.size)
   have hBO := hB.trans (hbO.mono (Nat.le_of_lt lA))
   clear cA fA j0 j1 j2 j3 j4
   obtain ⟨cA, fA⟩ := blk_at (box_keep hX hbO)
   obtain ⟨cO, fO⟩ := blk_at hO
   by_cases q1 : f0 <= last
   ·have E := Lib.hid (show objsFrom G 0 G.obs = false by rw [HR.out, show decide (last < f0) = false from decide_eq_false (by omega)]; rfl)
    have d3 : decide (f0 <= last) = true := decide_eq_true q1
    go_wp2_with fail
    go_ret
    exact ⟨by rw [E.out]; rfl, hBO⟩
   have d3 : decide (f0 <= last) = false := decide_eq_false q1
   by_cases q2 : G.next <= f0
   ·have E := Lib.hid (show objsFrom G 0 G.obs = false by rw [HR.out, show decide (f0 < G.next) = false from decide_eq_false (by omega)]; simp)
    have d4 : decide (G.next <= f0) = true := decide_eq_true q2
    go_wp2_with fail
    go_ret
    exact ⟨by rw [E.out]; rfl, hBO⟩
   have d4 : decide (G.next <= f0) = false := decide_eq_false q2
   have tO := tb.below hBO
   by_cases q3 : c = 0
   ·subst q3
    have tO := tb.below hBO
    have hCO := Kd.C_below C3 hbO
    cases q4 : numsB G.obs.length 0 ps with
    | false =>
     have E := Lib.hid (show objsFrom G 0 G.obs = false by rw [HR.out, q4]; simp)
     have NB := Lib.hid (fun (W : World) (hb : Below w.heap.size w W) (hr : Kd.C (Kd.int .i64) W P3 ps.length ps) => NC.out P3 p3 ps W hb hr l3 hq)
     rw [q4] at NB
     clear q4
     go_wp2_with (first | (go_at_call 113; refine (PK.out _ tO).mono ?_; rintro e w3 ⟨rfl, hb3⟩; have hbz := hbO.trans (hb3.mono hbO.size); have hB3 := hBO.trans (hb3.mono hBO.size); have hC3 := Kd.C_below hCO hb3; clear cA fA cO fO; obtain ⟨cA, fA⟩ := blk_at (box_keep hX hbz); obtain ⟨cO, fO⟩ := blk_at (box_keep hO hb3)) | (go_at_call 114; refine (NB.out _ hB3 hC3).mono ?_; rintro e w4 ⟨rfl, hb4⟩))
     go_ret
     exact ⟨by rw [E.out]; rfl, hB3.trans (hb4.mono hB3.size)⟩
    | true =>
     have E := Lib.hid (show objsFrom G 0 G.obs = objsFrom G f0 (G.obs.drop (i + 1)) by rw [HR.out, q4, show decide (last < f0) = true from decide_eq_true (by omega), show decide (f0 < G.next) = true from decide_eq_true (by omega)]; simp)
     have NB := Lib.hid (fun (W : World) (hb : Below w.heap.size w W) (hr : Kd.C (Kd.int .i64) W P3 ps.length ps) => NC.out P3 p3 ps W hb hr l3 hq)
     rw [q4] at NB
     clear q4
     go_wp2_with (first | (go_at_call 113; refine (PK.out _ tO).mono ?_; rintro e w3 ⟨rfl, hb3⟩; have hbz := hbO.trans (hb3.mono hbO.size); have hB3 := hBO.trans (hb3.mono hBO.size); have hC3 := Kd.C_below hCO hb3; clear cA fA cO fO; obtain ⟨cA, fA⟩ := blk_at (box_keep hX hbz); obtain ⟨cO, fO⟩ := blk_at (box_keep hO hb3)) | (go_at_call 114; refine (NB.out _ hB3 hC3).mono ?_; rintro e w4 ⟨rfl, hb4⟩))
     go_roundw
     case rel => exact ⟨i + 1, f0, by omega, by go_num, rfl, E.out, hbz.trans (hb4.mono hbz.size)⟩
     case measure => simp [intOf]; omega
   ·have E := Lib.hid (show objsFrom G 0 G.obs = false by rw [HR.out, show decide (c = 0) = false from decide_eq_false q3]; simp)
    have d5 : (c == 0) = false := by simpa using q3
    go_wp2_with (go_at_call 113; refine (PK.out _ tO).mono ?_; rintro e w3 ⟨rfl, hb3⟩)
    go_ret
    exact ⟨by rw [E.out]; rfl, hBO.trans (hb3.mono hBO.size)⟩
  ·have dlt : decide ((i : Int) < (G.obs.length : Int)) = false := decide_eq_false (by omega)
   rw [List.drop_of_length_le (by omega)] at hrel
   have E := Lib.hid hrel
   clear hrel
   go_wp2_with fail
   go_ret
   exact ⟨by rw [E.out]; rfl, hB.trans (hbr.mono (Nat.le_of_lt lA))⟩
set_option maxRecDepth 100000 in
set_option maxHeartbeats 2000000 in
theorem iobjs_bad (g : Gv) (G : Gr) (w : World) (h : GAt w g G) (hbad : G.next < 1 \/ 4611686018427387905 < G.next) :
  Calls Tryd.prog 77 #[gval g G] w fun e w' => e = .returned (.bool false) /\ Below w.heap.size w w' := by
 obtain ⟨A0, A1, A2, A3, A4, c0, c1, c2, c3, c4⟩ := g
 have BX := boxed h
 unfold gval gcells at *
 simp only at BX ⊢
 by_cases k1 : G.next < 1
 ·have d1 : decide (G.next < 1) = true := decide_eq_true k1
  go_enter Tryd.func77, Tryd.ntmps77
  go_upto_region 1 with fail
  generalize w.alloc _ = wA at *
  obtain ⟨hX, hB, lA, hA⟩ := BX
  obtain ⟨cA, fA⟩ := blk_at hX
  go_wp2_with fail
  go_ret
  exact ⟨rfl, hB⟩
 ·have d1 : decide (G.next < 1) = false := decide_eq_false k1
  have d2 : decide ((4611686018427387905 : Int) < G.next) = true := decide_eq_true (by omega)
  go_enter Tryd.func77, Tryd.ntmps77
  go_upto_region 1 with fail
  generalize w.alloc _ = wA at *
  obtain ⟨hX, hB, lA, hA⟩ := BX
  obtain ⟨cA, fA⟩ := blk_at hX
  go_wp2_with fail
  go_ret
  exact ⟨rfl, hB⟩
theorem iobjects_any (g : Gv) (G : Gr) (w : World) (h : GAt w g G) (tb : Tab w) (bd : G.Bd) :
  Calls Tryd.prog 77 #[gval g G] w fun e w' => e = .returned (.bool (objsB G)) /\ Below w.heap.size w w' := by
 by_cases k : G.next < 1 \/ 4611686018427387905 < G.next
 ·have e : objsB G = false := by
   unfold objsB
   rcases k with k | k
   ·rw [show decide (1 <= G.next) = false from decide_eq_false (by omega)]; rfl
   ·rw [show decide (G.next <= 4611686018427387905) = false from decide_eq_false (by omega)]; simp
  rw [e]
  exact iobjs_bad g G w h k
 ·have e : objsB G = objsFrom G 0 G.obs := by
   unfold objsB
   rw [show decide (1 <= G.next) = true from decide_eq_true (by omega), show decide (G.next <= 4611686018427387905) = true from decide_eq_true (by omega)]; rfl
  rw [e]
  exact iobjs_loop g G w h tb bd (by omega) (by omega)
end
section
structure KsAt (w : World) (B bs bw : Nat) (S : List Bool) (W : List Int) (vS vW : Value) : Prop where
 s : w.heap[bs]? = some (.cells #[vS] 52 (0, 0))
 k : w.heap[bw]? = some (.cells #[vW] 24 (0, 0))
 rs : RB w B vS S
 rw : RI w B vW W
 sB : B <= bs
 kB : B <= bw
def seeStep (p : List Bool × List Int) (n : Int) : List Bool × List Int := if 0 < n /\ p.1.getD n.toNat false = false then (p.1.set n.toNat true, p.2 ++ [n]) else p
theorem KsAt.put {w : World} {B bs bw : Nat} {S : List Bool} {W : List Int} {gS n cS : Nat} {vW : Value} (h : KsAt w B bs bw S W (.slice (some ⟨gS, 0, none⟩) n cS) vW) (i : Nat) :
  KsAt (w.setCell ⟨gS, i, none⟩ (.bool true)) B bs bw (S.set i true) W (.slice (some ⟨gS, 0, none⟩) n cS) vW := by
 obtain ⟨h1, h2⟩ := RB_put h.rs i true
 have n1 : some bs ≠ (Value.slice (some ⟨gS, 0, none⟩) n cS).ownBlock := Kd.R_ne h.rs h.s (by decide)
 have n2 : some bw ≠ (Value.slice (some ⟨gS, 0, none⟩) n cS).ownBlock := Kd.R_ne h.rs h.k (by decide)
 exact ⟨blk_grown h.s h2 n1, blk_grown h.k h2 n2, h1, RI_over h.rw h.rs h2, h.sB, h.kB⟩
theorem KsAt.app {w w1 : World} {B bs bw : Nat} {S : List Bool} {W W1 : List Int} {vS vW v1 : Value} (h : KsAt w B bs bw S W vS vW) (h1 : RI w1 B v1 W1) (hg : w.grownBy w1 vW.ownBlock) : KsAt (w1.setCell ⟨bw, 0, none⟩ v1) B bs bw S W1 vS v1 := by
 have n1 := Kd.R_ne h.rw h.s (by decide)
 have n2 := Kd.R_ne h.rw h.k (by decide)
 have s1 := blk_grown h.s hg n1
 have k1 := blk_grown h.k hg n2
 have ne : bs ≠ bw := blk_ne h.s h.k (by decide)
 refine ⟨blk_far s1 ne _, blk_put k1 0 v1 rfl, ?_, ?_, h.sB, h.kB⟩
 ·exact Kd.R_set (RB_over h.rs h.rw hg) k1 (by decide) 0 v1
 ·exact Kd.R_set h1 k1 (by decide) 0 v1
set_option maxRecDepth 100000 in
set_option maxHeartbeats 8000000 in
theorem see_any (w0 w : World) (B bs bw n : Nat) (S : List Bool) (W : List Int) (vS vW : Value) (A : Option Addr) (c : Nat) (l : List Int) (hK : KsAt w B bs bw S W vS vW) (hS : S.length = n + 1) (hl : Kd.C (Kd.int .i64) w0 A l.length l) (hb : Below B w0 w) (hB : w0.heap.size <= B) (hBw : B <= w.heap.size)
  (hx : ∀ x ∈ l, x <= (n : Int)) (hn : n <= 1048576) (hlen : W.length + l.length <= 16777216) :
  Calls Tryd.prog 116 #[.slice A l.length c, .pointer (some ⟨bs, 0, none⟩), .pointer (some ⟨bw, 0, none⟩)] w fun e w' => e = .returned (.tuple #[]) /\ (∃ vW', KsAt w' B bs bw (l.foldl seeStep (S, W)).1 (l.foldl seeStep (S, W)).2 vS vW') /\ Below B w0 w' := by
 obtain ⟨gS, cS, rfl, gS0, gS1⟩ := RB_form hK.rs (by omega)
 rw [hS] at hK
 have hl63 := Kd.C_max hl
 go_enter Tryd.func116, Tryd.ntmps116
 go_wp2_with fail
 go_loopw [8] (fun iv wx => ∃ (i : Nat) (S' : List Bool) (W' : List Int) (vW' : Value), i <= l.length /\ iv = .int .i64 i /\ (l.drop i).foldl seeStep (S', W') = l.foldl seeStep (S, W) /\ S'.length = n + 1 /\ W'.length <= W.length + i /\ KsAt wx B bs bw S' W' (.slice (some ⟨gS, 0, none⟩) (n + 1) cS) vW' /\ Below B w0 wx) (fun iv _ => l.length - (intOf iv).toNat)
 case atStart => exact ⟨0, S, W, vW, by omega, rfl, rfl, hS, by omega, hK, hb⟩
 case round =>
  clear hK hb
  obtain ⟨i, S', W', vW', hi, rfl, hf, hS', hW', hK, hb⟩ := hrel
  obtain ⟨cs, fs⟩ := blk_at hK.s
  obtain ⟨ck, fk⟩ := blk_at hK.k
  by_cases hlt : i < l.length
  ·have dlt : decide ((i : Int) < (l.length : Int)) = true := decide_eq_true (by omega)
   have i0 : (0 : Int) <= (i : Int) := by omega
   have i1 : (i : Int) < (l.length : Int) := by omega
   obtain ⟨ad, rfl, hc0⟩ := int_at hl i hlt
   have hc := cell_later (hb.mono hB) hc0
   have hxb := hx _ (getD_mem 0 hlt)
   rw [drop_cons 0 hlt, List.foldl_cons] at hf
   clear hc0
   generalize l.getD i 0 = x at *
   have HF := Lib.hid hf
   clear hf
   by_cases hx0 : 0 < x
   ·obtain ⟨m, rfl⟩ : ∃ m : Nat, x = (m : Int) := ⟨x.toNat, by omega⟩
    obtain ⟨hcS, hfS⟩ := RB_cell hK.rs m (by omega)
    have d0 : decide (0 < m) = true := decide_eq_true (by omega)
    have m0 : (0 : Int) <= (m : Int) := by omega
    have m1 : (m : Int) < (n : Int) + 1 := by omega
    have m2 : 0 < m := by omega
    cases hs : S'.getD m false with
    | true =>
     rw [hs] at hcS
     have E : seeStep (S', W') (m : Int) = (S', W') := by unfold seeStep; rw [if_neg]; simp only [Int.toNat_natCast]; rw [hs]; simp
     have HE := Lib.hid (show (l.drop (i + 1)).foldl seeStep (S', W') = l.foldl seeStep (S, W) by rw [<- HF.out, E])
     clear E hs
     go_wp2_with fail
     go_roundw
     case rel => exact ⟨i + 1, S', W', vW', by omega, by go_num, HE.out, hS', by omega, hK, hb⟩
     case measure => simp [intOf]; omega
    | false =>
     rw [hs] at hcS
     have E : seeStep (S', W') (m : Int) = (S'.set m true, W' ++ [(m : Int)]) := by unfold seeStep; rw [if_pos ⟨hx0, by simpa using hs⟩]; rfl
     have HE := Lib.hid (show (l.drop (i + 1)).foldl seeStep (S'.set m true, W' ++ [(m : Int)]) = l.foldl seeStep (S, W) by rw [<- HF.out, E])
     clear E hs
     go_upto_region 5 with fail
     have hK1 := hK.put m
     have hb1 := hb.setCell (p := ⟨gS, m, none⟩) gS0 (.bool true)
     generalize wr.setCell ⟨gS, m, none⟩ (.bool true) = w1 at *
     clear hK hb cs fs ck fk hcS hfS hc
     obtain ⟨cs, fs⟩ := blk_at hK1.s
     obtain ⟨ck, fk⟩ := blk_at hK1.k
     have hkl := blk_lt hK1.k
     have hsz : B <= w1.heap.size := by have := hK1.kB; omega
     go_upto_region 6 with (at_builtin; go_loud (refine app_int (w0 := w0) B rfl _ _ rfl vW' _ (m : Int) rfl rfl hK1.rw hb1 hsz ?h3 ?_); (case h3 => omega); intro v2 w2 hR2 hb2 hg2 hat2; have hK2 := hK1.app hR2 hg2; have k2 := blk_grown hK1.k hg2 (Kd.R_ne hK1.rw hK1.k (by decide)); have hb3 := hb2.setCell (p := ⟨bw, 0, none⟩) hK1.kB v2; clear cs fs ck fk hat2; obtain ⟨ck, fk⟩ := blk_at k2; obtain ⟨g2, c2, rfl, -⟩ := RI_form hR2 (by simp))
     rw [show (W' ++ [(m : Int)]).length = W'.length + 1 by simp] at hK2 hb3
     go_wp2_with fail
     go_roundw
     case rel => exact ⟨i + 1, S'.set m true, W' ++ [(m : Int)], _, by omega, by go_num, HE.out, by simp [hS'], by simp; omega, hK2, hb3⟩
     case measure => simp [intOf]; omega
   ·have d0 : decide ((0 : Int) < x) = false := decide_eq_false hx0
    have E : seeStep (S', W') x = (S', W') := by unfold seeStep; rw [if_neg (by omega)]
    have HE := Lib.hid (show (l.drop (i + 1)).foldl seeStep (S', W') = l.foldl seeStep (S, W) by rw [<- HF.out, E])
    clear E
    go_wp2_with fail
    go_roundw
    case rel => exact ⟨i + 1, S', W', vW', by omega, by go_num, HE.out, hS', by omega, hK, hb⟩
    case measure => simp [intOf]; omega
  ·have dlt : decide ((i : Int) < (l.length : Int)) = false := decide_eq_false (by omega)
   rw [List.drop_of_length_le (by omega), List.foldl_nil] at hf
   have HF := Lib.hid hf
   clear hf
   go_wp2_with fail
   go_end0
   rw [<- HF.out]
   exact ⟨rfl, ⟨vW', by rw [hS]; exact hK⟩, hb⟩
end
end Go.Proofs.YtogpgkoelplknaaDoor
end
