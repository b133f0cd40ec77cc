/- Merged texts: ArenaP, ArenaW1, ArenaW2, ArenaW3, ArenaW4, ArenaW5, ArenaW6. -/
import Derived.Test.YtomgfdfgildkbaaDoorGa
import Derived.Test.YtomgfdfgildkbaaDoorProg
import Derived.WalkKit
import Derived.ProofKit
import Derived.Deep.QuietTactic
import Derived.BigQuiet
import Derived.WalkSpells
import Derived.Lib.Hide
import Derived.Deep.DeepCutAuto
import Derived.StillTailTactics
import Derived.Lib.SliceRun
/- Plain words for the arena layer: an arena as numbers and a list of words; how it lies in memory. No condition. -/

namespace Go.Proofs.YtomgfdfgildkbaaDoor
open Go.RowKit

structure Cfg where
  eden : Int
  surv : Int
  ten : Int
  large : Int
  floor : Int
  num : Int
  den : Int
  target : Int
  maxAge : Int
  threads : Int
  slots : Int
  handles : Int
  buffer : Int
  workers : Int

def Cfg.cells (c : Cfg) : Array Value := #[.int .i64 c.eden, .int .i64 c.surv, .int .i64 c.ten, .int .i64 c.large, .int .i64 c.floor, .int .i64 c.num, .int .i64 c.den, .int .i64 c.target, .int .i64 c.maxAge, .int .i64 c.threads, .int .i64 c.slots, .int .i64 c.handles, .int .i64 c.buffer, .int .i64 c.workers]
def Cfg.val (c : Cfg) : Value := .agg c.cells

def inB (n lo hi : Int) : Bool := decide (lo ≤ n ∧ n ≤ hi)
def Cfg.v1 (c : Cfg) : Bool := inB c.eden 64 65536 && inB c.surv 64 65536 && inB c.ten 64 65536
def Cfg.v2 (c : Cfg) : Bool := inB c.large 2 65536 && inB c.floor 0 65536 && inB c.den 1 65536 && inB c.num c.den 65536
def Cfg.v3 (c : Cfg) : Bool := inB c.target 1 100 && inB c.maxAge 1 15
def Cfg.v4 (c : Cfg) : Bool := inB c.threads 1 8 && inB c.slots 1 4096 && inB c.handles 0 1024
def Cfg.valid (c : Cfg) : Bool := c.v1 && c.v2 && c.v3 && c.v4 && inB c.buffer 0 c.eden && inB c.workers 1 8

/-- An arena: its configuration, its words, the four tops, the from space. -/
structure Ar where
  cfg : Cfg
  words : List Int
  t1 : Int
  t2 : Int
  t3 : Int
  t4 : Int
  frm : Int

def Cfg.size (c : Cfg) : Int := 1 + c.eden + c.surv + c.surv + c.ten
def Ar.first (A : Ar) (s : Int) : Int := if s = 1 then 1 else if s = 2 then 1 + A.cfg.eden else if s = 3 then 1 + A.cfg.eden + A.cfg.surv else if s = 4 then 1 + A.cfg.eden + A.cfg.surv + A.cfg.surv else 0
def Ar.behind (A : Ar) (s : Int) : Int := if s = 1 then 1 + A.cfg.eden else if s = 2 then 1 + A.cfg.eden + A.cfg.surv else if s = 3 then 1 + A.cfg.eden + A.cfg.surv + A.cfg.surv else if s = 4 then 1 + A.cfg.eden + A.cfg.surv + A.cfg.surv + A.cfg.ten else 0
def Ar.top (A : Ar) (s : Int) : Int := if s = 1 then A.t1 else if s = 2 then A.t2 else if s = 3 then A.t3 else if s = 4 then A.t4 else 0
def Ar.setTop (A : Ar) (s v : Int) : Ar := if s = 1 then { A with t1 := v } else if s = 2 then { A with t2 := v } else if s = 3 then { A with t3 := v } else if s = 4 then { A with t4 := v } else A
def Ar.free (A : Ar) (s : Int) : Int := A.behind s - A.top s
def Ar.word (A : Ar) (i : Int) : Int := if 0 ≤ i then A.words.getD i.toNat 0 else 0
def Ar.put (A : Ar) (i v : Int) : Ar := { A with words := A.words.set i.toNat v }
def isSp (s : Int) : Bool := decide (1 ≤ s ∧ s ≤ 4)
def Ar.new (c : Cfg) : Ar := ⟨c, List.replicate c.size.toNat 0, 1, 1 + c.eden, 1 + c.eden + c.surv, 1 + c.eden + c.surv + c.surv, 2⟩
def Ar.to (A : Ar) : Int := 5 - A.frm

/-- What holds of every arena. -/
structure Ar.Ok (A : Ar) : Prop where
  cv : A.cfg.valid = true
  len : (A.words.length : Int) = A.cfg.size
  rng : ∀ x ∈ A.words, 0 ≤ x ∧ x < 18446744073709551616
  a1 : 1 ≤ A.t1
  b1 : A.t1 ≤ 1 + A.cfg.eden
  a2 : 1 + A.cfg.eden ≤ A.t2
  b2 : A.t2 ≤ 1 + A.cfg.eden + A.cfg.surv
  a3 : 1 + A.cfg.eden + A.cfg.surv ≤ A.t3
  b3 : A.t3 ≤ 1 + A.cfg.eden + A.cfg.surv + A.cfg.surv
  a4 : 1 + A.cfg.eden + A.cfg.surv + A.cfg.surv ≤ A.t4
  b4 : A.t4 ≤ 1 + A.cfg.eden + A.cfg.surv + A.cfg.surv + A.cfg.ten
  fr : A.frm = 2 ∨ A.frm = 3

structure Cfg.Bd (c : Cfg) : Prop where
  e0 : 64 ≤ c.eden
  e1 : c.eden ≤ 65536
  s0 : 64 ≤ c.surv
  s1 : c.surv ≤ 65536
  t0 : 64 ≤ c.ten
  t1 : c.ten ≤ 65536
theorem Cfg.bd {c : Cfg} (h : c.valid = true) : c.Bd := by
  simp only [Cfg.valid, Cfg.v1, inB, Bool.and_eq_true, decide_eq_true_eq] at h
  constructor <;> omega

/-- How an arena lies in memory: its struct in block b, its words in block wb. -/
def arCells (A : Ar) (wb : Nat) : Array Value :=
  #[.int .i64 A.cfg.eden, .int .i64 A.cfg.surv, .int .i64 A.cfg.ten, .int .i64 A.cfg.large, .int .i64 A.cfg.floor, .int .i64 A.cfg.num, .int .i64 A.cfg.den, .int .i64 A.cfg.target, .int .i64 A.cfg.maxAge, .int .i64 A.cfg.threads, .int .i64 A.cfg.slots, .int .i64 A.cfg.handles, .int .i64 A.cfg.buffer, .int .i64 A.cfg.workers,
    .slice (some ⟨wb, 0, none⟩) A.words.length A.words.length,
    .int .i64 0, .int .i64 0, .int .i64 0,
    .int .i64 1, .int .i64 (1 + A.cfg.eden), .int .i64 A.t1,
    .int .i64 (1 + A.cfg.eden), .int .i64 (1 + A.cfg.eden + A.cfg.surv), .int .i64 A.t2,
    .int .i64 (1 + A.cfg.eden + A.cfg.surv), .int .i64 (1 + A.cfg.eden + A.cfg.surv + A.cfg.surv), .int .i64 A.t3,
    .int .i64 (1 + A.cfg.eden + A.cfg.surv + A.cfg.surv), .int .i64 (1 + A.cfg.eden + A.cfg.surv + A.cfg.surv + A.cfg.ten), .int .i64 A.t4,
    .int .i64 A.frm]
def u64s (l : List Int) : Array Value := (l.map (Value.int .u64)).toArray
structure ArAt (w : World) (b wb : Nat) (A : Ar) : Prop where
  st : w.heap[b]? = some (.cells (arCells A wb) 125 (0, 0))
  ws : w.heap[wb]? = some (.cells (u64s A.words) 22 (0, 0))
  ne : b ≠ wb
theorem lt_of_heap {w : World} {b : Nat} {o : Obj} (h : w.heap[b]? = some o) : b < w.heap.size := (Array.getElem?_eq_some_iff.1 h).1
theorem ArAt.below {w w' : World} {b wb : Nat} {A : Ar} (h : ArAt w b wb A) (hb : Below w.heap.size w w') : ArAt w' b wb A :=
  ⟨(hb.block _ (lt_of_heap h.st)).trans h.st, (hb.block _ (lt_of_heap h.ws)).trans h.ws, h.ne⟩

/-- Of what was there nothing has turned but the blocks of S. -/
structure Only (S : List Nat) (w w' : World) : Prop where
  os : w'.os = w.os
  tape : w'.tape = w.tape
  output : w'.output = w.output
  size : w.heap.size ≤ w'.heap.size
  block : ∀ k, k < w.heap.size → k ∉ S → w'.heap[k]? = w.heap[k]?
theorem Only.of_below {S : List Nat} {w w' : World} (h : Below w.heap.size w w') : Only S w w' := ⟨h.os, h.tape, h.output, h.size, fun k hk _ => h.block k hk⟩
theorem Only.refl (S : List Nat) (w : World) : Only S w w := ⟨rfl, rfl, rfl, Nat.le_refl _, fun _ _ _ => rfl⟩
theorem Only.trans {S : List Nat} {a b c : World} (h : Only S a b) (k : Only S b c) : Only S a c :=
  ⟨k.os.trans h.os, k.tape.trans h.tape, k.output.trans h.output, Nat.le_trans h.size k.size, fun i hi hn => (k.block i (Nat.lt_of_lt_of_le hi h.size) hn).trans (h.block i hi hn)⟩
theorem Only.below {S : List Nat} {w w' : World} {B : Nat} (h : Only S w w') (hB : B ≤ w.heap.size) (hS : ∀ k ∈ S, B ≤ k) : Below B w w' :=
  ⟨h.os, h.tape, h.output, h.size, fun k hk => h.block k (by omega) (fun hm => by have := hS k hm; omega)⟩
theorem Only.mono {S T : List Nat} {w w' : World} (h : Only S w w') (hS : ∀ k ∈ S, k ∈ T) : Only T w w' :=
  ⟨h.os, h.tape, h.output, h.size, fun k hk hn => h.block k hk (fun hm => hn (hS k hm))⟩
theorem Only.setCell {S : List Nat} {a w : World} (h : Only S a w) {p : Addr} (hp : p.block ∈ S) (u : Value) : Only S a (w.setCell p u) :=
  h.trans ⟨rfl, rfl, rfl, by simp [World.setCell], fun k _ hn => Below.heap_setCell _ _ _ _ (fun e => hn (e ▸ hp))⟩
theorem Only.alloc {S : List Nat} {a w : World} (h : Only S a w) (o : Obj) : Only S a (w.alloc o) :=
  h.trans ⟨rfl, rfl, rfl, by simp, fun k hk _ => Below.heap_alloc _ _ _ hk⟩
theorem Only.drewN {S : List Nat} {a w : World} (h : Only S a w) (n : Nat) : Only S a (w.drewN n) := ⟨h.os, h.tape, h.output, h.size, h.block⟩
theorem Only.drew {S : List Nat} {a w : World} (h : Only S a w) : Only S a w.drew := ⟨h.os, h.tape, h.output, h.size, h.block⟩
theorem Only.setRow {S : List Nat} {a w : World} (h : Only S a w) {g : Nat} (hp : g ∈ S) (cs : Array Value) : Only S a (w.setRow g cs) :=
  h.trans ⟨rfl, rfl, rfl, by simp, fun k _ hn => setRow_other _ _ _ _ (fun e => hn (e ▸ hp))⟩
theorem block_set {w : World} {b : Nat} {c : Array Value} {t : TypeId} (h : w.heap[b]? = some (.cells c t (0, 0))) (o : Nat) (v : Value) : (w.setCell ⟨b, o, none⟩ v).heap[b]? = some (.cells (c.setIfInBounds o v) t (0, 0)) := by
  simp [World.setCell, Array.getElem?_modify, h]
theorem block_set_ne {w : World} {b k o : Nat} {v : Value} (h : k ≠ b) : (w.setCell ⟨b, o, none⟩ v).heap[k]? = w.heap[k]? := Below.heap_setCell _ _ _ _ h
theorem u64s_size (l : List Int) : (u64s l).size = l.length := by simp [u64s]
theorem u64s_get {l : List Int} {i : Nat} (h : i < l.length) : (u64s l)[i]? = some (.int .u64 (l.getD i 0)) := by simp [u64s, h]
theorem u64s_set (l : List Int) (i : Nat) (v : Int) : (u64s l).setIfInBounds i (.int .u64 v) = u64s (l.set i v) := by
  apply Array.ext_getElem?
  intro j
  simp only [u64s, Array.getElem?_setIfInBounds, List.getElem?_toArray, List.size_toArray, List.length_map, List.getElem?_map, List.getElem?_set]
  by_cases h : i = j <;> simp [h]
theorem heap_one (w : World) (A : Obj) : (w.alloc A).heap[w.heap.size]? = some A := by show (w.heap.push _)[w.heap.size]? = _; simp
theorem heap_two (w : World) (A B : Obj) : ((w.alloc A).alloc B).heap[w.heap.size]? = some A ∧ ((w.alloc A).alloc B).heap[w.heap.size + 1]? = some B := by
  constructor
  · rw [Below.heap_alloc _ _ _ (by simp)]; exact heap_one w A
  · have := heap_one (w.alloc A) B; simpa using this
/-- The space in which an address lies. -/
def Ar.space (A : Ar) (i : Int) : Int :=
  if i < 1 then 0 else if i < 1 + A.cfg.eden then 1 else if i < 1 + A.cfg.eden + A.cfg.surv then 2 else if i < 1 + A.cfg.eden + A.cfg.surv + A.cfg.surv then 3
  else if i < 1 + A.cfg.eden + A.cfg.surv + A.cfg.surv + A.cfg.ten then 4 else 0
def Ar.young (A : Ar) (i : Int) : Bool := decide (A.space i = 1 ∨ A.space i = A.frm)
def zeroAt (l : List Int) (o n : Nat) : List Int := l.take o ++ List.replicate n 0 ++ l.drop (o + n)
/-- n words taken at the top of the space s. -/
def Ar.take (A : Ar) (s n : Int) : Ar := ({ A with words := zeroAt A.words (A.top s).toNat n.toNat } : Ar).setTop s (A.top s + n)
theorem zeroAt_length {l : List Int} {o n : Nat} (h : o + n ≤ l.length) : (zeroAt l o n).length = l.length := by simp [zeroAt]; omega
theorem zeroAt_mem {l : List Int} {o n : Nat} {x : Int} (h : x ∈ zeroAt l o n) : x = 0 ∨ x ∈ l := by
  simp only [zeroAt, List.mem_append, List.mem_replicate] at h
  rcases h with (h | h) | h
  · exact .inr (List.mem_of_mem_take h)
  · exact .inl h.2
  · exact .inr (List.mem_of_mem_drop h)
theorem quiet_mine {P : Program} {f : FuncId} {args : Array Value} {w : World} {n : Nat} {v : Value} (h : Calls P f args (w.drewN n) fun e w' => e = .returned v ∧ w.drewN n = w') : Calls P f args (w.drewN n) fun e w'' => e = .returned v ∧ ∃ m, w'' = w.drewN m :=
  h.mono fun _ _ ⟨he, hm⟩ => ⟨he, n, hm.symm⟩
/-- Does an object stand at an address? Its header, its words. -/
def Ar.osz (A : Ar) (i : Int) : Int := 2 + (dec (A.word i)).ptrs + (dec (A.word i)).raws
def Ar.isObj (A : Ar) (i : Int) : Bool := decide (A.space i ≠ 0) && decide (i < A.top (A.space i)) && isHd (A.word i) && decide (A.osz i ≤ A.top (A.space i) - i)
def Ar.hd (A : Ar) (i : Int) : Hd := if A.isObj i then { dec (A.word i) with ser := A.word (i + 1) } else nohd
def Ar.osl (A : Ar) (wb : Nat) (i : Int) : Value := if A.isObj i then .slice (some ⟨wb, i.toNat, none⟩) (A.osz i).toNat (A.osz i).toNat else .slice none 0 0
theorem Ar.Ok.word {A : Ar} (ok : A.Ok) (i : Int) : 0 ≤ A.word i ∧ A.word i < 18446744073709551616 := by
  unfold Ar.word
  split
  · rw [List.getD_eq_getElem?_getD]
    by_cases c : i.toNat < A.words.length
    · rw [List.getElem?_eq_getElem c]
      exact ok.rng _ (List.getElem_mem c)
    · rw [List.getElem?_eq_none (by omega)]; decide
  · decide
theorem Ar.space_bd {A : Ar} (ok : A.Ok) {i : Int} (h : A.space i ≠ 0) : (A.space i = 1 ∨ A.space i = 2 ∨ A.space i = 3 ∨ A.space i = 4) ∧ A.first (A.space i) ≤ i ∧ i < A.behind (A.space i) ∧ 1 ≤ i ∧ i < (A.words.length : Int) := by
  have len := ok.len
  obtain ⟨e0, e1, s0, s1, t0, t1⟩ := Cfg.bd ok.cv
  unfold Ar.space at *
  unfold Cfg.size at len
  by_cases c0 : i < 1
  · simp [c0] at h
  by_cases c1 : i < 1 + A.cfg.eden
  · simp [c0, c1, Ar.first, Ar.behind]; omega
  by_cases c2 : i < 1 + A.cfg.eden + A.cfg.surv
  · simp [c0, c1, c2, Ar.first, Ar.behind]; omega
  by_cases c3 : i < 1 + A.cfg.eden + A.cfg.surv + A.cfg.surv
  · simp [c0, c1, c2, c3, Ar.first, Ar.behind]; omega
  by_cases c4 : i < 1 + A.cfg.eden + A.cfg.surv + A.cfg.surv + A.cfg.ten
  · simp [c0, c1, c2, c3, c4, Ar.first, Ar.behind]; omega
  · simp [c0, c1, c2, c3, c4] at h
theorem Ar.osz_bd {A : Ar} {i : Int} (h : isHd (A.word i) = true) : 2 ≤ A.osz i ∧ A.osz i ≤ 69632 := by
  have f := (chk_iff (dec (A.word i))).1 (by unfold isHd at h; simp at h; exact h.2)
  have := f.p0; have := f.p1; have := f.r0; have := f.r1
  unfold Ar.osz; omega
end Go.Proofs.YtomgfdfgildkbaaDoor
/- The walks of package arena, first part: which configurations may be; an arena made. -/









namespace Go.Proofs.YtomgfdfgildkbaaDoor
open Go.RowKit Go.BigFrame

theorem within_any (n lo hi : Int) (w : World) : Calls Tryd.prog 90 #[.int .i64 n, .int .i64 lo, .int .i64 hi] w fun e w' => e = .returned (.bool (inB n lo hi)) ∧ w = w' := by
  unfold inB
  by_cases h : lo ≤ n
  · by_cases h2 : n ≤ hi
    · rw [decide_eq_true ⟨h, h2⟩]
      go_enter Tryd.func90, Tryd.ntmps90
      go_wp2
      go_ret
      exact ⟨rfl, rfl⟩
    · rw [decide_eq_false (fun x => h2 x.2)]
      have h3 : hi < n := by omega
      have h4 : decide (n ≤ hi) = false := decide_eq_false h2
      clear h2
      go_enter Tryd.func90, Tryd.ntmps90
      go_wp2
      go_ret
      exact ⟨rfl, rfl⟩
  · rw [decide_eq_false (fun x => h x.1)]
    have h3 : n < lo := by omega
    have h4 : decide (lo ≤ n) = false := decide_eq_false h
    clear h
    go_enter Tryd.func90, Tryd.ntmps90
    go_wp2
    go_ret
    exact ⟨rfl, rfl⟩

set_option maxHeartbeats 1000000 in
theorem valid_any (c : Cfg) (w : World) : Calls Tryd.prog 42 #[c.val] w fun e w' => e = .returned (.bool c.valid) ∧ Below w.heap.size w w' := by
  obtain ⟨eden, surv, ten, large, floor, num, den, target, maxAge, threads, slots, handles, buffer, workers⟩ := c
  have W := Lib.hid (fun n lo hi w => within_any n lo hi w)
  unfold Cfg.val Cfg.cells Cfg.valid Cfg.v1 Cfg.v2 Cfg.v3 Cfg.v4
  simp only
  go_enter Tryd.func42, Tryd.ntmps42
  go_upto_region 1 with fail
  go_cut [3] (fun s wx => s = .bool (inB eden 64 65536 && inB surv 64 65536 && inB ten 64 65536) ∧ wx = w.alloc (Obj.cells #[Value.int .i64 eden, Value.int .i64 surv, Value.int .i64 ten, Value.int .i64 large, Value.int .i64 floor, Value.int .i64 num, Value.int .i64 den, Value.int .i64 target, Value.int .i64 maxAge, Value.int .i64 threads, Value.int .i64 slots, Value.int .i64 handles, Value.int .i64 buffer, Value.int .i64 workers] 45))
  case first =>
    have D : (inB eden 64 65536) = false ∨ (inB eden 64 65536) = true ∧ (inB surv 64 65536) = false ∨ (inB eden 64 65536) = true ∧ (inB surv 64 65536) = true ∧ (inB ten 64 65536) = false ∨ (inB eden 64 65536) = true ∧ (inB surv 64 65536) = true ∧ (inB ten 64 65536) = true := by cases (inB eden 64 65536) <;> cases (inB surv 64 65536) <;> cases (inB ten 64 65536) <;> simp
    rcases D with h0 | ⟨h0, h1⟩ | ⟨h0, h1, h2⟩ | ⟨h0, h1, h2⟩
    all_goals
      go_wp2_with (go_at_call 90; refine (W.out _ _ _ _).mono ?_; rintro e w' ⟨rfl, rfl⟩)
      go_meet
      exact ⟨by simp [*], rfl⟩
  obtain ⟨rfl, rfl⟩ := hcut
  generalize hq1 : (inB eden 64 65536 && inB surv 64 65536 && inB ten 64 65536) = q1 at *
  have HQ1 := Lib.hid hq1; clear hq1
  go_upto_region 2 with fail
  go_cut [4] (fun s wx => s = .bool (inB large 2 65536 && inB floor 0 65536 && inB den 1 65536 && inB num den 65536) ∧ wx = w.alloc (Obj.cells #[Value.int .i64 eden, Value.int .i64 surv, Value.int .i64 ten, Value.int .i64 large, Value.int .i64 floor, Value.int .i64 num, Value.int .i64 den, Value.int .i64 target, Value.int .i64 maxAge, Value.int .i64 threads, Value.int .i64 slots, Value.int .i64 handles, Value.int .i64 buffer, Value.int .i64 workers] 45))
  case first =>
    have D : (inB large 2 65536) = false ∨ (inB large 2 65536) = true ∧ (inB floor 0 65536) = false ∨ (inB large 2 65536) = true ∧ (inB floor 0 65536) = true ∧ (inB den 1 65536) = false ∨ (inB large 2 65536) = true ∧ (inB floor 0 65536) = true ∧ (inB den 1 65536) = true ∧ (inB num den 65536) = false ∨ (inB large 2 65536) = true ∧ (inB floor 0 65536) = true ∧ (inB den 1 65536) = true ∧ (inB num den 65536) = true := by cases (inB large 2 65536) <;> cases (inB floor 0 65536) <;> cases (inB den 1 65536) <;> cases (inB num den 65536) <;> simp
    rcases D with h0 | ⟨h0, h1⟩ | ⟨h0, h1, h2⟩ | ⟨h0, h1, h2, h3⟩ | ⟨h0, h1, h2, h3⟩
    all_goals
      go_wp2_with (go_at_call 90; refine (W.out _ _ _ _).mono ?_; rintro e w' ⟨rfl, rfl⟩)
      go_meet
      exact ⟨by simp [*], rfl⟩
  obtain ⟨rfl, rfl⟩ := hcut
  generalize hq2 : (inB large 2 65536 && inB floor 0 65536 && inB den 1 65536 && inB num den 65536) = q2 at *
  have HQ2 := Lib.hid hq2; clear hq2
  go_upto_region 3 with fail
  go_cut [5] (fun s wx => s = .bool (inB target 1 100 && inB maxAge 1 15) ∧ wx = w.alloc (Obj.cells #[Value.int .i64 eden, Value.int .i64 surv, Value.int .i64 ten, Value.int .i64 large, Value.int .i64 floor, Value.int .i64 num, Value.int .i64 den, Value.int .i64 target, Value.int .i64 maxAge, Value.int .i64 threads, Value.int .i64 slots, Value.int .i64 handles, Value.int .i64 buffer, Value.int .i64 workers] 45))
  case first =>
    have D : (inB target 1 100) = false ∨ (inB target 1 100) = true ∧ (inB maxAge 1 15) = false ∨ (inB target 1 100) = true ∧ (inB maxAge 1 15) = true := by cases (inB target 1 100) <;> cases (inB maxAge 1 15) <;> simp
    rcases D with h0 | ⟨h0, h1⟩ | ⟨h0, h1⟩
    all_goals
      go_wp2_with (go_at_call 90; refine (W.out _ _ _ _).mono ?_; rintro e w' ⟨rfl, rfl⟩)
      go_meet
      exact ⟨by simp [*], rfl⟩
  obtain ⟨rfl, rfl⟩ := hcut
  generalize hq3 : (inB target 1 100 && inB maxAge 1 15) = q3 at *
  have HQ3 := Lib.hid hq3; clear hq3
  go_upto_region 4 with fail
  go_cut [6] (fun s wx => s = .bool (inB threads 1 8 && inB slots 1 4096 && inB handles 0 1024) ∧ wx = w.alloc (Obj.cells #[Value.int .i64 eden, Value.int .i64 surv, Value.int .i64 ten, Value.int .i64 large, Value.int .i64 floor, Value.int .i64 num, Value.int .i64 den, Value.int .i64 target, Value.int .i64 maxAge, Value.int .i64 threads, Value.int .i64 slots, Value.int .i64 handles, Value.int .i64 buffer, Value.int .i64 workers] 45))
  case first =>
    have D : (inB threads 1 8) = false ∨ (inB threads 1 8) = true ∧ (inB slots 1 4096) = false ∨ (inB threads 1 8) = true ∧ (inB slots 1 4096) = true ∧ (inB handles 0 1024) = false ∨ (inB threads 1 8) = true ∧ (inB slots 1 4096) = true ∧ (inB handles 0 1024) = true := by cases (inB threads 1 8) <;> cases (inB slots 1 4096) <;> cases (inB handles 0 1024) <;> simp
    rcases D with h0 | ⟨h0, h1⟩ | ⟨h0, h1, h2⟩ | ⟨h0, h1, h2⟩
    all_goals
      go_wp2_with (go_at_call 90; refine (W.out _ _ _ _).mono ?_; rintro e w' ⟨rfl, rfl⟩)
      go_meet
      exact ⟨by simp [*], rfl⟩
  obtain ⟨rfl, rfl⟩ := hcut
  generalize hq4 : (inB threads 1 8 && inB slots 1 4096 && inB handles 0 1024) = q4 at *
  have HQ4 := Lib.hid hq4; clear hq4
  have D : (q1) = false ∨ (q1) = true ∧ (q2) = false ∨ (q1) = true ∧ (q2) = true ∧ (q3) = false ∨ (q1) = true ∧ (q2) = true ∧ (q3) = true ∧ (q4) = false ∨ (q1) = true ∧ (q2) = true ∧ (q3) = true ∧ (q4) = true ∧ (inB buffer 0 eden) = false ∨ (q1) = true ∧ (q2) = true ∧ (q3) = true ∧ (q4) = true ∧ (inB buffer 0 eden) = true ∧ (inB workers 1 8) = false ∨ (q1) = true ∧ (q2) = true ∧ (q3) = true ∧ (q4) = true ∧ (inB buffer 0 eden) = true ∧ (inB workers 1 8) = true := by cases (q1) <;> cases (q2) <;> cases (q3) <;> cases (q4) <;> cases (inB buffer 0 eden) <;> cases (inB workers 1 8) <;> simp
  rcases D with h0 | ⟨h0, h1⟩ | ⟨h0, h1, h2⟩ | ⟨h0, h1, h2, h3⟩ | ⟨h0, h1, h2, h3, h4⟩ | ⟨h0, h1, h2, h3, h4, h5⟩ | ⟨h0, h1, h2, h3, h4, h5⟩
  all_goals
    go_wp2_with (go_at_call 90; refine (W.out _ _ _ _).mono ?_; rintro e w' ⟨rfl, rfl⟩)
    go_ret
    exact ⟨ret_bool (by rw [HQ1.out, HQ2.out, HQ3.out, HQ4.out]; simp [*]), (Below.refl _ _).alloc (Nat.le_refl _) _⟩
end Go.Proofs.YtomgfdfgildkbaaDoor
/- The walks of package arena, second part: an arena made. -/

namespace Go.Proofs.YtomgfdfgildkbaaDoor
open Go.RowKit Go.BigFrame
@[go_sem] theorem idx5_0 (a0 a1 a2 a3 a4 : Value) (w : World) : (Instr.index 126 (.agg #[a0, a1, a2, a3, a4]) (.int .i64 0)).run Tryd.prog w = .ok a0 w := by kernel_rfl
@[go_sem] theorem idx5_1 (a0 a1 a2 a3 a4 : Value) (w : World) : (Instr.index 126 (.agg #[a0, a1, a2, a3, a4]) (.int .i64 1)).run Tryd.prog w = .ok a1 w := by kernel_rfl
@[go_sem] theorem idx5_2 (a0 a1 a2 a3 a4 : Value) (w : World) : (Instr.index 126 (.agg #[a0, a1, a2, a3, a4]) (.int .i64 2)).run Tryd.prog w = .ok a2 w := by kernel_rfl
@[go_sem] theorem idx5_3 (a0 a1 a2 a3 a4 : Value) (w : World) : (Instr.index 126 (.agg #[a0, a1, a2, a3, a4]) (.int .i64 3)).run Tryd.prog w = .ok a3 w := by kernel_rfl
@[go_sem] theorem idx5_4 (a0 a1 a2 a3 a4 : Value) (w : World) : (Instr.index 126 (.agg #[a0, a1, a2, a3, a4]) (.int .i64 4)).run Tryd.prog w = .ok a4 w := by kernel_rfl

theorem infoU64 : (Tryd.prog.info? 22).map (fun i => (i.zero, i.size, i.bytes)) = some (some (.int .u64 0), 1, 8) := by kernel_rfl
theorem mk_u64 (n : Int) (w : World) (h0 : 0 ≤ n) (h1 : n ≤ 1000000) : (Instr.makeSlice 98 (.int .i64 n) (.int .i64 n)).run Tryd.prog w = .ok (.slice (some ⟨w.heap.size, 0, none⟩) n.toNat n.toNat) (w.alloc (.cells (u64s (List.replicate n.toNat 0)) 22)) := by
  obtain ⟨i, hi, hz, hs, hb⟩ := info_parts infoU64
  have hr := run_make (P := Tryd.prog) w 98 22 i (.int .u64 0) Tryd.underlying98 hi hz .i64 .i64 n n h0 (Int.le_refl _) (by rw [hb]; omega) (by omega)
  have e : madeCells (Value.int IntKind.u64 0).cells (n.toNat * 1) = u64s (List.replicate n.toNat 0) := by
    apply Array.ext'
    rw [Nat.mul_one, show (Value.int IntKind.u64 0).cells = #[.int .u64 0] from rfl, toList_madeCells_one]
    simp [u64s]
  rw [hr, hs, e]

theorem new_no (c : Cfg) (w : World) (h : c.valid = false) : Calls Tryd.prog 34 #[c.val] w fun e w' => e = .returned (.tuple #[.pointer none, .int .i64 30]) ∧ Below w.heap.size w w' := by
  have V := fun w => valid_any c w
  rw [h] at V
  clear h
  obtain ⟨eden, surv, ten, large, floor, num, den, target, maxAge, threads, slots, handles, buffer, workers⟩ := c
  unfold Cfg.val Cfg.cells at *
  simp only at *
  have VV := Lib.hid V
  clear V
  go_enter Tryd.func34, Tryd.ntmps34
  go_wp2_with fail
  refine (VV.out _).mono ?_
  rintro e w1 ⟨rfl, hb⟩
  obtain ⟨hX, hb1, hz1⟩ := kept_new hb
  clear hX hb
  go_wp2_with fail
  go_ret2
  exact ⟨rfl, hb1⟩

set_option maxHeartbeats 1000000 in
theorem new_yes (c : Cfg) (w : World) (h : c.valid = true) : Calls Tryd.prog 34 #[c.val] w fun e w' => ∃ b wb, e = .returned (.tuple #[.pointer (some ⟨b, 0, none⟩), .int .i64 0]) ∧ ArAt w' b wb (Ar.new c) ∧ w.heap.size ≤ b ∧ w.heap.size ≤ wb ∧ Below w.heap.size w w' := by
  have V := fun w => valid_any c w
  rw [h] at V
  obtain ⟨he0, he1, hs0, hs1, ht0, ht1⟩ := Cfg.bd h
  clear h
  obtain ⟨eden, surv, ten, large, floor, num, den, target, maxAge, threads, slots, handles, buffer, workers⟩ := c
  unfold Cfg.val Cfg.cells at *
  simp only at *
  have VV := Lib.hid V
  have hmk := fun w => mk_u64 (1 + eden + surv + surv + ten) w (by omega) (by omega)
  clear V
  go_enter Tryd.func34, Tryd.ntmps34
  go_wp2_with fail
  refine (VV.out _).mono ?_
  rintro e w1 ⟨rfl, hb⟩
  obtain ⟨hX, hb1, hz1⟩ := kept_new hb
  obtain ⟨hc, hf⟩ := hcell hX
  clear hX hb
  go_wp2_with fail
  refine wp_loop_rounds 6 ?_
  iterate 6 (rw [rounds_succ]; go_wp2_with fail)
  go_ret2
  refine ⟨w1.heap.size, w1.heap.size + 1, rfl, ⟨?_, (heap_two _ _ _).2, by omega⟩, by omega, by omega, (hb1.alloc (by omega) _).alloc (by simp; omega) _⟩
  rw [(heap_two _ _ _).1]
  simp [arCells, Ar.new, Cfg.size]
end Go.Proofs.YtomgfdfgildkbaaDoor
/- The walks of package arena, third part: words, spaces, tops. -/

namespace Go.Proofs.YtomgfdfgildkbaaDoor
open Go.RowKit Go.BigFrame

theorem ArAt.cells {w : World} {b wb : Nat} {A : Ar} (h : ArAt w b wb A) : (∀ o, w.cell? ⟨b, o, none⟩ = (arCells A wb)[o]?) ∧ (∀ o, w.frozen? ⟨b, o, none⟩ = false) := hcell h.st
theorem ArAt.wcell {w : World} {b wb : Nat} {A : Ar} (h : ArAt w b wb A) {i : Nat} (hi : i < A.words.length) : w.cell? ⟨wb, i, none⟩ = some (.int .u64 (A.words.getD i 0)) := by
  rw [(hcell h.ws).1, u64s_get hi]
theorem ArAt.wfree {w : World} {b wb : Nat} {A : Ar} (h : ArAt w b wb A) (i : Nat) : w.frozen? ⟨wb, i, none⟩ = false := (hcell h.ws).2 i

theorem ArAt.setWord {w : World} {b wb : Nat} {A : Ar} (h : ArAt w b wb A) (i : Nat) (v : Int) : ArAt (w.setCell ⟨wb, i, none⟩ (.int .u64 v)) b wb { A with words := A.words.set i v } := by
  refine ⟨?_, ?_, h.ne⟩
  · rw [block_set_ne h.ne, h.st]; simp [arCells]
  · rw [block_set h.ws, u64s_set]

theorem Ar.Ok.put {A : Ar} (h : A.Ok) (i : Nat) {v : Int} (hv : 0 ≤ v ∧ v < 18446744073709551616) : ({ A with words := A.words.set i v } : Ar).Ok := by
  obtain ⟨cv, len, rng, a1, b1, a2, b2, a3, b3, a4, b4, fr⟩ := h
  refine ⟨cv, by simpa using len, ?_, a1, b1, a2, b2, a3, b3, a4, b4, fr⟩
  intro x hx
  rcases List.mem_or_eq_of_mem_set hx with h | h
  · exact rng x h
  · exact h ▸ hv

theorem config_any (b wb : Nat) (A : Ar) (w : World) (h : ArAt w b wb A) : Calls Tryd.prog 113 #[.pointer (some ⟨b, 0, none⟩)] w fun e w' => e = .returned A.cfg.val ∧ Below w.heap.size w w' := by
  obtain ⟨hc, hf⟩ := h.cells
  have hlt := lt_of_heap h.st
  unfold arCells at hc
  unfold Cfg.val Cfg.cells
  clear h
  go_enter Tryd.func113, Tryd.ntmps113
  go_wp2
  exact bodyPost_ret (v := .agg #[.int .i64 A.cfg.eden, .int .i64 A.cfg.surv, .int .i64 A.cfg.ten, .int .i64 A.cfg.large, .int .i64 A.cfg.floor, .int .i64 A.cfg.num, .int .i64 A.cfg.den, .int .i64 A.cfg.target, .int .i64 A.cfg.maxAge, .int .i64 A.cfg.threads, .int .i64 A.cfg.slots, .int .i64 A.cfg.handles, .int .i64 A.cfg.buffer, .int .i64 A.cfg.workers]) (by simp [results, Tryd.results113, go_sem]) rfl ⟨rfl, (Below.refl _ _).alloc (Nat.le_refl _) _⟩

theorem word_any (b wb : Nat) (A : Ar) (i : Int) (w : World) (h : ArAt w b wb A) : Calls Tryd.prog 49 #[.pointer (some ⟨b, 0, none⟩), .int .i64 i] w fun e w' => e = .returned (.int .u64 (A.word i)) ∧ w = w' := by
  obtain ⟨hc, hf⟩ := h.cells
  unfold arCells at hc
  unfold Ar.word
  by_cases c0 : i < 0
  · rw [if_neg (by omega)]
    clear h
    go_enter Tryd.func49, Tryd.ntmps49
    go_wp2
    go_ret
    exact ⟨rfl, rfl⟩
  rw [if_pos (by omega)]
  have d0 : decide (i < 0) = false := by simpa using c0
  by_cases c1 : (A.words.length : Int) ≤ i
  · have hg : A.words.getD i.toNat 0 = 0 := by
      rw [List.getD_eq_getElem?_getD, List.getElem?_eq_none (by omega)]; rfl
    rw [hg]
    clear h hg
    go_enter Tryd.func49, Tryd.ntmps49
    go_wp2
    go_ret
    exact ⟨rfl, rfl⟩
  · have hw := h.wcell (i := i.toNat) (by omega)
    have c2 : i < (A.words.length : Int) := by omega
    have d1 : decide ((A.words.length : Int) ≤ i) = false := by simpa using c1
    generalize A.words.getD i.toNat 0 = v at *
    clear h c1
    go_enter Tryd.func49, Tryd.ntmps49
    go_wp2
    go_ret
    exact ⟨rfl, rfl⟩

theorem is_any (s : Int) (w : World) : Calls Tryd.prog 91 #[.int .i64 s] w fun e w' => e = .returned (.bool (isSp s)) ∧ w = w' := by
  unfold isSp
  by_cases c0 : 1 ≤ s
  · by_cases c1 : s ≤ 4
    · rw [decide_eq_true ⟨c0, c1⟩]
      go_enter Tryd.func91, Tryd.ntmps91
      go_wp2
      go_ret
      exact ⟨rfl, rfl⟩
    · rw [decide_eq_false (fun x => c1 x.2)]
      have d1 : decide (s ≤ 4) = false := decide_eq_false c1
      have c2 : 4 < s := by omega
      clear c1
      go_enter Tryd.func91, Tryd.ntmps91
      go_wp2
      go_ret
      exact ⟨rfl, rfl⟩
  · rw [decide_eq_false (fun x => c0 x.1)]
    have d0 : decide (1 ≤ s) = false := decide_eq_false c0
    have c2 : s < 1 := by omega
    clear c0
    go_enter Tryd.func91, Tryd.ntmps91
    go_wp2
    go_ret
    exact ⟨rfl, rfl⟩

set_option maxHeartbeats 1000000 in
theorem of_any (b wb : Nat) (A : Ar) (s : Int) (w : World) (h : ArAt w b wb A) : Calls Tryd.prog 87 #[.pointer (some ⟨b, 0, none⟩), .int .i64 s] w fun e w' => e = .returned (.agg #[.int .i64 (A.first s), .int .i64 (A.behind s), .int .i64 (A.top s)]) ∧ Below w.heap.size w w' := by
  obtain ⟨hc, hf⟩ := h.cells
  have hlt := lt_of_heap h.st
  unfold arCells at hc
  have I := fun w => is_any s w
  by_cases c : isSp s = true
  · rw [c] at I
    have II := Lib.hid I
    unfold isSp at c
    have hs : s = 1 ∨ s = 2 ∨ s = 3 ∨ s = 4 := by have := of_decide_eq_true c; omega
    clear c I h
    rcases hs with rfl | rfl | rfl | rfl
    all_goals
      go_enter Tryd.func87, Tryd.ntmps87
      go_wp2_with fail
      refine (II.out _).mono ?_
      rintro e w' ⟨rfl, rfl⟩
      go_wp2_with fail
      refine bodyPost_ret (v := .agg #[_, _, _]) (by simp [results, Tryd.results87, go_sem]; exact ⟨rfl, rfl, rfl⟩) rfl ⟨?_, (Below.refl _ _).alloc (Nat.le_refl _) _⟩
      simp [Ar.first, Ar.behind, Ar.top]
  · have c' : isSp s = false := by simpa using c
    rw [c'] at I
    have II := Lib.hid I
    have hs : ¬ s = 1 ∧ ¬ s = 2 ∧ ¬ s = 3 ∧ ¬ s = 4 := by
      unfold isSp at c'; have := of_decide_eq_false c'; omega
    have e1 : A.first s = 0 := by unfold Ar.first; rw [if_neg hs.1, if_neg hs.2.1, if_neg hs.2.2.1, if_neg hs.2.2.2]
    have e2 : A.behind s = 0 := by unfold Ar.behind; rw [if_neg hs.1, if_neg hs.2.1, if_neg hs.2.2.1, if_neg hs.2.2.2]
    have e3 : A.top s = 0 := by unfold Ar.top; rw [if_neg hs.1, if_neg hs.2.1, if_neg hs.2.2.1, if_neg hs.2.2.2]
    rw [e1, e2, e3]
    clear c c' I h hs e1 e2 e3
    go_enter Tryd.func87, Tryd.ntmps87
    go_wp2_with fail
    refine (II.out _).mono ?_
    rintro e w' ⟨rfl, rfl⟩
    go_wp2_with fail
    exact bodyPost_ret (v := .agg #[.int .i64 0, .int .i64 0, .int .i64 0]) (by simp [results, Tryd.results87, go_sem]) rfl ⟨rfl, (Below.refl _ _).alloc (Nat.le_refl _) _⟩

@[go_sem] theorem fld_space0 (x y z : Value) (w : World) : (Instr.field 122 (.agg #[x, y, z]) 0).run Tryd.prog w = .ok x w := by kernel_rfl
@[go_sem] theorem fld_space1 (x y z : Value) (w : World) : (Instr.field 122 (.agg #[x, y, z]) 1).run Tryd.prog w = .ok y w := by kernel_rfl
@[go_sem] theorem fld_space2 (x y z : Value) (w : World) : (Instr.field 122 (.agg #[x, y, z]) 2).run Tryd.prog w = .ok z w := by kernel_rfl
theorem bounds_any (b wb : Nat) (A : Ar) (s : Int) (w : World) (h : ArAt w b wb A) : Calls Tryd.prog 43 #[.pointer (some ⟨b, 0, none⟩), .int .i64 s] w fun e w' => e = .returned (.tuple #[.int .i64 (A.first s), .int .i64 (A.behind s)]) ∧ Below w.heap.size w w' := by
  have O := Lib.hid (of_any b wb A s w h)
  generalize A.first s = x at *
  generalize A.behind s = y at *
  generalize A.top s = z at *
  clear h
  go_enter Tryd.func43, Tryd.ntmps43
  go_wp2_with fail
  refine O.out.mono ?_
  rintro e w1 ⟨rfl, hb⟩
  go_wp2_with fail
  go_big_quiet (fail)
  go_wp2_with fail
  go_ret2
  exact ⟨rfl, below_drewN (hb.alloc hb.size _) _⟩

theorem top_any (b wb : Nat) (A : Ar) (s : Int) (w : World) (h : ArAt w b wb A) : Calls Tryd.prog 40 #[.pointer (some ⟨b, 0, none⟩), .int .i64 s] w fun e w' => e = .returned (.int .i64 (A.top s)) ∧ Below w.heap.size w w' := by
  have O := Lib.hid (of_any b wb A s w h)
  generalize A.first s = x at *
  generalize A.behind s = y at *
  generalize A.top s = z at *
  clear h
  go_enter Tryd.func40, Tryd.ntmps40
  go_wp2_with fail
  refine O.out.mono ?_
  rintro e w1 ⟨rfl, hb⟩
  go_wp2_with fail
  go_ret
  exact ⟨rfl, hb⟩

theorem Ar.Ok.sizes {A : Ar} (h : A.Ok) (s : Int) : 0 ≤ A.first s ∧ A.first s ≤ A.top s ∧ A.top s ≤ A.behind s ∧ A.behind s ≤ 262145 := by
  obtain ⟨cv, len, rng, a1, b1, a2, b2, a3, b3, a4, b4, fr⟩ := h
  obtain ⟨e0, e1, s0, s1, t0, t1⟩ := Cfg.bd cv
  unfold Ar.first Ar.top Ar.behind
  by_cases c1 : s = 1
  · rw [if_pos c1, if_pos c1, if_pos c1]; omega
  rw [if_neg c1, if_neg c1, if_neg c1]
  by_cases c2 : s = 2
  · rw [if_pos c2, if_pos c2, if_pos c2]; omega
  rw [if_neg c2, if_neg c2, if_neg c2]
  by_cases c3 : s = 3
  · rw [if_pos c3, if_pos c3, if_pos c3]; omega
  rw [if_neg c3, if_neg c3, if_neg c3]
  by_cases c4 : s = 4
  · rw [if_pos c4, if_pos c4, if_pos c4]; omega
  rw [if_neg c4, if_neg c4, if_neg c4]; omega

theorem free_any (b wb : Nat) (A : Ar) (s : Int) (w : World) (h : ArAt w b wb A) (ok : A.Ok) : Calls Tryd.prog 45 #[.pointer (some ⟨b, 0, none⟩), .int .i64 s] w fun e w' => e = .returned (.int .i64 (A.free s)) ∧ Below w.heap.size w w' := by
  have O := Lib.hid (fun W (hb : Below w.heap.size w W) => of_any b wb A s W (h.below hb))
  have hz := ok.sizes s
  unfold Ar.free
  generalize A.first s = x at *
  generalize A.behind s = y at *
  generalize A.top s = z at *
  clear h ok
  go_enter Tryd.func45, Tryd.ntmps45
  go_wp2_with fail
  refine (O.out _ (Below.refl _ _)).mono ?_
  rintro e w1 ⟨rfl, hb⟩
  go_wp2_with fail
  refine (O.out _ hb).mono ?_
  rintro e w2 ⟨rfl, hb2⟩
  have hb3 := hb.trans (hb2.mono hb.size)
  go_wp2_with fail
  go_ret
  exact ⟨rfl, hb3⟩

theorem from_any (b wb : Nat) (A : Ar) (w : World) (h : ArAt w b wb A) : Calls Tryd.prog 54 #[.pointer (some ⟨b, 0, none⟩)] w fun e w' => e = .returned (.int .i64 A.frm) ∧ w = w' := by
  obtain ⟨hc, hf⟩ := h.cells
  unfold arCells at hc
  clear h
  go_enter Tryd.func54, Tryd.ntmps54
  go_wp2
  go_ret
  exact ⟨rfl, rfl⟩
theorem to_any (b wb : Nat) (A : Ar) (w : World) (h : ArAt w b wb A) (ok : A.Ok) : Calls Tryd.prog 56 #[.pointer (some ⟨b, 0, none⟩)] w fun e w' => e = .returned (.int .i64 A.to) ∧ w = w' := by
  obtain ⟨hc, hf⟩ := h.cells
  have fr := ok.fr
  unfold arCells at hc
  unfold Ar.to
  clear h ok
  have f1 : 2 ≤ A.frm := by omega
  have f2 : A.frm ≤ 3 := by omega
  clear fr
  go_enter Tryd.func56, Tryd.ntmps56
  go_wp2
  go_ret
  exact ⟨rfl, rfl⟩
theorem swap_any (b wb : Nat) (A : Ar) (w : World) (h : ArAt w b wb A) (ok : A.Ok) : Calls Tryd.prog 55 #[.pointer (some ⟨b, 0, none⟩)] w fun e w' => e = .returned (.tuple #[]) ∧ ArAt w' b wb { A with frm := A.to } ∧ Only [b, wb] w w' := by
  obtain ⟨hc, hf⟩ := h.cells
  have T := Lib.hid (to_any b wb A w h ok)
  have hn : ArAt (w.setCell ⟨b, 30, none⟩ (.int .i64 A.to)) b wb { A with frm := A.to } := by
    refine ⟨?_, ?_, h.ne⟩
    · rw [block_set h.st]; simp [arCells]
    · rw [block_set_ne (Ne.symm h.ne)]; exact h.ws
  unfold arCells at hc
  generalize A.to = t at *
  clear h ok
  go_enter Tryd.func55, Tryd.ntmps55
  go_wp2_with fail
  refine T.out.mono ?_
  rintro e w1 ⟨rfl, rfl⟩
  go_wp2_with fail
  go_end0
  exact ⟨rfl, hn, (Only.refl _ _).setCell (by simp) _⟩

theorem setWord_yes (b wb : Nat) (A : Ar) (i v : Int) (w : World) (h : ArAt w b wb A) (h1 : 1 ≤ i) (h2 : i < (A.words.length : Int)) :
    Calls Tryd.prog 50 #[.pointer (some ⟨b, 0, none⟩), .int .i64 i, .int .u64 v] w fun e w' => e = .returned (.bool true) ∧ ArAt w' b wb (A.put i v) ∧ Only [b, wb] w w' := by
  obtain ⟨hc, hf⟩ := h.cells
  have hw := h.wcell (i := i.toNat) (by omega)
  have hwf := h.wfree i.toNat
  have hn := h.setWord i.toNat v
  unfold arCells at hc
  unfold Ar.put
  generalize A.words.getD i.toNat 0 = o at *
  clear h
  go_enter Tryd.func50, Tryd.ntmps50
  go_wp2
  go_ret
  exact ⟨rfl, hn, (Only.refl _ _).setCell (by simp) _⟩
theorem setWord_no (b wb : Nat) (A : Ar) (i v : Int) (w : World) (h : ArAt w b wb A) (h1 : ¬ (1 ≤ i ∧ i < (A.words.length : Int))) :
    Calls Tryd.prog 50 #[.pointer (some ⟨b, 0, none⟩), .int .i64 i, .int .u64 v] w fun e w' => e = .returned (.bool false) ∧ w = w' := by
  obtain ⟨hc, hf⟩ := h.cells
  unfold arCells at hc
  clear h
  by_cases c : i < 1
  · clear h1
    go_enter Tryd.func50, Tryd.ntmps50
    go_wp2
    go_ret
    exact ⟨rfl, rfl⟩
  · have d : decide (i < 1) = false := by simpa using c
    have c1 : (A.words.length : Int) ≤ i := by omega
    clear h1
    go_enter Tryd.func50, Tryd.ntmps50
    go_wp2
    go_ret
    exact ⟨rfl, rfl⟩
end Go.Proofs.YtomgfdfgildkbaaDoor
/- The walks of package arena, fourth part: the space of an address; words taken and given back. -/



namespace Go.Proofs.YtomgfdfgildkbaaDoor
open Go.RowKit Go.BigFrame

theorem clr_u64 (w : World) (wb : Nat) (l : List Int) (o n c : Nat) (ty : TypeId) (hw : w.heap[wb]? = some (.cells (u64s l) 22 (0, 0))) (h : o + n ≤ l.length) (hn : 0 < n) :
    (Builtin.clear_ #[98] ty #[.slice (some ⟨wb, o, none⟩) n c]).run Tryd.prog w = .ok (.tuple #[]) (w.setRow wb (u64s (zeroAt l o n))) := by
  have hzc : (Builtin.zeroCells (Value.int IntKind.u64 0).cells n).toList = List.replicate n (Value.int .u64 0) := by
    rw [show (Value.int IntKind.u64 0).cells = #[.int .u64 0] from rfl]
    simp [Builtin.zeroCells]
    apply List.ext_getElem
    · simp
    · intro i h1 h2
      simp [Nat.mod_one]
  have hv : ∀ w, (zeroValue 22).run Tryd.prog w = .ok (.int .u64 0) w := fun w => by kernel_rfl
  have hst := run_storeCells_at Tryd.prog wb o 22 (List.replicate n (Value.int .u64 0)) 0 (u64s l) w hw (by simp [u64s_size]; omega) (by intro v hv'; rw [List.eq_of_mem_replicate hv']; rfl)
  have e : ((u64s l).toList.take (o + 0) ++ List.replicate n (Value.int .u64 0) ++ (u64s l).toList.drop (o + 0 + (List.replicate n (Value.int IntKind.u64 0)).length)).toArray = u64s (zeroAt l o n) := by
    simp [u64s, zeroAt]
  rw [e] at hst
  obtain ⟨m, rfl⟩ : ∃ m, n = m + 1 := ⟨n - 1, by omega⟩
  simp [Builtin.clear_, run_underlying Tryd.underlying98, hv, hzc, hst]

theorem ArAt.zero {w : World} {b wb : Nat} {A : Ar} (h : ArAt w b wb A) (o n : Nat) (hl : o + n ≤ A.words.length) : ArAt (w.setRow wb (u64s (zeroAt A.words o n))) b wb { A with words := zeroAt A.words o n } := by
  refine ⟨?_, setRow_heap w wb _ _ _ _ h.ws, h.ne⟩
  rw [setRow_other _ _ _ _ h.ne, h.st]
  simp [arCells, zeroAt_length hl]

set_option maxHeartbeats 1000000 in
theorem space_any (b wb : Nat) (A : Ar) (i : Int) (w : World) (h : ArAt w b wb A) (ok : A.Ok) : Calls Tryd.prog 44 #[.pointer (some ⟨b, 0, none⟩), .int .i64 i] w fun e w' => e = .returned (.int .i64 (A.space i)) ∧ w = w' := by
  obtain ⟨hc, hf⟩ := h.cells
  obtain ⟨e0, e1, s0, s1, t0, t1⟩ := Cfg.bd ok.cv
  unfold arCells at hc
  have hcase : i < 1 ∨ (1 ≤ i ∧ i < 1 + A.cfg.eden) ∨ (1 + A.cfg.eden ≤ i ∧ i < 1 + A.cfg.eden + A.cfg.surv) ∨ (1 + A.cfg.eden + A.cfg.surv ≤ i ∧ i < 1 + A.cfg.eden + A.cfg.surv + A.cfg.surv) ∨ (1 + A.cfg.eden + A.cfg.surv + A.cfg.surv ≤ i ∧ i < 1 + A.cfg.eden + A.cfg.surv + A.cfg.surv + A.cfg.ten) ∨ 1 + A.cfg.eden + A.cfg.surv + A.cfg.surv + A.cfg.ten ≤ i := by omega
  clear h ok
  unfold Ar.space
  generalize A.cfg.eden = E at *
  generalize A.cfg.surv = S at *
  generalize A.cfg.ten = T at *
  rcases hcase with c | c | c | c | c | c
  · have G : (if i < 1 then (0 : Int) else if i < 1 + E then 1 else if i < 1 + E + S then 2 else if i < 1 + E + S + S then 3 else if i < 1 + E + S + S + T then 4 else 0) = 0 := by (repeat (first | rw [if_pos (by omega)] | rw [if_neg (by omega)]))
    rw [G]; clear G
    have l0 : i < 1 := by omega
    have m0 : decide (1 ≤ i) = false := by simp; omega
    have l1 : i < 1 + E := by omega
    have m1 : decide (1 + E ≤ i) = false := by simp; omega
    have l2 : i < 1 + E + S := by omega
    have m2 : decide (1 + E + S ≤ i) = false := by simp; omega
    have l3 : i < 1 + E + S + S := by omega
    have m3 : decide (1 + E + S + S ≤ i) = false := by simp; omega
    have l4 : i < 1 + E + S + S + T := by omega
    have m4 : decide (1 + E + S + S + T ≤ i) = false := by simp; omega
    clear c
    go_enter Tryd.func44, Tryd.ntmps44
    go_wp2
    refine wp_loop_rounds 6 ?_
    iterate 6 (try (rw [rounds_succ]; go_wp2))
    go_ret
    exact ⟨rfl, rfl⟩
  · have G : (if i < 1 then (0 : Int) else if i < 1 + E then 1 else if i < 1 + E + S then 2 else if i < 1 + E + S + S then 3 else if i < 1 + E + S + S + T then 4 else 0) = 1 := by (repeat (first | rw [if_pos (by omega)] | rw [if_neg (by omega)]))
    rw [G]; clear G
    have l0 : 1 ≤ i := by omega
    have m0 : decide (i < 1) = false := by simp; omega
    have l1 : i < 1 + E := by omega
    have m1 : decide (1 + E ≤ i) = false := by simp; omega
    have l2 : i < 1 + E + S := by omega
    have m2 : decide (1 + E + S ≤ i) = false := by simp; omega
    have l3 : i < 1 + E + S + S := by omega
    have m3 : decide (1 + E + S + S ≤ i) = false := by simp; omega
    have l4 : i < 1 + E + S + S + T := by omega
    have m4 : decide (1 + E + S + S + T ≤ i) = false := by simp; omega
    clear c
    go_enter Tryd.func44, Tryd.ntmps44
    go_wp2
    refine wp_loop_rounds 6 ?_
    iterate 6 (try (rw [rounds_succ]; go_wp2))
    go_ret
    exact ⟨rfl, rfl⟩
  · have G : (if i < 1 then (0 : Int) else if i < 1 + E then 1 else if i < 1 + E + S then 2 else if i < 1 + E + S + S then 3 else if i < 1 + E + S + S + T then 4 else 0) = 2 := by (repeat (first | rw [if_pos (by omega)] | rw [if_neg (by omega)]))
    rw [G]; clear G
    have l0 : 1 ≤ i := by omega
    have m0 : decide (i < 1) = false := by simp; omega
    have l1 : 1 + E ≤ i := by omega
    have m1 : decide (i < 1 + E) = false := by simp; omega
    have l2 : i < 1 + E + S := by omega
    have m2 : decide (1 + E + S ≤ i) = false := by simp; omega
    have l3 : i < 1 + E + S + S := by omega
    have m3 : decide (1 + E + S + S ≤ i) = false := by simp; omega
    have l4 : i < 1 + E + S + S + T := by omega
    have m4 : decide (1 + E + S + S + T ≤ i) = false := by simp; omega
    clear c
    go_enter Tryd.func44, Tryd.ntmps44
    go_wp2
    refine wp_loop_rounds 6 ?_
    iterate 6 (try (rw [rounds_succ]; go_wp2))
    go_ret
    exact ⟨rfl, rfl⟩
  · have G : (if i < 1 then (0 : Int) else if i < 1 + E then 1 else if i < 1 + E + S then 2 else if i < 1 + E + S + S then 3 else if i < 1 + E + S + S + T then 4 else 0) = 3 := by (repeat (first | rw [if_pos (by omega)] | rw [if_neg (by omega)]))
    rw [G]; clear G
    have l0 : 1 ≤ i := by omega
    have m0 : decide (i < 1) = false := by simp; omega
    have l1 : 1 + E ≤ i := by omega
    have m1 : decide (i < 1 + E) = false := by simp; omega
    have l2 : 1 + E + S ≤ i := by omega
    have m2 : decide (i < 1 + E + S) = false := by simp; omega
    have l3 : i < 1 + E + S + S := by omega
    have m3 : decide (1 + E + S + S ≤ i) = false := by simp; omega
    have l4 : i < 1 + E + S + S + T := by omega
    have m4 : decide (1 + E + S + S + T ≤ i) = false := by simp; omega
    clear c
    go_enter Tryd.func44, Tryd.ntmps44
    go_wp2
    refine wp_loop_rounds 6 ?_
    iterate 6 (try (rw [rounds_succ]; go_wp2))
    go_ret
    exact ⟨rfl, rfl⟩
  · have G : (if i < 1 then (0 : Int) else if i < 1 + E then 1 else if i < 1 + E + S then 2 else if i < 1 + E + S + S then 3 else if i < 1 + E + S + S + T then 4 else 0) = 4 := by (repeat (first | rw [if_pos (by omega)] | rw [if_neg (by omega)]))
    rw [G]; clear G
    have l0 : 1 ≤ i := by omega
    have m0 : decide (i < 1) = false := by simp; omega
    have l1 : 1 + E ≤ i := by omega
    have m1 : decide (i < 1 + E) = false := by simp; omega
    have l2 : 1 + E + S ≤ i := by omega
    have m2 : decide (i < 1 + E + S) = false := by simp; omega
    have l3 : 1 + E + S + S ≤ i := by omega
    have m3 : decide (i < 1 + E + S + S) = false := by simp; omega
    have l4 : i < 1 + E + S + S + T := by omega
    have m4 : decide (1 + E + S + S + T ≤ i) = false := by simp; omega
    clear c
    go_enter Tryd.func44, Tryd.ntmps44
    go_wp2
    refine wp_loop_rounds 6 ?_
    iterate 6 (try (rw [rounds_succ]; go_wp2))
    go_ret
    exact ⟨rfl, rfl⟩
  · have G : (if i < 1 then (0 : Int) else if i < 1 + E then 1 else if i < 1 + E + S then 2 else if i < 1 + E + S + S then 3 else if i < 1 + E + S + S + T then 4 else 0) = 0 := by (repeat (first | rw [if_pos (by omega)] | rw [if_neg (by omega)]))
    rw [G]; clear G
    have l0 : 1 ≤ i := by omega
    have m0 : decide (i < 1) = false := by simp; omega
    have l1 : 1 + E ≤ i := by omega
    have m1 : decide (i < 1 + E) = false := by simp; omega
    have l2 : 1 + E + S ≤ i := by omega
    have m2 : decide (i < 1 + E + S) = false := by simp; omega
    have l3 : 1 + E + S + S ≤ i := by omega
    have m3 : decide (i < 1 + E + S + S) = false := by simp; omega
    have l4 : 1 + E + S + S + T ≤ i := by omega
    have m4 : decide (i < 1 + E + S + S + T) = false := by simp; omega
    clear c
    go_enter Tryd.func44, Tryd.ntmps44
    go_wp2
    refine wp_loop_rounds 6 ?_
    iterate 6 (try (rw [rounds_succ]; go_wp2))
    go_ret
    exact ⟨rfl, rfl⟩

theorem young_any (b wb : Nat) (A : Ar) (i : Int) (w : World) (h : ArAt w b wb A) (ok : A.Ok) : Calls Tryd.prog 46 #[.pointer (some ⟨b, 0, none⟩), .int .i64 i] w fun e w' => e = .returned (.bool (A.young i)) ∧ w = w' := by
  obtain ⟨hc, hf⟩ := h.cells
  have S := Lib.hid (space_any b wb A i w h ok)
  unfold arCells at hc
  unfold Ar.young
  generalize A.space i = s at *
  generalize A.frm = fr at *
  clear h ok
  by_cases c : s = 1
  · subst c
    rw [decide_eq_true (Or.inl rfl)]
    go_enter Tryd.func46, Tryd.ntmps46
    go_wp2_with fail
    refine S.out.mono ?_
    rintro e w1 ⟨rfl, rfl⟩
    go_wp2_with fail
    go_ret
    exact ⟨rfl, rfl⟩
  · have d : (s == 1) = false := by simpa using c
    have e : decide (s = 1 ∨ s = fr) = (s == fr) := by by_cases q : s = fr <;> simp [c, q]
    rw [e]
    clear c e
    go_enter Tryd.func46, Tryd.ntmps46
    go_wp2_with fail
    refine S.out.mono ?_
    rintro e w1 ⟨rfl, rfl⟩
    go_wp2_with fail
    go_ret
    exact ⟨rfl, rfl⟩
end Go.Proofs.YtomgfdfgildkbaaDoor
/- The walks of package arena, fifth part: words taken and given back. -/

namespace Go.Proofs.YtomgfdfgildkbaaDoor
open Go.RowKit Go.BigFrame

theorem piece_any (b wb : Nat) (A : Ar) (i n : Int) (w : World) (h : ArAt w b wb A) (h0 : 0 ≤ i) (h1 : 1 ≤ n) (h2 : i + n ≤ (A.words.length : Int)) (h3 : (A.words.length : Int) ≤ 1000000) :
    Calls Tryd.prog 92 #[.pointer (some ⟨b, 0, none⟩), .int .i64 i, .int .i64 n] w fun e w' => e = .returned (.slice (some ⟨wb, i.toNat, none⟩) n.toNat n.toNat) ∧ w = w' := by
  obtain ⟨hc, hf⟩ := h.cells
  unfold arCells at hc
  generalize A.words.length = N at *
  clear h
  go_enter Tryd.func92, Tryd.ntmps92
  go_wp2
  go_ret
  refine ⟨?_, rfl⟩
  simp
  omega

theorem ArAt.drew {w : World} {b wb : Nat} {A : Ar} (h : ArAt w b wb A) : ArAt w.drew b wb A := ⟨h.st, h.ws, h.ne⟩
theorem ArAt.drewN {w : World} {b wb : Nat} {A : Ar} (h : ArAt w b wb A) (n : Nat) : ArAt (w.drewN n) b wb A := ⟨h.st, h.ws, h.ne⟩

set_option maxHeartbeats 1000000 in
theorem take_1 (b wb : Nat) (A : Ar) (n : Int) (w : World) (h : ArAt w b wb A) (ok : A.Ok) (h1 : 1 ≤ n) (h2 : n ≤ A.free 1) :
    Calls Tryd.prog 48 #[.pointer (some ⟨b, 0, none⟩), .int .i64 1, .int .i64 n] w fun e w' => e = .returned (.tuple #[.int .i64 A.t1, .bool true]) ∧ ArAt w' b wb (A.take 1 n) ∧ Only [b, wb] w w' := by
  have I := fun w => is_any 1 w
  rw [show isSp 1 = true by decide] at I
  have F := free_any b wb A 1 w h ok
  have len := ok.len
  obtain ⟨e0, e1, s0, s1, t0, t1⟩ := Cfg.bd ok.cv
  have a1 := ok.a1
  have b1 := ok.b1
  have hfr : A.free 1 = 1 + A.cfg.eden - A.t1 := by simp [Ar.free, Ar.behind, Ar.top]
  have hsz : (A.words.length : Int) ≤ 1000000 := by rw [len]; unfold Cfg.size; omega
  have hle : A.t1 + n ≤ (A.words.length : Int) := by rw [len]; unfold Cfg.size; omega
  have P := fun (W : World) (hb : Below w.heap.size w W) => piece_any b wb A A.t1 n W (h.below hb) (by omega) h1 hle hsz
  have II := Lib.hid I
  have FF := Lib.hid F
  have PP := Lib.hid P
  have HH := Lib.hid h
  clear I F P len
  go_enter Tryd.func48, Tryd.ntmps48
  go_wp2_with fail
  refine (II.out _).mono ?_
  rintro e w1 ⟨rfl, rfl⟩
  go_wp2_with fail
  refine FF.out.mono ?_
  rintro e w1 ⟨rfl, hb⟩
  have hw := HH.out.below hb
  obtain ⟨hc, hf⟩ := hw.cells
  unfold arCells at hc
  go_wp2_with fail
  refine (PP.out _ hb).mono ?_
  rintro e w2 ⟨rfl, rfl⟩
  have hclr := fun ty => clr_u64 w1 wb A.words A.t1.toNat n.toNat n.toNat ty hw.ws (by omega) (by omega)
  go_wp2_with fail
  have hz := hw.zero A.t1.toNat n.toNat (by omega)
  have ho : Only [b, wb] w (w1.setRow wb (u64s (zeroAt A.words A.t1.toNat n.toNat))) := (Only.of_below hb).setRow (by simp) _
  clear hclr hc hf hw hb
  generalize w1.setRow wb (u64s (zeroAt A.words A.t1.toNat n.toNat)) = W2 at *
  obtain ⟨hc, hf⟩ := hz.cells
  unfold arCells at hc
  simp only at hc
  have hn : ArAt (W2.setCell ⟨b, 20, none⟩ (.int .i64 (A.t1 + n))) b wb (A.take 1 n) := by
    refine ⟨?_, ?_, hz.ne⟩
    · rw [block_set hz.st]; simp [arCells, Ar.take, Ar.setTop, Ar.top]
    · rw [block_set_ne (Ne.symm hz.ne), hz.ws]; simp [Ar.take, Ar.setTop, Ar.top]
  have ho2 : Only [b, wb] w (W2.setCell ⟨b, 20, none⟩ (.int .i64 (A.t1 + n))) := ho.setCell (by simp) _
  have HN := Lib.hid hn
  have HO := Lib.hid ho2
  clear hn ho2 hz ho
  go_region
  all_goals
    go_wp2
    go_ret2
    exact ⟨rfl, HN.out.drew, HO.out.drew⟩

set_option maxHeartbeats 1000000 in
theorem take_2 (b wb : Nat) (A : Ar) (n : Int) (w : World) (h : ArAt w b wb A) (ok : A.Ok) (h1 : 1 ≤ n) (h2 : n ≤ A.free 2) :
    Calls Tryd.prog 48 #[.pointer (some ⟨b, 0, none⟩), .int .i64 2, .int .i64 n] w fun e w' => e = .returned (.tuple #[.int .i64 A.t2, .bool true]) ∧ ArAt w' b wb (A.take 2 n) ∧ Only [b, wb] w w' := by
  have I := fun w => is_any 2 w
  rw [show isSp 2 = true by decide] at I
  have F := free_any b wb A 2 w h ok
  have len := ok.len
  obtain ⟨e0, e1, s0, s1, t0, t1⟩ := Cfg.bd ok.cv
  have a1 := ok.a2
  have b1 := ok.b2
  have hfr : A.free 2 = 1 + A.cfg.eden + A.cfg.surv - A.t2 := by simp [Ar.free, Ar.behind, Ar.top]
  have hsz : (A.words.length : Int) ≤ 1000000 := by rw [len]; unfold Cfg.size; omega
  have hle : A.t2 + n ≤ (A.words.length : Int) := by rw [len]; unfold Cfg.size; omega
  have P := fun (W : World) (hb : Below w.heap.size w W) => piece_any b wb A A.t2 n W (h.below hb) (by omega) h1 hle hsz
  have II := Lib.hid I
  have FF := Lib.hid F
  have PP := Lib.hid P
  have HH := Lib.hid h
  clear I F P len
  go_enter Tryd.func48, Tryd.ntmps48
  go_wp2_with fail
  refine (II.out _).mono ?_
  rintro e w1 ⟨rfl, rfl⟩
  go_wp2_with fail
  refine FF.out.mono ?_
  rintro e w1 ⟨rfl, hb⟩
  have hw := HH.out.below hb
  obtain ⟨hc, hf⟩ := hw.cells
  unfold arCells at hc
  go_wp2_with fail
  refine (PP.out _ hb).mono ?_
  rintro e w2 ⟨rfl, rfl⟩
  have hclr := fun ty => clr_u64 w1 wb A.words A.t2.toNat n.toNat n.toNat ty hw.ws (by omega) (by omega)
  go_wp2_with fail
  have hz := hw.zero A.t2.toNat n.toNat (by omega)
  have ho : Only [b, wb] w (w1.setRow wb (u64s (zeroAt A.words A.t2.toNat n.toNat))) := (Only.of_below hb).setRow (by simp) _
  clear hclr hc hf hw hb
  generalize w1.setRow wb (u64s (zeroAt A.words A.t2.toNat n.toNat)) = W2 at *
  obtain ⟨hc, hf⟩ := hz.cells
  unfold arCells at hc
  simp only at hc
  have hn : ArAt (W2.setCell ⟨b, 23, none⟩ (.int .i64 (A.t2 + n))) b wb (A.take 2 n) := by
    refine ⟨?_, ?_, hz.ne⟩
    · rw [block_set hz.st]; simp [arCells, Ar.take, Ar.setTop, Ar.top]
    · rw [block_set_ne (Ne.symm hz.ne), hz.ws]; simp [Ar.take, Ar.setTop, Ar.top]
  have ho2 : Only [b, wb] w (W2.setCell ⟨b, 23, none⟩ (.int .i64 (A.t2 + n))) := ho.setCell (by simp) _
  have HN := Lib.hid hn
  have HO := Lib.hid ho2
  clear hn ho2 hz ho
  go_region
  all_goals
    go_wp2
    go_ret2
    exact ⟨rfl, HN.out.drew, HO.out.drew⟩

set_option maxHeartbeats 1000000 in
theorem take_3 (b wb : Nat) (A : Ar) (n : Int) (w : World) (h : ArAt w b wb A) (ok : A.Ok) (h1 : 1 ≤ n) (h2 : n ≤ A.free 3) :
    Calls Tryd.prog 48 #[.pointer (some ⟨b, 0, none⟩), .int .i64 3, .int .i64 n] w fun e w' => e = .returned (.tuple #[.int .i64 A.t3, .bool true]) ∧ ArAt w' b wb (A.take 3 n) ∧ Only [b, wb] w w' := by
  have I := fun w => is_any 3 w
  rw [show isSp 3 = true by decide] at I
  have F := free_any b wb A 3 w h ok
  have len := ok.len
  obtain ⟨e0, e1, s0, s1, t0, t1⟩ := Cfg.bd ok.cv
  have a1 := ok.a3
  have b1 := ok.b3
  have hfr : A.free 3 = 1 + A.cfg.eden + A.cfg.surv + A.cfg.surv - A.t3 := by simp [Ar.free, Ar.behind, Ar.top]
  have hsz : (A.words.length : Int) ≤ 1000000 := by rw [len]; unfold Cfg.size; omega
  have hle : A.t3 + n ≤ (A.words.length : Int) := by rw [len]; unfold Cfg.size; omega
  have P := fun (W : World) (hb : Below w.heap.size w W) => piece_any b wb A A.t3 n W (h.below hb) (by omega) h1 hle hsz
  have II := Lib.hid I
  have FF := Lib.hid F
  have PP := Lib.hid P
  have HH := Lib.hid h
  clear I F P len
  go_enter Tryd.func48, Tryd.ntmps48
  go_wp2_with fail
  refine (II.out _).mono ?_
  rintro e w1 ⟨rfl, rfl⟩
  go_wp2_with fail
  refine FF.out.mono ?_
  rintro e w1 ⟨rfl, hb⟩
  have hw := HH.out.below hb
  obtain ⟨hc, hf⟩ := hw.cells
  unfold arCells at hc
  go_wp2_with fail
  refine (PP.out _ hb).mono ?_
  rintro e w2 ⟨rfl, rfl⟩
  have hclr := fun ty => clr_u64 w1 wb A.words A.t3.toNat n.toNat n.toNat ty hw.ws (by omega) (by omega)
  go_wp2_with fail
  have hz := hw.zero A.t3.toNat n.toNat (by omega)
  have ho : Only [b, wb] w (w1.setRow wb (u64s (zeroAt A.words A.t3.toNat n.toNat))) := (Only.of_below hb).setRow (by simp) _
  clear hclr hc hf hw hb
  generalize w1.setRow wb (u64s (zeroAt A.words A.t3.toNat n.toNat)) = W2 at *
  obtain ⟨hc, hf⟩ := hz.cells
  unfold arCells at hc
  simp only at hc
  have hn : ArAt (W2.setCell ⟨b, 26, none⟩ (.int .i64 (A.t3 + n))) b wb (A.take 3 n) := by
    refine ⟨?_, ?_, hz.ne⟩
    · rw [block_set hz.st]; simp [arCells, Ar.take, Ar.setTop, Ar.top]
    · rw [block_set_ne (Ne.symm hz.ne), hz.ws]; simp [Ar.take, Ar.setTop, Ar.top]
  have ho2 : Only [b, wb] w (W2.setCell ⟨b, 26, none⟩ (.int .i64 (A.t3 + n))) := ho.setCell (by simp) _
  have HN := Lib.hid hn
  have HO := Lib.hid ho2
  clear hn ho2 hz ho
  go_region
  all_goals
    go_wp2
    go_ret2
    exact ⟨rfl, HN.out.drew, HO.out.drew⟩

set_option maxHeartbeats 1000000 in
theorem take_4 (b wb : Nat) (A : Ar) (n : Int) (w : World) (h : ArAt w b wb A) (ok : A.Ok) (h1 : 1 ≤ n) (h2 : n ≤ A.free 4) :
    Calls Tryd.prog 48 #[.pointer (some ⟨b, 0, none⟩), .int .i64 4, .int .i64 n] w fun e w' => e = .returned (.tuple #[.int .i64 A.t4, .bool true]) ∧ ArAt w' b wb (A.take 4 n) ∧ Only [b, wb] w w' := by
  have I := fun w => is_any 4 w
  rw [show isSp 4 = true by decide] at I
  have F := free_any b wb A 4 w h ok
  have len := ok.len
  obtain ⟨e0, e1, s0, s1, t0, t1⟩ := Cfg.bd ok.cv
  have a1 := ok.a4
  have b1 := ok.b4
  have hfr : A.free 4 = 1 + A.cfg.eden + A.cfg.surv + A.cfg.surv + A.cfg.ten - A.t4 := by simp [Ar.free, Ar.behind, Ar.top]
  have hsz : (A.words.length : Int) ≤ 1000000 := by rw [len]; unfold Cfg.size; omega
  have hle : A.t4 + n ≤ (A.words.length : Int) := by rw [len]; unfold Cfg.size; omega
  have P := fun (W : World) (hb : Below w.heap.size w W) => piece_any b wb A A.t4 n W (h.below hb) (by omega) h1 hle hsz
  have II := Lib.hid I
  have FF := Lib.hid F
  have PP := Lib.hid P
  have HH := Lib.hid h
  clear I F P len
  go_enter Tryd.func48, Tryd.ntmps48
  go_wp2_with fail
  refine (II.out _).mono ?_
  rintro e w1 ⟨rfl, rfl⟩
  go_wp2_with fail
  refine FF.out.mono ?_
  rintro e w1 ⟨rfl, hb⟩
  have hw := HH.out.below hb
  obtain ⟨hc, hf⟩ := hw.cells
  unfold arCells at hc
  go_wp2_with fail
  refine (PP.out _ hb).mono ?_
  rintro e w2 ⟨rfl, rfl⟩
  have hclr := fun ty => clr_u64 w1 wb A.words A.t4.toNat n.toNat n.toNat ty hw.ws (by omega) (by omega)
  go_wp2_with fail
  have hz := hw.zero A.t4.toNat n.toNat (by omega)
  have ho : Only [b, wb] w (w1.setRow wb (u64s (zeroAt A.words A.t4.toNat n.toNat))) := (Only.of_below hb).setRow (by simp) _
  clear hclr hc hf hw hb
  generalize w1.setRow wb (u64s (zeroAt A.words A.t4.toNat n.toNat)) = W2 at *
  obtain ⟨hc, hf⟩ := hz.cells
  unfold arCells at hc
  simp only at hc
  have hn : ArAt (W2.setCell ⟨b, 29, none⟩ (.int .i64 (A.t4 + n))) b wb (A.take 4 n) := by
    refine ⟨?_, ?_, hz.ne⟩
    · rw [block_set hz.st]; simp [arCells, Ar.take, Ar.setTop, Ar.top]
    · rw [block_set_ne (Ne.symm hz.ne), hz.ws]; simp [Ar.take, Ar.setTop, Ar.top]
  have ho2 : Only [b, wb] w (W2.setCell ⟨b, 29, none⟩ (.int .i64 (A.t4 + n))) := ho.setCell (by simp) _
  have HN := Lib.hid hn
  have HO := Lib.hid ho2
  clear hn ho2 hz ho
  go_region
  all_goals
    go_wp2
    go_ret2
    exact ⟨rfl, HN.out.drew, HO.out.drew⟩

theorem take_yes (b wb : Nat) (A : Ar) (s n : Int) (w : World) (h : ArAt w b wb A) (ok : A.Ok) (hs : isSp s = true) (h1 : 1 ≤ n) (h2 : n ≤ A.free s) :
    Calls Tryd.prog 48 #[.pointer (some ⟨b, 0, none⟩), .int .i64 s, .int .i64 n] w fun e w' => e = .returned (.tuple #[.int .i64 (A.top s), .bool true]) ∧ ArAt w' b wb (A.take s n) ∧ Only [b, wb] w w' := by
  unfold isSp at hs
  have hs' : s = 1 ∨ s = 2 ∨ s = 3 ∨ s = 4 := by have := of_decide_eq_true hs; omega
  rcases hs' with rfl | rfl | rfl | rfl
  · exact take_1 b wb A n w h ok h1 h2
  · exact take_2 b wb A n w h ok h1 h2
  · exact take_3 b wb A n w h ok h1 h2
  · exact take_4 b wb A n w h ok h1 h2

theorem take_no (b wb : Nat) (A : Ar) (s n : Int) (w : World) (h : ArAt w b wb A) (ok : A.Ok) (hs : ¬ (isSp s = true ∧ 1 ≤ n ∧ n ≤ A.free s)) :
    Calls Tryd.prog 48 #[.pointer (some ⟨b, 0, none⟩), .int .i64 s, .int .i64 n] w fun e w' => e = .returned (.tuple #[.int .i64 0, .bool false]) ∧ Below w.heap.size w w' := by
  have I := Lib.hid (fun w => is_any s w)
  have F := Lib.hid (free_any b wb A s w h ok)
  by_cases c : isSp s = true
  · by_cases c1 : 1 ≤ n
    · have c2 : A.free s < n := by
        by_cases q : n ≤ A.free s
        · exact absurd ⟨c, c1, q⟩ hs
        · omega
      have d1 : decide (n < 1) = false := by simp; omega
      rw [c] at I
      generalize A.free s = f at *
      clear hs h ok c
      go_enter Tryd.func48, Tryd.ntmps48
      go_wp2_with fail
      refine (I.out _).mono ?_
      rintro e w1 ⟨rfl, rfl⟩
      go_wp2_with fail
      refine F.out.mono ?_
      rintro e w1 ⟨rfl, hb⟩
      go_wp2_with fail
      go_ret2
      exact ⟨rfl, hb⟩
    · have c2 : n < 1 := by omega
      rw [c] at I
      clear hs h ok c c1 F
      go_enter Tryd.func48, Tryd.ntmps48
      go_wp2_with fail
      refine (I.out _).mono ?_
      rintro e w1 ⟨rfl, rfl⟩
      go_wp2_with fail
      go_ret2
      exact ⟨rfl, Below.refl _ _⟩
  · have c' : isSp s = false := by simpa using c
    rw [c'] at I
    clear hs h ok c c' F
    go_enter Tryd.func48, Tryd.ntmps48
    go_wp2_with fail
    refine (I.out _).mono ?_
    rintro e w1 ⟨rfl, rfl⟩
    go_wp2_with fail
    go_ret2
    exact ⟨rfl, Below.refl _ _⟩

theorem Ar.take_words (A : Ar) (s n : Int) : (A.take s n).words = zeroAt A.words (A.top s).toNat n.toNat := by
  unfold Ar.take Ar.setTop
  (repeat' split) <;> rfl
theorem Ar.take_cfg (A : Ar) (s n : Int) : (A.take s n).cfg = A.cfg := by
  unfold Ar.take Ar.setTop
  (repeat' split) <;> rfl
theorem Ar.take_frm (A : Ar) (s n : Int) : (A.take s n).frm = A.frm := by
  unfold Ar.take Ar.setTop
  (repeat' split) <;> rfl

theorem Ar.Ok.take {A : Ar} (ok : A.Ok) {s n : Int} (hs : isSp s = true) (h1 : 1 ≤ n) (h2 : n ≤ A.free s) : (A.take s n).Ok := by
  have hz := ok.sizes s
  obtain ⟨cv, len, rng, a1, b1, a2, b2, a3, b3, a4, b4, fr⟩ := ok
  obtain ⟨e0, e1, s0, s1, t0, t1⟩ := Cfg.bd cv
  unfold isSp at hs
  have hs' : s = 1 ∨ s = 2 ∨ s = 3 ∨ s = 4 := by have := of_decide_eq_true hs; omega
  have hle : A.behind s ≤ (A.words.length : Int) := by
    rw [len]; unfold Cfg.size Ar.behind
    rcases hs' with rfl | rfl | rfl | rfl <;> simp <;> omega
  have hwl : (zeroAt A.words (A.top s).toNat n.toNat).length = A.words.length := zeroAt_length (by unfold Ar.free at h2; omega)
  have hr : ∀ x ∈ (A.take s n).words, 0 ≤ x ∧ x < 18446744073709551616 := by
    rw [Ar.take_words]
    intro x hx
    rcases zeroAt_mem hx with rfl | h
    · decide
    · exact rng x h
  have hl : (((A.take s n).words.length : Nat) : Int) = (A.take s n).cfg.size := by rw [Ar.take_words, Ar.take_cfg, hwl, len]
  unfold Ar.free at h2
  rcases hs' with rfl | rfl | rfl | rfl
  all_goals
    simp [Ar.behind, Ar.top] at h2
    refine ⟨by rw [Ar.take_cfg]; exact cv, hl, hr, ?_, ?_, ?_, ?_, ?_, ?_, ?_, ?_, ?_⟩
    all_goals (simp [Ar.take, Ar.setTop, Ar.top]; omega)
end Go.Proofs.YtomgfdfgildkbaaDoor
/- The walks of package arena, sixth part: Cut. -/

namespace Go.Proofs.YtomgfdfgildkbaaDoor
open Go.RowKit Go.BigFrame

set_option maxHeartbeats 1000000 in
theorem cut_1 (b wb : Nat) (A : Ar) (t : Int) (w : World) (h : ArAt w b wb A) :
    Calls Tryd.prog 51 #[.pointer (some ⟨b, 0, none⟩), .int .i64 1, .int .i64 t] w fun e w' => e = .returned (.bool (inB t (1) A.t1)) ∧ ArAt w' b wb (if inB t (1) A.t1 = true then A.setTop 1 t else A) ∧ Only [b, wb] w w' := by
  have I := fun w => is_any 1 w
  rw [show isSp 1 = true by decide] at I
  have W := fun w => within_any t (1) A.t1 w
  obtain ⟨hc, hf⟩ := h.cells
  unfold arCells at hc
  have HH := Lib.hid h
  clear h
  have II := Lib.hid I
  by_cases q : inB t (1) A.t1 = true
  · rw [q] at W
    rw [q, if_pos rfl]
    have WW := Lib.hid W
    clear I W q
    go_enter Tryd.func51, Tryd.ntmps51
    go_wp2_with fail
    go_big_quiet ((first | (go_at_call 91; exact quiet_mine (II.out _)) | (go_at_call 90; exact quiet_mine (WW.out _))))
    go_wp2_with fail
    go_ret
    have hz := HH.out.drewN nq
    refine ⟨rfl, ⟨?_, ?_, hz.ne⟩, ((Only.refl _ _).setCell (by simp) _).drewN nq⟩
    · show (w.setCell _ _).heap[b]? = _
      rw [block_set HH.out.st]; simp [arCells, Ar.setTop]
    · show (w.setCell _ _).heap[wb]? = _
      rw [block_set_ne (Ne.symm hz.ne), HH.out.ws]; simp [Ar.setTop]
  · have q' : inB t (1) A.t1 = false := by simpa using q
    rw [q'] at W
    rw [q', if_neg (by simp)]
    have WW := Lib.hid W
    clear I W q q'
    go_enter Tryd.func51, Tryd.ntmps51
    go_wp2_with fail
    go_big_quiet ((first | (go_at_call 91; exact quiet_mine (II.out _)) | (go_at_call 90; exact quiet_mine (WW.out _))))
    go_wp2_with fail
    go_ret
    exact ⟨rfl, HH.out.drewN nq, (Only.refl _ _).drewN nq⟩

set_option maxHeartbeats 1000000 in
theorem cut_2 (b wb : Nat) (A : Ar) (t : Int) (w : World) (h : ArAt w b wb A) :
    Calls Tryd.prog 51 #[.pointer (some ⟨b, 0, none⟩), .int .i64 2, .int .i64 t] w fun e w' => e = .returned (.bool (inB t (1 + A.cfg.eden) A.t2)) ∧ ArAt w' b wb (if inB t (1 + A.cfg.eden) A.t2 = true then A.setTop 2 t else A) ∧ Only [b, wb] w w' := by
  have I := fun w => is_any 2 w
  rw [show isSp 2 = true by decide] at I
  have W := fun w => within_any t (1 + A.cfg.eden) A.t2 w
  obtain ⟨hc, hf⟩ := h.cells
  unfold arCells at hc
  have HH := Lib.hid h
  clear h
  have II := Lib.hid I
  by_cases q : inB t (1 + A.cfg.eden) A.t2 = true
  · rw [q] at W
    rw [q, if_pos rfl]
    have WW := Lib.hid W
    clear I W q
    go_enter Tryd.func51, Tryd.ntmps51
    go_wp2_with fail
    go_big_quiet ((first | (go_at_call 91; exact quiet_mine (II.out _)) | (go_at_call 90; exact quiet_mine (WW.out _))))
    go_wp2_with fail
    go_ret
    have hz := HH.out.drewN nq
    refine ⟨rfl, ⟨?_, ?_, hz.ne⟩, ((Only.refl _ _).setCell (by simp) _).drewN nq⟩
    · show (w.setCell _ _).heap[b]? = _
      rw [block_set HH.out.st]; simp [arCells, Ar.setTop]
    · show (w.setCell _ _).heap[wb]? = _
      rw [block_set_ne (Ne.symm hz.ne), HH.out.ws]; simp [Ar.setTop]
  · have q' : inB t (1 + A.cfg.eden) A.t2 = false := by simpa using q
    rw [q'] at W
    rw [q', if_neg (by simp)]
    have WW := Lib.hid W
    clear I W q q'
    go_enter Tryd.func51, Tryd.ntmps51
    go_wp2_with fail
    go_big_quiet ((first | (go_at_call 91; exact quiet_mine (II.out _)) | (go_at_call 90; exact quiet_mine (WW.out _))))
    go_wp2_with fail
    go_ret
    exact ⟨rfl, HH.out.drewN nq, (Only.refl _ _).drewN nq⟩

set_option maxHeartbeats 1000000 in
theorem cut_3 (b wb : Nat) (A : Ar) (t : Int) (w : World) (h : ArAt w b wb A) :
    Calls Tryd.prog 51 #[.pointer (some ⟨b, 0, none⟩), .int .i64 3, .int .i64 t] w fun e w' => e = .returned (.bool (inB t (1 + A.cfg.eden + A.cfg.surv) A.t3)) ∧ ArAt w' b wb (if inB t (1 + A.cfg.eden + A.cfg.surv) A.t3 = true then A.setTop 3 t else A) ∧ Only [b, wb] w w' := by
  have I := fun w => is_any 3 w
  rw [show isSp 3 = true by decide] at I
  have W := fun w => within_any t (1 + A.cfg.eden + A.cfg.surv) A.t3 w
  obtain ⟨hc, hf⟩ := h.cells
  unfold arCells at hc
  have HH := Lib.hid h
  clear h
  have II := Lib.hid I
  by_cases q : inB t (1 + A.cfg.eden + A.cfg.surv) A.t3 = true
  · rw [q] at W
    rw [q, if_pos rfl]
    have WW := Lib.hid W
    clear I W q
    go_enter Tryd.func51, Tryd.ntmps51
    go_wp2_with fail
    go_big_quiet ((first | (go_at_call 91; exact quiet_mine (II.out _)) | (go_at_call 90; exact quiet_mine (WW.out _))))
    go_wp2_with fail
    go_ret
    have hz := HH.out.drewN nq
    refine ⟨rfl, ⟨?_, ?_, hz.ne⟩, ((Only.refl _ _).setCell (by simp) _).drewN nq⟩
    · show (w.setCell _ _).heap[b]? = _
      rw [block_set HH.out.st]; simp [arCells, Ar.setTop]
    · show (w.setCell _ _).heap[wb]? = _
      rw [block_set_ne (Ne.symm hz.ne), HH.out.ws]; simp [Ar.setTop]
  · have q' : inB t (1 + A.cfg.eden + A.cfg.surv) A.t3 = false := by simpa using q
    rw [q'] at W
    rw [q', if_neg (by simp)]
    have WW := Lib.hid W
    clear I W q q'
    go_enter Tryd.func51, Tryd.ntmps51
    go_wp2_with fail
    go_big_quiet ((first | (go_at_call 91; exact quiet_mine (II.out _)) | (go_at_call 90; exact quiet_mine (WW.out _))))
    go_wp2_with fail
    go_ret
    exact ⟨rfl, HH.out.drewN nq, (Only.refl _ _).drewN nq⟩

set_option maxHeartbeats 1000000 in
theorem cut_4 (b wb : Nat) (A : Ar) (t : Int) (w : World) (h : ArAt w b wb A) :
    Calls Tryd.prog 51 #[.pointer (some ⟨b, 0, none⟩), .int .i64 4, .int .i64 t] w fun e w' => e = .returned (.bool (inB t (1 + A.cfg.eden + A.cfg.surv + A.cfg.surv) A.t4)) ∧ ArAt w' b wb (if inB t (1 + A.cfg.eden + A.cfg.surv + A.cfg.surv) A.t4 = true then A.setTop 4 t else A) ∧ Only [b, wb] w w' := by
  have I := fun w => is_any 4 w
  rw [show isSp 4 = true by decide] at I
  have W := fun w => within_any t (1 + A.cfg.eden + A.cfg.surv + A.cfg.surv) A.t4 w
  obtain ⟨hc, hf⟩ := h.cells
  unfold arCells at hc
  have HH := Lib.hid h
  clear h
  have II := Lib.hid I
  by_cases q : inB t (1 + A.cfg.eden + A.cfg.surv + A.cfg.surv) A.t4 = true
  · rw [q] at W
    rw [q, if_pos rfl]
    have WW := Lib.hid W
    clear I W q
    go_enter Tryd.func51, Tryd.ntmps51
    go_wp2_with fail
    go_big_quiet ((first | (go_at_call 91; exact quiet_mine (II.out _)) | (go_at_call 90; exact quiet_mine (WW.out _))))
    go_wp2_with fail
    go_ret
    have hz := HH.out.drewN nq
    refine ⟨rfl, ⟨?_, ?_, hz.ne⟩, ((Only.refl _ _).setCell (by simp) _).drewN nq⟩
    · show (w.setCell _ _).heap[b]? = _
      rw [block_set HH.out.st]; simp [arCells, Ar.setTop]
    · show (w.setCell _ _).heap[wb]? = _
      rw [block_set_ne (Ne.symm hz.ne), HH.out.ws]; simp [Ar.setTop]
  · have q' : inB t (1 + A.cfg.eden + A.cfg.surv + A.cfg.surv) A.t4 = false := by simpa using q
    rw [q'] at W
    rw [q', if_neg (by simp)]
    have WW := Lib.hid W
    clear I W q q'
    go_enter Tryd.func51, Tryd.ntmps51
    go_wp2_with fail
    go_big_quiet ((first | (go_at_call 91; exact quiet_mine (II.out _)) | (go_at_call 90; exact quiet_mine (WW.out _))))
    go_wp2_with fail
    go_ret
    exact ⟨rfl, HH.out.drewN nq, (Only.refl _ _).drewN nq⟩

theorem cut_none (b wb : Nat) (A : Ar) (s t : Int) (w : World) (h : ArAt w b wb A) (hs : isSp s = false) :
    Calls Tryd.prog 51 #[.pointer (some ⟨b, 0, none⟩), .int .i64 s, .int .i64 t] w fun e w' => e = .returned (.bool false) ∧ ArAt w' b wb A ∧ Only [b, wb] w w' := by
  have I := fun w => is_any s w
  rw [hs] at I
  have HH := Lib.hid h
  have II := Lib.hid I
  clear I h hs
  go_enter Tryd.func51, Tryd.ntmps51
  go_wp2_with fail
  go_big_quiet ((go_at_call 91; exact quiet_mine (II.out _)))
  go_wp2_with fail
  go_ret
  exact ⟨rfl, HH.out.drewN nq, (Only.refl _ _).drewN nq⟩

def Ar.cuts (A : Ar) (s t : Int) : Bool := isSp s && inB t (A.first s) (A.top s)
theorem cut_any (b wb : Nat) (A : Ar) (s t : Int) (w : World) (h : ArAt w b wb A) :
    Calls Tryd.prog 51 #[.pointer (some ⟨b, 0, none⟩), .int .i64 s, .int .i64 t] w fun e w' => e = .returned (.bool (A.cuts s t)) ∧ ArAt w' b wb (if A.cuts s t = true then A.setTop s t else A) ∧ Only [b, wb] w w' := by
  by_cases hs : isSp s = true
  · unfold Ar.cuts
    rw [hs, Bool.true_and]
    unfold isSp at hs
    have hs' : s = 1 ∨ s = 2 ∨ s = 3 ∨ s = 4 := by have := of_decide_eq_true hs; omega
    rcases hs' with rfl | rfl | rfl | rfl
    · exact cut_1 b wb A t w h
    · exact cut_2 b wb A t w h
    · exact cut_3 b wb A t w h
    · exact cut_4 b wb A t w h
  · have hs' : isSp s = false := by simpa using hs
    have e : A.cuts s t = false := by unfold Ar.cuts; rw [hs']; rfl
    rw [e, if_neg (by simp)]
    exact cut_none b wb A s t w h hs'
end Go.Proofs.YtomgfdfgildkbaaDoor
