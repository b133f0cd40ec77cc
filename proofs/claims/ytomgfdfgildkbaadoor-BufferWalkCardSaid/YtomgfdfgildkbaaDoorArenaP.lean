/- Plain words for the arena layer: an arena as numbers and a list of words; how it lies in memory. No condition. -/
import Derived.Test.YtomgfdfgildkbaaDoorPlain
namespace Go.Proofs.YtomgfdfgildkbaaDoor
open Go.RowKit

structure Cfg where
  eden : Int
  surv : Int
  ten : Int
  large : Int
  floor : Int
  num : Int
  den : Int
  target : Int
  maxAge : Int
  threads : Int
  slots : Int
  handles : Int
  buffer : Int
  workers : Int

def Cfg.cells (c : Cfg) : Array Value := #[.int .i64 c.eden, .int .i64 c.surv, .int .i64 c.ten, .int .i64 c.large, .int .i64 c.floor, .int .i64 c.num, .int .i64 c.den, .int .i64 c.target, .int .i64 c.maxAge, .int .i64 c.threads, .int .i64 c.slots, .int .i64 c.handles, .int .i64 c.buffer, .int .i64 c.workers]
def Cfg.val (c : Cfg) : Value := .agg c.cells

def inB (n lo hi : Int) : Bool := decide (lo ≤ n ∧ n ≤ hi)
def Cfg.v1 (c : Cfg) : Bool := inB c.eden 64 65536 && inB c.surv 64 65536 && inB c.ten 64 65536
def Cfg.v2 (c : Cfg) : Bool := inB c.large 2 65536 && inB c.floor 0 65536 && inB c.den 1 65536 && inB c.num c.den 65536
def Cfg.v3 (c : Cfg) : Bool := inB c.target 1 100 && inB c.maxAge 1 15
def Cfg.v4 (c : Cfg) : Bool := inB c.threads 1 8 && inB c.slots 1 4096 && inB c.handles 0 1024
def Cfg.valid (c : Cfg) : Bool := c.v1 && c.v2 && c.v3 && c.v4 && inB c.buffer 0 c.eden && inB c.workers 1 8

/-- An arena: its configuration, its words, the four tops, the from space. -/
structure Ar where
  cfg : Cfg
  words : List Int
  t1 : Int
  t2 : Int
  t3 : Int
  t4 : Int
  frm : Int

def Cfg.size (c : Cfg) : Int := 1 + c.eden + c.surv + c.surv + c.ten
def Ar.first (A : Ar) (s : Int) : Int := if s = 1 then 1 else if s = 2 then 1 + A.cfg.eden else if s = 3 then 1 + A.cfg.eden + A.cfg.surv else if s = 4 then 1 + A.cfg.eden + A.cfg.surv + A.cfg.surv else 0
def Ar.behind (A : Ar) (s : Int) : Int := if s = 1 then 1 + A.cfg.eden else if s = 2 then 1 + A.cfg.eden + A.cfg.surv else if s = 3 then 1 + A.cfg.eden + A.cfg.surv + A.cfg.surv else if s = 4 then 1 + A.cfg.eden + A.cfg.surv + A.cfg.surv + A.cfg.ten else 0
def Ar.top (A : Ar) (s : Int) : Int := if s = 1 then A.t1 else if s = 2 then A.t2 else if s = 3 then A.t3 else if s = 4 then A.t4 else 0
def Ar.setTop (A : Ar) (s v : Int) : Ar := if s = 1 then { A with t1 := v } else if s = 2 then { A with t2 := v } else if s = 3 then { A with t3 := v } else if s = 4 then { A with t4 := v } else A
def Ar.free (A : Ar) (s : Int) : Int := A.behind s - A.top s
def Ar.word (A : Ar) (i : Int) : Int := if 0 ≤ i then A.words.getD i.toNat 0 else 0
def Ar.put (A : Ar) (i v : Int) : Ar := { A with words := A.words.set i.toNat v }
def isSp (s : Int) : Bool := decide (1 ≤ s ∧ s ≤ 4)
def Ar.new (c : Cfg) : Ar := ⟨c, List.replicate c.size.toNat 0, 1, 1 + c.eden, 1 + c.eden + c.surv, 1 + c.eden + c.surv + c.surv, 2⟩
def Ar.to (A : Ar) : Int := 5 - A.frm

/-- What holds of every arena. -/
structure Ar.Ok (A : Ar) : Prop where
  cv : A.cfg.valid = true
  len : (A.words.length : Int) = A.cfg.size
  rng : ∀ x ∈ A.words, 0 ≤ x ∧ x < 18446744073709551616
  a1 : 1 ≤ A.t1
  b1 : A.t1 ≤ 1 + A.cfg.eden
  a2 : 1 + A.cfg.eden ≤ A.t2
  b2 : A.t2 ≤ 1 + A.cfg.eden + A.cfg.surv
  a3 : 1 + A.cfg.eden + A.cfg.surv ≤ A.t3
  b3 : A.t3 ≤ 1 + A.cfg.eden + A.cfg.surv + A.cfg.surv
  a4 : 1 + A.cfg.eden + A.cfg.surv + A.cfg.surv ≤ A.t4
  b4 : A.t4 ≤ 1 + A.cfg.eden + A.cfg.surv + A.cfg.surv + A.cfg.ten
  fr : A.frm = 2 ∨ A.frm = 3

structure Cfg.Bd (c : Cfg) : Prop where
  e0 : 64 ≤ c.eden
  e1 : c.eden ≤ 65536
  s0 : 64 ≤ c.surv
  s1 : c.surv ≤ 65536
  t0 : 64 ≤ c.ten
  t1 : c.ten ≤ 65536
theorem Cfg.bd {c : Cfg} (h : c.valid = true) : c.Bd := by
  simp only [Cfg.valid, Cfg.v1, inB, Bool.and_eq_true, decide_eq_true_eq] at h
  constructor <;> omega

/-- How an arena lies in memory: its struct in block b, its words in block wb. -/
def arCells (A : Ar) (wb : Nat) : Array Value :=
  #[.int .i64 A.cfg.eden, .int .i64 A.cfg.surv, .int .i64 A.cfg.ten, .int .i64 A.cfg.large, .int .i64 A.cfg.floor, .int .i64 A.cfg.num, .int .i64 A.cfg.den, .int .i64 A.cfg.target, .int .i64 A.cfg.maxAge, .int .i64 A.cfg.threads, .int .i64 A.cfg.slots, .int .i64 A.cfg.handles, .int .i64 A.cfg.buffer, .int .i64 A.cfg.workers,
    .slice (some ⟨wb, 0, none⟩) A.words.length A.words.length,
    .int .i64 0, .int .i64 0, .int .i64 0,
    .int .i64 1, .int .i64 (1 + A.cfg.eden), .int .i64 A.t1,
    .int .i64 (1 + A.cfg.eden), .int .i64 (1 + A.cfg.eden + A.cfg.surv), .int .i64 A.t2,
    .int .i64 (1 + A.cfg.eden + A.cfg.surv), .int .i64 (1 + A.cfg.eden + A.cfg.surv + A.cfg.surv), .int .i64 A.t3,
    .int .i64 (1 + A.cfg.eden + A.cfg.surv + A.cfg.surv), .int .i64 (1 + A.cfg.eden + A.cfg.surv + A.cfg.surv + A.cfg.ten), .int .i64 A.t4,
    .int .i64 A.frm]
def u64s (l : List Int) : Array Value := (l.map (Value.int .u64)).toArray
structure ArAt (w : World) (b wb : Nat) (A : Ar) : Prop where
  st : w.heap[b]? = some (.cells (arCells A wb) 125 (0, 0))
  ws : w.heap[wb]? = some (.cells (u64s A.words) 22 (0, 0))
  ne : b ≠ wb
theorem lt_of_heap {w : World} {b : Nat} {o : Obj} (h : w.heap[b]? = some o) : b < w.heap.size := (Array.getElem?_eq_some_iff.1 h).1
theorem ArAt.below {w w' : World} {b wb : Nat} {A : Ar} (h : ArAt w b wb A) (hb : Below w.heap.size w w') : ArAt w' b wb A :=
  ⟨(hb.block _ (lt_of_heap h.st)).trans h.st, (hb.block _ (lt_of_heap h.ws)).trans h.ws, h.ne⟩

/-- Of what was there nothing has turned but the blocks of S. -/
structure Only (S : List Nat) (w w' : World) : Prop where
  os : w'.os = w.os
  tape : w'.tape = w.tape
  output : w'.output = w.output
  size : w.heap.size ≤ w'.heap.size
  block : ∀ k, k < w.heap.size → k ∉ S → w'.heap[k]? = w.heap[k]?
theorem Only.of_below {S : List Nat} {w w' : World} (h : Below w.heap.size w w') : Only S w w' := ⟨h.os, h.tape, h.output, h.size, fun k hk _ => h.block k hk⟩
theorem Only.refl (S : List Nat) (w : World) : Only S w w := ⟨rfl, rfl, rfl, Nat.le_refl _, fun _ _ _ => rfl⟩
theorem Only.trans {S : List Nat} {a b c : World} (h : Only S a b) (k : Only S b c) : Only S a c :=
  ⟨k.os.trans h.os, k.tape.trans h.tape, k.output.trans h.output, Nat.le_trans h.size k.size, fun i hi hn => (k.block i (Nat.lt_of_lt_of_le hi h.size) hn).trans (h.block i hi hn)⟩
theorem Only.below {S : List Nat} {w w' : World} {B : Nat} (h : Only S w w') (hB : B ≤ w.heap.size) (hS : ∀ k ∈ S, B ≤ k) : Below B w w' :=
  ⟨h.os, h.tape, h.output, h.size, fun k hk => h.block k (by omega) (fun hm => by have := hS k hm; omega)⟩
theorem Only.mono {S T : List Nat} {w w' : World} (h : Only S w w') (hS : ∀ k ∈ S, k ∈ T) : Only T w w' :=
  ⟨h.os, h.tape, h.output, h.size, fun k hk hn => h.block k hk (fun hm => hn (hS k hm))⟩
theorem Only.setCell {S : List Nat} {a w : World} (h : Only S a w) {p : Addr} (hp : p.block ∈ S) (u : Value) : Only S a (w.setCell p u) :=
  h.trans ⟨rfl, rfl, rfl, by simp [World.setCell], fun k _ hn => Below.heap_setCell _ _ _ _ (fun e => hn (e ▸ hp))⟩
theorem Only.alloc {S : List Nat} {a w : World} (h : Only S a w) (o : Obj) : Only S a (w.alloc o) :=
  h.trans ⟨rfl, rfl, rfl, by simp, fun k hk _ => Below.heap_alloc _ _ _ hk⟩
theorem Only.drewN {S : List Nat} {a w : World} (h : Only S a w) (n : Nat) : Only S a (w.drewN n) := ⟨h.os, h.tape, h.output, h.size, h.block⟩
theorem Only.drew {S : List Nat} {a w : World} (h : Only S a w) : Only S a w.drew := ⟨h.os, h.tape, h.output, h.size, h.block⟩
theorem Only.setRow {S : List Nat} {a w : World} (h : Only S a w) {g : Nat} (hp : g ∈ S) (cs : Array Value) : Only S a (w.setRow g cs) :=
  h.trans ⟨rfl, rfl, rfl, by simp, fun k _ hn => setRow_other _ _ _ _ (fun e => hn (e ▸ hp))⟩
theorem block_set {w : World} {b : Nat} {c : Array Value} {t : TypeId} (h : w.heap[b]? = some (.cells c t (0, 0))) (o : Nat) (v : Value) : (w.setCell ⟨b, o, none⟩ v).heap[b]? = some (.cells (c.setIfInBounds o v) t (0, 0)) := by
  simp [World.setCell, Array.getElem?_modify, h]
theorem block_set_ne {w : World} {b k o : Nat} {v : Value} (h : k ≠ b) : (w.setCell ⟨b, o, none⟩ v).heap[k]? = w.heap[k]? := Below.heap_setCell _ _ _ _ h
theorem u64s_size (l : List Int) : (u64s l).size = l.length := by simp [u64s]
theorem u64s_get {l : List Int} {i : Nat} (h : i < l.length) : (u64s l)[i]? = some (.int .u64 (l.getD i 0)) := by simp [u64s, h]
theorem u64s_set (l : List Int) (i : Nat) (v : Int) : (u64s l).setIfInBounds i (.int .u64 v) = u64s (l.set i v) := by
  apply Array.ext_getElem?
  intro j
  simp only [u64s, Array.getElem?_setIfInBounds, List.getElem?_toArray, List.size_toArray, List.length_map, List.getElem?_map, List.getElem?_set]
  by_cases h : i = j <;> simp [h]
theorem heap_one (w : World) (A : Obj) : (w.alloc A).heap[w.heap.size]? = some A := by show (w.heap.push _)[w.heap.size]? = _; simp
theorem heap_two (w : World) (A B : Obj) : ((w.alloc A).alloc B).heap[w.heap.size]? = some A ∧ ((w.alloc A).alloc B).heap[w.heap.size + 1]? = some B := by
  constructor
  · rw [Below.heap_alloc _ _ _ (by simp)]; exact heap_one w A
  · have := heap_one (w.alloc A) B; simpa using this
/-- The space in which an address lies. -/
def Ar.space (A : Ar) (i : Int) : Int :=
  if i < 1 then 0 else if i < 1 + A.cfg.eden then 1 else if i < 1 + A.cfg.eden + A.cfg.surv then 2 else if i < 1 + A.cfg.eden + A.cfg.surv + A.cfg.surv then 3
  else if i < 1 + A.cfg.eden + A.cfg.surv + A.cfg.surv + A.cfg.ten then 4 else 0
def Ar.young (A : Ar) (i : Int) : Bool := decide (A.space i = 1 ∨ A.space i = A.frm)
def zeroAt (l : List Int) (o n : Nat) : List Int := l.take o ++ List.replicate n 0 ++ l.drop (o + n)
/-- n words taken at the top of the space s. -/
def Ar.take (A : Ar) (s n : Int) : Ar := ({ A with words := zeroAt A.words (A.top s).toNat n.toNat } : Ar).setTop s (A.top s + n)
theorem zeroAt_length {l : List Int} {o n : Nat} (h : o + n ≤ l.length) : (zeroAt l o n).length = l.length := by simp [zeroAt]; omega
theorem zeroAt_mem {l : List Int} {o n : Nat} {x : Int} (h : x ∈ zeroAt l o n) : x = 0 ∨ x ∈ l := by
  simp only [zeroAt, List.mem_append, List.mem_replicate] at h
  rcases h with (h | h) | h
  · exact .inr (List.mem_of_mem_take h)
  · exact .inl h.2
  · exact .inr (List.mem_of_mem_drop h)
theorem quiet_mine {P : Program} {f : FuncId} {args : Array Value} {w : World} {n : Nat} {v : Value} (h : Calls P f args (w.drewN n) fun e w' => e = .returned v ∧ w.drewN n = w') : Calls P f args (w.drewN n) fun e w'' => e = .returned v ∧ ∃ m, w'' = w.drewN m :=
  h.mono fun _ _ ⟨he, hm⟩ => ⟨he, n, hm.symm⟩
/-- Does an object stand at an address? Its header, its words. -/
def Ar.osz (A : Ar) (i : Int) : Int := 2 + (dec (A.word i)).ptrs + (dec (A.word i)).raws
def Ar.isObj (A : Ar) (i : Int) : Bool := decide (A.space i ≠ 0) && decide (i < A.top (A.space i)) && isHd (A.word i) && decide (A.osz i ≤ A.top (A.space i) - i)
def Ar.hd (A : Ar) (i : Int) : Hd := if A.isObj i then { dec (A.word i) with ser := A.word (i + 1) } else nohd
def Ar.osl (A : Ar) (wb : Nat) (i : Int) : Value := if A.isObj i then .slice (some ⟨wb, i.toNat, none⟩) (A.osz i).toNat (A.osz i).toNat else .slice none 0 0
theorem Ar.Ok.word {A : Ar} (ok : A.Ok) (i : Int) : 0 ≤ A.word i ∧ A.word i < 18446744073709551616 := by
  unfold Ar.word
  split
  · rw [List.getD_eq_getElem?_getD]
    by_cases c : i.toNat < A.words.length
    · rw [List.getElem?_eq_getElem c]
      exact ok.rng _ (List.getElem_mem c)
    · rw [List.getElem?_eq_none (by omega)]; decide
  · decide
theorem Ar.space_bd {A : Ar} (ok : A.Ok) {i : Int} (h : A.space i ≠ 0) : (A.space i = 1 ∨ A.space i = 2 ∨ A.space i = 3 ∨ A.space i = 4) ∧ A.first (A.space i) ≤ i ∧ i < A.behind (A.space i) ∧ 1 ≤ i ∧ i < (A.words.length : Int) := by
  have len := ok.len
  obtain ⟨e0, e1, s0, s1, t0, t1⟩ := Cfg.bd ok.cv
  unfold Ar.space at *
  unfold Cfg.size at len
  by_cases c0 : i < 1
  · simp [c0] at h
  by_cases c1 : i < 1 + A.cfg.eden
  · simp [c0, c1, Ar.first, Ar.behind]; omega
  by_cases c2 : i < 1 + A.cfg.eden + A.cfg.surv
  · simp [c0, c1, c2, Ar.first, Ar.behind]; omega
  by_cases c3 : i < 1 + A.cfg.eden + A.cfg.surv + A.cfg.surv
  · simp [c0, c1, c2, c3, Ar.first, Ar.behind]; omega
  by_cases c4 : i < 1 + A.cfg.eden + A.cfg.surv + A.cfg.surv + A.cfg.ten
  · simp [c0, c1, c2, c3, c4, Ar.first, Ar.behind]; omega
  · simp [c0, c1, c2, c3, c4] at h
theorem Ar.osz_bd {A : Ar} {i : Int} (h : isHd (A.word i) = true) : 2 ≤ A.osz i ∧ A.osz i ≤ 69632 := by
  have f := (chk_iff (dec (A.word i))).1 (by unfold isHd at h; simp at h; exact h.2)
  have := f.p0; have := f.p1; have := f.r0; have := f.r1
  unfold Ar.osz; omega
end Go.Proofs.YtomgfdfgildkbaaDoor
