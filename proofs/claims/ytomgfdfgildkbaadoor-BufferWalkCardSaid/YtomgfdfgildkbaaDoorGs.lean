/- Merged texts: Bk1, Bk2. -/
import Derived.Test.YtomgfdfgildkbaaDoorGn
import Derived.Test.YtomgfdfgildkbaaDoorGj
import Derived.Test.YtomgfdfgildkbaaDoorGk
/- BufferWalk: what lies in eden, with the buffers' rests, in plain words. No condition. -/


namespace Go.Proofs.YtomgfdfgildkbaaDoor
set_option linter.unusedVariables false
/-- An object that was put: where, its header, its raw fields as written last; the block in which the list's copy of them lies. -/
structure Lt where
  at_ : Int
  hd : Hd
  rs : List Int
  rb : Nat
def lt0 : Lt := ⟨0, nohd, [], 0⟩
instance : Inhabited Lt := ⟨lt0⟩
def Lt.it (q : Lt) : It := ⟨q.at_, 2 + q.hd.ptrs + q.hd.raws, some (q.hd, List.replicate q.hd.ptrs.toNat 0, q.rs)⟩
def fil (x y : Int) : It := ⟨x, y, none⟩
/-- Eden holds just these objects; the rests are fillers in it. -/
structure Eden (A : Ar) (B : Bu) (Ls : Int → List It) (Q : List Lt) : Prop where
  tiled : Tiled A Ls
  objs : ((Ls 1).filter isO).Perm (Q.map Lt.it)
  rests : ∀ t, B.is t = true → 0 ≤ (B.rest t).2 ∧ (0 < (B.rest t).2 → fil (B.rest t).1 (B.rest t).2 ∈ Ls 1)
  apart : ∀ t u, B.is t = true → B.is u = true → t ≠ u → 0 < (B.rest t).2 → 0 < (B.rest u).2 → (B.rest t).1 ≠ (B.rest u).1
  nof : B.size = 0 → ∀ x ∈ Ls 1, isO x = true
theorem Tile.subst {lo hi : Int} {l1 l2 M : List It} {x : It} (h : Tile lo hi (l1 ++ x :: l2)) (hM : Tile x.at_ (x.at_ + x.n) M) : Tile lo hi (l1 ++ M ++ l2) := by
  obtain ⟨m, h1, h2, h3, h4⟩ := Tile.append.1 h
  subst h2
  exact Tile.append.2 ⟨_, Tile.append.2 ⟨_, h1, hM⟩, h4⟩
theorem Tile.sum {lo hi : Int} {L : List It} (h : Tile lo hi L) : hi = lo + (L.map It.n).sum := by
  induction L generalizing lo with
  | nil => simp only [Tile] at h; simp; omega
  | cons x l ih =>
    obtain ⟨h1, h2, h3⟩ := h
    have := ih h3
    simp only [List.map_cons, List.sum_cons]; omega
theorem Tile.len {lo hi : Int} {L : List It} (h : Tile lo hi L) : lo + L.length ≤ hi := by
  induction L generalizing lo with
  | nil => simp only [Tile] at h; simp; omega
  | cons x l ih =>
    obtain ⟨h1, h2, h3⟩ := h
    have := ih h3
    simp only [List.length_cons]; omega
theorem Tile.nodup {lo hi : Int} {L : List It} (h : Tile lo hi L) : (L.map It.at_).Nodup := by
  induction L generalizing lo with
  | nil => simp
  | cons x l ih =>
    obtain ⟨h1, h2, h3⟩ := h
    rw [List.map_cons, List.nodup_cons]
    refine ⟨fun hm => ?_, ih h3⟩
    obtain ⟨y, hy, e⟩ := List.mem_map.1 hm
    have := h3.mem hy
    omega
theorem Tile.two {lo hi : Int} {L : List It} (h : Tile lo hi L) {x y : It} (hx : x ∈ L) (hy : y ∈ L) (ne : x ≠ y) : y.at_ + y.n ≤ x.at_ ∨ x.at_ + x.n ≤ y.at_ := by
  obtain ⟨l1, l2, rfl⟩ := List.append_of_mem hx
  refine h.apart y ?_
  rcases List.mem_append.1 hy with hy | hy
  · exact .inl hy
  · rcases List.mem_cons.1 hy with hy | hy
    · exact absurd hy.symm ne
    · exact .inr hy
/-- One thing gives way to several. -/
theorem Tiled.subst {A A' : Ar} {Ls : Int → List It} {s : Int} {l1 l2 M : List It} {x : It} (ok : A.Ok) (hs : isSp s = true) (h : Tiled A Ls) (hL : Ls s = l1 ++ x :: l2) (hf : ∀ t, A'.first t = A.first t) (ht : ∀ t, A'.top t = A.top t) (hM : Tile x.at_ (x.at_ + x.n) M) (hx : ∀ y ∈ M, y.In A') (hk : ∀ i, ¬ (x.at_ ≤ i ∧ i < x.at_ + x.n) → A'.word i = A.word i) : Tiled A' (fun t => if t = s then l1 ++ M ++ l2 else Ls t) := by
  intro t hst
  rw [hf, ht]
  obtain ⟨hT, hI⟩ := h t hst
  obtain ⟨hT0, hI0⟩ := h s hs
  rw [hL] at hT0 hI0
  have hxm := hT0.mem (show x ∈ l1 ++ x :: l2 by simp)
  by_cases e : t = s
  · subst e
    simp only [if_pos]
    refine ⟨hT0.subst hM, fun y hy => ?_⟩
    have hy' : y ∈ M ∨ (y ∈ l1 ∨ y ∈ l2) := by
      rcases List.mem_append.1 hy with hy | hy
      · rcases List.mem_append.1 hy with hy | hy
        · exact .inr (.inl hy)
        · exact .inl hy
      · exact .inr (.inr hy)
    rcases hy' with hy' | hy'
    · exact hx y hy'
    · have hm : y ∈ l1 ++ x :: l2 := by rcases hy' with q | q <;> simp [q]
      have := hT0.apart y hy'
      have hy1 := hT0.mem hm
      exact (hI0 y hm).keep hy1.2.1 (fun i i1 i2 => hk i (by omega))
  · simp only [if_neg e]
    refine ⟨hT, fun y hy => ?_⟩
    have hy1 := hT.mem hy
    have ha := Ar.apart ok hst hs e
    have z1 := ok.sizes s
    have z2 := ok.sizes t
    exact (hI y hy).keep hy1.2.1 (fun i i1 i2 => hk i (by omega))
theorem word_blit (A : Ar) {x : Int} {xs : List Int} (h0 : 0 ≤ x) (h : x + xs.length ≤ (A.words.length : Int)) (j : Int) : (A.blit x xs).word j = if x ≤ j ∧ j < x + xs.length then xs.getD (j - x).toNat 0 else A.word j := by
  unfold Ar.word Ar.blit
  simp only
  by_cases hj : 0 ≤ j
  · rw [if_pos hj, if_pos hj, List.getD_eq_getElem?_getD, blit_get (by omega)]
    by_cases c1 : j < x
    · rw [if_pos (by omega), if_neg (by omega), List.getD_eq_getElem?_getD]
    · by_cases c2 : j < x + xs.length
      · rw [if_neg (by omega), if_pos (by omega), if_pos (by omega), List.getD_eq_getElem?_getD, show j.toNat - x.toNat = (j - x).toNat by omega]
      · rw [if_neg (by omega), if_neg (by omega), if_neg (by omega), List.getD_eq_getElem?_getD]
  · rw [if_neg hj, if_neg hj, if_neg (by omega)]
theorem objW_get (m s : Int) (n k : Nat) : (objW m s n).getD k 0 = if k = 0 then m else if k = 1 then s else 0 := by
  unfold objW
  rcases k with _ | _ | k
  · simp
  · simp
  · rw [if_neg (by omega), if_neg (by omega), List.getD_eq_getElem?_getD]
    simp only [List.getElem?_cons_succ, List.getElem?_replicate]
    split <;> rfl
theorem word_laid (A : Ar) {x y n : Int} {g : Hd} (h0 : 0 ≤ x) (h2 : 2 ≤ n) (hy : n ≤ y) (h : x + y ≤ (A.words.length : Int)) (j : Int) : (A.laid x y n g).word j = if n < y ∧ j = x + n then wordT 3 (y - n) else if j = x then enc g else if j = x + 1 then g.ser else if x ≤ j ∧ j < x + n then 0 else A.word j := by
  have hl : (objW (enc g) g.ser n.toNat).length = n.toNat := objW_length (by omega)
  have hb := word_blit A (x := x) (xs := objW (enc g) g.ser n.toNat) h0 (by rw [hl]; omega) j
  rw [hl, objW_get] at hb
  have hB : (A.blit x (objW (enc g) g.ser n.toNat)).words.length = A.words.length := Ar.blit_len h0 (by rw [hl]; omega)
  have hb2 : (A.blit x (objW (enc g) g.ser n.toNat)).word j = if j = x then enc g else if j = x + 1 then g.ser else if x ≤ j ∧ j < x + n then 0 else A.word j := by
    rw [hb]
    by_cases c : x ≤ j ∧ j < x + (n.toNat : Int)
    · rw [if_pos c]
      by_cases e0 : j = x
      · rw [if_pos (by omega), if_pos e0]
      · by_cases e1 : j = x + 1
        · rw [if_neg (by omega), if_pos (by omega), if_neg e0, if_pos e1]
        · rw [if_neg (by omega), if_neg (by omega), if_neg e0, if_neg e1, if_pos (by omega)]
    · rw [if_neg c, if_neg (by omega), if_neg (by omega), if_neg (by omega)]
  unfold Ar.laid Ar.rest
  by_cases c : n < y
  · rw [if_pos (by omega), word_put _ (by omega) (by rw [hB]; omega), hb2]
    by_cases e : j = x + n
    · rw [if_pos e, if_pos ⟨c, e⟩]
    · rw [if_neg e, if_neg (show ¬ (n < y ∧ j = x + n) from fun q => e q.2)]
  · rw [if_neg (by omega), if_neg (show ¬ (n < y ∧ j = x + n) from fun q => c q.1), hb2]
theorem Ar.laid_first (A : Ar) (x y n : Int) (g : Hd) (t : Int) : (A.laid x y n g).first t = A.first t := by
  unfold Ar.laid Ar.rest
  split <;> rfl
theorem replicate_get (n k : Nat) : (List.replicate n (0 : Int)).getD k 0 = 0 := by
  rw [List.getD_eq_getElem?_getD, List.getElem?_replicate]
  split <;> rfl
theorem count_one {l : List Int} {a : Int} (h : l.Nodup) (hm : a ∈ l) : l.count a = 1 := by
  induction l with
  | nil => cases hm
  | cons x l ih =>
    rw [List.nodup_cons] at h
    by_cases e : x = a
    · subst e
      rw [List.count_cons_self, List.count_eq_zero.2 h.1]
    · rcases List.mem_cons.1 hm with q | q
      · exact absurd q.symm e
      · rw [List.count_cons_of_ne (by simpa using e)]; exact ih h.2 q
theorem perm_sum {l m : List Int} (h : l.Perm m) : l.sum = m.sum := by
  induction h with
  | nil => rfl
  | cons x _ ih => simp [ih]
  | swap x y l => simp; omega
  | trans _ _ a b => exact a.trans b
section
variable {A : Ar} {B : Bu} {Ls : Int → List It} {Q : List Lt}
theorem Eden.mem (h : Eden A B Ls Q) {q : Lt} (hq : q ∈ Q) : q.it ∈ Ls 1 :=
  (List.mem_filter.1 (h.objs.mem_iff.2 (List.mem_map.2 ⟨q, hq, rfl⟩))).1
theorem Eden.len (ok : A.Ok) (h : Eden A B Ls Q) : Q.length ≤ 65536 := by
  have e := h.objs.length_eq
  have l := (h.tiled 1 (by decide)).1.len
  have f := List.length_filter_le isO (Ls 1)
  have z := ok.sizes 1
  obtain ⟨e0, e1, -⟩ := Cfg.bd ok.cv
  simp only [List.length_map] at e
  simp only [Ar.first, Ar.behind, if_true] at l z
  omega
theorem Eden.nodup (h : Eden A B Ls Q) : (Q.map Lt.at_).Nodup := by
  have hn := (h.tiled 1 (by decide)).1.nodup
  have h1 : (((Ls 1).filter isO).map It.at_).Nodup := hn.sublist ((List.filter_sublist).map _)
  have h2 := (h.objs.map It.at_).nodup_iff.1 h1
  rw [List.map_map] at h2
  exact h2
/-- What holds of each object. -/
structure Lt.Lies (A : Ar) (q : Lt) : Prop where
  obj : A.isObj q.at_ = true
  hd : A.hd q.at_ = q.hd
  lo : 1 ≤ q.at_
  hi : q.at_ + (2 + q.hd.ptrs + q.hd.raws) ≤ A.top 1
  fine : Fine q.hd
  nr : (q.rs.length : Int) = q.hd.raws
theorem Eden.lies (ok : A.Ok) (h : Eden A B Ls Q) {q : Lt} (hq : q ∈ Q) : q.Lies A := by
  have hm := h.mem hq
  obtain ⟨h1, h2, h3, h4⟩ := h.tiled.obj ok (by decide) hm rfl
  obtain ⟨hT, hI'⟩ := h.tiled 1 (by decide)
  have hI := hI' _ hm
  have hT' := hT.mem hm
  unfold It.In Lt.it at hI
  simp only at hI
  obtain ⟨f, p1, p2, -⟩ := hI
  unfold Lt.it at h1 h2 h3 h4 hT'
  simp only at h1 h2 h3 h4 hT'
  exact ⟨h1, h2, h3, by omega, f, p2⟩
theorem Eden.ptr (ok : A.Ok) (h : Eden A B Ls Q) {q : Lt} (hq : q ∈ Q) {k : Nat} (hk : (k : Int) < q.hd.ptrs) : A.ptrOk q.at_ k = true ∧ A.ptr q.at_ k = 0 := by
  have hl := ok.len
  obtain ⟨e0, e1, s0, s1, t0, t1⟩ := Cfg.bd ok.cv
  unfold Cfg.size at hl
  have := h.tiled.ptr ok (by decide) (h.mem hq) (x := q.it) rfl (k := k) (by simp; omega) (by rw [replicate_get]; omega)
  rw [replicate_get] at this
  exact this
theorem Eden.raw (ok : A.Ok) (h : Eden A B Ls Q) {q : Lt} (hq : q ∈ Q) {k : Nat} (hk : k < q.rs.length) : A.rawOk q.at_ k = true ∧ A.raw q.at_ k = q.rs.getD k 0 :=
  h.tiled.raw ok (by decide) (h.mem hq) (x := q.it) rfl hk
theorem Eden.addrs (ok : A.Ok) (h : Eden A B Ls Q) : ((A.objs 1).map (·.1)).Perm (Q.map Lt.at_) := by
  rw [h.tiled.objs ok (by decide), objsOf_it, List.map_map]
  have := h.objs.map It.at_
  rw [List.map_map] at this
  exact this
theorem Eden.count (ok : A.Ok) (h : Eden A B Ls Q) {q : Lt} (hq : q ∈ Q) : ((A.objs 1).map (·.1)).count q.at_ = 1 := by
  rw [(h.addrs ok).count_eq]
  exact count_one h.nodup (List.mem_map.2 ⟨q, hq, rfl⟩)
/-- A rest and an object don't overlap. -/
theorem Eden.off (h : Eden A B Ls Q) {q : Lt} (hq : q ∈ Q) {t : Int} (ht : B.is t = true) (hy : 0 < (B.rest t).2) : q.at_ + (2 + q.hd.ptrs + q.hd.raws) ≤ (B.rest t).1 ∨ (B.rest t).1 + (B.rest t).2 ≤ q.at_ := by
  have hm := (h.rests t ht).2 hy
  rcases (h.tiled 1 (by decide)).1.two hm (h.mem hq) (fun e => by have := congrArg It.obj e; simp [fil, Lt.it] at this) with c | c
  · exact .inl c
  · exact .inr c
theorem Eden.within (h : Eden A B Ls Q) {t : Int} (ht : B.is t = true) (hy : 0 < (B.rest t).2) : 1 ≤ (B.rest t).1 ∧ (B.rest t).1 + (B.rest t).2 ≤ A.top 1 := by
  have hm := (h.rests t ht).2 hy
  have := (h.tiled 1 (by decide)).1.mem hm
  simp only [fil, Ar.first, if_true] at this
  exact ⟨this.1, this.2.2⟩
theorem Eden.two (h : Eden A B Ls Q) {t u : Int} (ht : B.is t = true) (hu : B.is u = true) (ne : t ≠ u) (hy : 0 < (B.rest t).2) (hz : 0 < (B.rest u).2) : (B.rest t).1 + (B.rest t).2 ≤ (B.rest u).1 ∨ (B.rest u).1 + (B.rest u).2 ≤ (B.rest t).1 := by
  have h1 := (h.rests t ht).2 hy
  have h2 := (h.rests u hu).2 hz
  have ha := h.apart t u ht hu ne hy hz
  rcases (h.tiled 1 (by decide)).1.two h2 h1 (fun e => ha (congrArg It.at_ e).symm) with c | c
  · exact .inl c
  · exact .inr c
theorem Eden.sum (h : Eden A B Ls Q) (h0 : B.size = 0) : A.top 1 = 1 + (Q.map fun q => 2 + q.hd.ptrs + q.hd.raws).sum := by
  have hs := (h.tiled 1 (by decide)).1.sum
  have hf : (Ls 1).filter isO = Ls 1 := List.filter_eq_self.2 (h.nof h0)
  have hp := h.objs
  rw [hf] at hp
  have := perm_sum (hp.map It.n)
  rw [List.map_map] at this
  rw [hs, this]
  rfl
end
end Go.Proofs.YtomgfdfgildkbaaDoor
/- BufferWalk: what Put, eden's Put, Retire and SetRaw do to eden, in plain words. No condition. -/


namespace Go.Proofs.YtomgfdfgildkbaaDoor
set_option linter.unusedVariables false
section
variable {A : Ar} {B : Bu} {Ls : Int → List It} {Q : List Lt}
theorem perm_in {α : Type} {F1 F2 M : List α} {x : α} (h : (F1 ++ F2).Perm M) : (F1 ++ [x] ++ F2).Perm (M ++ [x]) := by
  have h1 : (F1 ++ [x] ++ F2).Perm (x :: (F1 ++ F2)) := by rw [List.append_assoc]; exact List.perm_middle
  exact h1.trans ((h.cons x).trans (List.perm_append_singleton x M).symm)
/-- An object goes into a rest. -/
theorem Eden.old (ok : A.Ok) (h : Eden A B Ls Q) {t x y : Int} (ht : B.is t = true) (hr : B.rest t = (x, y)) {g : Hd} (f : Fine g) (hn : 2 + g.ptrs + g.raws ≤ y) (rb : Nat) :
    ∃ Ls', Eden (A.laid x y (2 + g.ptrs + g.raws) g) (B.setRest t (x + (2 + g.ptrs + g.raws), y - (2 + g.ptrs + g.raws))) Ls' (Q ++ [⟨x, g, List.replicate g.raws.toNat 0, rb⟩]) := by
  have p0 := f.p0
  have r0 := f.r0
  have hm := (h.rests t ht).2 (by rw [hr]; simp only; omega)
  rw [hr] at hm
  simp only at hm
  obtain ⟨l1, l2, hL⟩ := List.append_of_mem hm
  have hT := (h.tiled 1 (by decide)).1
  have htl := (ok.top_le 1).1
  have hfi : A.first 1 = 1 := rfl
  rw [hL] at hT
  have hxm := hT.mem (show fil x y ∈ l1 ++ fil x y :: l2 by simp)
  simp only [fil] at hxm
  rw [hfi] at hxm
  obtain ⟨n, hnn⟩ : ∃ n, n = 2 + g.ptrs + g.raws := ⟨_, rfl⟩
  rw [← hnn] at hn ⊢
  have hw := word_laid A (x := x) (y := y) (n := n) (g := g) (by omega) (by omega) hn (by omega)
  have hTd := h.tiled.subst (A' := A.laid x y n g) (M := (⟨x, n, some (g, List.replicate g.ptrs.toNat 0, List.replicate g.raws.toNat 0)⟩ : It) :: (if n < y then [fil (x + n) (y - n)] else [])) ok (by decide) hL (fun s => Ar.laid_first A x y n g s) (fun s => Ar.laid_top A x y n g s)
    (by
      refine ⟨rfl, by simp only; omega, ?_⟩
      simp only [fil]
      by_cases c : n < y
      · rw [if_pos c]; exact ⟨rfl, by simp only; omega, by simp only [Tile]; omega⟩
      · rw [if_neg c]; simp only [Tile]; omega)
    (fun z hz => by
      rcases List.mem_cons.1 hz with rfl | hz
      · unfold It.In
        simp only
        refine ⟨f, by simp; omega, by simp; omega, by omega, ?_, ?_, fun k hk => ?_, fun k hk => ?_⟩
        · rw [hw, if_neg (by omega), if_pos rfl]
        · rw [hw, if_neg (by omega), if_neg (by omega), if_pos rfl]
        · simp only [List.length_replicate] at hk
          rw [hw, if_neg (by omega), if_neg (by omega), if_neg (by omega), if_pos (by omega), replicate_get]
        · simp only [List.length_replicate] at hk
          rw [hw, if_neg (by omega), if_neg (by omega), if_neg (by omega), if_pos (by omega), replicate_get]
      · by_cases c : n < y
        · rw [if_pos c] at hz
          rw [List.mem_singleton.1 hz]
          unfold It.In fil
          simp only
          have := ok.sizes 1
          exact ⟨by omega, by rw [hw, if_pos ⟨c, rfl⟩]⟩
        · rw [if_neg c] at hz; cases hz)
    (fun i hi => by
      simp only [fil] at hi
      rw [hw, if_neg (by omega), if_neg (by omega), if_neg (by omega), if_neg (by omega)])
  have hmem : ∀ z, z ∈ l1 ∨ z ∈ l2 → z ∈ l1 ++ ((⟨x, n, some (g, List.replicate g.ptrs.toNat 0, List.replicate g.raws.toNat 0)⟩ : It) :: (if n < y then [fil (x + n) (y - n)] else [])) ++ l2 := fun z hz => by
    rcases hz with hz | hz <;> simp [hz]
  have hoth : ∀ u, B.is u = true → u ≠ t → 0 < (B.rest u).2 → (fil (B.rest u).1 (B.rest u).2 ∈ l1 ∨ fil (B.rest u).1 (B.rest u).2 ∈ l2) ∧ ((B.rest u).1 + (B.rest u).2 ≤ x ∨ x + y ≤ (B.rest u).1) := fun u hu hne hp => by
    have hmu := (h.rests u hu).2 hp
    have hap := h.apart u t hu ht hne hp (by rw [hr]; simp only; omega)
    rw [hr] at hap
    rw [hL] at hmu
    have hne2 : fil (B.rest u).1 (B.rest u).2 ≠ fil x y := fun e => hap (congrArg It.at_ e)
    have : fil (B.rest u).1 (B.rest u).2 ∈ l1 ∨ fil (B.rest u).1 (B.rest u).2 ∈ l2 := by
      rcases List.mem_append.1 hmu with q | q
      · exact .inl q
      · rcases List.mem_cons.1 q with q | q
        · exact absurd q hne2
        · exact .inr q
    exact ⟨this, by have := hT.apart _ this; simpa [fil] using this⟩
  refine ⟨_, hTd, ?_, fun u hu => ?_, fun u v hu hv ne hp1 hp2 => ?_, fun hs => ?_⟩
  · simp only [if_pos]
    have e1 : (Ls 1).filter isO = l1.filter isO ++ l2.filter isO := by
      rw [hL, List.filter_append, List.filter_cons_of_neg (by simp [isO, fil])]
    have e2 : ((⟨x, n, some (g, List.replicate g.ptrs.toNat 0, List.replicate g.raws.toNat 0)⟩ : It) :: (if n < y then [fil (x + n) (y - n)] else [])).filter isO = [⟨x, n, some (g, List.replicate g.ptrs.toNat 0, List.replicate g.raws.toNat 0)⟩] := by
      rw [List.filter_cons_of_pos (by rfl)]
      by_cases c : n < y
      · rw [if_pos c]; rfl
      · rw [if_neg c]; rfl
    have ho := h.objs
    rw [e1] at ho
    rw [List.filter_append, List.filter_append, e2, List.map_append]
    have := perm_in (x := (⟨x, n, some (g, List.replicate g.ptrs.toNat 0, List.replicate g.raws.toNat 0)⟩ : It)) ho
    rw [hnn] at this ⊢
    exact this
  · rw [Bu.is_setRest] at hu
    simp only [if_pos]
    by_cases e : u = t
    · subst e
      rw [Bu.rest_setRest hu]
      refine ⟨by simp only; omega, fun hp => ?_⟩
      simp only at hp ⊢
      rw [if_pos (by omega)]
      simp
    · rw [Bu.rest_setRest_ne hu ht e]
      exact ⟨(h.rests u hu).1, fun hp => hmem _ (hoth u hu e hp).1⟩
  · rw [Bu.is_setRest] at hu hv
    by_cases e : u = t
    · subst e
      have ev : v ≠ u := fun q => ne q.symm
      rw [Bu.rest_setRest hu] at hp1 ⊢
      rw [Bu.rest_setRest_ne hv hu ev] at hp2 ⊢
      have := (hoth v hv ev hp2).2
      simp only at hp1 ⊢
      omega
    · rw [Bu.rest_setRest_ne hu ht e] at hp1 ⊢
      by_cases e2 : v = t
      · subst e2
        rw [Bu.rest_setRest hv] at hp2 ⊢
        have := (hoth u hu e hp1).2
        simp only at hp2 ⊢
        omega
      · rw [Bu.rest_setRest_ne hv ht e2] at hp2 ⊢
        exact h.apart u v hu hv ne hp1 hp2
  · have := h.nof hs _ hm
    cases this
/-- A new buffer is opened. -/
theorem Eden.opened (ok : A.Ok) (h : Eden A B Ls Q) {t y : Int} (ht : B.is t = true) (h1 : 1 ≤ y) (h2 : y ≤ A.free 1) (hs : B.size ≠ 0) : ∃ Ls', Eden (A.fill 1 y) (B.setRest t (A.top 1, y)) Ls' Q := by
  have hp : A.fillOk 1 y = true := by unfold Ar.fillOk; rw [decide_eq_true ⟨h1, h2⟩]; rfl
  have hTd := h.tiled.fill ok hp
  refine ⟨_, hTd, ?_, fun u hu => ?_, fun u v hu hv ne hp1 hp2 => ?_, fun q => absurd q hs⟩
  · simp only [if_pos]
    rw [List.filter_append]
    have : [(⟨A.top 1, y, none⟩ : It)].filter isO = [] := rfl
    rw [this, List.append_nil]
    exact h.objs
  · rw [Bu.is_setRest] at hu
    simp only [if_pos]
    by_cases e : u = t
    · subst e
      rw [Bu.rest_setRest hu]
      exact ⟨by simp only; omega, fun _ => by simp [fil]⟩
    · rw [Bu.rest_setRest_ne hu ht e]
      exact ⟨(h.rests u hu).1, fun hp => List.mem_append.2 (.inl ((h.rests u hu).2 hp))⟩
  · rw [Bu.is_setRest] at hu hv
    by_cases e : u = t
    · subst e
      have ev : v ≠ u := fun q => ne q.symm
      rw [Bu.rest_setRest hu]
      rw [Bu.rest_setRest_ne hv hu ev] at hp2 ⊢
      have := (h.within hv hp2).2
      simp only; omega
    · rw [Bu.rest_setRest_ne hu ht e] at hp1 ⊢
      by_cases e2 : v = t
      · subst e2
        rw [Bu.rest_setRest hv]
        have := (h.within hu hp1).2
        simp only; omega
      · rw [Bu.rest_setRest_ne hv ht e2] at hp2 ⊢
        exact h.apart u v hu hv ne hp1 hp2
/-- An object is put at eden's top. -/
theorem Eden.lay (ok : A.Ok) (h : Eden A B Ls Q) {g : Hd} (hp : A.putOk 1 g = true) (rb : Nat) : ∃ Ls', Eden (A.lay 1 g) B Ls' (Q ++ [⟨A.top 1, g, List.replicate g.raws.toNat 0, rb⟩]) := by
  have hTd := h.tiled.lay ok hp
  refine ⟨_, hTd, ?_, fun u hu => ?_, h.apart, fun hs => ?_⟩
  · simp only [if_pos]
    rw [List.filter_append, List.map_append]
    exact h.objs.append (List.Perm.refl _)
  · simp only [if_pos]
    exact ⟨(h.rests u hu).1, fun hp => List.mem_append.2 (.inl ((h.rests u hu).2 hp))⟩
  · simp only [if_pos]
    intro x hx
    rcases List.mem_append.1 hx with hx | hx
    · exact h.nof hs x hx
    · rw [List.mem_singleton.1 hx]; rfl
theorem Bu.retire_rest (B : Bu) (t : Int) : B.retire.rest t = (0, 0) := by
  unfold Bu.retire Bu.rest
  simp only
  split
  · rw [List.getD_eq_getElem?_getD, List.getElem?_replicate]
    split <;> rfl
  · rfl
theorem Bu.retire_is (B : Bu) (t : Int) : B.retire.is t = B.is t := by unfold Bu.retire Bu.is; simp
theorem Eden.retire (h : Eden A B Ls Q) : Eden A B.retire Ls Q :=
  ⟨h.tiled, h.objs, fun t _ => by rw [Bu.retire_rest]; exact ⟨Int.le_refl _, fun q => absurd q (by decide)⟩, fun t u _ _ _ q _ => by rw [Bu.retire_rest] at q; exact absurd q (by decide), h.nof⟩
theorem lt_mem {k : Nat} (hk : k < Q.length) : Q.getD k lt0 ∈ Q := by rw [List.getD_eq_getElem?_getD, List.getElem?_eq_getElem hk]; exact List.getElem_mem hk
theorem Eden.setRaw (ok : A.Ok) (h : Eden A B Ls Q) {k : Nat} (hk : k < Q.length) {i v : Int} (h0 : 0 ≤ i) (h1 : i < (Q.getD k lt0).hd.raws) :
    ∃ Ls', Eden (A.setRaw (Q.getD k lt0).at_ i v) B Ls' (Q.set k { Q.getD k lt0 with rs := (Q.getD k lt0).rs.set i.toNat v }) := by
  have hm := lt_mem hk
  have hI := h.mem hm
  obtain ⟨l1, l2, hL⟩ := List.append_of_mem hI
  have hTd := h.tiled.setRaw ok (by decide) hL (x := (Q.getD k lt0).it) rfl h0 h1 (v := v)
  have eq : Q = Q.take k ++ Q.getD k lt0 :: Q.drop (k + 1) := by
    rw [List.getD_eq_getElem?_getD, List.getElem?_eq_getElem hk]
    simp
  have es : Q.set k { Q.getD k lt0 with rs := (Q.getD k lt0).rs.set i.toNat v } = Q.take k ++ { Q.getD k lt0 with rs := (Q.getD k lt0).rs.set i.toNat v } :: Q.drop (k + 1) := by
    rw [List.set_eq_take_append_cons_drop, if_pos hk]
  rw [es]
  generalize Q.getD k lt0 = q at *
  have hmem : ∀ z, z.obj = none → z ∈ Ls 1 → z ∈ l1 ++ (⟨q.it.at_, q.it.n, some (q.hd, List.replicate q.hd.ptrs.toNat 0, q.rs.set i.toNat v)⟩ : It) :: l2 := fun z hz hzm => by
    rw [hL] at hzm
    rcases List.mem_append.1 hzm with c | c
    · simp [c]
    · rcases List.mem_cons.1 c with c | c
      · rw [c] at hz; cases hz
      · simp [c]
  refine ⟨_, hTd, ?_, fun u hu => ?_, h.apart, fun hs => ?_⟩
  · simp only [if_pos]
    have ho := h.objs
    rw [hL, List.filter_append, List.filter_cons_of_pos (by rfl)] at ho
    have e3 : Q.map Lt.it = (Q.take k).map Lt.it ++ q.it :: (Q.drop (k + 1)).map Lt.it := by
      conv => lhs; rw [eq]
      rw [List.map_append, List.map_cons]
    rw [e3] at ho
    have ho2 := (List.perm_middle.symm.trans (ho.trans List.perm_middle)).cons_inv
    rw [List.filter_append, List.filter_cons_of_pos (by rfl), List.map_append, List.map_cons]
    exact List.perm_middle.trans ((ho2.cons _).trans List.perm_middle.symm)
  · simp only [if_pos]
    exact ⟨(h.rests u hu).1, fun hp => hmem _ rfl ((h.rests u hu).2 hp)⟩
  · simp only [if_pos]
    intro z hz
    rcases List.mem_append.1 hz with c | c
    · exact h.nof hs z (by rw [hL]; simp [c])
    · rcases List.mem_cons.1 c with c | c
      · rw [c]; rfl
      · exact h.nof hs z (by rw [hL]; simp [c])
theorem Eden.restsIn (ok : A.Ok) (h : Eden A B Ls Q) : RestsIn B A := fun t ht => ⟨(h.rests t ht).1, fun hp => by
  have := h.within ht hp
  have := (ok.top_le 1).1
  omega⟩
/-- Put: it goes well just where there is room; then there is one object more. -/
theorem Eden.put (ok : A.Ok) (okB : B.Ok) (h : Eden A B Ls Q) {t : Int} (ht : B.is t = true) {g : Hd} (f : Fine g) :
    (putB B A t g).1.2 = decide (2 + g.ptrs + g.raws ≤ B.room A t) ∧ ((putB B A t g).1.2 = true → ∀ rb, ∃ Ls', Eden (putB B A t g).2.2 (putB B A t g).2.1 Ls' (Q ++ [⟨(putB B A t g).1.1, g, List.replicate g.raws.toNat 0, rb⟩])) ∧ ((putB B A t g).1.2 = false → (putB B A t g).2.2 = A ∧ (putB B A t g).2.1 = B) := by
  have hc := (chk_iff g).2 f
  have p0 := f.p0
  have r0 := f.r0
  have hroom : B.room A t = if (B.rest t).2 < A.free 1 then A.free 1 else (B.rest t).2 := by unfold Bu.room; rw [if_pos ht]
  unfold putB
  rw [if_pos ⟨ht, hc⟩, hroom]
  by_cases q1 : 2 + g.ptrs + g.raws ≤ (B.rest t).2
  · rw [if_pos q1]
    refine ⟨?_, fun _ rb => ?_, fun q => by cases q⟩
    · simp only
      symm; rw [decide_eq_true_eq]; split <;> omega
    · exact h.old ok ht rfl f q1 rb
  · rw [if_neg q1]
    by_cases q2 : 2 + g.ptrs + g.raws ≤ B.size ∧ 2 + g.ptrs + g.raws ≤ A.free 1
    · rw [if_pos q2]
      have hnl : 2 + g.ptrs + g.raws ≤ newLen B A ∧ newLen B A ≤ A.free 1 := by unfold newLen; split <;> omega
      refine ⟨?_, fun _ rb => ?_, fun q => by cases q⟩
      · simp only
        symm; rw [decide_eq_true_eq]; split <;> omega
      · have hp : A.fillOk 1 (newLen B A) = true := by unfold Ar.fillOk; rw [decide_eq_true ⟨by omega, hnl.2⟩]; rfl
        obtain ⟨Ls1, h1⟩ := h.opened ok ht (y := newLen B A) (by omega) hnl.2 (by omega)
        have ht' : (B.setRest t (A.top 1, newLen B A)).is t = true := by rw [Bu.is_setRest]; exact ht
        obtain ⟨Ls2, h2⟩ := h1.old (ok.fillA hp) ht' (Bu.rest_setRest ht _) f hnl.1 rb
        rw [Bu.setRest_setRest] at h2
        have hz := ok.sizes 1
        have htl := (ok.top_le 1).1
        have hlen : (A.take 1 (newLen B A)).words.length = A.words.length := Ar.take_len1 ok (by omega) hnl.2
        have hmx := Ar.room ok (s := 1) (by decide) (n := newLen B A) (by omega) hnl.2
        rw [Ar.fill_laid (by omega) (by omega) (by rw [hlen]; omega)] at h2
        exact ⟨Ls2, h2⟩
    · rw [if_neg q2]
      refine ⟨?_, fun q rb => ?_, fun q => ?_⟩
      · simp only
        unfold Ar.putOk
        rw [decide_eq_true hc]
        rw [Bool.eq_iff_iff]
        simp only [Bool.true_and, Bool.and_eq_true, decide_eq_true_eq]
        constructor
        · rintro ⟨-, q⟩; split <;> omega
        · intro q
          refine ⟨by decide, ?_⟩
          split at q <;> omega
      · simp only at q ⊢
        rw [q]
        simp only [if_true]
        exact h.lay ok q rb
      · simp only at q
        rw [q]
        exact ⟨rfl, rfl⟩
theorem Eden.new {c : Cfg} (hc : c.valid = true) (n s : Int) : Eden (Ar.new c) (Bu.new n s) (fun _ => []) [] :=
  ⟨Tiled.new hc, List.Perm.refl _, fun t ht => by
    have e : (Bu.new n s).rest t = (0, 0) := by
      unfold Bu.new Bu.rest
      simp only
      split
      · rw [List.getD_eq_getElem?_getD, List.getElem?_replicate]
        split <;> rfl
      · rfl
    rw [e]; exact ⟨Int.le_refl _, fun q => absurd q (by decide)⟩, fun t u _ _ _ q _ => by
    have e : (Bu.new n s).rest t = (0, 0) := by
      unfold Bu.new Bu.rest
      simp only
      split
      · rw [List.getD_eq_getElem?_getD, List.getElem?_replicate]
        split <;> rfl
      · rfl
    rw [e] at q; exact absurd q (by decide), fun _ x hx => by cases hx⟩
end
end Go.Proofs.YtomgfdfgildkbaaDoor
