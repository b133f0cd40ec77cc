/- Merged texts: ArenaW7, ArenaW8, ArenaW9, ArenaW10, ArenaW11, ArenaW12. -/
import Derived.Test.YtomgfdfgildkbaaDoorGc
import Derived.Test.YtomgfdfgildkbaaDoorGa
/- The walks of package arena, seventh part: the object that stands at an address. -/


namespace Go.Proofs.YtomgfdfgildkbaaDoor
open Go.RowKit Go.BigFrame

theorem ArAt.facts {w : World} {b wb : Nat} {A : Ar} (h : ArAt w b wb A) : (∀ o, w.cell? ⟨b, o, none⟩ = (arCells A wb)[o]?) ∧ b < w.heap.size ∧ wb < w.heap.size := ⟨h.cells.1, lt_of_heap h.st, lt_of_heap h.ws⟩
theorem ArAt.word {w : World} {b wb : Nat} {A : Ar} (h : ArAt w b wb A) {i : Int} (h0 : 0 ≤ i) (h1 : i < (A.words.length : Int)) : w.cell? ⟨wb, i.toNat, none⟩ = some (.int .u64 (A.word i)) := by
  rw [h.wcell (by omega)]; unfold Ar.word; rw [if_pos h0]

theorem Ar.Ok.tops {A : Ar} (ok : A.Ok) : A.t1 ≤ (A.words.length : Int) ∧ A.t2 ≤ (A.words.length : Int) ∧ A.t3 ≤ (A.words.length : Int) ∧ A.t4 ≤ (A.words.length : Int) ∧ (A.words.length : Int) ≤ 262145 := by
  obtain ⟨cv, len, rng, a1, b1, a2, b2, a3, b3, a4, b4, fr⟩ := ok
  obtain ⟨e0, e1, s0, s1, t0, t1⟩ := Cfg.bd cv
  unfold Cfg.size at len
  omega
theorem object_out (b wb : Nat) (A : Ar) (i : Int) (w : World) (h : ArAt w b wb A) (ok : A.Ok) (hs : A.space i = 0) :
    Calls Tryd.prog 139 #[.pointer (some ⟨b, 0, none⟩), .int .i64 i] w fun e w' => e = .returned (.tuple #[.slice none 0 0, nohd.val, .bool false]) ∧ Below w.heap.size w w' := by
  have S := fun W (hb : Below w.heap.size w W) => space_any b wb A i W (h.below hb) ok
  rw [hs] at S
  have SS := Lib.hid S
  clear S h ok hs
  go_enter Tryd.func139, Tryd.ntmps139
  go_wp2_with fail
  refine (SS.out _ ((Below.refl _ _).alloc (Nat.le_refl _) _)).mono ?_
  rintro e w1 ⟨rfl, rfl⟩
  go_wp2_with fail
  exact bodyPost_ret (v := .tuple #[.slice none 0 0, nohd.val, .bool false]) (by simp [results, Tryd.results139, go_sem, nohd, Hd.val]) rfl ⟨rfl, (Below.refl _ _).alloc (Nat.le_refl _) _⟩

theorem object_above_1 (b wb : Nat) (A : Ar) (i : Int) (w : World) (h : ArAt w b wb A) (ok : A.Ok) (hs : A.space i = 1) (ht : A.t1 ≤ i) :
    Calls Tryd.prog 139 #[.pointer (some ⟨b, 0, none⟩), .int .i64 i] w fun e w' => e = .returned (.tuple #[.slice none 0 0, nohd.val, .bool false]) ∧ Below w.heap.size w w' := by
  have S := fun W (hb : Below w.heap.size w W) => space_any b wb A i W (h.below hb) ok
  rw [hs] at S
  have SS := Lib.hid S
  obtain ⟨hc, hlt, hlw⟩ := h.facts
  unfold arCells at hc
  clear S h ok hs
  go_enter Tryd.func139, Tryd.ntmps139
  go_wp2_with fail
  refine (SS.out _ ((Below.refl _ _).alloc (Nat.le_refl _) _)).mono ?_
  rintro e w1 ⟨rfl, rfl⟩
  go_wp2_with fail
  exact bodyPost_ret (v := .tuple #[.slice none 0 0, nohd.val, .bool false]) (by simp [results, Tryd.results139, go_sem, nohd, Hd.val]) rfl ⟨rfl, (Below.refl _ _).alloc (Nat.le_refl _) _⟩

set_option maxHeartbeats 1000000 in
theorem object_in_1 (b wb : Nat) (A : Ar) (i : Int) (w : World) (tb : Tab w) (h : ArAt w b wb A) (ok : A.Ok) (hs : A.space i = 1) (ht : i < A.t1) :
    Calls Tryd.prog 139 #[.pointer (some ⟨b, 0, none⟩), .int .i64 i] w fun e w' => e = .returned (.tuple #[A.osl wb i, (A.hd i).val, .bool (A.isObj i)]) ∧ Below w.heap.size w w' := by
  have S := fun W (hb : Below w.heap.size w W) => space_any b wb A i W (h.below hb) ok
  rw [hs] at S
  have SS := Lib.hid S
  have hsb := Ar.space_bd ok (i := i) (by rw [hs]; decide)
  obtain ⟨-, hfi, hbe, h1i, hiN⟩ := hsb
  have hwd := ok.word i
  have htp := ok.tops
  have hsz := ok.sizes 1
  have htop : A.top (A.space i) = A.t1 := by rw [hs]; rfl
  have HW := Lib.hid (fun W (hb : Below w.heap.size w W) => (h.below hb).word (i := i) (by omega) hiN)
  have HC := Lib.hid (fun W (hb : Below w.heap.size w W) => (h.below hb).facts)
  have U := fun W (hb : Below w.heap.size w W) => unpack_any (A.word i) W (tb.below hb) hwd.1 hwd.2
  have Z := fun W (hb : Below w.heap.size w W) => size_any (A.word i) W (tb.below hb) hwd.1 hwd.2
  by_cases q : isHd (A.word i) = true
  · have hz := Ar.osz_bd q
    have he : unp (A.word i) = dec (A.word i) := by unfold unp; rw [if_pos q]
    have hso : sizeW (A.word i) = A.osz i := by unfold sizeW Ar.osz; rw [if_pos q]
    rw [he, q] at U
    rw [hso] at Z
    have hv : (dec (A.word i)).val = .agg #[.int .u64 0, .int .i64 (dec (A.word i)).kind, .int .i64 (dec (A.word i)).ptrs, .int .i64 (dec (A.word i)).raws, .int .i64 (dec (A.word i)).age, .int .i64 (dec (A.word i)).site, .bool (dec (A.word i)).held] := rfl
    rw [hv] at U
    by_cases fit : A.osz i ≤ A.t1 - i
    · have ho : A.isObj i = true := by unfold Ar.isObj; rw [htop, hs, q, decide_eq_true fit, decide_eq_true ht]; rfl
      have hP := fun W (hb : Below w.heap.size w W) => piece_any b wb A i (A.osz i) W (h.below hb) (by omega) (by omega) (by omega) (by omega)
      have HV := Lib.hid (fun W (hb : Below w.heap.size w W) => (h.below hb).word (i := i + 1) (by omega) (by omega))
      have e1 : (A.hd i).val = .agg #[.int .u64 (A.word (i + 1)), .int .i64 (dec (A.word i)).kind, .int .i64 (dec (A.word i)).ptrs, .int .i64 (dec (A.word i)).raws, .int .i64 (dec (A.word i)).age, .int .i64 (dec (A.word i)).site, .bool (dec (A.word i)).held] := by unfold Ar.hd; rw [if_pos ho]; rfl
      have e2 : A.osl wb i = .slice (some ⟨wb, i.toNat, none⟩) (A.osz i).toNat (A.osz i).toNat := by unfold Ar.osl; rw [if_pos ho]
      rw [e1, e2, ho]
      have PP := Lib.hid hP
      have UU := Lib.hid U
      have ZZ := Lib.hid Z
      obtain ⟨hc, hlt, hlw⟩ := HC.out _ (Below.refl _ _)
      have hw := HW.out _ (Below.refl _ _)
      unfold arCells at hc
      generalize A.osz i = n at *
      generalize A.word i = m at *
      generalize A.word (i + 1) = m1 at *
      generalize dec m = d at *
      clear hP U Z S e1 e2 ho h ok tb he hso hv q hwd hsz htop hs
      go_enter Tryd.func139, Tryd.ntmps139
      go_wp2_with fail
      refine (SS.out _ ((Below.refl _ _).alloc (Nat.le_refl _) _)).mono ?_
      rintro e w1 ⟨rfl, rfl⟩
      have hb0 : Below w.heap.size w (w.alloc (.cells #[.int .u64 0, .int .i64 0, .int .i64 0, .int .i64 0, .int .i64 0, .int .i64 0, .bool false] 24)) := (Below.refl _ _).alloc (Nat.le_refl _) _
      go_wp2_with fail
      refine (UU.out _ hb0).mono ?_
      rintro e w1 ⟨rfl, hb⟩
      obtain ⟨hX, hb1, hz1⟩ := kept_new hb
      obtain ⟨hk, hkf⟩ := hcell hX
      obtain ⟨hc1, hl1, hm1⟩ := HC.out _ hb1
      have hw1 := HW.out _ hb1
      unfold arCells at hc1
      clear hb
      go_wp2_with fail
      refine (ZZ.out _ (hb1.alloc hb1.size _)).mono ?_
      rintro e w2 ⟨rfl, hb⟩
      obtain ⟨hY, hb2', hz2⟩ := kept_new hb
      have hb2 : Below w.heap.size w w2 := hb1.trans (hb2'.mono hb1.size)
      have hX2 := (hb2'.block _ hz1).trans hX
      obtain ⟨hk2, hkf2⟩ := hcell hX2
      obtain ⟨hy2, hyf2⟩ := hcell hY
      obtain ⟨hc2, hl2, hm2⟩ := HC.out _ hb2
      have hw2 := HW.out _ hb2
      unfold arCells at hc2
      clear hb hb2' hc1 hw1 hk hkf
      go_wp2_with fail
      have hv2 := HV.out _ hb2
      rw [show (i + 1).toNat = i.toNat + 1 by omega] at hv2
      refine (PP.out _ hb2).mono ?_
      rintro e w3 ⟨rfl, rfl⟩
      go_wp2_with fail
      go_region
      all_goals
        go_wp2
        exact bodyPost_ret (v := .tuple #[.slice (some ⟨wb, i.toNat, none⟩) n.toNat n.toNat, .agg #[.int .u64 m1, .int .i64 d.kind, .int .i64 d.ptrs, .int .i64 d.raws, .int .i64 d.age, .int .i64 d.site, .bool d.held], .bool true]) (by simp [results, Tryd.results139, go_sem, hk2]) rfl ⟨rfl, by refine Below.drew ?_; (repeat refine Below.setCell ?_ (by simp; try omega) _); exact hb2⟩
    · have ho : A.isObj i = false := by unfold Ar.isObj; rw [htop, decide_eq_false fit]; simp
      rw [show A.hd i = nohd by unfold Ar.hd; rw [ho]; rfl, show A.osl wb i = .slice none 0 0 by unfold Ar.osl; rw [ho]; rfl, ho]
      have UU := Lib.hid U
      have ZZ := Lib.hid Z
      obtain ⟨hc, hlt, hlw⟩ := HC.out _ (Below.refl _ _)
      have hw := HW.out _ (Below.refl _ _)
      unfold arCells at hc
      generalize A.osz i = n at *
      generalize A.word i = m at *
      generalize dec m = d at *
      clear U Z S ho h ok tb he hso hv q hwd hsz htop hs
      go_enter Tryd.func139, Tryd.ntmps139
      go_wp2_with fail
      refine (SS.out _ ((Below.refl _ _).alloc (Nat.le_refl _) _)).mono ?_
      rintro e w1 ⟨rfl, rfl⟩
      have hb0 : Below w.heap.size w (w.alloc (.cells #[.int .u64 0, .int .i64 0, .int .i64 0, .int .i64 0, .int .i64 0, .int .i64 0, .bool false] 24)) := (Below.refl _ _).alloc (Nat.le_refl _) _
      go_wp2_with fail
      refine (UU.out _ hb0).mono ?_
      rintro e w1 ⟨rfl, hb⟩
      obtain ⟨hX, hb1, hz1⟩ := kept_new hb
      obtain ⟨hk, hkf⟩ := hcell hX
      obtain ⟨hc1, hl1, hm1⟩ := HC.out _ hb1
      have hw1 := HW.out _ hb1
      unfold arCells at hc1
      clear hb
      go_wp2_with fail
      refine (ZZ.out _ (hb1.alloc hb1.size _)).mono ?_
      rintro e w2 ⟨rfl, hb⟩
      obtain ⟨hY, hb2', hz2⟩ := kept_new hb
      have hb2 : Below w.heap.size w w2 := hb1.trans (hb2'.mono hb1.size)
      have hX2 := (hb2'.block _ hz1).trans hX
      obtain ⟨hk2, hkf2⟩ := hcell hX2
      obtain ⟨hy2, hyf2⟩ := hcell hY
      obtain ⟨hc2, hl2, hm2⟩ := HC.out _ hb2
      have hw2 := HW.out _ hb2
      unfold arCells at hc2
      clear hb hb2' hc1 hw1 hk hkf
      go_wp2_with fail
      exact bodyPost_ret (v := .tuple #[.slice none 0 0, nohd.val, .bool false]) (by simp [results, Tryd.results139, go_sem, nohd, Hd.val, hk2]) rfl ⟨rfl, by (repeat refine Below.setCell ?_ (by simp) _); exact hb2⟩
  · have he : unp (A.word i) = nohd := by unfold unp; rw [if_neg q]
    have q' : isHd (A.word i) = false := by simpa using q
    have ho : A.isObj i = false := by unfold Ar.isObj; rw [q']; simp
    rw [show A.hd i = nohd by unfold Ar.hd; rw [ho]; rfl, show A.osl wb i = .slice none 0 0 by unfold Ar.osl; rw [ho]; rfl, ho]
    rw [he, q', show nohd.val = .agg #[.int .u64 0, .int .i64 0, .int .i64 0, .int .i64 0, .int .i64 0, .int .i64 0, .bool false] from rfl] at U
    have UU := Lib.hid U
    have ZZ := Lib.hid Z
    obtain ⟨hc, hlt, hlw⟩ := HC.out _ (Below.refl _ _)
    have hw := HW.out _ (Below.refl _ _)
    unfold arCells at hc
    generalize sizeW (A.word i) = n at *
    generalize A.word i = m at *
    clear U Z S ho h ok tb he q q' hwd hsz htop hs
    go_enter Tryd.func139, Tryd.ntmps139
    go_wp2_with fail
    refine (SS.out _ ((Below.refl _ _).alloc (Nat.le_refl _) _)).mono ?_
    rintro e w1 ⟨rfl, rfl⟩
    have hb0 : Below w.heap.size w (w.alloc (.cells #[.int .u64 0, .int .i64 0, .int .i64 0, .int .i64 0, .int .i64 0, .int .i64 0, .bool false] 24)) := (Below.refl _ _).alloc (Nat.le_refl _) _
    go_wp2_with fail
    refine (UU.out _ hb0).mono ?_
    rintro e w1 ⟨rfl, hb⟩
    obtain ⟨hX, hb1, hz1⟩ := kept_new hb
    obtain ⟨hk, hkf⟩ := hcell hX
    obtain ⟨hc1, hl1, hm1⟩ := HC.out _ hb1
    have hw1 := HW.out _ hb1
    unfold arCells at hc1
    clear hb
    go_wp2_with fail
    refine (ZZ.out _ (hb1.alloc hb1.size _)).mono ?_
    rintro e w2 ⟨rfl, hb⟩
    obtain ⟨hY, hb2', hz2⟩ := kept_new hb
    have hb2 : Below w.heap.size w w2 := hb1.trans (hb2'.mono hb1.size)
    have hX2 := (hb2'.block _ hz1).trans hX
    obtain ⟨hk2, hkf2⟩ := hcell hX2
    obtain ⟨hc2, hl2, hm2⟩ := HC.out _ hb2
    clear hb hb2' hc1 hw1 hk hkf
    go_wp2_with fail
    exact bodyPost_ret (v := .tuple #[.slice none 0 0, nohd.val, .bool false]) (by simp [results, Tryd.results139, go_sem, nohd, Hd.val, hk2]) rfl ⟨rfl, by (repeat refine Below.setCell ?_ (by simp) _); exact hb2⟩

theorem object_above_2 (b wb : Nat) (A : Ar) (i : Int) (w : World) (h : ArAt w b wb A) (ok : A.Ok) (hs : A.space i = 2) (ht : A.t2 ≤ i) :
    Calls Tryd.prog 139 #[.pointer (some ⟨b, 0, none⟩), .int .i64 i] w fun e w' => e = .returned (.tuple #[.slice none 0 0, nohd.val, .bool false]) ∧ Below w.heap.size w w' := by
  have S := fun W (hb : Below w.heap.size w W) => space_any b wb A i W (h.below hb) ok
  rw [hs] at S
  have SS := Lib.hid S
  obtain ⟨hc, hlt, hlw⟩ := h.facts
  unfold arCells at hc
  clear S h ok hs
  go_enter Tryd.func139, Tryd.ntmps139
  go_wp2_with fail
  refine (SS.out _ ((Below.refl _ _).alloc (Nat.le_refl _) _)).mono ?_
  rintro e w1 ⟨rfl, rfl⟩
  go_wp2_with fail
  exact bodyPost_ret (v := .tuple #[.slice none 0 0, nohd.val, .bool false]) (by simp [results, Tryd.results139, go_sem, nohd, Hd.val]) rfl ⟨rfl, (Below.refl _ _).alloc (Nat.le_refl _) _⟩

set_option maxHeartbeats 1000000 in
theorem object_in_2 (b wb : Nat) (A : Ar) (i : Int) (w : World) (tb : Tab w) (h : ArAt w b wb A) (ok : A.Ok) (hs : A.space i = 2) (ht : i < A.t2) :
    Calls Tryd.prog 139 #[.pointer (some ⟨b, 0, none⟩), .int .i64 i] w fun e w' => e = .returned (.tuple #[A.osl wb i, (A.hd i).val, .bool (A.isObj i)]) ∧ Below w.heap.size w w' := by
  have S := fun W (hb : Below w.heap.size w W) => space_any b wb A i W (h.below hb) ok
  rw [hs] at S
  have SS := Lib.hid S
  have hsb := Ar.space_bd ok (i := i) (by rw [hs]; decide)
  obtain ⟨-, hfi, hbe, h1i, hiN⟩ := hsb
  have hwd := ok.word i
  have htp := ok.tops
  have hsz := ok.sizes 2
  have htop : A.top (A.space i) = A.t2 := by rw [hs]; rfl
  have HW := Lib.hid (fun W (hb : Below w.heap.size w W) => (h.below hb).word (i := i) (by omega) hiN)
  have HC := Lib.hid (fun W (hb : Below w.heap.size w W) => (h.below hb).facts)
  have U := fun W (hb : Below w.heap.size w W) => unpack_any (A.word i) W (tb.below hb) hwd.1 hwd.2
  have Z := fun W (hb : Below w.heap.size w W) => size_any (A.word i) W (tb.below hb) hwd.1 hwd.2
  by_cases q : isHd (A.word i) = true
  · have hz := Ar.osz_bd q
    have he : unp (A.word i) = dec (A.word i) := by unfold unp; rw [if_pos q]
    have hso : sizeW (A.word i) = A.osz i := by unfold sizeW Ar.osz; rw [if_pos q]
    rw [he, q] at U
    rw [hso] at Z
    have hv : (dec (A.word i)).val = .agg #[.int .u64 0, .int .i64 (dec (A.word i)).kind, .int .i64 (dec (A.word i)).ptrs, .int .i64 (dec (A.word i)).raws, .int .i64 (dec (A.word i)).age, .int .i64 (dec (A.word i)).site, .bool (dec (A.word i)).held] := rfl
    rw [hv] at U
    by_cases fit : A.osz i ≤ A.t2 - i
    · have ho : A.isObj i = true := by unfold Ar.isObj; rw [htop, hs, q, decide_eq_true fit, decide_eq_true ht]; rfl
      have hP := fun W (hb : Below w.heap.size w W) => piece_any b wb A i (A.osz i) W (h.below hb) (by omega) (by omega) (by omega) (by omega)
      have HV := Lib.hid (fun W (hb : Below w.heap.size w W) => (h.below hb).word (i := i + 1) (by omega) (by omega))
      have e1 : (A.hd i).val = .agg #[.int .u64 (A.word (i + 1)), .int .i64 (dec (A.word i)).kind, .int .i64 (dec (A.word i)).ptrs, .int .i64 (dec (A.word i)).raws, .int .i64 (dec (A.word i)).age, .int .i64 (dec (A.word i)).site, .bool (dec (A.word i)).held] := by unfold Ar.hd; rw [if_pos ho]; rfl
      have e2 : A.osl wb i = .slice (some ⟨wb, i.toNat, none⟩) (A.osz i).toNat (A.osz i).toNat := by unfold Ar.osl; rw [if_pos ho]
      rw [e1, e2, ho]
      have PP := Lib.hid hP
      have UU := Lib.hid U
      have ZZ := Lib.hid Z
      obtain ⟨hc, hlt, hlw⟩ := HC.out _ (Below.refl _ _)
      have hw := HW.out _ (Below.refl _ _)
      unfold arCells at hc
      generalize A.osz i = n at *
      generalize A.word i = m at *
      generalize A.word (i + 1) = m1 at *
      generalize dec m = d at *
      clear hP U Z S e1 e2 ho h ok tb he hso hv q hwd hsz htop hs
      go_enter Tryd.func139, Tryd.ntmps139
      go_wp2_with fail
      refine (SS.out _ ((Below.refl _ _).alloc (Nat.le_refl _) _)).mono ?_
      rintro e w1 ⟨rfl, rfl⟩
      have hb0 : Below w.heap.size w (w.alloc (.cells #[.int .u64 0, .int .i64 0, .int .i64 0, .int .i64 0, .int .i64 0, .int .i64 0, .bool false] 24)) := (Below.refl _ _).alloc (Nat.le_refl _) _
      go_wp2_with fail
      refine (UU.out _ hb0).mono ?_
      rintro e w1 ⟨rfl, hb⟩
      obtain ⟨hX, hb1, hz1⟩ := kept_new hb
      obtain ⟨hk, hkf⟩ := hcell hX
      obtain ⟨hc1, hl1, hm1⟩ := HC.out _ hb1
      have hw1 := HW.out _ hb1
      unfold arCells at hc1
      clear hb
      go_wp2_with fail
      refine (ZZ.out _ (hb1.alloc hb1.size _)).mono ?_
      rintro e w2 ⟨rfl, hb⟩
      obtain ⟨hY, hb2', hz2⟩ := kept_new hb
      have hb2 : Below w.heap.size w w2 := hb1.trans (hb2'.mono hb1.size)
      have hX2 := (hb2'.block _ hz1).trans hX
      obtain ⟨hk2, hkf2⟩ := hcell hX2
      obtain ⟨hy2, hyf2⟩ := hcell hY
      obtain ⟨hc2, hl2, hm2⟩ := HC.out _ hb2
      have hw2 := HW.out _ hb2
      unfold arCells at hc2
      clear hb hb2' hc1 hw1 hk hkf
      go_wp2_with fail
      have hv2 := HV.out _ hb2
      rw [show (i + 1).toNat = i.toNat + 1 by omega] at hv2
      refine (PP.out _ hb2).mono ?_
      rintro e w3 ⟨rfl, rfl⟩
      go_wp2_with fail
      go_region
      all_goals
        go_wp2
        exact bodyPost_ret (v := .tuple #[.slice (some ⟨wb, i.toNat, none⟩) n.toNat n.toNat, .agg #[.int .u64 m1, .int .i64 d.kind, .int .i64 d.ptrs, .int .i64 d.raws, .int .i64 d.age, .int .i64 d.site, .bool d.held], .bool true]) (by simp [results, Tryd.results139, go_sem, hk2]) rfl ⟨rfl, by refine Below.drew ?_; (repeat refine Below.setCell ?_ (by simp; try omega) _); exact hb2⟩
    · have ho : A.isObj i = false := by unfold Ar.isObj; rw [htop, decide_eq_false fit]; simp
      rw [show A.hd i = nohd by unfold Ar.hd; rw [ho]; rfl, show A.osl wb i = .slice none 0 0 by unfold Ar.osl; rw [ho]; rfl, ho]
      have UU := Lib.hid U
      have ZZ := Lib.hid Z
      obtain ⟨hc, hlt, hlw⟩ := HC.out _ (Below.refl _ _)
      have hw := HW.out _ (Below.refl _ _)
      unfold arCells at hc
      generalize A.osz i = n at *
      generalize A.word i = m at *
      generalize dec m = d at *
      clear U Z S ho h ok tb he hso hv q hwd hsz htop hs
      go_enter Tryd.func139, Tryd.ntmps139
      go_wp2_with fail
      refine (SS.out _ ((Below.refl _ _).alloc (Nat.le_refl _) _)).mono ?_
      rintro e w1 ⟨rfl, rfl⟩
      have hb0 : Below w.heap.size w (w.alloc (.cells #[.int .u64 0, .int .i64 0, .int .i64 0, .int .i64 0, .int .i64 0, .int .i64 0, .bool false] 24)) := (Below.refl _ _).alloc (Nat.le_refl _) _
      go_wp2_with fail
      refine (UU.out _ hb0).mono ?_
      rintro e w1 ⟨rfl, hb⟩
      obtain ⟨hX, hb1, hz1⟩ := kept_new hb
      obtain ⟨hk, hkf⟩ := hcell hX
      obtain ⟨hc1, hl1, hm1⟩ := HC.out _ hb1
      have hw1 := HW.out _ hb1
      unfold arCells at hc1
      clear hb
      go_wp2_with fail
      refine (ZZ.out _ (hb1.alloc hb1.size _)).mono ?_
      rintro e w2 ⟨rfl, hb⟩
      obtain ⟨hY, hb2', hz2⟩ := kept_new hb
      have hb2 : Below w.heap.size w w2 := hb1.trans (hb2'.mono hb1.size)
      have hX2 := (hb2'.block _ hz1).trans hX
      obtain ⟨hk2, hkf2⟩ := hcell hX2
      obtain ⟨hy2, hyf2⟩ := hcell hY
      obtain ⟨hc2, hl2, hm2⟩ := HC.out _ hb2
      have hw2 := HW.out _ hb2
      unfold arCells at hc2
      clear hb hb2' hc1 hw1 hk hkf
      go_wp2_with fail
      exact bodyPost_ret (v := .tuple #[.slice none 0 0, nohd.val, .bool false]) (by simp [results, Tryd.results139, go_sem, nohd, Hd.val, hk2]) rfl ⟨rfl, by (repeat refine Below.setCell ?_ (by simp) _); exact hb2⟩
  · have he : unp (A.word i) = nohd := by unfold unp; rw [if_neg q]
    have q' : isHd (A.word i) = false := by simpa using q
    have ho : A.isObj i = false := by unfold Ar.isObj; rw [q']; simp
    rw [show A.hd i = nohd by unfold Ar.hd; rw [ho]; rfl, show A.osl wb i = .slice none 0 0 by unfold Ar.osl; rw [ho]; rfl, ho]
    rw [he, q', show nohd.val = .agg #[.int .u64 0, .int .i64 0, .int .i64 0, .int .i64 0, .int .i64 0, .int .i64 0, .bool false] from rfl] at U
    have UU := Lib.hid U
    have ZZ := Lib.hid Z
    obtain ⟨hc, hlt, hlw⟩ := HC.out _ (Below.refl _ _)
    have hw := HW.out _ (Below.refl _ _)
    unfold arCells at hc
    generalize sizeW (A.word i) = n at *
    generalize A.word i = m at *
    clear U Z S ho h ok tb he q q' hwd hsz htop hs
    go_enter Tryd.func139, Tryd.ntmps139
    go_wp2_with fail
    refine (SS.out _ ((Below.refl _ _).alloc (Nat.le_refl _) _)).mono ?_
    rintro e w1 ⟨rfl, rfl⟩
    have hb0 : Below w.heap.size w (w.alloc (.cells #[.int .u64 0, .int .i64 0, .int .i64 0, .int .i64 0, .int .i64 0, .int .i64 0, .bool false] 24)) := (Below.refl _ _).alloc (Nat.le_refl _) _
    go_wp2_with fail
    refine (UU.out _ hb0).mono ?_
    rintro e w1 ⟨rfl, hb⟩
    obtain ⟨hX, hb1, hz1⟩ := kept_new hb
    obtain ⟨hk, hkf⟩ := hcell hX
    obtain ⟨hc1, hl1, hm1⟩ := HC.out _ hb1
    have hw1 := HW.out _ hb1
    unfold arCells at hc1
    clear hb
    go_wp2_with fail
    refine (ZZ.out _ (hb1.alloc hb1.size _)).mono ?_
    rintro e w2 ⟨rfl, hb⟩
    obtain ⟨hY, hb2', hz2⟩ := kept_new hb
    have hb2 : Below w.heap.size w w2 := hb1.trans (hb2'.mono hb1.size)
    have hX2 := (hb2'.block _ hz1).trans hX
    obtain ⟨hk2, hkf2⟩ := hcell hX2
    obtain ⟨hc2, hl2, hm2⟩ := HC.out _ hb2
    clear hb hb2' hc1 hw1 hk hkf
    go_wp2_with fail
    exact bodyPost_ret (v := .tuple #[.slice none 0 0, nohd.val, .bool false]) (by simp [results, Tryd.results139, go_sem, nohd, Hd.val, hk2]) rfl ⟨rfl, by (repeat refine Below.setCell ?_ (by simp) _); exact hb2⟩

theorem object_above_3 (b wb : Nat) (A : Ar) (i : Int) (w : World) (h : ArAt w b wb A) (ok : A.Ok) (hs : A.space i = 3) (ht : A.t3 ≤ i) :
    Calls Tryd.prog 139 #[.pointer (some ⟨b, 0, none⟩), .int .i64 i] w fun e w' => e = .returned (.tuple #[.slice none 0 0, nohd.val, .bool false]) ∧ Below w.heap.size w w' := by
  have S := fun W (hb : Below w.heap.size w W) => space_any b wb A i W (h.below hb) ok
  rw [hs] at S
  have SS := Lib.hid S
  obtain ⟨hc, hlt, hlw⟩ := h.facts
  unfold arCells at hc
  clear S h ok hs
  go_enter Tryd.func139, Tryd.ntmps139
  go_wp2_with fail
  refine (SS.out _ ((Below.refl _ _).alloc (Nat.le_refl _) _)).mono ?_
  rintro e w1 ⟨rfl, rfl⟩
  go_wp2_with fail
  exact bodyPost_ret (v := .tuple #[.slice none 0 0, nohd.val, .bool false]) (by simp [results, Tryd.results139, go_sem, nohd, Hd.val]) rfl ⟨rfl, (Below.refl _ _).alloc (Nat.le_refl _) _⟩

set_option maxHeartbeats 1000000 in
theorem object_in_3 (b wb : Nat) (A : Ar) (i : Int) (w : World) (tb : Tab w) (h : ArAt w b wb A) (ok : A.Ok) (hs : A.space i = 3) (ht : i < A.t3) :
    Calls Tryd.prog 139 #[.pointer (some ⟨b, 0, none⟩), .int .i64 i] w fun e w' => e = .returned (.tuple #[A.osl wb i, (A.hd i).val, .bool (A.isObj i)]) ∧ Below w.heap.size w w' := by
  have S := fun W (hb : Below w.heap.size w W) => space_any b wb A i W (h.below hb) ok
  rw [hs] at S
  have SS := Lib.hid S
  have hsb := Ar.space_bd ok (i := i) (by rw [hs]; decide)
  obtain ⟨-, hfi, hbe, h1i, hiN⟩ := hsb
  have hwd := ok.word i
  have htp := ok.tops
  have hsz := ok.sizes 3
  have htop : A.top (A.space i) = A.t3 := by rw [hs]; rfl
  have HW := Lib.hid (fun W (hb : Below w.heap.size w W) => (h.below hb).word (i := i) (by omega) hiN)
  have HC := Lib.hid (fun W (hb : Below w.heap.size w W) => (h.below hb).facts)
  have U := fun W (hb : Below w.heap.size w W) => unpack_any (A.word i) W (tb.below hb) hwd.1 hwd.2
  have Z := fun W (hb : Below w.heap.size w W) => size_any (A.word i) W (tb.below hb) hwd.1 hwd.2
  by_cases q : isHd (A.word i) = true
  · have hz := Ar.osz_bd q
    have he : unp (A.word i) = dec (A.word i) := by unfold unp; rw [if_pos q]
    have hso : sizeW (A.word i) = A.osz i := by unfold sizeW Ar.osz; rw [if_pos q]
    rw [he, q] at U
    rw [hso] at Z
    have hv : (dec (A.word i)).val = .agg #[.int .u64 0, .int .i64 (dec (A.word i)).kind, .int .i64 (dec (A.word i)).ptrs, .int .i64 (dec (A.word i)).raws, .int .i64 (dec (A.word i)).age, .int .i64 (dec (A.word i)).site, .bool (dec (A.word i)).held] := rfl
    rw [hv] at U
    by_cases fit : A.osz i ≤ A.t3 - i
    · have ho : A.isObj i = true := by unfold Ar.isObj; rw [htop, hs, q, decide_eq_true fit, decide_eq_true ht]; rfl
      have hP := fun W (hb : Below w.heap.size w W) => piece_any b wb A i (A.osz i) W (h.below hb) (by omega) (by omega) (by omega) (by omega)
      have HV := Lib.hid (fun W (hb : Below w.heap.size w W) => (h.below hb).word (i := i + 1) (by omega) (by omega))
      have e1 : (A.hd i).val = .agg #[.int .u64 (A.word (i + 1)), .int .i64 (dec (A.word i)).kind, .int .i64 (dec (A.word i)).ptrs, .int .i64 (dec (A.word i)).raws, .int .i64 (dec (A.word i)).age, .int .i64 (dec (A.word i)).site, .bool (dec (A.word i)).held] := by unfold Ar.hd; rw [if_pos ho]; rfl
      have e2 : A.osl wb i = .slice (some ⟨wb, i.toNat, none⟩) (A.osz i).toNat (A.osz i).toNat := by unfold Ar.osl; rw [if_pos ho]
      rw [e1, e2, ho]
      have PP := Lib.hid hP
      have UU := Lib.hid U
      have ZZ := Lib.hid Z
      obtain ⟨hc, hlt, hlw⟩ := HC.out _ (Below.refl _ _)
      have hw := HW.out _ (Below.refl _ _)
      unfold arCells at hc
      generalize A.osz i = n at *
      generalize A.word i = m at *
      generalize A.word (i + 1) = m1 at *
      generalize dec m = d at *
      clear hP U Z S e1 e2 ho h ok tb he hso hv q hwd hsz htop hs
      go_enter Tryd.func139, Tryd.ntmps139
      go_wp2_with fail
      refine (SS.out _ ((Below.refl _ _).alloc (Nat.le_refl _) _)).mono ?_
      rintro e w1 ⟨rfl, rfl⟩
      have hb0 : Below w.heap.size w (w.alloc (.cells #[.int .u64 0, .int .i64 0, .int .i64 0, .int .i64 0, .int .i64 0, .int .i64 0, .bool false] 24)) := (Below.refl _ _).alloc (Nat.le_refl _) _
      go_wp2_with fail
      refine (UU.out _ hb0).mono ?_
      rintro e w1 ⟨rfl, hb⟩
      obtain ⟨hX, hb1, hz1⟩ := kept_new hb
      obtain ⟨hk, hkf⟩ := hcell hX
      obtain ⟨hc1, hl1, hm1⟩ := HC.out _ hb1
      have hw1 := HW.out _ hb1
      unfold arCells at hc1
      clear hb
      go_wp2_with fail
      refine (ZZ.out _ (hb1.alloc hb1.size _)).mono ?_
      rintro e w2 ⟨rfl, hb⟩
      obtain ⟨hY, hb2', hz2⟩ := kept_new hb
      have hb2 : Below w.heap.size w w2 := hb1.trans (hb2'.mono hb1.size)
      have hX2 := (hb2'.block _ hz1).trans hX
      obtain ⟨hk2, hkf2⟩ := hcell hX2
      obtain ⟨hy2, hyf2⟩ := hcell hY
      obtain ⟨hc2, hl2, hm2⟩ := HC.out _ hb2
      have hw2 := HW.out _ hb2
      unfold arCells at hc2
      clear hb hb2' hc1 hw1 hk hkf
      go_wp2_with fail
      have hv2 := HV.out _ hb2
      rw [show (i + 1).toNat = i.toNat + 1 by omega] at hv2
      refine (PP.out _ hb2).mono ?_
      rintro e w3 ⟨rfl, rfl⟩
      go_wp2_with fail
      go_region
      all_goals
        go_wp2
        exact bodyPost_ret (v := .tuple #[.slice (some ⟨wb, i.toNat, none⟩) n.toNat n.toNat, .agg #[.int .u64 m1, .int .i64 d.kind, .int .i64 d.ptrs, .int .i64 d.raws, .int .i64 d.age, .int .i64 d.site, .bool d.held], .bool true]) (by simp [results, Tryd.results139, go_sem, hk2]) rfl ⟨rfl, by refine Below.drew ?_; (repeat refine Below.setCell ?_ (by simp; try omega) _); exact hb2⟩
    · have ho : A.isObj i = false := by unfold Ar.isObj; rw [htop, decide_eq_false fit]; simp
      rw [show A.hd i = nohd by unfold Ar.hd; rw [ho]; rfl, show A.osl wb i = .slice none 0 0 by unfold Ar.osl; rw [ho]; rfl, ho]
      have UU := Lib.hid U
      have ZZ := Lib.hid Z
      obtain ⟨hc, hlt, hlw⟩ := HC.out _ (Below.refl _ _)
      have hw := HW.out _ (Below.refl _ _)
      unfold arCells at hc
      generalize A.osz i = n at *
      generalize A.word i = m at *
      generalize dec m = d at *
      clear U Z S ho h ok tb he hso hv q hwd hsz htop hs
      go_enter Tryd.func139, Tryd.ntmps139
      go_wp2_with fail
      refine (SS.out _ ((Below.refl _ _).alloc (Nat.le_refl _) _)).mono ?_
      rintro e w1 ⟨rfl, rfl⟩
      have hb0 : Below w.heap.size w (w.alloc (.cells #[.int .u64 0, .int .i64 0, .int .i64 0, .int .i64 0, .int .i64 0, .int .i64 0, .bool false] 24)) := (Below.refl _ _).alloc (Nat.le_refl _) _
      go_wp2_with fail
      refine (UU.out _ hb0).mono ?_
      rintro e w1 ⟨rfl, hb⟩
      obtain ⟨hX, hb1, hz1⟩ := kept_new hb
      obtain ⟨hk, hkf⟩ := hcell hX
      obtain ⟨hc1, hl1, hm1⟩ := HC.out _ hb1
      have hw1 := HW.out _ hb1
      unfold arCells at hc1
      clear hb
      go_wp2_with fail
      refine (ZZ.out _ (hb1.alloc hb1.size _)).mono ?_
      rintro e w2 ⟨rfl, hb⟩
      obtain ⟨hY, hb2', hz2⟩ := kept_new hb
      have hb2 : Below w.heap.size w w2 := hb1.trans (hb2'.mono hb1.size)
      have hX2 := (hb2'.block _ hz1).trans hX
      obtain ⟨hk2, hkf2⟩ := hcell hX2
      obtain ⟨hy2, hyf2⟩ := hcell hY
      obtain ⟨hc2, hl2, hm2⟩ := HC.out _ hb2
      have hw2 := HW.out _ hb2
      unfold arCells at hc2
      clear hb hb2' hc1 hw1 hk hkf
      go_wp2_with fail
      exact bodyPost_ret (v := .tuple #[.slice none 0 0, nohd.val, .bool false]) (by simp [results, Tryd.results139, go_sem, nohd, Hd.val, hk2]) rfl ⟨rfl, by (repeat refine Below.setCell ?_ (by simp) _); exact hb2⟩
  · have he : unp (A.word i) = nohd := by unfold unp; rw [if_neg q]
    have q' : isHd (A.word i) = false := by simpa using q
    have ho : A.isObj i = false := by unfold Ar.isObj; rw [q']; simp
    rw [show A.hd i = nohd by unfold Ar.hd; rw [ho]; rfl, show A.osl wb i = .slice none 0 0 by unfold Ar.osl; rw [ho]; rfl, ho]
    rw [he, q', show nohd.val = .agg #[.int .u64 0, .int .i64 0, .int .i64 0, .int .i64 0, .int .i64 0, .int .i64 0, .bool false] from rfl] at U
    have UU := Lib.hid U
    have ZZ := Lib.hid Z
    obtain ⟨hc, hlt, hlw⟩ := HC.out _ (Below.refl _ _)
    have hw := HW.out _ (Below.refl _ _)
    unfold arCells at hc
    generalize sizeW (A.word i) = n at *
    generalize A.word i = m at *
    clear U Z S ho h ok tb he q q' hwd hsz htop hs
    go_enter Tryd.func139, Tryd.ntmps139
    go_wp2_with fail
    refine (SS.out _ ((Below.refl _ _).alloc (Nat.le_refl _) _)).mono ?_
    rintro e w1 ⟨rfl, rfl⟩
    have hb0 : Below w.heap.size w (w.alloc (.cells #[.int .u64 0, .int .i64 0, .int .i64 0, .int .i64 0, .int .i64 0, .int .i64 0, .bool false] 24)) := (Below.refl _ _).alloc (Nat.le_refl _) _
    go_wp2_with fail
    refine (UU.out _ hb0).mono ?_
    rintro e w1 ⟨rfl, hb⟩
    obtain ⟨hX, hb1, hz1⟩ := kept_new hb
    obtain ⟨hk, hkf⟩ := hcell hX
    obtain ⟨hc1, hl1, hm1⟩ := HC.out _ hb1
    have hw1 := HW.out _ hb1
    unfold arCells at hc1
    clear hb
    go_wp2_with fail
    refine (ZZ.out _ (hb1.alloc hb1.size _)).mono ?_
    rintro e w2 ⟨rfl, hb⟩
    obtain ⟨hY, hb2', hz2⟩ := kept_new hb
    have hb2 : Below w.heap.size w w2 := hb1.trans (hb2'.mono hb1.size)
    have hX2 := (hb2'.block _ hz1).trans hX
    obtain ⟨hk2, hkf2⟩ := hcell hX2
    obtain ⟨hc2, hl2, hm2⟩ := HC.out _ hb2
    clear hb hb2' hc1 hw1 hk hkf
    go_wp2_with fail
    exact bodyPost_ret (v := .tuple #[.slice none 0 0, nohd.val, .bool false]) (by simp [results, Tryd.results139, go_sem, nohd, Hd.val, hk2]) rfl ⟨rfl, by (repeat refine Below.setCell ?_ (by simp) _); exact hb2⟩

theorem object_above_4 (b wb : Nat) (A : Ar) (i : Int) (w : World) (h : ArAt w b wb A) (ok : A.Ok) (hs : A.space i = 4) (ht : A.t4 ≤ i) :
    Calls Tryd.prog 139 #[.pointer (some ⟨b, 0, none⟩), .int .i64 i] w fun e w' => e = .returned (.tuple #[.slice none 0 0, nohd.val, .bool false]) ∧ Below w.heap.size w w' := by
  have S := fun W (hb : Below w.heap.size w W) => space_any b wb A i W (h.below hb) ok
  rw [hs] at S
  have SS := Lib.hid S
  obtain ⟨hc, hlt, hlw⟩ := h.facts
  unfold arCells at hc
  clear S h ok hs
  go_enter Tryd.func139, Tryd.ntmps139
  go_wp2_with fail
  refine (SS.out _ ((Below.refl _ _).alloc (Nat.le_refl _) _)).mono ?_
  rintro e w1 ⟨rfl, rfl⟩
  go_wp2_with fail
  exact bodyPost_ret (v := .tuple #[.slice none 0 0, nohd.val, .bool false]) (by simp [results, Tryd.results139, go_sem, nohd, Hd.val]) rfl ⟨rfl, (Below.refl _ _).alloc (Nat.le_refl _) _⟩

set_option maxHeartbeats 1000000 in
theorem object_in_4 (b wb : Nat) (A : Ar) (i : Int) (w : World) (tb : Tab w) (h : ArAt w b wb A) (ok : A.Ok) (hs : A.space i = 4) (ht : i < A.t4) :
    Calls Tryd.prog 139 #[.pointer (some ⟨b, 0, none⟩), .int .i64 i] w fun e w' => e = .returned (.tuple #[A.osl wb i, (A.hd i).val, .bool (A.isObj i)]) ∧ Below w.heap.size w w' := by
  have S := fun W (hb : Below w.heap.size w W) => space_any b wb A i W (h.below hb) ok
  rw [hs] at S
  have SS := Lib.hid S
  have hsb := Ar.space_bd ok (i := i) (by rw [hs]; decide)
  obtain ⟨-, hfi, hbe, h1i, hiN⟩ := hsb
  have hwd := ok.word i
  have htp := ok.tops
  have hsz := ok.sizes 4
  have htop : A.top (A.space i) = A.t4 := by rw [hs]; rfl
  have HW := Lib.hid (fun W (hb : Below w.heap.size w W) => (h.below hb).word (i := i) (by omega) hiN)
  have HC := Lib.hid (fun W (hb : Below w.heap.size w W) => (h.below hb).facts)
  have U := fun W (hb : Below w.heap.size w W) => unpack_any (A.word i) W (tb.below hb) hwd.1 hwd.2
  have Z := fun W (hb : Below w.heap.size w W) => size_any (A.word i) W (tb.below hb) hwd.1 hwd.2
  by_cases q : isHd (A.word i) = true
  · have hz := Ar.osz_bd q
    have he : unp (A.word i) = dec (A.word i) := by unfold unp; rw [if_pos q]
    have hso : sizeW (A.word i) = A.osz i := by unfold sizeW Ar.osz; rw [if_pos q]
    rw [he, q] at U
    rw [hso] at Z
    have hv : (dec (A.word i)).val = .agg #[.int .u64 0, .int .i64 (dec (A.word i)).kind, .int .i64 (dec (A.word i)).ptrs, .int .i64 (dec (A.word i)).raws, .int .i64 (dec (A.word i)).age, .int .i64 (dec (A.word i)).site, .bool (dec (A.word i)).held] := rfl
    rw [hv] at U
    by_cases fit : A.osz i ≤ A.t4 - i
    · have ho : A.isObj i = true := by unfold Ar.isObj; rw [htop, hs, q, decide_eq_true fit, decide_eq_true ht]; rfl
      have hP := fun W (hb : Below w.heap.size w W) => piece_any b wb A i (A.osz i) W (h.below hb) (by omega) (by omega) (by omega) (by omega)
      have HV := Lib.hid (fun W (hb : Below w.heap.size w W) => (h.below hb).word (i := i + 1) (by omega) (by omega))
      have e1 : (A.hd i).val = .agg #[.int .u64 (A.word (i + 1)), .int .i64 (dec (A.word i)).kind, .int .i64 (dec (A.word i)).ptrs, .int .i64 (dec (A.word i)).raws, .int .i64 (dec (A.word i)).age, .int .i64 (dec (A.word i)).site, .bool (dec (A.word i)).held] := by unfold Ar.hd; rw [if_pos ho]; rfl
      have e2 : A.osl wb i = .slice (some ⟨wb, i.toNat, none⟩) (A.osz i).toNat (A.osz i).toNat := by unfold Ar.osl; rw [if_pos ho]
      rw [e1, e2, ho]
      have PP := Lib.hid hP
      have UU := Lib.hid U
      have ZZ := Lib.hid Z
      obtain ⟨hc, hlt, hlw⟩ := HC.out _ (Below.refl _ _)
      have hw := HW.out _ (Below.refl _ _)
      unfold arCells at hc
      generalize A.osz i = n at *
      generalize A.word i = m at *
      generalize A.word (i + 1) = m1 at *
      generalize dec m = d at *
      clear hP U Z S e1 e2 ho h ok tb he hso hv q hwd hsz htop hs
      go_enter Tryd.func139, Tryd.ntmps139
      go_wp2_with fail
      refine (SS.out _ ((Below.refl _ _).alloc (Nat.le_refl _) _)).mono ?_
      rintro e w1 ⟨rfl, rfl⟩
      have hb0 : Below w.heap.size w (w.alloc (.cells #[.int .u64 0, .int .i64 0, .int .i64 0, .int .i64 0, .int .i64 0, .int .i64 0, .bool false] 24)) := (Below.refl _ _).alloc (Nat.le_refl _) _
      go_wp2_with fail
      refine (UU.out _ hb0).mono ?_
      rintro e w1 ⟨rfl, hb⟩
      obtain ⟨hX, hb1, hz1⟩ := kept_new hb
      obtain ⟨hk, hkf⟩ := hcell hX
      obtain ⟨hc1, hl1, hm1⟩ := HC.out _ hb1
      have hw1 := HW.out _ hb1
      unfold arCells at hc1
      clear hb
      go_wp2_with fail
      refine (ZZ.out _ (hb1.alloc hb1.size _)).mono ?_
      rintro e w2 ⟨rfl, hb⟩
      obtain ⟨hY, hb2', hz2⟩ := kept_new hb
      have hb2 : Below w.heap.size w w2 := hb1.trans (hb2'.mono hb1.size)
      have hX2 := (hb2'.block _ hz1).trans hX
      obtain ⟨hk2, hkf2⟩ := hcell hX2
      obtain ⟨hy2, hyf2⟩ := hcell hY
      obtain ⟨hc2, hl2, hm2⟩ := HC.out _ hb2
      have hw2 := HW.out _ hb2
      unfold arCells at hc2
      clear hb hb2' hc1 hw1 hk hkf
      go_wp2_with fail
      have hv2 := HV.out _ hb2
      rw [show (i + 1).toNat = i.toNat + 1 by omega] at hv2
      refine (PP.out _ hb2).mono ?_
      rintro e w3 ⟨rfl, rfl⟩
      go_wp2_with fail
      go_region
      all_goals
        go_wp2
        exact bodyPost_ret (v := .tuple #[.slice (some ⟨wb, i.toNat, none⟩) n.toNat n.toNat, .agg #[.int .u64 m1, .int .i64 d.kind, .int .i64 d.ptrs, .int .i64 d.raws, .int .i64 d.age, .int .i64 d.site, .bool d.held], .bool true]) (by simp [results, Tryd.results139, go_sem, hk2]) rfl ⟨rfl, by refine Below.drew ?_; (repeat refine Below.setCell ?_ (by simp; try omega) _); exact hb2⟩
    · have ho : A.isObj i = false := by unfold Ar.isObj; rw [htop, decide_eq_false fit]; simp
      rw [show A.hd i = nohd by unfold Ar.hd; rw [ho]; rfl, show A.osl wb i = .slice none 0 0 by unfold Ar.osl; rw [ho]; rfl, ho]
      have UU := Lib.hid U
      have ZZ := Lib.hid Z
      obtain ⟨hc, hlt, hlw⟩ := HC.out _ (Below.refl _ _)
      have hw := HW.out _ (Below.refl _ _)
      unfold arCells at hc
      generalize A.osz i = n at *
      generalize A.word i = m at *
      generalize dec m = d at *
      clear U Z S ho h ok tb he hso hv q hwd hsz htop hs
      go_enter Tryd.func139, Tryd.ntmps139
      go_wp2_with fail
      refine (SS.out _ ((Below.refl _ _).alloc (Nat.le_refl _) _)).mono ?_
      rintro e w1 ⟨rfl, rfl⟩
      have hb0 : Below w.heap.size w (w.alloc (.cells #[.int .u64 0, .int .i64 0, .int .i64 0, .int .i64 0, .int .i64 0, .int .i64 0, .bool false] 24)) := (Below.refl _ _).alloc (Nat.le_refl _) _
      go_wp2_with fail
      refine (UU.out _ hb0).mono ?_
      rintro e w1 ⟨rfl, hb⟩
      obtain ⟨hX, hb1, hz1⟩ := kept_new hb
      obtain ⟨hk, hkf⟩ := hcell hX
      obtain ⟨hc1, hl1, hm1⟩ := HC.out _ hb1
      have hw1 := HW.out _ hb1
      unfold arCells at hc1
      clear hb
      go_wp2_with fail
      refine (ZZ.out _ (hb1.alloc hb1.size _)).mono ?_
      rintro e w2 ⟨rfl, hb⟩
      obtain ⟨hY, hb2', hz2⟩ := kept_new hb
      have hb2 : Below w.heap.size w w2 := hb1.trans (hb2'.mono hb1.size)
      have hX2 := (hb2'.block _ hz1).trans hX
      obtain ⟨hk2, hkf2⟩ := hcell hX2
      obtain ⟨hy2, hyf2⟩ := hcell hY
      obtain ⟨hc2, hl2, hm2⟩ := HC.out _ hb2
      have hw2 := HW.out _ hb2
      unfold arCells at hc2
      clear hb hb2' hc1 hw1 hk hkf
      go_wp2_with fail
      exact bodyPost_ret (v := .tuple #[.slice none 0 0, nohd.val, .bool false]) (by simp [results, Tryd.results139, go_sem, nohd, Hd.val, hk2]) rfl ⟨rfl, by (repeat refine Below.setCell ?_ (by simp) _); exact hb2⟩
  · have he : unp (A.word i) = nohd := by unfold unp; rw [if_neg q]
    have q' : isHd (A.word i) = false := by simpa using q
    have ho : A.isObj i = false := by unfold Ar.isObj; rw [q']; simp
    rw [show A.hd i = nohd by unfold Ar.hd; rw [ho]; rfl, show A.osl wb i = .slice none 0 0 by unfold Ar.osl; rw [ho]; rfl, ho]
    rw [he, q', show nohd.val = .agg #[.int .u64 0, .int .i64 0, .int .i64 0, .int .i64 0, .int .i64 0, .int .i64 0, .bool false] from rfl] at U
    have UU := Lib.hid U
    have ZZ := Lib.hid Z
    obtain ⟨hc, hlt, hlw⟩ := HC.out _ (Below.refl _ _)
    have hw := HW.out _ (Below.refl _ _)
    unfold arCells at hc
    generalize sizeW (A.word i) = n at *
    generalize A.word i = m at *
    clear U Z S ho h ok tb he q q' hwd hsz htop hs
    go_enter Tryd.func139, Tryd.ntmps139
    go_wp2_with fail
    refine (SS.out _ ((Below.refl _ _).alloc (Nat.le_refl _) _)).mono ?_
    rintro e w1 ⟨rfl, rfl⟩
    have hb0 : Below w.heap.size w (w.alloc (.cells #[.int .u64 0, .int .i64 0, .int .i64 0, .int .i64 0, .int .i64 0, .int .i64 0, .bool false] 24)) := (Below.refl _ _).alloc (Nat.le_refl _) _
    go_wp2_with fail
    refine (UU.out _ hb0).mono ?_
    rintro e w1 ⟨rfl, hb⟩
    obtain ⟨hX, hb1, hz1⟩ := kept_new hb
    obtain ⟨hk, hkf⟩ := hcell hX
    obtain ⟨hc1, hl1, hm1⟩ := HC.out _ hb1
    have hw1 := HW.out _ hb1
    unfold arCells at hc1
    clear hb
    go_wp2_with fail
    refine (ZZ.out _ (hb1.alloc hb1.size _)).mono ?_
    rintro e w2 ⟨rfl, hb⟩
    obtain ⟨hY, hb2', hz2⟩ := kept_new hb
    have hb2 : Below w.heap.size w w2 := hb1.trans (hb2'.mono hb1.size)
    have hX2 := (hb2'.block _ hz1).trans hX
    obtain ⟨hk2, hkf2⟩ := hcell hX2
    obtain ⟨hc2, hl2, hm2⟩ := HC.out _ hb2
    clear hb hb2' hc1 hw1 hk hkf
    go_wp2_with fail
    exact bodyPost_ret (v := .tuple #[.slice none 0 0, nohd.val, .bool false]) (by simp [results, Tryd.results139, go_sem, nohd, Hd.val, hk2]) rfl ⟨rfl, by (repeat refine Below.setCell ?_ (by simp) _); exact hb2⟩


theorem object_any (b wb : Nat) (A : Ar) (i : Int) (w : World) (tb : Tab w) (h : ArAt w b wb A) (ok : A.Ok) :
    Calls Tryd.prog 139 #[.pointer (some ⟨b, 0, none⟩), .int .i64 i] w fun e w' => e = .returned (.tuple #[A.osl wb i, (A.hd i).val, .bool (A.isObj i)]) ∧ Below w.heap.size w w' := by
  have no : A.isObj i = false → A.osl wb i = .slice none 0 0 ∧ A.hd i = nohd := fun h => by unfold Ar.osl Ar.hd; rw [h]; exact ⟨rfl, rfl⟩
  by_cases hs : A.space i = 0
  · have ho : A.isObj i = false := by unfold Ar.isObj; rw [hs]; rfl
    rw [(no ho).1, (no ho).2, ho]
    exact object_out b wb A i w h ok hs
  have hb := (Ar.space_bd ok hs).1
  have hab : ∀ t, A.top (A.space i) = t → t ≤ i → A.isObj i = false := fun t h1 h2 => by
    unfold Ar.isObj; rw [h1, decide_eq_false (show ¬ i < t by omega)]; simp
  rcases hb with e | e | e | e
  · by_cases c : i < A.t1
    · exact object_in_1 b wb A i w tb h ok e c
    · have ho := hab A.t1 (by rw [e]; rfl) (by omega)
      rw [(no ho).1, (no ho).2, ho]
      exact object_above_1 b wb A i w h ok e (by omega)
  · by_cases c : i < A.t2
    · exact object_in_2 b wb A i w tb h ok e c
    · have ho := hab A.t2 (by rw [e]; rfl) (by omega)
      rw [(no ho).1, (no ho).2, ho]
      exact object_above_2 b wb A i w h ok e (by omega)
  · by_cases c : i < A.t3
    · exact object_in_3 b wb A i w tb h ok e c
    · have ho := hab A.t3 (by rw [e]; rfl) (by omega)
      rw [(no ho).1, (no ho).2, ho]
      exact object_above_3 b wb A i w h ok e (by omega)
  · by_cases c : i < A.t4
    · exact object_in_4 b wb A i w tb h ok e c
    · have ho := hab A.t4 (by rw [e]; rfl) (by omega)
      rw [(no ho).1, (no ho).2, ho]
      exact object_above_4 b wb A i w h ok e (by omega)
end Go.Proofs.YtomgfdfgildkbaaDoor
/- The walks of package arena, eighth part: headers and fields. -/

namespace Go.Proofs.YtomgfdfgildkbaaDoor
open Go.RowKit Go.BigFrame

theorem head_any (b wb : Nat) (A : Ar) (i : Int) (w : World) (tb : Tab w) (h : ArAt w b wb A) (ok : A.Ok) :
    Calls Tryd.prog 107 #[.pointer (some ⟨b, 0, none⟩), .int .i64 i] w fun e w' => e = .returned (.tuple #[(A.hd i).val, .bool (A.isObj i)]) ∧ Below w.heap.size w w' := by
  have O := fun W (hb : Below w.heap.size w W) => object_any b wb A i W (tb.below hb) (h.below hb) ok
  have hsl : ∃ a n, A.osl wb i = .slice a n n := by unfold Ar.osl; split <;> exact ⟨_, _, rfl⟩
  obtain ⟨a, n, e⟩ := hsl
  rw [e] at O
  generalize A.hd i = d at *
  generalize A.isObj i = ob at *
  unfold Hd.val at *
  have OO := Lib.hid O
  clear O e h ok tb
  go_enter Tryd.func107, Tryd.ntmps107
  go_wp2_with fail
  refine (OO.out _ ((Below.refl _ _).alloc (Nat.le_refl _) _)).mono ?_
  rintro e w1 ⟨rfl, hb⟩
  obtain ⟨hX, hb1, hz1⟩ := kept_new hb
  obtain ⟨hk, hkf⟩ := hcell hX
  clear hb
  go_wp2_with fail
  exact bodyPost_ret (v := .tuple #[.agg #[.int .u64 d.ser, .int .i64 d.kind, .int .i64 d.ptrs, .int .i64 d.raws, .int .i64 d.age, .int .i64 d.site, .bool d.held], .bool ob]) (by simp [results, Tryd.results107, go_sem, hk, World.cell?_alloc_old, Nat.ne_of_lt hz1]) rfl ⟨rfl, by refine Below.alloc ?_ (by simp; omega) _; (repeat refine Below.setCell ?_ (by simp) _); exact hb1⟩

theorem ret_slice {a : Option Addr} {n n' c c' : Nat} (h : n = n') (h2 : c = c') : Ending.returned (.slice a n c) = .returned (.slice a n' c') := by rw [h, h2]
theorem isObj_facts {A : Ar} (ok : A.Ok) {i : Int} (h : A.isObj i = true) : 1 ≤ i ∧ i + A.osz i ≤ (A.words.length : Int) ∧ (A.words.length : Int) ≤ 262145 ∧ Fine (dec (A.word i)) ∧ A.osz i = 2 + (dec (A.word i)).ptrs + (dec (A.word i)).raws ∧ A.hd i = { dec (A.word i) with ser := A.word (i + 1) } := by
  have ho := h
  unfold Ar.isObj at h
  simp only [Bool.and_eq_true, decide_eq_true_eq] at h
  obtain ⟨⟨⟨h1, h2⟩, h3⟩, h4⟩ := h
  have hb := Ar.space_bd ok h1
  have ht := ok.tops
  have hle : A.top (A.space i) ≤ (A.words.length : Int) := by
    rcases hb.1 with e | e | e | e <;> rw [e] <;> simp [Ar.top] <;> omega
  exact ⟨by omega, by omega, by omega, (chk_iff _).1 (by unfold isHd at h3; simp at h3; exact h3.2), rfl, by unfold Ar.hd; rw [if_pos ho]⟩

theorem pointers_yes (b wb : Nat) (A : Ar) (i : Int) (w : World) (tb : Tab w) (h : ArAt w b wb A) (ok : A.Ok) (ho : A.isObj i = true) :
    Calls Tryd.prog 140 #[.pointer (some ⟨b, 0, none⟩), .int .i64 i] w fun e w' => (∃ a, e = .returned (.slice (some a) (A.hd i).ptrs.toNat (A.hd i).ptrs.toNat) ∧ (1 ≤ (A.hd i).ptrs → a = ⟨wb, i.toNat + 2, none⟩)) ∧ Below w.heap.size w w' := by
  have O := fun W (hb : Below w.heap.size w W) => object_any b wb A i W (tb.below hb) (h.below hb) ok
  obtain ⟨h1, h2, h3, f, e4, e5⟩ := isObj_facts ok ho
  have e6 : A.osl wb i = .slice (some ⟨wb, i.toNat, none⟩) (A.osz i).toNat (A.osz i).toNat := by unfold Ar.osl; rw [if_pos ho]
  rw [e6, ho] at O
  have e7 : (A.hd i).ptrs = (dec (A.word i)).ptrs := by rw [e5]
  have p0 := f.p0
  have p1 := f.p1
  have r0 := f.r0
  have r1 := f.r1
  rw [← e7] at p0 p1
  have hn : 2 + (A.hd i).ptrs ≤ A.osz i := by omega
  generalize A.hd i = d at *
  generalize A.osz i = n at *
  unfold Hd.val at *
  have OO := Lib.hid O
  clear O e4 e5 e6 e7 h ok tb ho f
  go_enter Tryd.func140, Tryd.ntmps140
  go_wp2_with fail
  refine (OO.out _ (Below.refl _ _)).mono ?_
  rintro e w1 ⟨rfl, hb⟩
  go_wp2_with fail
  all_goals
    go_ret
    exact ⟨⟨_, ret_slice (by omega) (by omega), by intro hq; first | rfl | omega⟩, hb.alloc hb.size _⟩

theorem pointers_no (b wb : Nat) (A : Ar) (i : Int) (w : World) (tb : Tab w) (h : ArAt w b wb A) (ok : A.Ok) (ho : A.isObj i = false) :
    Calls Tryd.prog 140 #[.pointer (some ⟨b, 0, none⟩), .int .i64 i] w fun e w' => e = .returned (.slice none 0 0) ∧ Below w.heap.size w w' := by
  have O := fun W (hb : Below w.heap.size w W) => object_any b wb A i W (tb.below hb) (h.below hb) ok
  have e6 : A.osl wb i = .slice none 0 0 := by unfold Ar.osl; rw [ho]; rfl
  rw [e6, ho] at O
  generalize A.hd i = d at *
  unfold Hd.val at *
  have OO := Lib.hid O
  clear O e6 h ok tb ho
  go_enter Tryd.func140, Tryd.ntmps140
  go_wp2_with fail
  refine (OO.out _ (Below.refl _ _)).mono ?_
  rintro e w1 ⟨rfl, hb⟩
  go_wp2_with fail
  go_ret
  exact ⟨rfl, hb.alloc hb.size _⟩

theorem raws_yes (b wb : Nat) (A : Ar) (i : Int) (w : World) (tb : Tab w) (h : ArAt w b wb A) (ok : A.Ok) (ho : A.isObj i = true) :
    Calls Tryd.prog 141 #[.pointer (some ⟨b, 0, none⟩), .int .i64 i] w fun e w' => (∃ a, e = .returned (.slice (some a) (A.hd i).raws.toNat (A.hd i).raws.toNat) ∧ (1 ≤ (A.hd i).raws → a = ⟨wb, i.toNat + (2 + (A.hd i).ptrs).toNat, none⟩)) ∧ Below w.heap.size w w' := by
  have O := fun W (hb : Below w.heap.size w W) => object_any b wb A i W (tb.below hb) (h.below hb) ok
  obtain ⟨h1, h2, h3, f, e4, e5⟩ := isObj_facts ok ho
  have e6 : A.osl wb i = .slice (some ⟨wb, i.toNat, none⟩) (A.osz i).toNat (A.osz i).toNat := by unfold Ar.osl; rw [if_pos ho]
  rw [e6, ho] at O
  have e7 : (A.hd i).ptrs = (dec (A.word i)).ptrs := by rw [e5]
  have e8 : (A.hd i).raws = (dec (A.word i)).raws := by rw [e5]
  have p0 := f.p0
  have p1 := f.p1
  have r0 := f.r0
  have r1 := f.r1
  rw [← e7] at p0 p1
  rw [← e8] at r0 r1
  have hn : A.osz i ≤ 2 + (A.hd i).ptrs + (A.hd i).raws := by omega
  have hn2 : 2 + (A.hd i).ptrs + (A.hd i).raws ≤ A.osz i := by omega
  generalize A.hd i = d at *
  generalize A.osz i = n at *
  unfold Hd.val at *
  have OO := Lib.hid O
  clear O e4 e5 e6 e7 e8 h ok tb ho f
  go_enter Tryd.func141, Tryd.ntmps141
  go_wp2_with fail
  refine (OO.out _ (Below.refl _ _)).mono ?_
  rintro e w1 ⟨rfl, hb⟩
  go_wp2_with fail
  all_goals
    go_ret
    exact ⟨⟨_, ret_slice (by omega) (by omega), by intro hq; first | rfl | omega⟩, hb.alloc hb.size _⟩

theorem raws_no (b wb : Nat) (A : Ar) (i : Int) (w : World) (tb : Tab w) (h : ArAt w b wb A) (ok : A.Ok) (ho : A.isObj i = false) :
    Calls Tryd.prog 141 #[.pointer (some ⟨b, 0, none⟩), .int .i64 i] w fun e w' => e = .returned (.slice none 0 0) ∧ Below w.heap.size w w' := by
  have O := fun W (hb : Below w.heap.size w W) => object_any b wb A i W (tb.below hb) (h.below hb) ok
  have e6 : A.osl wb i = .slice none 0 0 := by unfold Ar.osl; rw [ho]; rfl
  rw [e6, ho] at O
  generalize A.hd i = d at *
  unfold Hd.val at *
  have OO := Lib.hid O
  clear O e6 h ok tb ho
  go_enter Tryd.func141, Tryd.ntmps141
  go_wp2_with fail
  refine (OO.out _ (Below.refl _ _)).mono ?_
  rintro e w1 ⟨rfl, hb⟩
  go_wp2_with fail
  go_ret
  exact ⟨rfl, hb.alloc hb.size _⟩
end Go.Proofs.YtomgfdfgildkbaaDoor
/- The walks of package arena, ninth part: fields read. -/

namespace Go.Proofs.YtomgfdfgildkbaaDoor
open Go.RowKit Go.BigFrame

/-- A pointer field, a raw field, as they are told. -/
def Ar.ptrOk (A : Ar) (at_ i : Int) : Bool := A.isObj at_ && decide (0 ≤ i ∧ i < (A.hd at_).ptrs) && decide (A.word (at_ + 2 + i) < (A.words.length : Int))
def Ar.ptr (A : Ar) (at_ i : Int) : Int := if A.ptrOk at_ i then A.word (at_ + 2 + i) else 0
def Ar.rawOk (A : Ar) (at_ i : Int) : Bool := A.isObj at_ && decide (0 ≤ i ∧ i < (A.hd at_).raws)
def Ar.raw (A : Ar) (at_ i : Int) : Int := if A.rawOk at_ i then A.word (at_ + 2 + (A.hd at_).ptrs + i) else 0
theorem hd_bd {A : Ar} (ok : A.Ok) {i : Int} (h : A.isObj i = true) : 1 ≤ i ∧ 0 ≤ (A.hd i).ptrs ∧ (A.hd i).ptrs ≤ 4095 ∧ 0 ≤ (A.hd i).raws ∧ (A.hd i).raws ≤ 65535 ∧ i + 2 + (A.hd i).ptrs + (A.hd i).raws ≤ (A.words.length : Int) ∧ (A.words.length : Int) ≤ 262145 := by
  obtain ⟨h1, h2, h3, f, e4, e5⟩ := isObj_facts ok h
  rw [e5]
  have := f.p0; have := f.p1; have := f.r0; have := f.r1
  simp only
  omega

theorem ptr_nil (b wb : Nat) (A : Ar) (at_ i : Int) (w : World) (tb : Tab w) (h : ArAt w b wb A) (ok : A.Ok) (ho : A.isObj at_ = false) :
    Calls Tryd.prog 97 #[.pointer (some ⟨b, 0, none⟩), .int .i64 at_, .int .i64 i] w fun e w' => e = .returned (.tuple #[.int .i64 0, .bool false]) ∧ Below w.heap.size w w' := by
  have O := Lib.hid (pointers_no b wb A at_ w tb h ok ho)
  clear tb h ok ho
  by_cases c : i < 0
  · go_enter Tryd.func97, Tryd.ntmps97
    go_wp2_with fail
    refine O.out.mono ?_
    rintro e w1 ⟨rfl, hb⟩
    go_wp2_with fail
    go_big_quiet (fail)
    go_wp2_with fail
    go_ret2
    exact ⟨rfl, below_drewN hb _⟩
  · have d : decide (i < 0) = false := by simpa using c
    have c0 : 0 ≤ i := by omega
    clear c
    go_enter Tryd.func97, Tryd.ntmps97
    go_wp2_with fail
    refine O.out.mono ?_
    rintro e w1 ⟨rfl, hb⟩
    go_wp2_with fail
    go_big_quiet (fail)
    go_wp2_with fail
    go_ret2
    exact ⟨rfl, below_drewN hb _⟩

theorem ptr_out (b wb : Nat) (A : Ar) (at_ i : Int) (w : World) (tb : Tab w) (h : ArAt w b wb A) (ok : A.Ok) (ho : A.isObj at_ = true) (hi : ¬ (0 ≤ i ∧ i < (A.hd at_).ptrs)) :
    Calls Tryd.prog 97 #[.pointer (some ⟨b, 0, none⟩), .int .i64 at_, .int .i64 i] w fun e w' => e = .returned (.tuple #[.int .i64 0, .bool false]) ∧ Below w.heap.size w w' := by
  have O := Lib.hid (pointers_yes b wb A at_ w tb h ok ho)
  have hp := (hd_bd ok ho).2.1
  generalize A.hd at_ = d at *
  clear tb h ok ho
  by_cases c : i < 0
  · clear hi
    go_enter Tryd.func97, Tryd.ntmps97
    go_wp2_with fail
    refine O.out.mono ?_
    rintro e w1 ⟨⟨a, rfl, ha⟩, hb⟩
    clear ha
    go_wp2_with fail
    go_big_quiet (fail)
    go_wp2_with fail
    go_ret2
    exact ⟨rfl, below_drewN hb _⟩
  · have d0 : decide (i < 0) = false := by simpa using c
    have c0 : 0 ≤ i := by omega
    obtain ⟨p, hpp⟩ := Int.eq_ofNat_of_zero_le hp
    have c1 : (p : Int) ≤ i := by omega
    rw [hpp] at O
    simp only [Int.toNat_natCast] at O
    clear c hi hpp hp
    go_enter Tryd.func97, Tryd.ntmps97
    go_wp2_with fail
    refine O.out.mono ?_
    rintro e w1 ⟨⟨a, rfl, ha⟩, hb⟩
    clear ha
    go_wp2_with fail
    go_big_quiet (fail)
    go_wp2_with fail
    go_ret2
    exact ⟨rfl, below_drewN hb _⟩

theorem ptr_in (b wb : Nat) (A : Ar) (at_ i : Int) (w : World) (tb : Tab w) (h : ArAt w b wb A) (ok : A.Ok) (ho : A.isObj at_ = true) (h0 : 0 ≤ i) (hi : i < (A.hd at_).ptrs) :
    Calls Tryd.prog 97 #[.pointer (some ⟨b, 0, none⟩), .int .i64 at_, .int .i64 i] w fun e w' => e = .returned (.tuple #[.int .i64 (A.ptr at_ i), .bool (A.ptrOk at_ i)]) ∧ Below w.heap.size w w' := by
  have O := Lib.hid (pointers_yes b wb A at_ w tb h ok ho)
  obtain ⟨h1, hp0, hp1, hr0, hr1, hl, hN⟩ := hd_bd ok ho
  have HC := Lib.hid (fun W (hb : Below w.heap.size w W) => (h.below hb).facts)
  have HW := fun W (hb : Below w.heap.size w W) => (h.below hb).word (i := at_ + 2 + i) (by omega) (by omega)
  rw [show (at_ + 2 + i).toNat = at_.toNat + 2 + i.toNat by omega] at HW
  have hwd := ok.word (at_ + 2 + i)
  have e1 : A.ptrOk at_ i = decide (A.word (at_ + 2 + i) < (A.words.length : Int)) := by unfold Ar.ptrOk; rw [ho, decide_eq_true ⟨h0, hi⟩]; rfl
  unfold Ar.ptr
  rw [e1]
  obtain ⟨p, hpp⟩ := Int.eq_ofNat_of_zero_le hp0
  rw [hpp] at O hi hp1
  simp only [Int.toNat_natCast] at O hi hp1
  have hd1 : decide ((p : Int) ≤ i) = false := by simpa using hi
  have hd0 : decide (i < 0) = false := by simpa using h0
  have hqq : (1 : Int) ≤ (p : Int) := by omega
  by_cases c : A.word (at_ + 2 + i) < (A.words.length : Int)
  · rw [decide_eq_true c, if_pos rfl]
    generalize A.word (at_ + 2 + i) = m at *
    have HWW := Lib.hid HW
    have hc' : decide ((A.words.length : Int) ≤ m) = false := by simpa using c
    clear tb h ok ho HW hpp hr0 hr1 hp0 e1 hl
    go_enter Tryd.func97, Tryd.ntmps97
    go_wp2_with fail
    refine O.out.mono ?_
    rintro e w1 ⟨⟨a, rfl, ha⟩, hb⟩
    obtain rfl := ha hqq
    obtain ⟨hc1, hl1, hm1⟩ := HC.out _ hb
    have hw1 := HWW.out _ hb
    unfold arCells at hc1
    go_wp2_with fail
    go_big_quiet (fail)
    go_wp2_with fail
    go_ret2
    exact ⟨rfl, below_drewN hb _⟩
  · rw [decide_eq_false c, if_neg (by simp)]
    generalize A.word (at_ + 2 + i) = m at *
    have HWW := Lib.hid HW
    have hc' : (A.words.length : Int) ≤ m := by omega
    clear tb h ok ho HW hpp hr0 hr1 hp0 e1 hl c
    go_enter Tryd.func97, Tryd.ntmps97
    go_wp2_with fail
    refine O.out.mono ?_
    rintro e w1 ⟨⟨a, rfl, ha⟩, hb⟩
    obtain rfl := ha hqq
    obtain ⟨hc1, hl1, hm1⟩ := HC.out _ hb
    have hw1 := HWW.out _ hb
    unfold arCells at hc1
    go_wp2_with fail
    go_big_quiet (fail)
    go_wp2_with fail
    go_ret2
    exact ⟨rfl, below_drewN hb _⟩

theorem ptr_any (b wb : Nat) (A : Ar) (at_ i : Int) (w : World) (tb : Tab w) (h : ArAt w b wb A) (ok : A.Ok) :
    Calls Tryd.prog 97 #[.pointer (some ⟨b, 0, none⟩), .int .i64 at_, .int .i64 i] w fun e w' => e = .returned (.tuple #[.int .i64 (A.ptr at_ i), .bool (A.ptrOk at_ i)]) ∧ Below w.heap.size w w' := by
  by_cases ho : A.isObj at_ = true
  · by_cases hi : 0 ≤ i ∧ i < (A.hd at_).ptrs
    · exact ptr_in b wb A at_ i w tb h ok ho hi.1 hi.2
    · have e1 : A.ptrOk at_ i = false := by unfold Ar.ptrOk; rw [decide_eq_false hi]; simp
      rw [show A.ptr at_ i = 0 by unfold Ar.ptr; rw [e1]; rfl, e1]
      exact ptr_out b wb A at_ i w tb h ok ho hi
  · have ho' : A.isObj at_ = false := by simpa using ho
    have e1 : A.ptrOk at_ i = false := by unfold Ar.ptrOk; rw [ho']; rfl
    rw [show A.ptr at_ i = 0 by unfold Ar.ptr; rw [e1]; rfl, e1]
    exact ptr_nil b wb A at_ i w tb h ok ho'
end Go.Proofs.YtomgfdfgildkbaaDoor
/- The walks of package arena, tenth part: raw fields read, fields written. -/

namespace Go.Proofs.YtomgfdfgildkbaaDoor
open Go.RowKit Go.BigFrame

theorem raw_nil (b wb : Nat) (A : Ar) (at_ i : Int) (w : World) (tb : Tab w) (h : ArAt w b wb A) (ok : A.Ok) (ho : A.isObj at_ = false) :
    Calls Tryd.prog 98 #[.pointer (some ⟨b, 0, none⟩), .int .i64 at_, .int .i64 i] w fun e w' => e = .returned (.tuple #[.int .u64 0, .bool false]) ∧ Below w.heap.size w w' := by
  have O := Lib.hid (raws_no b wb A at_ w tb h ok ho)
  clear tb h ok ho
  by_cases c : i < 0
  · go_enter Tryd.func98, Tryd.ntmps98
    go_wp2_with fail
    refine O.out.mono ?_
    rintro e w1 ⟨rfl, hb⟩
    go_wp2_with fail
    go_ret2
    exact ⟨rfl, hb⟩
  · have d : decide (i < 0) = false := by simpa using c
    have c0 : 0 ≤ i := by omega
    clear c
    go_enter Tryd.func98, Tryd.ntmps98
    go_wp2_with fail
    refine O.out.mono ?_
    rintro e w1 ⟨rfl, hb⟩
    go_wp2_with fail
    go_ret2
    exact ⟨rfl, hb⟩

theorem raw_out (b wb : Nat) (A : Ar) (at_ i : Int) (w : World) (tb : Tab w) (h : ArAt w b wb A) (ok : A.Ok) (ho : A.isObj at_ = true) (hi : ¬ (0 ≤ i ∧ i < (A.hd at_).raws)) :
    Calls Tryd.prog 98 #[.pointer (some ⟨b, 0, none⟩), .int .i64 at_, .int .i64 i] w fun e w' => e = .returned (.tuple #[.int .u64 0, .bool false]) ∧ Below w.heap.size w w' := by
  have O := Lib.hid (raws_yes b wb A at_ w tb h ok ho)
  have hp := (hd_bd ok ho).2.2.2.1
  generalize A.hd at_ = d at *
  clear tb h ok ho
  by_cases c : i < 0
  · clear hi
    go_enter Tryd.func98, Tryd.ntmps98
    go_wp2_with fail
    refine O.out.mono ?_
    rintro e w1 ⟨⟨a, rfl, ha⟩, hb⟩
    clear ha
    go_wp2_with fail
    go_ret2
    exact ⟨rfl, hb⟩
  · have d0 : decide (i < 0) = false := by simpa using c
    have c0 : 0 ≤ i := by omega
    obtain ⟨p, hpp⟩ := Int.eq_ofNat_of_zero_le hp
    have c1 : (p : Int) ≤ i := by omega
    rw [hpp] at O
    simp only [Int.toNat_natCast] at O
    clear c hi hpp hp
    go_enter Tryd.func98, Tryd.ntmps98
    go_wp2_with fail
    refine O.out.mono ?_
    rintro e w1 ⟨⟨a, rfl, ha⟩, hb⟩
    clear ha
    go_wp2_with fail
    go_ret2
    exact ⟨rfl, hb⟩

theorem raw_in (b wb : Nat) (A : Ar) (at_ i : Int) (w : World) (tb : Tab w) (h : ArAt w b wb A) (ok : A.Ok) (ho : A.isObj at_ = true) (h0 : 0 ≤ i) (hi : i < (A.hd at_).raws) :
    Calls Tryd.prog 98 #[.pointer (some ⟨b, 0, none⟩), .int .i64 at_, .int .i64 i] w fun e w' => e = .returned (.tuple #[.int .u64 (A.raw at_ i), .bool true]) ∧ Below w.heap.size w w' := by
  have O := Lib.hid (raws_yes b wb A at_ w tb h ok ho)
  obtain ⟨h1, hp0, hp1, hr0, hr1, hl, hN⟩ := hd_bd ok ho
  have HC := Lib.hid (fun W (hb : Below w.heap.size w W) => (h.below hb).facts)
  have HH := Lib.hid (fun W (hb : Below w.heap.size w W) => h.below hb)
  have HW := fun W (hb : Below w.heap.size w W) => (h.below hb).word (i := at_ + 2 + (A.hd at_).ptrs + i) (by omega) (by omega)
  rw [show (at_ + 2 + (A.hd at_).ptrs + i).toNat = at_.toNat + (2 + (A.hd at_).ptrs).toNat + i.toNat by omega] at HW
  have e1 : A.raw at_ i = A.word (at_ + 2 + (A.hd at_).ptrs + i) := by unfold Ar.raw Ar.rawOk; rw [ho, decide_eq_true ⟨h0, hi⟩]; rfl
  rw [e1]
  obtain ⟨p, hpp⟩ := Int.eq_ofNat_of_zero_le hr0
  rw [hpp] at O hi hr1
  simp only [Int.toNat_natCast] at O hi hr1
  have hd1 : decide ((p : Int) ≤ i) = false := by simpa using hi
  have hd0 : decide (i < 0) = false := by simpa using h0
  have hqq : (1 : Int) ≤ (p : Int) := by omega
  generalize A.word (at_ + 2 + (A.hd at_).ptrs + i) = m at *
  generalize (2 + (A.hd at_).ptrs).toNat = k at *
  have HWW := Lib.hid HW
  clear tb h ok ho HW hpp hr0 hr1 hp0 hp1 e1 hl
  go_enter Tryd.func98, Tryd.ntmps98
  go_wp2_with fail
  refine O.out.mono ?_
  rintro e w1 ⟨⟨a, rfl, ha⟩, hb⟩
  obtain rfl := ha hqq
  have hw1 := HWW.out _ hb
  go_wp2_with fail
  go_ret2
  exact ⟨rfl, hb⟩

theorem raw_any (b wb : Nat) (A : Ar) (at_ i : Int) (w : World) (tb : Tab w) (h : ArAt w b wb A) (ok : A.Ok) :
    Calls Tryd.prog 98 #[.pointer (some ⟨b, 0, none⟩), .int .i64 at_, .int .i64 i] w fun e w' => e = .returned (.tuple #[.int .u64 (A.raw at_ i), .bool (A.rawOk at_ i)]) ∧ Below w.heap.size w w' := by
  by_cases ho : A.isObj at_ = true
  · by_cases hi : 0 ≤ i ∧ i < (A.hd at_).raws
    · have e1 : A.rawOk at_ i = true := by unfold Ar.rawOk; rw [ho, decide_eq_true hi]; rfl
      rw [e1]
      exact raw_in b wb A at_ i w tb h ok ho hi.1 hi.2
    · have e1 : A.rawOk at_ i = false := by unfold Ar.rawOk; rw [decide_eq_false hi]; simp
      rw [show A.raw at_ i = 0 by unfold Ar.raw; rw [e1]; rfl, e1]
      exact raw_out b wb A at_ i w tb h ok ho hi
  · have ho' : A.isObj at_ = false := by simpa using ho
    have e1 : A.rawOk at_ i = false := by unfold Ar.rawOk; rw [ho']; rfl
    rw [show A.raw at_ i = 0 by unfold Ar.raw; rw [e1]; rfl, e1]
    exact raw_nil b wb A at_ i w tb h ok ho'

theorem setRaw_nil (b wb : Nat) (A : Ar) (at_ i v : Int) (w : World) (tb : Tab w) (h : ArAt w b wb A) (ok : A.Ok) (ho : A.isObj at_ = false) :
    Calls Tryd.prog 95 #[.pointer (some ⟨b, 0, none⟩), .int .i64 at_, .int .i64 i, .int .u64 v] w fun e w' => e = .returned (.bool false) ∧ Below w.heap.size w w' := by
  have O := Lib.hid (raws_no b wb A at_ w tb h ok ho)
  clear tb h ok ho
  by_cases c : i < 0
  · go_enter Tryd.func95, Tryd.ntmps95
    go_wp2_with fail
    refine O.out.mono ?_
    rintro e w1 ⟨rfl, hb⟩
    go_wp2_with fail
    go_ret
    exact ⟨rfl, hb⟩
  · have d : decide (i < 0) = false := by simpa using c
    have c0 : 0 ≤ i := by omega
    clear c
    go_enter Tryd.func95, Tryd.ntmps95
    go_wp2_with fail
    refine O.out.mono ?_
    rintro e w1 ⟨rfl, hb⟩
    go_wp2_with fail
    go_ret
    exact ⟨rfl, hb⟩

theorem setRaw_out (b wb : Nat) (A : Ar) (at_ i v : Int) (w : World) (tb : Tab w) (h : ArAt w b wb A) (ok : A.Ok) (ho : A.isObj at_ = true) (hi : ¬ (0 ≤ i ∧ i < (A.hd at_).raws)) :
    Calls Tryd.prog 95 #[.pointer (some ⟨b, 0, none⟩), .int .i64 at_, .int .i64 i, .int .u64 v] w fun e w' => e = .returned (.bool false) ∧ Below w.heap.size w w' := by
  have O := Lib.hid (raws_yes b wb A at_ w tb h ok ho)
  have hp := (hd_bd ok ho).2.2.2.1
  generalize A.hd at_ = d at *
  clear tb h ok ho
  by_cases c : i < 0
  · clear hi
    go_enter Tryd.func95, Tryd.ntmps95
    go_wp2_with fail
    refine O.out.mono ?_
    rintro e w1 ⟨⟨a, rfl, ha⟩, hb⟩
    clear ha
    go_wp2_with fail
    go_ret
    exact ⟨rfl, hb⟩
  · have d0 : decide (i < 0) = false := by simpa using c
    have c0 : 0 ≤ i := by omega
    obtain ⟨p, hpp⟩ := Int.eq_ofNat_of_zero_le hp
    have c1 : (p : Int) ≤ i := by omega
    rw [hpp] at O
    simp only [Int.toNat_natCast] at O
    clear c hi hpp hp
    go_enter Tryd.func95, Tryd.ntmps95
    go_wp2_with fail
    refine O.out.mono ?_
    rintro e w1 ⟨⟨a, rfl, ha⟩, hb⟩
    clear ha
    go_wp2_with fail
    go_ret
    exact ⟨rfl, hb⟩

theorem setRaw_in (b wb : Nat) (A : Ar) (at_ i v : Int) (w : World) (tb : Tab w) (h : ArAt w b wb A) (ok : A.Ok) (ho : A.isObj at_ = true) (h0 : 0 ≤ i) (hi : i < (A.hd at_).raws) :
    Calls Tryd.prog 95 #[.pointer (some ⟨b, 0, none⟩), .int .i64 at_, .int .i64 i, .int .u64 v] w fun e w' => e = .returned (.bool true) ∧ ArAt w' b wb (A.put (at_ + 2 + (A.hd at_).ptrs + i) v) ∧ Only [b, wb] w w' := by
  have O := Lib.hid (raws_yes b wb A at_ w tb h ok ho)
  obtain ⟨h1, hp0, hp1, hr0, hr1, hl, hN⟩ := hd_bd ok ho
  have HC := Lib.hid (fun W (hb : Below w.heap.size w W) => (h.below hb).facts)
  have HH := Lib.hid (fun W (hb : Below w.heap.size w W) => h.below hb)
  have HW := fun W (hb : Below w.heap.size w W) => (h.below hb).word (i := at_ + 2 + (A.hd at_).ptrs + i) (by omega) (by omega)
  rw [show (at_ + 2 + (A.hd at_).ptrs + i).toNat = at_.toNat + (2 + (A.hd at_).ptrs).toNat + i.toNat by omega] at HW
  have HF := Lib.hid (fun W (hb : Below w.heap.size w W) => (h.below hb).wfree (at_.toNat + (2 + (A.hd at_).ptrs).toNat + i.toNat))
  unfold Ar.put
  rw [show (at_ + 2 + (A.hd at_).ptrs + i).toNat = at_.toNat + (2 + (A.hd at_).ptrs).toNat + i.toNat by omega]
  obtain ⟨p, hpp⟩ := Int.eq_ofNat_of_zero_le hr0
  rw [hpp] at O hi hr1
  simp only [Int.toNat_natCast] at O hi hr1
  have hd1 : decide ((p : Int) ≤ i) = false := by simpa using hi
  have hd0 : decide (i < 0) = false := by simpa using h0
  have hqq : (1 : Int) ≤ (p : Int) := by omega
  generalize A.word (at_ + 2 + (A.hd at_).ptrs + i) = m at *
  generalize (2 + (A.hd at_).ptrs).toNat = k at *
  have HWW := Lib.hid HW
  clear tb h ok ho HW hpp hr0 hr1 hp0 hp1 hl
  go_enter Tryd.func95, Tryd.ntmps95
  go_wp2_with fail
  refine O.out.mono ?_
  rintro e w1 ⟨⟨a, rfl, ha⟩, hb⟩
  obtain rfl := ha hqq
  have hw1 := HWW.out _ hb
  have hf1 := HF.out _ hb
  have hn := Lib.hid ((HH.out _ hb).setWord (at_.toNat + k + i.toNat) v)
  go_wp2_with fail
  go_ret
  exact ⟨rfl, hn.out, (Only.of_below hb).setCell (by simp) _⟩

def Ar.setRaw (A : Ar) (at_ i v : Int) : Ar := if A.rawOk at_ i then A.put (at_ + 2 + (A.hd at_).ptrs + i) v else A
theorem setRaw_any (b wb : Nat) (A : Ar) (at_ i v : Int) (w : World) (tb : Tab w) (h : ArAt w b wb A) (ok : A.Ok) :
    Calls Tryd.prog 95 #[.pointer (some ⟨b, 0, none⟩), .int .i64 at_, .int .i64 i, .int .u64 v] w fun e w' => e = .returned (.bool (A.rawOk at_ i)) ∧ ArAt w' b wb (A.setRaw at_ i v) ∧ Only [b, wb] w w' := by
  unfold Ar.setRaw
  by_cases ho : A.isObj at_ = true
  · by_cases hi : 0 ≤ i ∧ i < (A.hd at_).raws
    · have e1 : A.rawOk at_ i = true := by unfold Ar.rawOk; rw [ho, decide_eq_true hi]; rfl
      rw [e1, if_pos rfl]
      exact setRaw_in b wb A at_ i v w tb h ok ho hi.1 hi.2
    · have e1 : A.rawOk at_ i = false := by unfold Ar.rawOk; rw [decide_eq_false hi]; simp
      rw [e1, if_neg (by simp)]
      exact (setRaw_out b wb A at_ i v w tb h ok ho hi).mono fun e w' ⟨h1, h2⟩ => ⟨h1, h.below h2, Only.of_below h2⟩
  · have ho' : A.isObj at_ = false := by simpa using ho
    have e1 : A.rawOk at_ i = false := by unfold Ar.rawOk; rw [ho']; rfl
    rw [e1, if_neg (by simp)]
    exact (setRaw_nil b wb A at_ i v w tb h ok ho').mono fun e w' ⟨h1, h2⟩ => ⟨h1, h.below h2, Only.of_below h2⟩

theorem setPtr_nil (b wb : Nat) (A : Ar) (at_ i v : Int) (w : World) (tb : Tab w) (h : ArAt w b wb A) (ok : A.Ok) (ho : A.isObj at_ = false) :
    Calls Tryd.prog 94 #[.pointer (some ⟨b, 0, none⟩), .int .i64 at_, .int .i64 i, .int .i64 v] w fun e w' => e = .returned (.bool false) ∧ Below w.heap.size w w' := by
  have O := Lib.hid (pointers_no b wb A at_ w tb h ok ho)
  clear tb h ok ho
  by_cases c : i < 0
  · go_enter Tryd.func94, Tryd.ntmps94
    go_wp2_with fail
    refine O.out.mono ?_
    rintro e w1 ⟨rfl, hb⟩
    go_wp2_with fail
    go_ret
    exact ⟨rfl, hb⟩
  · have d : decide (i < 0) = false := by simpa using c
    have c0 : 0 ≤ i := by omega
    clear c
    go_enter Tryd.func94, Tryd.ntmps94
    go_wp2_with fail
    refine O.out.mono ?_
    rintro e w1 ⟨rfl, hb⟩
    go_wp2_with fail
    go_ret
    exact ⟨rfl, hb⟩

theorem setPtr_out (b wb : Nat) (A : Ar) (at_ i v : Int) (w : World) (tb : Tab w) (h : ArAt w b wb A) (ok : A.Ok) (ho : A.isObj at_ = true) (hi : ¬ (0 ≤ i ∧ i < (A.hd at_).ptrs)) :
    Calls Tryd.prog 94 #[.pointer (some ⟨b, 0, none⟩), .int .i64 at_, .int .i64 i, .int .i64 v] w fun e w' => e = .returned (.bool false) ∧ Below w.heap.size w w' := by
  have O := Lib.hid (pointers_yes b wb A at_ w tb h ok ho)
  have hp := (hd_bd ok ho).2.1
  generalize A.hd at_ = d at *
  clear tb h ok ho
  by_cases c : i < 0
  · clear hi
    go_enter Tryd.func94, Tryd.ntmps94
    go_wp2_with fail
    refine O.out.mono ?_
    rintro e w1 ⟨⟨a, rfl, ha⟩, hb⟩
    clear ha
    go_wp2_with fail
    go_ret
    exact ⟨rfl, hb⟩
  · have d0 : decide (i < 0) = false := by simpa using c
    have c0 : 0 ≤ i := by omega
    obtain ⟨p, hpp⟩ := Int.eq_ofNat_of_zero_le hp
    have c1 : (p : Int) ≤ i := by omega
    rw [hpp] at O
    simp only [Int.toNat_natCast] at O
    clear c hi hpp hp
    go_enter Tryd.func94, Tryd.ntmps94
    go_wp2_with fail
    refine O.out.mono ?_
    rintro e w1 ⟨⟨a, rfl, ha⟩, hb⟩
    clear ha
    go_wp2_with fail
    go_ret
    exact ⟨rfl, hb⟩

theorem setPtr_in (b wb : Nat) (A : Ar) (at_ i v : Int) (w : World) (tb : Tab w) (h : ArAt w b wb A) (ok : A.Ok) (ho : A.isObj at_ = true) (h0 : 0 ≤ i) (hi : i < (A.hd at_).ptrs) (v0 : 0 ≤ v) (v1 : v < (A.words.length : Int)) :
    Calls Tryd.prog 94 #[.pointer (some ⟨b, 0, none⟩), .int .i64 at_, .int .i64 i, .int .i64 v] w fun e w' => e = .returned (.bool true) ∧ ArAt w' b wb (A.put (at_ + 2 + i) v) ∧ Only [b, wb] w w' := by
  have O := Lib.hid (pointers_yes b wb A at_ w tb h ok ho)
  obtain ⟨h1, hp0, hp1, hr0, hr1, hl, hN⟩ := hd_bd ok ho
  have HC := Lib.hid (fun W (hb : Below w.heap.size w W) => (h.below hb).facts)
  have HH := Lib.hid (fun W (hb : Below w.heap.size w W) => h.below hb)
  have HW := fun W (hb : Below w.heap.size w W) => (h.below hb).word (i := at_ + 2 + i) (by omega) (by omega)
  rw [show (at_ + 2 + i).toNat = at_.toNat + 2 + i.toNat by omega] at HW
  have HF := Lib.hid (fun W (hb : Below w.heap.size w W) => (h.below hb).wfree (at_.toNat + 2 + i.toNat))
  unfold Ar.put
  rw [show (at_ + 2 + i).toNat = at_.toNat + 2 + i.toNat by omega]
  obtain ⟨p, hpp⟩ := Int.eq_ofNat_of_zero_le hp0
  rw [hpp] at O hi hp1
  simp only [Int.toNat_natCast] at O hi hp1
  have hd1 : decide ((p : Int) ≤ i) = false := by simpa using hi
  have hd0 : decide (i < 0) = false := by simpa using h0
  have hqq : (1 : Int) ≤ (p : Int) := by omega
  generalize A.word (at_ + 2 + i) = m at *
  have HWW := Lib.hid HW
  clear tb h ok ho HW hpp hr0 hr1 hp0 hp1 hl
  have dv0 : decide (v < 0) = false := by simpa using v0
  have dv1 : decide ((A.words.length : Int) ≤ v) = false := by simpa using v1
  go_enter Tryd.func94, Tryd.ntmps94
  go_wp2_with fail
  refine O.out.mono ?_
  rintro e w1 ⟨⟨a, rfl, ha⟩, hb⟩
  obtain rfl := ha hqq
  obtain ⟨hc1, hl1, hm1⟩ := HC.out _ hb
  unfold arCells at hc1
  have hw1 := HWW.out _ hb
  have hf1 := HF.out _ hb
  have hn := Lib.hid ((HH.out _ hb).setWord (at_.toNat + 2 + i.toNat) v)
  go_wp2_with fail
  go_ret
  exact ⟨rfl, hn.out, (Only.of_below hb).setCell (by simp) _⟩

theorem setPtr_bad (b wb : Nat) (A : Ar) (at_ i v : Int) (w : World) (tb : Tab w) (h : ArAt w b wb A) (ok : A.Ok) (ho : A.isObj at_ = true) (h0 : 0 ≤ i) (hi : i < (A.hd at_).ptrs) (hv : ¬ (0 ≤ v ∧ v < (A.words.length : Int))) :
    Calls Tryd.prog 94 #[.pointer (some ⟨b, 0, none⟩), .int .i64 at_, .int .i64 i, .int .i64 v] w fun e w' => e = .returned (.bool false) ∧ Below w.heap.size w w' := by
  have O := Lib.hid (pointers_yes b wb A at_ w tb h ok ho)
  obtain ⟨h1, hp0, hp1, hr0, hr1, hl, hN⟩ := hd_bd ok ho
  have HC := Lib.hid (fun W (hb : Below w.heap.size w W) => (h.below hb).facts)
  have HH := Lib.hid (fun W (hb : Below w.heap.size w W) => h.below hb)
  have HW := fun W (hb : Below w.heap.size w W) => (h.below hb).word (i := at_ + 2 + i) (by omega) (by omega)
  rw [show (at_ + 2 + i).toNat = at_.toNat + 2 + i.toNat by omega] at HW
  obtain ⟨p, hpp⟩ := Int.eq_ofNat_of_zero_le hp0
  rw [hpp] at O hi hp1
  simp only [Int.toNat_natCast] at O hi hp1
  have hd1 : decide ((p : Int) ≤ i) = false := by simpa using hi
  have hd0 : decide (i < 0) = false := by simpa using h0
  clear tb h ok ho HW hpp hr0 hr1 hp0 hp1 hl
  by_cases v0 : v < 0
  · clear hv
    go_enter Tryd.func94, Tryd.ntmps94
    go_wp2_with fail
    refine O.out.mono ?_
    rintro e w1 ⟨⟨a, rfl, ha⟩, hb⟩
    clear ha
    go_wp2_with fail
    go_ret
    exact ⟨rfl, hb⟩
  · have dv0 : decide (v < 0) = false := by simpa using v0
    have v1 : (A.words.length : Int) ≤ v := by omega
    clear hv v0
    go_enter Tryd.func94, Tryd.ntmps94
    go_wp2_with fail
    refine O.out.mono ?_
    rintro e w1 ⟨⟨a, rfl, ha⟩, hb⟩
    obtain ⟨hc1, hl1, hm1⟩ := HC.out _ hb
    unfold arCells at hc1
    clear ha
    go_wp2_with fail
    go_ret
    exact ⟨rfl, hb⟩

def Ar.setPtrOk (A : Ar) (at_ i v : Int) : Bool := A.isObj at_ && decide (0 ≤ i ∧ i < (A.hd at_).ptrs) && decide (0 ≤ v ∧ v < (A.words.length : Int))
def Ar.setPtr (A : Ar) (at_ i v : Int) : Ar := if A.setPtrOk at_ i v then A.put (at_ + 2 + i) v else A
theorem setPtr_any (b wb : Nat) (A : Ar) (at_ i v : Int) (w : World) (tb : Tab w) (h : ArAt w b wb A) (ok : A.Ok) :
    Calls Tryd.prog 94 #[.pointer (some ⟨b, 0, none⟩), .int .i64 at_, .int .i64 i, .int .i64 v] w fun e w' => e = .returned (.bool (A.setPtrOk at_ i v)) ∧ ArAt w' b wb (A.setPtr at_ i v) ∧ Only [b, wb] w w' := by
  unfold Ar.setPtr
  by_cases ho : A.isObj at_ = true
  · by_cases hi : 0 ≤ i ∧ i < (A.hd at_).ptrs
    · by_cases hv : 0 ≤ v ∧ v < (A.words.length : Int)
      · have e1 : A.setPtrOk at_ i v = true := by unfold Ar.setPtrOk; rw [ho, decide_eq_true hi, decide_eq_true hv]; rfl
        rw [e1, if_pos rfl]
        exact setPtr_in b wb A at_ i v w tb h ok ho hi.1 hi.2 hv.1 hv.2
      · have e1 : A.setPtrOk at_ i v = false := by unfold Ar.setPtrOk; rw [decide_eq_false hv]; simp
        rw [e1, if_neg (by simp)]
        exact (setPtr_bad b wb A at_ i v w tb h ok ho hi.1 hi.2 hv).mono fun e w' ⟨h1, h2⟩ => ⟨h1, h.below h2, Only.of_below h2⟩
    · have e1 : A.setPtrOk at_ i v = false := by unfold Ar.setPtrOk; rw [decide_eq_false hi]; simp
      rw [e1, if_neg (by simp)]
      exact (setPtr_out b wb A at_ i v w tb h ok ho hi).mono fun e w' ⟨h1, h2⟩ => ⟨h1, h.below h2, Only.of_below h2⟩
  · have ho' : A.isObj at_ = false := by simpa using ho
    have e1 : A.setPtrOk at_ i v = false := by unfold Ar.setPtrOk; rw [ho']; rfl
    rw [e1, if_neg (by simp)]
    exact (setPtr_nil b wb A at_ i v w tb h ok ho').mono fun e w' ⟨h1, h2⟩ => ⟨h1, h.below h2, Only.of_below h2⟩
end Go.Proofs.YtomgfdfgildkbaaDoor
/- The walks of package arena, eleventh part: SetHead, Put, Fill. -/


namespace Go.Proofs.YtomgfdfgildkbaaDoor
open Go.RowKit Go.BigFrame

def Ar.setHeadOk (A : Ar) (i : Int) (h : Hd) : Bool := A.isObj i && decide (chk h = 0) && decide (h.ptrs = (A.hd i).ptrs) && decide (h.raws = (A.hd i).raws)
def Ar.setHead (A : Ar) (i : Int) (h : Hd) : Ar := if A.setHeadOk i h then (A.put i (enc h)).put (i + 1) h.ser else A

theorem ArAt.put2 {w : World} {b wb : Nat} {A : Ar} (h : ArAt w b wb A) (k k2 : Nat) (i x y : Int) (hk : k = i.toNat) (hk2 : k2 = (i + 1).toNat) : ArAt ((w.setCell ⟨wb, k, none⟩ (.int .u64 x)).setCell ⟨wb, k2, none⟩ (.int .u64 y)) b wb ((A.put i x).put (i + 1) y) := by
  have h2 := (h.setWord k x).setWord k2 y
  unfold Ar.put
  rw [← hk2, ← hk]
  exact h2

set_option maxHeartbeats 1000000 in
theorem setHead_yes (b wb : Nat) (A : Ar) (i : Int) (g : Hd) (w : World) (tb : Tab w) (h : ArAt w b wb A) (ok : A.Ok) (ho : A.isObj i = true) (fg : Fine g) (hp : g.ptrs = (A.hd i).ptrs) (hr : g.raws = (A.hd i).raws) :
    Calls Tryd.prog 93 #[.pointer (some ⟨b, 0, none⟩), .int .i64 i, g.val] w fun e w' => e = .returned (.bool true) ∧ ArAt w' b wb ((A.put i (enc g)).put (i + 1) g.ser) ∧ Only [b, wb] w w' := by
  have O := fun W (hb : Below w.heap.size w W) => object_any b wb A i W (tb.below hb) (h.below hb) ok
  have P := Lib.hid (fun W (hb : Below w.heap.size w W) => pack_yes g W (tb.below hb) fg)
  obtain ⟨h1, h2, h3, f, e4, e5⟩ := isObj_facts ok ho
  have e6 : A.osl wb i = .slice (some ⟨wb, i.toNat, none⟩) (A.osz i).toNat (A.osz i).toNat := by unfold Ar.osl; rw [if_pos ho]
  rw [e6, ho] at O
  have hz : 2 ≤ A.osz i := by have := f.p0; have := f.r0; omega
  have HW0 := Lib.hid (fun W (hb : Below w.heap.size w W) => (h.below hb).word (i := i) (by omega) (by omega))
  have HW1 := fun W (hb : Below w.heap.size w W) => (h.below hb).word (i := i + 1) (by omega) (by omega)
  rw [show (i + 1).toNat = i.toNat + 1 by omega] at HW1
  have HW1' := Lib.hid HW1
  have HF := Lib.hid (fun W (hb : Below w.heap.size w W) => (h.below hb).wfree)
  have HH := Lib.hid (fun W (hb : Below w.heap.size w W) => h.below hb)
  have HC := Lib.hid (fun W (hb : Below w.heap.size w W) => (h.below hb).facts)
  generalize A.osz i = n at *
  generalize A.word i = m at *
  generalize A.word (i + 1) = m1 at *
  generalize A.hd i = d at *
  generalize hex : enc g = x at *
  have HX := Lib.hid hex
  clear hex
  obtain ⟨gser, gkind, gptrs, graws, gage, gsite, gheld⟩ := g
  unfold Hd.val at *
  simp only at *
  subst hp hr
  have OO := Lib.hid O
  clear O HW1 e4 e5 e6 h ok tb ho f fg
  go_enter Tryd.func93, Tryd.ntmps93
  go_wp2_with fail
  refine (OO.out _ ((Below.refl _ _).alloc (Nat.le_refl _) _)).mono ?_
  rintro e w1 ⟨rfl, hb⟩
  obtain ⟨hX, hb1, hz1⟩ := kept_new hb
  obtain ⟨hk, hkf⟩ := hcell hX
  clear hb
  go_wp2_with fail
  refine (P.out _ (hb1.alloc hb1.size _)).mono ?_
  rintro e w2 ⟨rfl, hb⟩
  obtain ⟨hY, hb2', hz2⟩ := kept_new hb
  have hb2 : Below w.heap.size w w2 := hb1.trans (hb2'.mono hb1.size)
  have hX2 := (hb2'.block _ hz1).trans hX
  obtain ⟨hk2, hkf2⟩ := hcell hX2
  obtain ⟨hy2, hyf2⟩ := hcell hY
  obtain ⟨hc2, hl2, hm2⟩ := HC.out _ hb2
  have hw0 := HW0.out _ hb2
  have hw1 := HW1'.out _ hb2
  have hwf := HF.out _ hb2
  have HN := Lib.hid ((HH.out _ hb2).put2 i.toNat (i.toNat + 1) i x gser rfl (by omega))
  clear hb hb2' hk hkf
  go_wp2_with fail
  go_region
  all_goals
    go_wp2
    go_ret
    exact ⟨rfl, HN.out.drew, (((Only.of_below hb2).setCell (by simp) _).setCell (by simp) _).drew⟩

theorem setHead_nil (b wb : Nat) (A : Ar) (i : Int) (g : Hd) (w : World) (tb : Tab w) (h : ArAt w b wb A) (ok : A.Ok) (ho : A.isObj i = false) :
    Calls Tryd.prog 93 #[.pointer (some ⟨b, 0, none⟩), .int .i64 i, g.val] w fun e w' => e = .returned (.bool false) ∧ Below w.heap.size w w' := by
  have O := fun W (hb : Below w.heap.size w W) => object_any b wb A i W (tb.below hb) (h.below hb) ok
  have P := fun W (hb : Below w.heap.size w W) => pack_any g W (tb.below hb)
  have hsl : ∃ a n, A.osl wb i = .slice a n n := by unfold Ar.osl; split <;> exact ⟨_, _, rfl⟩
  obtain ⟨a, n, e6⟩ := hsl
  rw [e6, ho] at O
  generalize A.hd i = d at *
  generalize pack g = x at *
  generalize chk g = cg at *
  obtain ⟨gser, gkind, gptrs, graws, gage, gsite, gheld⟩ := g
  unfold Hd.val at *
  simp only at *
  have OO := Lib.hid O
  have PP := Lib.hid P
  clear O P e6 h ok tb ho
  go_enter Tryd.func93, Tryd.ntmps93
  go_wp2_with fail
  refine (OO.out _ ((Below.refl _ _).alloc (Nat.le_refl _) _)).mono ?_
  rintro e w1 ⟨rfl, hb⟩
  obtain ⟨hX, hb1, hz1⟩ := kept_new hb
  obtain ⟨hk, hkf⟩ := hcell hX
  clear hb
  go_wp2_with fail
  refine (PP.out _ (hb1.alloc hb1.size _)).mono ?_
  rintro e w2 ⟨rfl, hb⟩
  obtain ⟨hY, hb2', hz2⟩ := kept_new hb
  have hb2 : Below w.heap.size w w2 := hb1.trans (hb2'.mono hb1.size)
  have hX2 := (hb2'.block _ hz1).trans hX
  obtain ⟨hk2, hkf2⟩ := hcell hX2
  obtain ⟨hy2, hyf2⟩ := hcell hY
  clear hb hb2' hk hkf
  go_wp2_with fail
  go_ret
  exact ⟨rfl, hb2⟩

theorem setHead_chk (b wb : Nat) (A : Ar) (i : Int) (g : Hd) (w : World) (tb : Tab w) (h : ArAt w b wb A) (ok : A.Ok) (ho : A.isObj i = true) (hc : ¬ chk g = 0) :
    Calls Tryd.prog 93 #[.pointer (some ⟨b, 0, none⟩), .int .i64 i, g.val] w fun e w' => e = .returned (.bool false) ∧ Below w.heap.size w w' := by
  have O := fun W (hb : Below w.heap.size w W) => object_any b wb A i W (tb.below hb) (h.below hb) ok
  have P := fun W (hb : Below w.heap.size w W) => pack_any g W (tb.below hb)
  have hsl : ∃ a n, A.osl wb i = .slice a n n := by unfold Ar.osl; split <;> exact ⟨_, _, rfl⟩
  obtain ⟨a, n, e6⟩ := hsl
  rw [e6, ho] at O
  have hc1 : (chk g == 0) = false := by simpa using hc
  have hc2 : (chk g != 0) = true := by simpa using hc
  generalize A.hd i = d at *
  generalize pack g = x at *
  generalize chk g = cg at *
  obtain ⟨gser, gkind, gptrs, graws, gage, gsite, gheld⟩ := g
  unfold Hd.val at *
  simp only at *
  have OO := Lib.hid O
  have PP := Lib.hid P
  clear O P e6 h ok tb ho hc
  go_enter Tryd.func93, Tryd.ntmps93
  go_wp2_with fail
  refine (OO.out _ ((Below.refl _ _).alloc (Nat.le_refl _) _)).mono ?_
  rintro e w1 ⟨rfl, hb⟩
  obtain ⟨hX, hb1, hz1⟩ := kept_new hb
  obtain ⟨hk, hkf⟩ := hcell hX
  clear hb
  go_wp2_with fail
  refine (PP.out _ (hb1.alloc hb1.size _)).mono ?_
  rintro e w2 ⟨rfl, hb⟩
  obtain ⟨hY, hb2', hz2⟩ := kept_new hb
  have hb2 : Below w.heap.size w w2 := hb1.trans (hb2'.mono hb1.size)
  have hX2 := (hb2'.block _ hz1).trans hX
  obtain ⟨hk2, hkf2⟩ := hcell hX2
  obtain ⟨hy2, hyf2⟩ := hcell hY
  clear hb hb2' hk hkf
  go_wp2_with fail
  go_ret
  exact ⟨rfl, hb2⟩

theorem setHead_ptrs (b wb : Nat) (A : Ar) (i : Int) (g : Hd) (w : World) (tb : Tab w) (h : ArAt w b wb A) (ok : A.Ok) (ho : A.isObj i = true) (hc : chk g = 0) (hp : ¬ g.ptrs = (A.hd i).ptrs) :
    Calls Tryd.prog 93 #[.pointer (some ⟨b, 0, none⟩), .int .i64 i, g.val] w fun e w' => e = .returned (.bool false) ∧ Below w.heap.size w w' := by
  have O := fun W (hb : Below w.heap.size w W) => object_any b wb A i W (tb.below hb) (h.below hb) ok
  have P := fun W (hb : Below w.heap.size w W) => pack_any g W (tb.below hb)
  have hsl : ∃ a n, A.osl wb i = .slice a n n := by unfold Ar.osl; split <;> exact ⟨_, _, rfl⟩
  obtain ⟨a, n, e6⟩ := hsl
  rw [e6, ho] at O
  rw [hc] at P
  have hp1 : (g.ptrs == (A.hd i).ptrs) = false := by simpa using hp
  have hp2 : (g.ptrs != (A.hd i).ptrs) = true := by simpa using hp
  generalize A.hd i = d at *
  generalize pack g = x at *
  generalize chk g = cg at *
  obtain ⟨gser, gkind, gptrs, graws, gage, gsite, gheld⟩ := g
  unfold Hd.val at *
  simp only at *
  have OO := Lib.hid O
  have PP := Lib.hid P
  clear O P e6 h ok tb ho hc hp
  go_enter Tryd.func93, Tryd.ntmps93
  go_wp2_with fail
  refine (OO.out _ ((Below.refl _ _).alloc (Nat.le_refl _) _)).mono ?_
  rintro e w1 ⟨rfl, hb⟩
  obtain ⟨hX, hb1, hz1⟩ := kept_new hb
  obtain ⟨hk, hkf⟩ := hcell hX
  clear hb
  go_wp2_with fail
  refine (PP.out _ (hb1.alloc hb1.size _)).mono ?_
  rintro e w2 ⟨rfl, hb⟩
  obtain ⟨hY, hb2', hz2⟩ := kept_new hb
  have hb2 : Below w.heap.size w w2 := hb1.trans (hb2'.mono hb1.size)
  have hX2 := (hb2'.block _ hz1).trans hX
  obtain ⟨hk2, hkf2⟩ := hcell hX2
  obtain ⟨hy2, hyf2⟩ := hcell hY
  clear hb hb2' hk hkf
  go_wp2_with fail
  go_ret
  exact ⟨rfl, hb2⟩

theorem setHead_raws (b wb : Nat) (A : Ar) (i : Int) (g : Hd) (w : World) (tb : Tab w) (h : ArAt w b wb A) (ok : A.Ok) (ho : A.isObj i = true) (hc : chk g = 0) (hp : g.ptrs = (A.hd i).ptrs) (hr : ¬ g.raws = (A.hd i).raws) :
    Calls Tryd.prog 93 #[.pointer (some ⟨b, 0, none⟩), .int .i64 i, g.val] w fun e w' => e = .returned (.bool false) ∧ Below w.heap.size w w' := by
  have O := fun W (hb : Below w.heap.size w W) => object_any b wb A i W (tb.below hb) (h.below hb) ok
  have P := fun W (hb : Below w.heap.size w W) => pack_any g W (tb.below hb)
  have hsl : ∃ a n, A.osl wb i = .slice a n n := by unfold Ar.osl; split <;> exact ⟨_, _, rfl⟩
  obtain ⟨a, n, e6⟩ := hsl
  rw [e6, ho] at O
  rw [hc] at P
  have hp1 : (g.ptrs == (A.hd i).ptrs) = true := by simpa using hp
  have hp2 : (g.ptrs != (A.hd i).ptrs) = false := by simpa using hp
  have hr1 : (g.raws == (A.hd i).raws) = false := by simpa using hr
  have hr2 : (g.raws != (A.hd i).raws) = true := by simpa using hr
  generalize A.hd i = d at *
  generalize pack g = x at *
  generalize chk g = cg at *
  obtain ⟨gser, gkind, gptrs, graws, gage, gsite, gheld⟩ := g
  unfold Hd.val at *
  simp only at *
  have OO := Lib.hid O
  have PP := Lib.hid P
  clear O P e6 h ok tb ho hc hp hr
  go_enter Tryd.func93, Tryd.ntmps93
  go_wp2_with fail
  refine (OO.out _ ((Below.refl _ _).alloc (Nat.le_refl _) _)).mono ?_
  rintro e w1 ⟨rfl, hb⟩
  obtain ⟨hX, hb1, hz1⟩ := kept_new hb
  obtain ⟨hk, hkf⟩ := hcell hX
  clear hb
  go_wp2_with fail
  refine (PP.out _ (hb1.alloc hb1.size _)).mono ?_
  rintro e w2 ⟨rfl, hb⟩
  obtain ⟨hY, hb2', hz2⟩ := kept_new hb
  have hb2 : Below w.heap.size w w2 := hb1.trans (hb2'.mono hb1.size)
  have hX2 := (hb2'.block _ hz1).trans hX
  obtain ⟨hk2, hkf2⟩ := hcell hX2
  obtain ⟨hy2, hyf2⟩ := hcell hY
  clear hb hb2' hk hkf
  go_wp2_with fail
  go_ret
  exact ⟨rfl, hb2⟩

theorem setHead_any (b wb : Nat) (A : Ar) (i : Int) (g : Hd) (w : World) (tb : Tab w) (h : ArAt w b wb A) (ok : A.Ok) :
    Calls Tryd.prog 93 #[.pointer (some ⟨b, 0, none⟩), .int .i64 i, g.val] w fun e w' => e = .returned (.bool (A.setHeadOk i g)) ∧ ArAt w' b wb (A.setHead i g) ∧ Only [b, wb] w w' := by
  unfold Ar.setHead
  by_cases ho : A.isObj i = true
  · by_cases hc : chk g = 0
    · by_cases hp : g.ptrs = (A.hd i).ptrs
      · by_cases hr : g.raws = (A.hd i).raws
        · have e1 : A.setHeadOk i g = true := by unfold Ar.setHeadOk; rw [ho, decide_eq_true hc, decide_eq_true hp, decide_eq_true hr]; rfl
          rw [e1, if_pos rfl]
          exact setHead_yes b wb A i g w tb h ok ho ((chk_iff g).1 hc) hp hr
        · have e1 : A.setHeadOk i g = false := by unfold Ar.setHeadOk; rw [decide_eq_false hr]; simp
          rw [e1, if_neg (by simp)]
          exact (setHead_raws b wb A i g w tb h ok ho hc hp hr).mono fun e w' ⟨h1, h2⟩ => ⟨h1, h.below h2, Only.of_below h2⟩
      · have e1 : A.setHeadOk i g = false := by unfold Ar.setHeadOk; rw [decide_eq_false hp]; simp
        rw [e1, if_neg (by simp)]
        exact (setHead_ptrs b wb A i g w tb h ok ho hc hp).mono fun e w' ⟨h1, h2⟩ => ⟨h1, h.below h2, Only.of_below h2⟩
    · have e1 : A.setHeadOk i g = false := by unfold Ar.setHeadOk; rw [decide_eq_false hc]; simp
      rw [e1, if_neg (by simp)]
      exact (setHead_chk b wb A i g w tb h ok ho hc).mono fun e w' ⟨h1, h2⟩ => ⟨h1, h.below h2, Only.of_below h2⟩
  · have ho' : A.isObj i = false := by simpa using ho
    have e1 : A.setHeadOk i g = false := by unfold Ar.setHeadOk; rw [ho']; rfl
    rw [e1, if_neg (by simp)]
    exact (setHead_nil b wb A i g w tb h ok ho').mono fun e w' ⟨h1, h2⟩ => ⟨h1, h.below h2, Only.of_below h2⟩
end Go.Proofs.YtomgfdfgildkbaaDoor
/- The walks of package arena, twelfth part: Put, Fill. -/

namespace Go.Proofs.YtomgfdfgildkbaaDoor
open Go.RowKit Go.BigFrame

def Ar.putOk (A : Ar) (s : Int) (g : Hd) : Bool := decide (chk g = 0) && isSp s && decide (2 + g.ptrs + g.raws ≤ A.free s)
/-- An object laid at the top of the space s. -/
def Ar.lay (A : Ar) (s : Int) (g : Hd) : Ar := ((A.take s (2 + g.ptrs + g.raws)).put (A.top s) (enc g)).put (A.top s + 1) g.ser
def Ar.fillOk (A : Ar) (s n : Int) : Bool := isSp s && decide (1 ≤ n ∧ n ≤ A.free s)
def Ar.fill (A : Ar) (s n : Int) : Ar := (A.take s n).put (A.top s) (wordT 3 n)
theorem sizeW_enc {g : Hd} (f : Fine g) : sizeW (enc g) = 2 + g.ptrs + g.raws := by unfold sizeW; rw [isHd_enc f, dec_enc f]; rfl

theorem Ar.Ok.top_bd {A : Ar} (ok : A.Ok) {s n : Int} (hs : isSp s = true) (h1 : 1 ≤ n) (h2 : n ≤ A.free s) : 1 ≤ A.top s ∧ A.top s + n ≤ ((A.take s n).words.length : Int) ∧ ((A.take s n).words.length : Int) ≤ 262145 := by
  have hz := ok.sizes s
  have ok2 := ok.take hs h1 h2
  have h3 := ok2.tops
  unfold isSp at hs
  have hs' : s = 1 ∨ s = 2 ∨ s = 3 ∨ s = 4 := by have := of_decide_eq_true hs; omega
  obtain ⟨cv, len, rng, a1, b1, a2, b2, a3, b3, a4, b4, fr⟩ := ok
  obtain ⟨e0, e1, s0, s1, t0, t1⟩ := Cfg.bd cv
  rcases hs' with rfl | rfl | rfl | rfl <;> simp [Ar.take, Ar.setTop, Ar.top] at h3 ⊢ <;> omega

set_option maxHeartbeats 1000000 in
theorem put_yes (b wb : Nat) (A : Ar) (s : Int) (g : Hd) (w : World) (tb : Tab w) (h : ArAt w b wb A) (ok : A.Ok) (f : Fine g) (hs : isSp s = true) (hn : 2 + g.ptrs + g.raws ≤ A.free s) :
    Calls Tryd.prog 85 #[.pointer (some ⟨b, 0, none⟩), .int .i64 s, g.val] w fun e w' => e = .returned (.tuple #[.int .i64 (A.top s), .bool true]) ∧ ArAt w' b wb (A.lay s g) ∧ Only [b, wb] w w' := by
  have P := Lib.hid (fun W (hb : Below w.heap.size w W) => pack_yes g W (tb.below hb) f)
  have eb := enc_bd f
  have Z := fun W (hb : Below w.heap.size w W) => size_any (enc g) W (tb.below hb) eb.1 (by omega)
  rw [sizeW_enc f] at Z
  have h1 : 1 ≤ 2 + g.ptrs + g.raws := by have := f.p0; have := f.r0; omega
  have T := Lib.hid (fun W (hb : Below w.heap.size w W) => take_yes b wb A s (2 + g.ptrs + g.raws) W (h.below hb) ok hs h1 hn)
  have ZZ := Lib.hid Z
  obtain ⟨t1, t2, t3⟩ := ok.top_bd hs h1 hn
  have hlb := lt_of_heap h.st
  have hlw := lt_of_heap h.ws
  have hne := h.ne
  have p0 := f.p0
  have p1 := f.p1
  have r0 := f.r0
  have r1 := f.r1
  unfold Ar.lay
  have HG := Lib.hid (fun (W : World) (hA : ArAt W b wb (A.take s (2 + g.ptrs + g.raws))) => hA.word (i := A.top s) (by omega) (by omega))
  have HG1 := fun (W : World) (hA : ArAt W b wb (A.take s (2 + g.ptrs + g.raws))) => hA.word (i := A.top s + 1) (by omega) (by omega)
  have HG1' := Lib.hid HG1
  have t4 : A.top s + 1 < ((A.take s (2 + g.ptrs + g.raws)).words.length : Int) := by omega
  generalize A.take s (2 + g.ptrs + g.raws) = A2 at *
  generalize A.top s = tp at *
  generalize enc g = x at *
  obtain ⟨gser, gkind, gptrs, graws, gage, gsite, gheld⟩ := g
  unfold Hd.val at *
  simp only at *
  generalize A2.word tp = m at *
  generalize A2.word (tp + 1) = m1 at *
  clear Z HG1 h ok f eb hs hn h1 t2
  go_enter Tryd.func85, Tryd.ntmps85
  go_wp2_with fail
  refine (P.out _ ((Below.refl _ _).alloc (Nat.le_refl _) _)).mono ?_
  rintro e w1 ⟨rfl, hb⟩
  obtain ⟨hX, hb1, hz1⟩ := kept_new hb
  clear hb
  go_wp2_with fail
  refine (ZZ.out _ hb1).mono ?_
  rintro e w2 ⟨rfl, hb⟩
  have hX2 := (hb.block _ hz1).trans hX
  have hb2 := hb1.trans (hb.mono hb1.size)
  clear hb
  go_wp2_with fail
  refine (T.out _ hb2).mono ?_
  rintro e w3 ⟨rfl, hA, hO⟩
  have hX3 : w3.heap[w.heap.size]? = _ := (hO.block _ (lt_of_heap hX2) (by simp; omega)).trans hX2
  obtain ⟨hk, hkf⟩ := hcell hX3
  obtain ⟨hc, hf⟩ := hA.cells
  unfold arCells at hc
  have hw0 := HG.out _ hA
  have hw1 := HG1'.out _ hA
  have hwf := hA.wfree
  have HN := Lib.hid (hA.put2 tp.toNat (tp + 1).toNat tp x gser rfl rfl)
  have hO2 : Only [b, wb] w w3 := (Only.of_below hb2).trans hO
  clear hO hX hX2 hX3
  go_wp2_with fail
  go_region
  all_goals
    go_wp2
    go_ret2
    exact ⟨rfl, HN.out.drew, ((hO2.setCell (by simp) _).setCell (by simp) _).drew⟩

theorem put_no (b wb : Nat) (A : Ar) (s : Int) (g : Hd) (w : World) (tb : Tab w) (h : ArAt w b wb A) (ok : A.Ok) (f : Fine g) (hn : ¬ (isSp s = true ∧ 1 ≤ 2 + g.ptrs + g.raws ∧ 2 + g.ptrs + g.raws ≤ A.free s)) :
    Calls Tryd.prog 85 #[.pointer (some ⟨b, 0, none⟩), .int .i64 s, g.val] w fun e w' => e = .returned (.tuple #[.int .i64 0, .bool false]) ∧ Below w.heap.size w w' := by
  have P := Lib.hid (fun W (hb : Below w.heap.size w W) => pack_yes g W (tb.below hb) f)
  have eb := enc_bd f
  have Z := fun W (hb : Below w.heap.size w W) => size_any (enc g) W (tb.below hb) eb.1 (by omega)
  rw [sizeW_enc f] at Z
  have T := Lib.hid (fun W (hb : Below w.heap.size w W) => take_no b wb A s (2 + g.ptrs + g.raws) W (h.below hb) ok hn)
  have ZZ := Lib.hid Z
  generalize enc g = x at *
  generalize 2 + g.ptrs + g.raws = n at *
  obtain ⟨gser, gkind, gptrs, graws, gage, gsite, gheld⟩ := g
  unfold Hd.val at *
  simp only at *
  clear Z h ok f eb hn
  go_enter Tryd.func85, Tryd.ntmps85
  go_wp2_with fail
  refine (P.out _ ((Below.refl _ _).alloc (Nat.le_refl _) _)).mono ?_
  rintro e w1 ⟨rfl, hb⟩
  obtain ⟨hX, hb1, hz1⟩ := kept_new hb
  clear hb hX
  go_wp2_with fail
  refine (ZZ.out _ hb1).mono ?_
  rintro e w2 ⟨rfl, hb⟩
  have hb2 := hb1.trans (hb.mono hb1.size)
  clear hb
  go_wp2_with fail
  refine (T.out _ hb2).mono ?_
  rintro e w3 ⟨rfl, hb⟩
  have hb3 := hb2.trans (hb.mono hb2.size)
  clear hb
  go_wp2_with fail
  go_ret2
  exact ⟨rfl, hb3⟩

theorem put_bad (b : Nat) (s : Int) (g : Hd) (w : World) (tb : Tab w) (hc : ¬ chk g = 0) :
    Calls Tryd.prog 85 #[.pointer (some ⟨b, 0, none⟩), .int .i64 s, g.val] w fun e w' => e = .returned (.tuple #[.int .i64 0, .bool false]) ∧ Below w.heap.size w w' := by
  have P := Lib.hid (fun W (hb : Below w.heap.size w W) => pack_any g W (tb.below hb))
  have hc1 : (chk g != 0) = true := by simpa using hc
  have hc2 : (chk g == 0) = false := by simpa using hc
  generalize pack g = x at *
  generalize chk g = c at *
  obtain ⟨gser, gkind, gptrs, graws, gage, gsite, gheld⟩ := g
  unfold Hd.val at *
  simp only at *
  clear hc
  go_enter Tryd.func85, Tryd.ntmps85
  go_wp2_with fail
  refine (P.out _ ((Below.refl _ _).alloc (Nat.le_refl _) _)).mono ?_
  rintro e w1 ⟨rfl, hb⟩
  obtain ⟨hX, hb1, hz1⟩ := kept_new hb
  clear hb hX
  go_wp2_with fail
  go_ret2
  exact ⟨rfl, hb1⟩

theorem put_any (b wb : Nat) (A : Ar) (s : Int) (g : Hd) (w : World) (tb : Tab w) (h : ArAt w b wb A) (ok : A.Ok) :
    Calls Tryd.prog 85 #[.pointer (some ⟨b, 0, none⟩), .int .i64 s, g.val] w fun e w' => e = .returned (.tuple #[.int .i64 (if A.putOk s g then A.top s else 0), .bool (A.putOk s g)]) ∧ ArAt w' b wb (if A.putOk s g then A.lay s g else A) ∧ Only [b, wb] w w' := by
  by_cases hc : chk g = 0
  · have f := (chk_iff g).1 hc
    have h2 : 1 ≤ 2 + g.ptrs + g.raws := by have := f.p0; have := f.r0; omega
    by_cases hn : isSp s = true ∧ 1 ≤ 2 + g.ptrs + g.raws ∧ 2 + g.ptrs + g.raws ≤ A.free s
    · have e1 : A.putOk s g = true := by unfold Ar.putOk; rw [decide_eq_true hc, hn.1, decide_eq_true hn.2.2]; rfl
      rw [e1, if_pos rfl, if_pos rfl]
      exact put_yes b wb A s g w tb h ok f hn.1 hn.2.2
    · have e1 : A.putOk s g = false := by
        unfold Ar.putOk
        by_cases q : isSp s = true
        · rw [decide_eq_false (show ¬ 2 + g.ptrs + g.raws ≤ A.free s from fun x => hn ⟨q, h2, x⟩)]; simp
        · simp [q]
      rw [e1, if_neg (by simp), if_neg (by simp)]
      exact (put_no b wb A s g w tb h ok f hn).mono fun e w' ⟨h1, h2⟩ => ⟨h1, h.below h2, Only.of_below h2⟩
  · have e1 : A.putOk s g = false := by unfold Ar.putOk; rw [decide_eq_false hc]; rfl
    rw [e1, if_neg (by simp), if_neg (by simp)]
    exact (put_bad b s g w tb hc).mono fun e w' ⟨h1, h2⟩ => ⟨h1, h.below h2, Only.of_below h2⟩

theorem fill_yes (b wb : Nat) (A : Ar) (s n : Int) (w : World) (h : ArAt w b wb A) (ok : A.Ok) (hs : isSp s = true) (h1 : 1 ≤ n) (hn : n ≤ A.free s) :
    Calls Tryd.prog 53 #[.pointer (some ⟨b, 0, none⟩), .int .i64 s, .int .i64 n] w fun e w' => e = .returned (.bool true) ∧ ArAt w' b wb (A.fill s n) ∧ Only [b, wb] w w' := by
  have G := Lib.hid (fun W => filler_any n W)
  have T := Lib.hid (take_yes b wb A s n w h ok hs h1 hn)
  obtain ⟨t1, t2, t3⟩ := ok.top_bd hs h1 hn
  have hfr : n ≤ 262145 := by have := ok.sizes s; unfold Ar.free at hn; omega
  have hwn : wordT 3 n = 3 + 4 * n := by unfold wordT; rw [if_pos (by omega)]
  have hw3 : (wordT 3 n == 0) = false := by rw [hwn]; simp; omega
  unfold Ar.fill Ar.put
  have HG := Lib.hid (fun (W : World) (hA : ArAt W b wb (A.take s n)) => hA.word (i := A.top s) (by omega) (by omega))
  have t4 : A.top s < ((A.take s n).words.length : Int) := by omega
  generalize A.take s n = A2 at *
  generalize A.top s = tp at *
  generalize wordT 3 n = x at *
  generalize A2.word tp = m at *
  clear h ok hs hn h1 t2 hwn
  go_enter Tryd.func53, Tryd.ntmps53
  go_wp2_with fail
  refine (G.out _).mono ?_
  rintro e w1 ⟨rfl, rfl⟩
  go_wp2_with fail
  refine T.out.mono ?_
  rintro e w3 ⟨rfl, hA, hO⟩
  obtain ⟨hc, hf⟩ := hA.cells
  unfold arCells at hc
  have hw0 := HG.out _ hA
  have hwf := hA.wfree
  have HN := Lib.hid (hA.setWord tp.toNat x)
  go_wp2_with fail
  go_ret
  exact ⟨rfl, HN.out, hO.setCell (by simp) _⟩

theorem fill_no (b wb : Nat) (A : Ar) (s n : Int) (w : World) (h : ArAt w b wb A) (ok : A.Ok) (hn : ¬ (isSp s = true ∧ 1 ≤ n ∧ n ≤ A.free s)) :
    Calls Tryd.prog 53 #[.pointer (some ⟨b, 0, none⟩), .int .i64 s, .int .i64 n] w fun e w' => e = .returned (.bool false) ∧ Below w.heap.size w w' := by
  have G := fun W => filler_any n W
  have T := Lib.hid (take_no b wb A s n w h ok hn)
  by_cases c : wordT 3 n = 0
  · rw [c] at G
    have GG := Lib.hid G
    clear G h ok hn c T
    go_enter Tryd.func53, Tryd.ntmps53
    go_wp2_with fail
    refine (GG.out _).mono ?_
    rintro e w1 ⟨rfl, rfl⟩
    go_wp2_with fail
    go_ret
    exact ⟨rfl, Below.refl _ _⟩
  · have hw3 : (wordT 3 n == 0) = false := by simpa using c
    have GG := Lib.hid G
    generalize wordT 3 n = x at *
    clear G h ok hn c
    go_enter Tryd.func53, Tryd.ntmps53
    go_wp2_with fail
    refine (GG.out _).mono ?_
    rintro e w1 ⟨rfl, rfl⟩
    go_wp2_with fail
    refine T.out.mono ?_
    rintro e w3 ⟨rfl, hb⟩
    go_wp2_with fail
    go_ret
    exact ⟨rfl, hb⟩

theorem fill_any (b wb : Nat) (A : Ar) (s n : Int) (w : World) (h : ArAt w b wb A) (ok : A.Ok) :
    Calls Tryd.prog 53 #[.pointer (some ⟨b, 0, none⟩), .int .i64 s, .int .i64 n] w fun e w' => e = .returned (.bool (A.fillOk s n)) ∧ ArAt w' b wb (if A.fillOk s n then A.fill s n else A) ∧ Only [b, wb] w w' := by
  by_cases hn : isSp s = true ∧ 1 ≤ n ∧ n ≤ A.free s
  · have e1 : A.fillOk s n = true := by unfold Ar.fillOk; rw [hn.1, decide_eq_true hn.2]; rfl
    rw [e1, if_pos rfl]
    exact fill_yes b wb A s n w h ok hn.1 hn.2.1 hn.2.2
  · have e1 : A.fillOk s n = false := by
      unfold Ar.fillOk
      by_cases q : isSp s = true
      · rw [decide_eq_false (show ¬ (1 ≤ n ∧ n ≤ A.free s) from fun x => hn ⟨q, x⟩)]; simp
      · simp [q]
    rw [e1, if_neg (by simp)]
    exact (fill_no b wb A s n w h ok hn).mono fun e w' ⟨h1, h2⟩ => ⟨h1, h.below h2, Only.of_below h2⟩
end Go.Proofs.YtomgfdfgildkbaaDoor
