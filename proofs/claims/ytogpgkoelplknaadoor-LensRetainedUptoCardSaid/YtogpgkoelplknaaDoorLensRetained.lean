/- Every Retained of the lens answers as the document's, where the graph is of bulk at most 2^20 (the row's own condition: '..UptoCardSaid'). -/
import Derived.Test.YtogpgkoelplknaaDoorGRt7
import Derived.Test.YtogpgkoelplknaaDoorCards
import Derived.Test.YtogpgkoelplknaaDoorTie
import Derived.SevenTiedAt
namespace Go.Proofs.YtogpgkoelplknaaDoor.lensRetained
open Go.Joins Go.ChangeShapes Go.WideShapes Go.RowKit Go.Deep Go.ChangeAt
set_option linter.unusedVariables false
theorem reads (os : Os) {H : Type} (enc : TypeId × Value -> H) : ∃ ds places, DataW.whole enc Tryd.prog ((World.doorLaid Tryd.prog 400 os).forCall (fun _ _ => 0) ⟨#[], #[.agg #[.slice none 0 0, .slice none 0 0, .slice none 0 0, .slice none 0 0, .slice none 0 0, .int .u64 0]], []⟩).memory Tryd.f5.params.toList Rows.lensRetainedSpec.vars false #[Value.agg #[.slice none 0 0, .slice none 0 0, .slice none 0 0, .slice none 0 0, .slice none 0 0, .int .u64 0]].toList 8 = some (ds, [], places) /\ Rows.uptoSmall H (ds ++ []) = true :=
 ⟨[.agg [.nil, .nil, .nil, .nil, .nil, .lit (.int .u64 0)]], [], by kernel_rfl, by kernel_rfl⟩
set_option maxRecDepth 100000 in
theorem lifted (os : Os) (started : os.Started) (H : Type) (enc : TypeId × Value -> H) (F : Stop.Interp) :
  ReturnsInHanded {} Tryd.checked os 5 .any ((Rows.OpenSpec.upto Rows.lensRetainedSpec).preRow enc Tryd.prog Tryd.f5 Rows.lensRetainedUptoRow.domain false Rows.lensRetainedUptoRow.laid) (((Rows.OpenSpec.upto Rows.lensRetainedSpec).at F).post enc Tryd.prog Tryd.f5 false true false false) := by
 obtain ⟨dd, places, hx, hs⟩ := reads os enc
 refine returnsInHanded_of_row (C := Tryd.checked) (s := Rows.OpenSpec.upto Rows.lensRetainedSpec) own started (by kernel_rfl) Tryd.func5
  (witness_row_at (enc := enc) (C := Tryd.checked) false (World.doorLaid Tryd.prog 400 os) #[.agg #[.slice none 0 0, .slice none 0 0, .slice none 0 0, .slice none 0 0, .slice none 0 0, .int .u64 0]] rfl (by kernel_rfl) (by kernel_rfl) (by kernel_rfl)
   (OpenSpec.preRow_of_cond 8 hx (by kernel_rfl) (fun k hk => by cases hk; exact hs) (by kernel_rfl) (door_met os _))) ?_
 intro W base args ds gs before hval0 hW _ hcond _ hL _ _
 have hbulk : Rows.uptoBulkAll (ds ++ gs) <= 1048576 := by simpa [Rows.uptoSmall] using hcond _ rfl
 have hval : ∀ (j : Nat) t v, Tryd.f5.params[j]? = some t -> args[j]? = some v -> Value.okWide Tryd.prog W .any base t v := hval0
 have hW' := hW
 obtain ⟨p, q, hA0, hV, rfl, hfz, hnd⟩ := hW
 have hA : DataW.TrodAll enc Tryd.prog W 0 (fun _ => true) true Tryd.f5.params.toList args.toList ds p := hA0
 rw [Tryd.params5] at hA hval
 obtain ⟨v0, vs0, d0, ds0, p0, q0, hargs, rfl, rfl, h0, r0⟩ := trodAll_cons hA
 obtain ⟨rfl, rfl, rfl⟩ := trodAll_nil r0
 obtain rfl : args = #[v0] := by cases args; simp_all
 obtain ⟨rfl, rfl⟩ := trodVars_none hV
 have hlt : ∀ x ∈ p0 ++ [] ++ [], x.block < W.heap.size := fun x hx => hW'.lt x hx
 have hk0 := h0
 obtain ⟨cs, rfl, -⟩ := okWide_struct Tryd.underlying27 (hval 0 27 v0 rfl rfl)
 obtain ⟨f0, e0⟩ := h0
 obtain ⟨g, G, hcs, hG, hle⟩ := open_graph e0
 obtain rfl : cs = gcells g G := by
  apply Array.ext'
  exact hcs
 have hbg : bulkG G <= 1048576 := by
  simp only [List.cons_append, Rows.uptoBulkAll] at hbulk
  have hle : bulkG G <= Rows.uptoBulk d0 := hle
  omega
 obtain ⟨small, cost⟩ := small_of hbg
 clear hA0 hval0
 have tab := tab_of_laid hL
 refine (law_rets g G W hG tab small cost).mono fun e W' ⟨he, bel⟩ => ?_
 subst he
 exact ⟨_, rfl, _, _, _, [], _, [], hW', trodAll_mk1 (shut_bool Tryd.underlying4 _), (trodAll_cons_mk (Below.trod laidOut (by kernel_rfl) (of_decide_eq_true (by kernel_rfl)) hk0 bel (fun x hx => hlt x (by simp [hx]))) trodAll_mk0), rfl, bel.frame _, fun h => by cases h⟩
theorem over : Rows.LensRetainedUptoSaid :=
 leaving.holds_of_cond_leaving 5 Tryd.f5 rfl rfl rfl rfl rfl rfl rfl ⟨rfl, rfl, rfl, rfl, rfl⟩ rfl rfl rfl rfl rfl (by kernel_rfl) Tryd.func5 (by kernel_rfl)
  (of_decide_eq_true (by kernel_rfl)) (by unfold Func.isWrapper; first | (rw [if_pos (by decide +kernel)]; kernel_rfl) | (rw [if_neg (by decide +kernel)]; exact ⟨rfl, rfl⟩))
  (fun os started H enc _ F => leaving_of_handed (by rw [OpenClaim.pre_eq_preRow]; exact lifted os started H enc F))
theorem holds : Rows.LensRetainedUptoCardSaid :=
 holds_tied_goes .later _ _ _ _
  over (by kernel_rfl) lensRetainedUpto_row_tie rfl ⟨rfl, rfl⟩ (by kernel_rfl) rfl
  (fun f fn hf hfn => by
   obtain rfl : f = 5 := Option.some.inj ((show Tryd.prog.funcNamed "midden/middenlaw17.LensRetained" = some 5 by kernel_rfl).symm.trans hf) |>.symm
   obtain rfl : fn = Tryd.f5 := (Option.some.inj (Tryd.func5.symm.trans hfn)).symm
   exact ⟨by kernel_rfl, fun j t ht => by
    rw [Tryd.params5] at ht
    have hm : t ∈ [27] := by simpa using Array.mem_of_getElem? ht
    have hall : ([27].all fun u => !Tryd.prog.wantsStandIn u) = true := by kernel_rfl
    exact (show Tryd.prog.wantsStandIn t = false by simpa using List.all_eq_true.1 hall t hm)⟩)
  (by kernel_rfl)
#print axioms holds
end Go.Proofs.YtogpgkoelplknaaDoor.lensRetained
