/- The statement TripsOf: of every module and each number trips.Of tells what the document says; the module stays as it is, and what was told may be written over: proved as the tied card. Condition: the package variable soffit/code.rows holds its table when the call begins; the card ties that table to the text of the program. -/
import Derived.Test.YteebpnbdihcfmaaGreatDoorJ32
import Derived.Test.YteebpnbdihcfmaaGreatDoorTie
import Derived.Test.YteebpnbdihcfmaaGreatDoorCards
import Derived.SevenTiedAt
set_option linter.unusedVariables false
set_option linter.unusedSimpArgs false
set_option maxRecDepth 100000
set_option maxHeartbeats 20000000
namespace Go.Proofs.YteebpnbdihcfmaaGreatDoor
open Go.ChangeShapes Go.WideShapes Go.ChangeAt Go.RowKit
open Go.ChangeMaps (open_string shut_string)
theorem aAq (os : Os) (started : os.Started) (H : Type) (enc : TypeId × Value → H) :
 ReturnsInHanded {} Tryz.checked os 3 .any (fun w args => (Rows.tripsOfSpec.pre enc Tryz.prog Tryz.f3 [] false w args ∧ laidMetH Tryz.prog aGe w) ∧ sizedMet enc Tryz.prog Tryz.f3 (OpenSpec.ofChange Rows.tripsOfSpec) false w args)
  (Rows.tripsOfSpec.post enc Tryz.prog Tryz.f3 false true false false) := by
 refine returnsInHanded_of_change_and (C := Tryz.checked) (X := fun w _ => laidMetH Tryz.prog aGe w) (fun _ _ _ hh h => h.of_heap hh) own started (by kernel_rfl) Tryz.func3
  (ChangeSpec.witness_shaped (enc := enc) (C := Tryz.checked) (os := os) (X := fun w _ => laidMetH Tryz.prog aGe w) false (World.doorLaid Tryz.prog 34 os) #[.agg #[.slice none 0 0, .slice none 0 0], .int .i64 0] 8 rfl (World.shaped_of_RefB (by kernel_rfl) (by kernel_rfl)) (by kernel_rfl) (by kernel_rfl) (by kernel_rfl) (aRc os _)) ?_
 intro W base args ds gs before hval0 hW hq1 hq2 hL hq3;have hval : ∀ (j : Nat) t v, Tryz.f3.params[j]? = some t → args[j]? = some v → Value.okWide Tryz.prog W .any base t v := hval0;have hW' := hW;obtain ⟨p, q, hA0, hV, rfl, hfz, hnd⟩ := hW;have hA : DataW.TrodAll enc Tryz.prog W 0 (fun _ => true) true Tryz.f3.params.toList args.toList ds p := hA0;rw [Tryz.params3] at hA hval;obtain ⟨v0, vs0, d0, ds0, p0, q0, hargs, rfl, rfl, h0, r0⟩ := trodAll_cons hA;obtain ⟨v1, vs1, d1, ds1, p1, q1, rfl, rfl, rfl, h1, r1⟩ := trodAll_cons r0;obtain ⟨rfl, rfl, rfl⟩ := trodAll_nil r1;obtain rfl : args = #[v0, v1] := by cases args; simp_all
 obtain ⟨rfl, rfl⟩ := trodVars_none hV;have k0 := h0;have lt0 : ∀ x ∈ p0, x.block < W.heap.size := by obtain ⟨m, hm⟩ := k0; exact DataW.trod_lt m _ _ _ hm
 have k1 := h1;have lt1 : ∀ x ∈ p1, x.block < W.heap.size := by obtain ⟨m, hm⟩ := k1; exact DataW.trod_lt m _ _ _ hm
 have hwi0 : lQ 25 d0 := fun u hu => by
  have hin : u ∈ DataW.weightsEach Tryz.prog (Tryz.f3.params.toList ++ DataSpec.varTypes Tryz.prog Rows.tripsOfSpec.plain) ([d0, d1] ++ []) := by
   rw [Tryz.params3];show u ∈ DataW.weightsEach _ (25 :: _) (d0 :: _);rw [DataW.weightsEach];exact List.mem_append.2 (.inl hu)
  simpa using List.all_eq_true.1 hq2 u hin
 obtain ⟨m0, w0, l0⟩ := aMk (hval 0 25 v0 rfl rfl) h0 hwi0;obtain ⟨a1, rfl, rfl, rfl, w1⟩ := open_int Tryz.underlying3 (hval 1 3 v1 rfl rfl) h1;clear hA0 hval0;obtain ⟨ta, tl, tc, fa, fl, fc, e0, -⟩ := id w0;subst e0;refine (aU4 m0 a1 ta fa tl tc fl fc W w0 l0 (aC8 hL)).mono fun e W' ⟨he, bel⟩ => ?_;subst he;exact ⟨_, rfl, _, _, _, [], _, [], hW', trodAll_mk1 (shut_bool Tryz.underlying4 _), (trodAll_cons_mk (Below.trod aJx (by kernel_rfl) (of_decide_eq_true (by kernel_rfl)) k0 bel lt0) (trodAll_cons_mk (Below.trod aJx (by kernel_rfl) (of_decide_eq_true (by kernel_rfl)) k1 bel lt1) trodAll_mk0)), rfl, bel.frame _, fun h => by cases h⟩
theorem aA9 : Rows.TripsOfSaid :=
 OpenClaim.holds_of_wide 3 Tryz.f3 rfl rfl rfl rfl rfl rfl rfl ⟨rfl, rfl, rfl, rfl, rfl⟩ rfl rfl rfl rfl rfl (by kernel_rfl) Tryz.func3 (by kernel_rfl)
  (of_decide_eq_true (by kernel_rfl)) (by unfold Func.isWrapper; first | (rw [if_pos (by decide +kernel)]; kernel_rfl) | (rw [if_neg (by decide +kernel)]; exact ⟨rfl, rfl⟩))
  (fun os started H enc _ => aAq os started H enc)
theorem tripsOf_card : Rows.TripsOfCardSaid :=
 Claim7.holds_tied_plain_at .later [] [.data] true (true, "ae89559be6f3f1c25477181a4cbe676ea3c7ebf123649ba42140ead2c499d2b3") false
  aA9 (fun _ h => by cases h) (by kernel_rfl) (fun _ h => by cases h) tripsOf_row_tie rfl ⟨rfl, rfl⟩ (by kernel_rfl) rfl
  (fun f fn hf hfn => by
    obtain rfl : f = 3 := Option.some.inj ((show Tryz.prog.funcNamed "soffit/soffitlaw17.TripsOf" = some 3 by kernel_rfl).symm.trans hf) |>.symm;obtain rfl : fn = Tryz.f3 := (Option.some.inj (Tryz.func3.symm.trans hfn)).symm;exact ⟨by kernel_rfl, fun j t ht => by
     rw [Tryz.params3] at ht;have hm : t ∈ [25, 3] := by simpa using Array.mem_of_getElem? ht
     have hall : ([25, 3].all fun u => !Tryz.prog.wantsStandIn u) = true := by kernel_rfl
     exact (show Tryz.prog.wantsStandIn t = false by simpa using List.all_eq_true.1 hall t hm)⟩)
  (by kernel_rfl)
#print axioms tripsOf_card
end Go.Proofs.YteebpnbdihcfmaaGreatDoor
