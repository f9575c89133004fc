/- DNSCacheStoresAnswers: for every input the call returns true, and each argument reads afterwards as it read before. No condition but what the program's text lays in the listed variable. Printed by wip/tools/gencard.py. -/
import Derived.Test.YtapeljiopbkjlaaGreatDoorCards
import Derived.Test.YtapeljiopbkjlaaGreatDoorTie
import Derived.Test.YtapeljiopbkjlaaGreatDoorOpn20
import Derived.Test.YtapeljiopbkjlaaGreatDoorSaw
import Derived.ProofKit
import Derived.LaidMore
import Derived.OpenShut
import Derived.ShutString
import Derived.ChangeOld
import Derived.Stop.Joined
import Derived.SevenTiedAt
namespace Go.Proofs.YtapeljiopbkjlaaGreatDoor
open Go.ChangeShapes Go.WideShapes Go.ChangeAt Go.RowKit
set_option linter.unusedVariables false
set_option maxRecDepth 100000

theorem open_raws {H : Type} {enc : TypeId × Value → H} {W : World} {a : Option Addr} {len cap fuel : Nat} {x : DataW H × List MemPlace}
    (h : DataW.trod enc Tryz.prog W 0 (fun _ => true) true fuel 22 [.slice a len cap] = some x) : ∃ g, RdRw W (.slice a len cap) len g := by
  obtain ⟨f, ⟨a', cap', e, h1, h2, h3⟩, hq⟩ := open_rows Tryz.underlying22 cells_rw (by decide) (fun cs => ∃ c : Rw, RwOk c ∧ cs = (rwA c).toList) (fun hl ht => open_rw hl ht) h
  cases e
  obtain ⟨g, hg⟩ := @Go.Deep.choose_lt Rw ⟨⟨0, 0, 0, 0⟩⟩ len _ (fun i hi => (hq i hi).2)
  refine ⟨g, a, cap, rfl, h1, h2, fun i hi => (hg i hi).1, fun hn => ?_⟩
  obtain ⟨b, o, rfl, hc⟩ := h3 hn
  exact ⟨b, o, rfl, fun i hi j hj => by rw [hc i hi j hj, (hg i hi).2]; simp⟩
theorem ownDNSCacheStoresAnswers : ownKnob Tryz.prog.godebug = none := by kernel_rfl
theorem laidDNSCacheStoresAnswers : laidOutB Tryz.prog = true := by kernel_rfl

set_option maxRecDepth 100000 in
theorem dNSCacheStoresAnswers_lifted (os : Os) (started : os.Started) (H : Type) (enc : TypeId × Value → H) :
    ReturnsInHanded {} Tryz.checked os 3 .any (fun w args => (Rows.dNSCacheStoresAnswersSpec.pre enc Tryz.prog Tryz.f3 [] false w args ∧ laidMetH Tryz.prog [("stagepost/dnscache.errInvalid", Rows.laid_stagepost_dnscache_errInvalid)] w) ∧ sizedMet enc Tryz.prog Tryz.f3 (OpenSpec.ofChange Rows.dNSCacheStoresAnswersSpec) false w args)
      (Rows.dNSCacheStoresAnswersSpec.post enc Tryz.prog Tryz.f3 false true false false) := by
  refine returnsInHanded_of_change_and (C := Tryz.checked) (X := fun w _ => laidMetH Tryz.prog [("stagepost/dnscache.errInvalid", Rows.laid_stagepost_dnscache_errInvalid)] w) (fun _ _ _ hh h => h.of_heap hh) ownDNSCacheStoresAnswers started (by kernel_rfl) Tryz.func3
    (ChangeSpec.witness_shaped (enc := enc) (C := Tryz.checked) (os := os) (X := fun w _ => laidMetH Tryz.prog [("stagepost/dnscache.errInvalid", Rows.laid_stagepost_dnscache_errInvalid)] w) false (World.doorLaid Tryz.prog 400 os) #[.slice none 0 0] 8 rfl (World.shaped_of_RefB (by kernel_rfl) (by kernel_rfl)) (by kernel_rfl) (by kernel_rfl) (by kernel_rfl) (door_met os _)) ?_
  intro W base args ds gs before hval0 hW _ _ hL _
  have hval : ∀ (j : Nat) t v, Tryz.f3.params[j]? = some t → args[j]? = some v → Value.okWide Tryz.prog W .any base t v := hval0
  have hW' := hW
  obtain ⟨p, q, hA0, hV, rfl, hfz, hnd⟩ := hW
  have hA : DataW.TrodAll enc Tryz.prog W 0 (fun _ => true) true Tryz.f3.params.toList args.toList ds p := hA0
  rw [Tryz.params3] at hA hval
  obtain ⟨v0, vs0, d0, ds0, p0, q0, hargs, rfl, rfl, h0, r0⟩ := trodAll_cons hA
  obtain ⟨rfl, rfl, rfl⟩ := trodAll_nil r0
  obtain rfl : args = #[v0] := by cases args; simp_all
  obtain ⟨rfl, rfl⟩ := trodVars_none hV
  obtain ⟨a, hg⟩ := of_laid hL
  have k0 := h0
  have lt0 : ∀ x ∈ p0, x.block < W.heap.size := by obtain ⟨m, hm⟩ := k0; exact DataW.trod_lt m _ _ _ hm
  obtain ⟨a0, len0, cap0, rfl⟩ := okWide_slice Tryz.underlying22 (hval 0 22 v0 rfl rfl)
  obtain ⟨g0, w0⟩ : ∃ g, RdRw W (.slice a0 len0 cap0) len0 g := by
    obtain ⟨fuel, hf⟩ := h0
    exact open_raws (by simpa [Value.cells] using hf)
  clear hA0 hval0
  refine (stores_walk len0 g0 (.slice a0 len0 cap0) a W w0 hg).mono fun e W' ⟨he, bel⟩ => ?_
  subst he
  exact ⟨_, rfl, _, _, _, [], _, [], hW', trodAll_mk1 (shut_bool Tryz.underlying4 _), (trodAll_cons_mk (Below.trod laidDNSCacheStoresAnswers (by kernel_rfl) (of_decide_eq_true (by kernel_rfl)) k0 bel lt0) trodAll_mk0), rfl, bel.frame _, fun h => by cases h⟩

theorem dNSCacheStoresAnswers_over : Rows.DNSCacheStoresAnswersSaid :=
  OpenClaim.holds_of_wide 3 Tryz.f3 rfl rfl rfl rfl rfl rfl rfl ⟨rfl, rfl, rfl, rfl, rfl⟩ rfl rfl rfl rfl rfl (by kernel_rfl) Tryz.func3 (by kernel_rfl)
    (of_decide_eq_true (by kernel_rfl)) (by unfold Func.isWrapper; first | (rw [if_pos (by decide +kernel)]; kernel_rfl) | (rw [if_neg (by decide +kernel)]; exact ⟨rfl, rfl⟩))
    (fun os started H enc _ => dNSCacheStoresAnswers_lifted os started H enc)

theorem dNSCacheStoresAnswers_holds : Rows.DNSCacheStoresAnswersCardSaid :=
  Claim7.holds_tied_plain_at .later [] [.sentinel] true (true, "b61af9abad139865126fba9e1b49047ccfc0d617178f58898663d4ae51f966f3") true
    dNSCacheStoresAnswers_over (fun _ h => by cases h) (by kernel_rfl) (fun _ h => by cases h) dNSCacheStoresAnswers_row_tie rfl ⟨rfl, rfl⟩ (by kernel_rfl) rfl
    (fun f fn hf hfn => by
      obtain rfl : f = 3 := Option.some.inj ((show Tryz.prog.funcNamed Rows.dNSCacheStoresAnswersRow.func = some 3 by kernel_rfl).symm.trans hf) |>.symm
      obtain rfl : fn = Tryz.f3 := (Option.some.inj (Tryz.func3.symm.trans hfn)).symm
      exact ⟨by kernel_rfl, fun j t ht => by
        rw [Tryz.params3] at ht
        have hm : t ∈ [22] := by simpa using Array.mem_of_getElem? ht
        have hall : ([22].all fun u => !Tryz.prog.wantsStandIn u) = true := by kernel_rfl
        exact (show Tryz.prog.wantsStandIn t = false by simpa using List.all_eq_true.1 hall t hm)⟩)
    (by kernel_rfl)

#print axioms dNSCacheStoresAnswers_holds

end Go.Proofs.YtapeljiopbkjlaaGreatDoor
