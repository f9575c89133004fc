/- ResolverIgnoresForgedAnswers: for every input the call returns true, and each argument reads afterwards as it read before. -/
import Derived.Test.YtbolfkojebbejaaGreatDoorCards
import Derived.Test.YtbolfkojebbejaaGreatDoorTie
import Derived.Test.YtbolfkojebbejaaGreatDoorOpn21
import Derived.Test.YtbolfkojebbejaaGreatDoorFgW
import Derived.ProofKit
import Derived.LaidMore
import Derived.OpenShut
import Derived.ShutString
import Derived.ChangeOld
import Derived.Stop.Joined
import Derived.SevenTiedAt
set_option linter.unusedVariables false
set_option maxRecDepth 100000
set_option maxHeartbeats 32000000
namespace Go.Proofs.YtbolfkojebbejaaGreatDoor
open Go.ChangeShapes Go.WideShapes Go.ChangeAt Go.RowKit

theorem resolverIgnoresForgedAnswers_card (n2 n4 : Nat) (r2 : Nat → Cw) (r4 : Nat → Rq) (a0 a1 a3 : Int) (v2 v4 : Value) (w : World) (ag : Addr) (k1 : w.cell? ⟨errG, 0, none⟩ = some (errV ag)) (k2 : w.cell? ⟨ertG, 0, none⟩ = some ertV) (h0 : i64B a0) (h1 : i64B a1) (h2 : RdCw w v2 n2 r2) (h3 : i64B a3) (h4 : RdRq w v4 n4 r4) : Calls Tryz.prog 8 #[.int .i64 a0, .int .i64 a1, v2, .int .i64 a3, v4] w fun e w' => e = .returned (.bool true) ∧ Below w.heap.size w w' := by
 obtain ⟨g, hg, hO, c1, c2⟩ := glo_start w ag true (fun _ => k1) k2
 exact (forged_w n2 n4 r2 r4 a0 a1 a3 v2 v4 w g hO c1 c2 hg h0 h1 h2 h3 h4).mono fun e w' ⟨he, hO', _⟩ => ⟨he, glo_below hO' c1 c2⟩
theorem ownResolverIgnoresForgedAnswers : ownKnob Tryz.prog.godebug = none := by kernel_rfl
theorem laidResolverIgnoresForgedAnswers : laidOutB Tryz.prog = true := by kernel_rfl

theorem resolverIgnoresForgedAnswers_lifted (os : Os) (started : os.Started) (H : Type) (enc : TypeId × Value → H) :
  ReturnsInHanded {} Tryz.checked os 8 .any (fun w args => (Rows.resolverIgnoresForgedAnswersSpec.pre enc Tryz.prog Tryz.f8 [] false w args ∧ laidMetH Tryz.prog [("errors.errorType", Rows.laid_errors_errorType), ("stagepost/dnscache.errInvalid", Rows.laid_stagepost_dnscache_errInvalid)] w) ∧ sizedMet enc Tryz.prog Tryz.f8 (OpenSpec.ofChange Rows.resolverIgnoresForgedAnswersSpec) false w args)
   (Rows.resolverIgnoresForgedAnswersSpec.post enc Tryz.prog Tryz.f8 false true false false) := by
 refine returnsInHanded_of_change_and (C := Tryz.checked) (X := fun w _ => laidMetH Tryz.prog [("errors.errorType", Rows.laid_errors_errorType), ("stagepost/dnscache.errInvalid", Rows.laid_stagepost_dnscache_errInvalid)] w) (fun _ _ _ hh h => h.of_heap hh) ownResolverIgnoresForgedAnswers started (by kernel_rfl) Tryz.func8
  (ChangeSpec.witness_shaped (enc := enc) (C := Tryz.checked) (os := os) (X := fun w _ => laidMetH Tryz.prog [("errors.errorType", Rows.laid_errors_errorType), ("stagepost/dnscache.errInvalid", Rows.laid_stagepost_dnscache_errInvalid)] w) false (World.doorLaid Tryz.prog 400 os) #[.int .i64 0, .int .i64 0, .slice none 0 0, .int .i64 0, .slice none 0 0] 8 rfl (World.shaped_of_RefB (by kernel_rfl) (by kernel_rfl)) (by kernel_rfl) (by kernel_rfl) (by kernel_rfl) (door_met2 os _)) ?_
 intro W base args ds gs before hval0 hW _ _ hL _
 have hval : ∀ (j : Nat) t v, Tryz.f8.params[j]? = some t → args[j]? = some v → Value.okWide Tryz.prog W .any base t v := hval0
 have hW' := hW
 obtain ⟨p, q, hA0, hV, rfl, hfz, hnd⟩ := hW
 have hA : DataW.TrodAll enc Tryz.prog W 0 (fun _ => true) true Tryz.f8.params.toList args.toList ds p := hA0
 rw [Tryz.params8] at hA hval
 obtain ⟨v0, vs0, d0, ds0, p0, q0, hargs, rfl, rfl, h0, r0⟩ := trodAll_cons hA
 obtain ⟨v1, vs1, d1, ds1, p1, q1, rfl, rfl, rfl, h1, r1⟩ := trodAll_cons r0
 obtain ⟨v2, vs2, d2, ds2, p2, q2, rfl, rfl, rfl, h2, r2⟩ := trodAll_cons r1
 obtain ⟨v3, vs3, d3, ds3, p3, q3, rfl, rfl, rfl, h3, r3⟩ := trodAll_cons r2
 obtain ⟨v4, vs4, d4, ds4, p4, q4, rfl, rfl, rfl, h4, r4⟩ := trodAll_cons r3
 obtain ⟨rfl, rfl, rfl⟩ := trodAll_nil r4
 obtain rfl : args = #[v0, v1, v2, v3, v4] := by cases args; simp_all
 obtain ⟨rfl, rfl⟩ := trodVars_none hV
 obtain ⟨hg2, ag, hg1⟩ := of_laid2 hL
 have k0 := h0
 have lt0 : ∀ x ∈ p0, x.block < W.heap.size := by obtain ⟨m, hm⟩ := k0; exact DataW.trod_lt m _ _ _ hm
 obtain ⟨a0, rfl, rfl, rfl, w0⟩ := open_int Tryz.underlying3 (hval 0 3 v0 rfl rfl) h0
 have k1 := h1
 have lt1 : ∀ x ∈ p1, x.block < W.heap.size := by obtain ⟨m, hm⟩ := k1; exact DataW.trod_lt m _ _ _ hm
 obtain ⟨a1, rfl, rfl, rfl, w1⟩ := open_int Tryz.underlying3 (hval 1 3 v1 rfl rfl) h1
 have k2 := h2
 have lt2 : ∀ x ∈ p2, x.block < W.heap.size := by obtain ⟨m, hm⟩ := k2; exact DataW.trod_lt m _ _ _ hm
 obtain ⟨a2, len2, cap2, rfl⟩ := okWide_slice Tryz.underlying90 (hval 2 90 v2 rfl rfl)
 obtain ⟨g2, w2⟩ : ∃ g, RdCw W (.slice a2 len2 cap2) len2 g := by
  obtain ⟨fuel, hf⟩ := h2
  exact open_cws (by simpa [Value.cells] using hf)
 have k3 := h3
 have lt3 : ∀ x ∈ p3, x.block < W.heap.size := by obtain ⟨m, hm⟩ := k3; exact DataW.trod_lt m _ _ _ hm
 obtain ⟨a3, rfl, rfl, rfl, w3⟩ := open_int Tryz.underlying3 (hval 3 3 v3 rfl rfl) h3
 have k4 := h4
 have lt4 : ∀ x ∈ p4, x.block < W.heap.size := by obtain ⟨m, hm⟩ := k4; exact DataW.trod_lt m _ _ _ hm
 obtain ⟨a4, len4, cap4, rfl⟩ := okWide_slice Tryz.underlying78 (hval 4 78 v4 rfl rfl)
 obtain ⟨g4, w4⟩ : ∃ g, RdRq W (.slice a4 len4 cap4) len4 g := by
  obtain ⟨fuel, hf⟩ := h4
  exact open_rqs (by simpa [Value.cells] using hf)
 clear hA0 hval0
 refine (resolverIgnoresForgedAnswers_card len2 len4 g2 g4 a0 a1 a3 (.slice a2 len2 cap2) (.slice a4 len4 cap4) W ag hg1 hg2 (wf_i64 w0) (wf_i64 w1) w2 (wf_i64 w3) w4).mono fun e W' ⟨he, bel⟩ => ?_
 subst he
 exact ⟨_, rfl, _, _, _, [], _, [], hW', trodAll_mk1 (shut_bool Tryz.underlying4 _), (trodAll_cons_mk (Below.trod laidResolverIgnoresForgedAnswers (by kernel_rfl) (of_decide_eq_true (by kernel_rfl)) k0 bel lt0) (trodAll_cons_mk (Below.trod laidResolverIgnoresForgedAnswers (by kernel_rfl) (of_decide_eq_true (by kernel_rfl)) k1 bel lt1) (trodAll_cons_mk (Below.trod laidResolverIgnoresForgedAnswers (by kernel_rfl) (of_decide_eq_true (by kernel_rfl)) k2 bel lt2) (trodAll_cons_mk (Below.trod laidResolverIgnoresForgedAnswers (by kernel_rfl) (of_decide_eq_true (by kernel_rfl)) k3 bel lt3) (trodAll_cons_mk (Below.trod laidResolverIgnoresForgedAnswers (by kernel_rfl) (of_decide_eq_true (by kernel_rfl)) k4 bel lt4) trodAll_mk0))))), rfl, bel.frame _, fun h => by cases h⟩

end Go.Proofs.YtbolfkojebbejaaGreatDoor
