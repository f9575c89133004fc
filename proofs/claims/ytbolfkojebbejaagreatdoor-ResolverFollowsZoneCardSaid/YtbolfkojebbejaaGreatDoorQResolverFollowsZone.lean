/- ResolverFollowsZone: for every input the call returns true, and each argument reads afterwards as it read before. No condition but what the program's text lays in the listed variable. Printed by wip/tools/gencard21.py. -/
import Derived.Test.YtbolfkojebbejaaGreatDoorCards
import Derived.Test.YtbolfkojebbejaaGreatDoorTie
import Derived.Test.YtbolfkojebbejaaGreatDoorOpn21
import Derived.Test.YtbolfkojebbejaaGreatDoorBq
import Derived.Test.YtbolfkojebbejaaGreatDoorFzW
import Derived.ProofKit
import Derived.LaidMore
import Derived.OpenShut
import Derived.ShutString
import Derived.ChangeOld
import Derived.Stop.Joined
import Derived.SevenTiedAt
namespace Go.Proofs.YtbolfkojebbejaaGreatDoor
open Go.ChangeShapes Go.WideShapes Go.ChangeAt Go.RowKit
set_option linter.unusedVariables false
set_option maxRecDepth 100000

theorem open_ints {H : Type} {enc : TypeId × Value → H} {W : World} {a : Option Addr} {len cap fuel : Nat} {x : DataW H × List MemPlace}
  (h : DataW.trod enc Tryz.prog W 0 (fun _ => true) true fuel 30 [.slice a len cap] = some x) : ∃ g, RdI W (.slice a len cap) len g := by
 obtain ⟨f, ⟨a', cap', e, h1, h2, h3⟩, hq⟩ := open_rows Tryz.underlying30 cellsI (by decide) (fun cs => ∃ c : Int, i64B c ∧ cs = [.int .i64 c]) (fun hl ht => by
  rename_i cs x
  match cs, hl with
  | [v0], _ =>
   obtain ⟨p0, e0, _, w0⟩ := DataW.trod_int Tryz.underlying3 ht
   exact ⟨p0, wf_i64 w0, e0⟩) h
 cases e
 obtain ⟨g, hg⟩ := @Go.Deep.choose_lt Int ⟨0⟩ len _ (fun i hi => (hq i hi).2)
 refine ⟨g, a, cap, rfl, h1, h2, fun i hi => (hg i hi).1, fun hn => ?_⟩
 obtain ⟨b, o, rfl, hc⟩ := h3 hn
 exact ⟨b, o, rfl, fun i hi => by have := hc i hi 0 (by decide); rw [(hg i hi).2] at this; simpa using this⟩
theorem resolverFollowsZone_card (n0 n1 : Nat) (r0 : Nat → Rq) (r1 : Nat → Int) (v0 v1 : Value) (a2 : Bool) (a3 : Int) (w : World) (ag : Addr) (k1 : w.cell? ⟨errG, 0, none⟩ = some (errV ag)) (k2 : w.cell? ⟨ertG, 0, none⟩ = some ertV) (h0 : RdRq w v0 n0 r0) (h1 : RdI w v1 n1 r1) (h3 : i64B a3) : Calls Tryz.prog 6 #[v0, v1, .bool a2, .int .i64 a3] w fun e w' => e = .returned (.bool true) ∧ Below w.heap.size w w' := by
 obtain ⟨g, hg, hO, c1, c2⟩ := glo_start w ag true (fun _ => k1) k2
 exact (follows_w n0 n1 r0 r1 v0 v1 a2 a3 w g hO c1 c2 hg h0 h1 h3).mono fun e w' ⟨he, hO', _⟩ => ⟨he, glo_below hO' c1 c2⟩
theorem ownResolverFollowsZone : ownKnob Tryz.prog.godebug = none := by kernel_rfl
theorem laidResolverFollowsZone : laidOutB Tryz.prog = true := by kernel_rfl

set_option maxRecDepth 100000 in
theorem resolverFollowsZone_lifted (os : Os) (started : os.Started) (H : Type) (enc : TypeId × Value → H) :
  ReturnsInHanded {} Tryz.checked os 6 .any (fun w args => (Rows.resolverFollowsZoneSpec.pre enc Tryz.prog Tryz.f6 [] false w args ∧ laidMetH Tryz.prog [("errors.errorType", Rows.laid_errors_errorType), ("stagepost/dnscache.errInvalid", Rows.laid_stagepost_dnscache_errInvalid)] w) ∧ sizedMet enc Tryz.prog Tryz.f6 (OpenSpec.ofChange Rows.resolverFollowsZoneSpec) false w args)
   (Rows.resolverFollowsZoneSpec.post enc Tryz.prog Tryz.f6 false true false false) := by
 refine returnsInHanded_of_change_and (C := Tryz.checked) (X := fun w _ => laidMetH Tryz.prog [("errors.errorType", Rows.laid_errors_errorType), ("stagepost/dnscache.errInvalid", Rows.laid_stagepost_dnscache_errInvalid)] w) (fun _ _ _ hh h => h.of_heap hh) ownResolverFollowsZone started (by kernel_rfl) Tryz.func6
  (ChangeSpec.witness_shaped (enc := enc) (C := Tryz.checked) (os := os) (X := fun w _ => laidMetH Tryz.prog [("errors.errorType", Rows.laid_errors_errorType), ("stagepost/dnscache.errInvalid", Rows.laid_stagepost_dnscache_errInvalid)] w) false (World.doorLaid Tryz.prog 400 os) #[.slice none 0 0, .slice none 0 0, .bool false, .int .i64 0] 8 rfl (World.shaped_of_RefB (by kernel_rfl) (by kernel_rfl)) (by kernel_rfl) (by kernel_rfl) (by kernel_rfl) (door_met2 os _)) ?_
 intro W base args ds gs before hval0 hW _ _ hL _
 have hval : ∀ (j : Nat) t v, Tryz.f6.params[j]? = some t → args[j]? = some v → Value.okWide Tryz.prog W .any base t v := hval0
 have hW' := hW
 obtain ⟨p, q, hA0, hV, rfl, hfz, hnd⟩ := hW
 have hA : DataW.TrodAll enc Tryz.prog W 0 (fun _ => true) true Tryz.f6.params.toList args.toList ds p := hA0
 rw [Tryz.params6] at hA hval
 obtain ⟨v0, vs0, d0, ds0, p0, q0, hargs, rfl, rfl, h0, r0⟩ := trodAll_cons hA
 obtain ⟨v1, vs1, d1, ds1, p1, q1, rfl, rfl, rfl, h1, r1⟩ := trodAll_cons r0
 obtain ⟨v2, vs2, d2, ds2, p2, q2, rfl, rfl, rfl, h2, r2⟩ := trodAll_cons r1
 obtain ⟨v3, vs3, d3, ds3, p3, q3, rfl, rfl, rfl, h3, r3⟩ := trodAll_cons r2
 obtain ⟨rfl, rfl, rfl⟩ := trodAll_nil r3
 obtain rfl : args = #[v0, v1, v2, v3] := by cases args; simp_all
 obtain ⟨rfl, rfl⟩ := trodVars_none hV
 obtain ⟨hg2, ag, hg1⟩ := of_laid2 hL
 have k0 := h0
 have lt0 : ∀ x ∈ p0, x.block < W.heap.size := by obtain ⟨m, hm⟩ := k0; exact DataW.trod_lt m _ _ _ hm
 obtain ⟨a0, len0, cap0, rfl⟩ := okWide_slice Tryz.underlying78 (hval 0 78 v0 rfl rfl)
 obtain ⟨g0, w0⟩ : ∃ g, RdRq W (.slice a0 len0 cap0) len0 g := by
  obtain ⟨fuel, hf⟩ := h0
  exact open_rqs (by simpa [Value.cells] using hf)
 have k1 := h1
 have lt1 : ∀ x ∈ p1, x.block < W.heap.size := by obtain ⟨m, hm⟩ := k1; exact DataW.trod_lt m _ _ _ hm
 obtain ⟨a1, len1, cap1, rfl⟩ := okWide_slice Tryz.underlying30 (hval 1 30 v1 rfl rfl)
 obtain ⟨g1, w1⟩ : ∃ g, RdI W (.slice a1 len1 cap1) len1 g := by
  obtain ⟨fuel, hf⟩ := h1
  exact open_ints (by simpa [Value.cells] using hf)
 have k2 := h2
 have lt2 : ∀ x ∈ p2, x.block < W.heap.size := by obtain ⟨m, hm⟩ := k2; exact DataW.trod_lt m _ _ _ hm
 obtain ⟨a2, rfl, rfl, rfl⟩ := open_bool Tryz.underlying4 (hval 2 4 v2 rfl rfl) h2
 have k3 := h3
 have lt3 : ∀ x ∈ p3, x.block < W.heap.size := by obtain ⟨m, hm⟩ := k3; exact DataW.trod_lt m _ _ _ hm
 obtain ⟨a3, rfl, rfl, rfl, w3⟩ := open_int Tryz.underlying3 (hval 3 3 v3 rfl rfl) h3
 clear hA0 hval0
 refine (resolverFollowsZone_card len0 len1 g0 g1 (.slice a0 len0 cap0) (.slice a1 len1 cap1) a2 a3 W ag hg1 hg2 w0 w1 (wf_i64 w3)).mono fun e W' ⟨he, bel⟩ => ?_
 subst he
 exact ⟨_, rfl, _, _, _, [], _, [], hW', trodAll_mk1 (shut_bool Tryz.underlying4 _), (trodAll_cons_mk (Below.trod laidResolverFollowsZone (by kernel_rfl) (of_decide_eq_true (by kernel_rfl)) k0 bel lt0) (trodAll_cons_mk (Below.trod laidResolverFollowsZone (by kernel_rfl) (of_decide_eq_true (by kernel_rfl)) k1 bel lt1) (trodAll_cons_mk (Below.trod laidResolverFollowsZone (by kernel_rfl) (of_decide_eq_true (by kernel_rfl)) k2 bel lt2) (trodAll_cons_mk (Below.trod laidResolverFollowsZone (by kernel_rfl) (of_decide_eq_true (by kernel_rfl)) k3 bel lt3) trodAll_mk0)))), rfl, bel.frame _, fun h => by cases h⟩

end Go.Proofs.YtbolfkojebbejaaGreatDoor
