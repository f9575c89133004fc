/- ResolverNilAndInvalid: for every input the call returns true, and each argument reads afterwards as it read before. No condition but what the program's text lays in the listed variable. Printed by wip/tools/gencard21.py. -/
import Derived.Test.YtbolfkojebbejaaGreatDoorCards
import Derived.Test.YtbolfkojebbejaaGreatDoorTie
import Derived.Test.YtbolfkojebbejaaGreatDoorOpn21
import Derived.Test.YtbolfkojebbejaaGreatDoorNi
import Derived.ProofKit
import Derived.LaidMore
import Derived.OpenShut
import Derived.ShutString
import Derived.ChangeOld
import Derived.Stop.Joined
import Derived.SevenTiedAt
namespace Go.Proofs.YtbolfkojebbejaaGreatDoor
open Go.ChangeShapes Go.WideShapes Go.ChangeAt Go.RowKit
set_option linter.unusedVariables false
set_option maxRecDepth 100000

theorem open_strV {H : Type} {enc : TypeId × Value → H} {P : Program} {w : World} {base : Nat} {sp : Nat → Bool} {held : Bool} {r : Reach} {b0 : Nat} {t : TypeId} {v : Value} {d : DataW H} {ps : List MemPlace} (ht : P.underlying t = some .string) (hval : Value.okWide P w r b0 t v) (hd : DataW.Trod enc P w base sp held t v d ps) :
  ∃ s : ByteArray, v = .string s ∧ d = .lit (.string s.data.toList) ∧ ps = [] ∧ s.size ≤ maxLen := by
 obtain ⟨s, rfl⟩ := okWide_string ht hval
 obtain ⟨n, hn⟩ := hd
 obtain ⟨s', h1, h2, h3⟩ := DataW.trod_string ht hn
 have e : s = s' := by simpa [Value.cells] using h1
 subst e
 have e2 := Prod.mk.inj h2
 exact ⟨s, rfl, e2.1, e2.2, h3⟩
theorem resolverNilAndInvalid_card (a0 : ByteArray) (a1 : Int) (w : World) (ag : Addr) (k1 : w.cell? ⟨errG, 0, none⟩ = some (errV ag)) (k2 : w.cell? ⟨ertG, 0, none⟩ = some ertV) (h0 : a0.size ≤ maxLen) (h1 : i64B a1) : Calls Tryz.prog 10 #[.string a0, .int .i64 a1] w fun e w' => e = .returned (.bool true) ∧ Below w.heap.size w w' := by
 obtain ⟨g, hg, hO, c1, c2⟩ := glo_start w ag true (fun _ => k1) k2
 exact (nilInvalid_w a0 a1 w glD g hO hg h0 h1).mono fun e w' ⟨he, hO', _⟩ => ⟨he, glo_below hO' c1 c2⟩
theorem ownResolverNilAndInvalid : ownKnob Tryz.prog.godebug = none := by kernel_rfl
theorem laidResolverNilAndInvalid : laidOutB Tryz.prog = true := by kernel_rfl

set_option maxRecDepth 100000 in
theorem resolverNilAndInvalid_lifted (os : Os) (started : os.Started) (H : Type) (enc : TypeId × Value → H) :
  ReturnsInHanded {} Tryz.checked os 10 .any (fun w args => (Rows.resolverNilAndInvalidSpec.pre enc Tryz.prog Tryz.f10 [] false w args ∧ laidMetH Tryz.prog [("errors.errorType", Rows.laid_errors_errorType), ("stagepost/dnscache.errInvalid", Rows.laid_stagepost_dnscache_errInvalid)] w) ∧ sizedMet enc Tryz.prog Tryz.f10 (OpenSpec.ofChange Rows.resolverNilAndInvalidSpec) false w args)
   (Rows.resolverNilAndInvalidSpec.post enc Tryz.prog Tryz.f10 false true false false) := by
 refine returnsInHanded_of_change_and (C := Tryz.checked) (X := fun w _ => laidMetH Tryz.prog [("errors.errorType", Rows.laid_errors_errorType), ("stagepost/dnscache.errInvalid", Rows.laid_stagepost_dnscache_errInvalid)] w) (fun _ _ _ hh h => h.of_heap hh) ownResolverNilAndInvalid started (by kernel_rfl) Tryz.func10
  (ChangeSpec.witness_shaped (enc := enc) (C := Tryz.checked) (os := os) (X := fun w _ => laidMetH Tryz.prog [("errors.errorType", Rows.laid_errors_errorType), ("stagepost/dnscache.errInvalid", Rows.laid_stagepost_dnscache_errInvalid)] w) false (World.doorLaid Tryz.prog 400 os) #[.string ⟨#[]⟩, .int .i64 0] 8 rfl (World.shaped_of_RefB (by kernel_rfl) (by kernel_rfl)) (by kernel_rfl) (by kernel_rfl) (by kernel_rfl) (door_met2 os _)) ?_
 intro W base args ds gs before hval0 hW _ _ hL _
 have hval : ∀ (j : Nat) t v, Tryz.f10.params[j]? = some t → args[j]? = some v → Value.okWide Tryz.prog W .any base t v := hval0
 have hW' := hW
 obtain ⟨p, q, hA0, hV, rfl, hfz, hnd⟩ := hW
 have hA : DataW.TrodAll enc Tryz.prog W 0 (fun _ => true) true Tryz.f10.params.toList args.toList ds p := hA0
 rw [Tryz.params10] at hA hval
 obtain ⟨v0, vs0, d0, ds0, p0, q0, hargs, rfl, rfl, h0, r0⟩ := trodAll_cons hA
 obtain ⟨v1, vs1, d1, ds1, p1, q1, rfl, rfl, rfl, h1, r1⟩ := trodAll_cons r0
 obtain ⟨rfl, rfl, rfl⟩ := trodAll_nil r1
 obtain rfl : args = #[v0, v1] := by cases args; simp_all
 obtain ⟨rfl, rfl⟩ := trodVars_none hV
 obtain ⟨hg2, ag, hg1⟩ := of_laid2 hL
 have k0 := h0
 have lt0 : ∀ x ∈ p0, x.block < W.heap.size := by obtain ⟨m, hm⟩ := k0; exact DataW.trod_lt m _ _ _ hm
 obtain ⟨a0, rfl, rfl, rfl, w0⟩ := open_strV Tryz.underlying9 (hval 0 9 v0 rfl rfl) h0
 have k1 := h1
 have lt1 : ∀ x ∈ p1, x.block < W.heap.size := by obtain ⟨m, hm⟩ := k1; exact DataW.trod_lt m _ _ _ hm
 obtain ⟨a1, rfl, rfl, rfl, w1⟩ := open_int Tryz.underlying3 (hval 1 3 v1 rfl rfl) h1
 clear hA0 hval0
 refine (resolverNilAndInvalid_card a0 a1 W ag hg1 hg2 w0 (wf_i64 w1)).mono fun e W' ⟨he, bel⟩ => ?_
 subst he
 exact ⟨_, rfl, _, _, _, [], _, [], hW', trodAll_mk1 (shut_bool Tryz.underlying4 _), (trodAll_cons_mk (Below.trod laidResolverNilAndInvalid (by kernel_rfl) (of_decide_eq_true (by kernel_rfl)) k0 bel lt0) (trodAll_cons_mk (Below.trod laidResolverNilAndInvalid (by kernel_rfl) (of_decide_eq_true (by kernel_rfl)) k1 bel lt1) trodAll_mk0)), rfl, bel.frame _, fun h => by cases h⟩

end Go.Proofs.YtbolfkojebbejaaGreatDoor
