/-
  LamportTells: any seed's public key, its signature of any bytes, and what any signature comes to, are the document's.
-/
import Derived.Test.YtifcdmfkojhdnaaDoorLTells
import Derived.Test.YtifcdmfkojhdnaaDoorLRowBase
import Derived.SevenTiedAt
namespace Go.Proofs.YtifcdmfkojhdnaaDoor
open Go.ChangeShapes Go.WideShapes Go.ChangeAt Go.WideMaps Go.WideElems Go.RowKit Sha

set_option maxRecDepth 100000 in
theorem lifted (os : Os) (started : os.Started) (H : Type) (enc : TypeId × Value → H) :
    ReturnsInHanded {} Tryd.checked os 3 .any (fun w args => (Rows.lamportTellsSpec.pre enc Tryd.prog Tryd.f3 [] false w args ∧ laidMetH Tryd.prog laid2 w) ∧ sizedMet enc Tryd.prog Tryd.f3 (OpenSpec.ofChange Rows.lamportTellsSpec) false w args)
      (Rows.lamportTellsSpec.post enc Tryd.prog Tryd.f3 false true false false) := by
  refine returnsInHanded_of_change_and (C := Tryd.checked) (X := fun w _ => laidMetH Tryd.prog laid2 w) (fun _ _ _ hh h => h.of_heap hh) own started (by kernel_rfl) Tryd.func3
    (ChangeSpec.witness_shaped (enc := enc) (C := Tryd.checked) (os := os) (X := fun w _ => laidMetH Tryd.prog laid2 w) false (World.doorLaid Tryd.prog 400 os) #[.agg (ints .u8 zeros32), .int .i64 0, .slice none 0 0, .int .u8 0, .agg (ints .u8 zeros32)] 8 rfl (World.shaped_of_RefB (by kernel_rfl) (by kernel_rfl)) (by kernel_rfl) (by kernel_rfl) (by kernel_rfl) (door_met os _)) ?_
  intro W base args ds gs before hval0 hW _ _ hL _
  have hval : ∀ (j : Nat) t v, Tryd.f3.params[j]? = some t → args[j]? = some v → Value.okWide Tryd.prog W .any base t v := hval0
  have hW' := hW
  obtain ⟨p, q, hA0, hV, rfl, hfz, hnd⟩ := hW
  have hA : DataW.TrodAll enc Tryd.prog W 0 (fun _ => true) true Tryd.f3.params.toList args.toList ds p := hA0
  obtain ⟨rfl, rfl⟩ := trodVars_none hV
  rw [List.append_nil] at hW'
  have hlt : ∀ x ∈ p, x.block < W.heap.size := fun x hx => hW'.lt x hx
  rw [Tryd.params3] at hA hval
  obtain ⟨v0, vs0, d0, ds0, p0, q0, hargs, rfl, rfl, h0, hr0⟩ := trodAll_cons hA
  obtain ⟨v1, vs1, d1, ds1, p1, q1, rfl, rfl, rfl, h1, hr1⟩ := trodAll_cons hr0
  obtain ⟨v2, vs2, d2, ds2, p2, q2, rfl, rfl, rfl, h2, hr2⟩ := trodAll_cons hr1
  obtain ⟨v3, vs3, d3, ds3, p3, q3, rfl, rfl, rfl, h3, hr3⟩ := trodAll_cons hr2
  obtain ⟨v4, vs4, d4, ds4, p4, q4, rfl, rfl, rfl, h4, hr4⟩ := trodAll_cons hr3
  obtain ⟨rfl, rfl, rfl⟩ := trodAll_nil hr4
  obtain rfl := args_of hargs
  have hT := tables_of hL
  obtain ⟨x0, hx0, rfl⟩ := open_hash (hval 0 23 v0 rfl rfl) h0
  obtain ⟨z1, rfl, _, _, wf1⟩ := open_int (k := .i64) Tryd.underlying3 (hval 1 3 v1 rfl rfl) h1
  have hx1 := wf_i64 wf1
  obtain ⟨x2, hx2⟩ := open_bytes h2 (okWide_slice Tryd.underlying24 (hval 2 24 v2 rfl rfl))
  obtain ⟨z3, rfl, _, _, wf3⟩ := open_int (k := .u8) Tryd.underlying5 (hval 3 5 v3 rfl rfl) h3
  have hb3 := wf_u8 wf3
  obtain ⟨x3, rfl⟩ : ∃ n : Nat, z3 = (n : Int) := ⟨z3.toNat, by omega⟩
  have hx3 : x3 < 256 := by omega
  obtain ⟨x4, hx4, rfl⟩ := open_hash (hval 4 23 v4 rfl rfl) h4
  refine (tells_any x0 z1 v2 x2 x3 x4 W hx0 hx2 hx3 hx4 hT).mono fun e W' ⟨he, hb⟩ => ?_
  subst he
  refine ⟨_, rfl, ?_⟩
  exact post_of_below (pv := []) hW' (fun _ _ _ => trodAll_mk1 (shut_bool Tryd.underlying4 _)) (fun sp hsp => trodAll_below (by kernel_rfl) hb (by rw [Tryd.params3]; kernel_rfl) hA0 hlt hsp) (fun _ _ => rfl) (by simp) hb (ok_one (by kernel_rfl) rfl (okWide_bool_mk Tryd.underlying4 _))

theorem row_holds : Rows.LamportTellsSaid :=
  OpenClaim.holds_of_wide 3 Tryd.f3 rfl rfl rfl rfl rfl rfl rfl ⟨rfl, rfl, rfl, rfl, rfl⟩ rfl rfl rfl rfl rfl (by kernel_rfl) Tryd.func3 (by kernel_rfl)
    (of_decide_eq_true (by kernel_rfl)) (by unfold Func.isWrapper; first | (rw [if_pos (by decide +kernel)]; kernel_rfl) | (rw [if_neg (by decide +kernel)]; exact ⟨rfl, rfl⟩))
    (fun os started H enc _ => lifted os started H enc)

/-- The card: the listed variables are what the program's text lays. -/
theorem lamportTells_holds : Rows.LamportTellsCardSaid :=
  Claim7.holds_tied_plain_at .later [] [.data, .data] true (Rows.lamportTellsCard.stood.harness) false
    row_holds (fun _ h => by cases h) (by kernel_rfl) (fun _ h => by cases h) lamportTells_row_tie rfl ⟨rfl, rfl⟩ (by kernel_rfl) rfl
    (fun f fn hf hfn => by
      obtain rfl : f = 3 := Option.some.inj ((show Tryd.prog.funcNamed "assayer/assayerlaw07.LamportTells" = some 3 by kernel_rfl).symm.trans hf) |>.symm
      obtain rfl : fn = Tryd.f3 := (Option.some.inj (Tryd.func3.symm.trans hfn)).symm
      exact ⟨by kernel_rfl, fun j t ht => by
        rw [Tryd.params3] at ht
        have hm : t ∈ [23, 3, 24, 5, 23] := by simpa using Array.mem_of_getElem? ht
        have hall : ([23, 3, 24, 5, 23].all fun u => !Tryd.prog.wantsStandIn u) = true := by kernel_rfl
        exact (show Tryd.prog.wantsStandIn t = false by simpa using List.all_eq_true.1 hall t hm)⟩)
    (by kernel_rfl)
#print axioms lamportTells_holds
end Go.Proofs.YtifcdmfkojhdnaaDoor
