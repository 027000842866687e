/-
  ScorePlays: whatever is blamed, set, and however time goes by, what is told, and how all behave, are the document's, step by step; for every input the law returns true, and the arguments read as they did.
-/
import Derived.Test.YtddfiennoekjpaaSPlays
import Derived.Test.YtddfiennoekjpaaSRow
namespace Go.Proofs.Ytddfiennoekjpaa
open Go.ChangeShapes Go.WideShapes Go.ChangeAt Go.WideMaps Go.WideElems Go.RowKit

set_option maxRecDepth 100000 in
theorem lifted (os : Os) (started : os.Started) (H : Type) (enc : TypeId × Value → H) :
    ReturnsInHanded {} Try.checked os 5 .any (Rows.scorePlaysSpec.pre6 enc Try.prog Try.f5 Rows.scorePlaysRow.domain false) (Rows.scorePlaysSpec.post enc Try.prog Try.f5 false true false false) := by
  refine returnsInHanded_of_change (C := Try.checked) own started (by kernel_rfl) Try.func5
    (ChangeSpec.witness6 (enc := enc) (C := Try.checked) false ⟨#[], #[.int .i64 0, .int .i64 0, .int .i64 0, .slice none 0 0], []⟩ 8 (by kernel_rfl) (by kernel_rfl) (by kernel_rfl) (by kernel_rfl)) ?_
  intro W base args ds gs before hval0 hW _ _
  have hval : ∀ (j : Nat) t v, Try.f5.params[j]? = some t → args[j]? = some v → Value.okWide Try.prog W .any base t v := hval0
  have hW' := hW
  obtain ⟨p, q, hA0, hV, rfl, hfz, hnd⟩ := hW
  have hA : DataW.TrodAll enc Try.prog W 0 (fun _ => true) true Try.f5.params.toList args.toList ds p := hA0
  obtain ⟨rfl, rfl⟩ := trodVars_none hV
  rw [List.append_nil] at hW'
  have hlt : ∀ x ∈ p, x.block < W.heap.size := fun x hx => hW'.lt x hx
  rw [Try.params5] at hA hval
  obtain ⟨v0, vs0, d0, ds0, p0, q0, hargs, rfl, rfl, h0, hr0⟩ := trodAll_cons hA
  obtain ⟨v1, vs1, d1, ds1, p1, q1, rfl, rfl, rfl, h1, hr1⟩ := trodAll_cons hr0
  obtain ⟨v2, vs2, d2, ds2, p2, q2, rfl, rfl, rfl, h2, hr2⟩ := trodAll_cons hr1
  obtain ⟨v3, vs3, d3, ds3, p3, q3, rfl, rfl, rfl, h3, hr3⟩ := trodAll_cons hr2
  obtain ⟨rfl, rfl, rfl⟩ := trodAll_nil hr3
  obtain rfl := args_of hargs
  obtain ⟨z0, rfl, _, _, wf0⟩ := open_int (k := .i64) Try.underlying3 (hval 0 3 v0 rfl rfl) h0
  have hx0 := wf_i64 wf0
  obtain ⟨z1, rfl, _, _, wf1⟩ := open_int (k := .i64) Try.underlying3 (hval 1 3 v1 rfl rfl) h1
  have hx1 := wf_i64 wf1
  obtain ⟨z2, rfl, _, _, wf2⟩ := open_int (k := .i64) Try.underlying3 (hval 2 3 v2 rfl rfl) h2
  have hx2 := wf_i64 wf2
  obtain ⟨x3, hx3⟩ := open_acts h3 (okWide_slice Try.underlying39 (hval 3 39 v3 rfl rfl))
  refine (plays_any z0 z1 z2 v3 x3 W hx3).mono fun e W' ⟨he, hb⟩ => ?_
  subst he
  refine ⟨_, rfl, ?_⟩
  exact post_of_below (pv := []) hW' (fun _ _ _ => trodAll_mk1 (shut_bool Try.underlying4 _)) (fun sp hsp => trodAll_below (by kernel_rfl) hb (by rw [Try.params5]; kernel_rfl) hA0 hlt hsp) (fun _ _ => rfl) (by simp) hb (ok_one (by kernel_rfl) rfl (okWide_bool_mk Try.underlying4 _))

theorem scorePlays_holds : Rows.ScorePlaysSaid :=
  OpenClaim.holds_of_wide 5 Try.f5 rfl rfl rfl rfl rfl rfl rfl ⟨rfl, rfl, rfl, rfl, rfl⟩ rfl rfl rfl rfl rfl (by kernel_rfl) Try.func5 (by kernel_rfl)
    (of_decide_eq_true (by kernel_rfl)) (by unfold Func.isWrapper; first | (rw [if_pos (by decide +kernel)]; kernel_rfl) | (rw [if_neg (by decide +kernel)]; exact ⟨rfl, rfl⟩))
    (fun os started H enc _ => lifted os started H enc)
#print axioms scorePlays_holds
end Go.Proofs.Ytddfiennoekjpaa
