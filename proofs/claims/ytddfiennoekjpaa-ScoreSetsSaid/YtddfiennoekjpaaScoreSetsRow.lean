/-
  ScoreSets: one can be set to what may be, and is so then; for every input the law returns true, and the arguments read as they did.
-/
import Derived.Test.YtddfiennoekjpaaSSets
import Derived.Test.YtddfiennoekjpaaSRow
namespace Go.Proofs.Ytddfiennoekjpaa
open Go.ChangeShapes Go.WideShapes Go.ChangeAt Go.WideMaps Go.WideElems Go.RowKit

set_option maxRecDepth 100000 in
theorem lifted (os : Os) (started : os.Started) (H : Type) (enc : TypeId × Value → H) :
    ReturnsInHanded {} Try.checked os 6 .any (Rows.scoreSetsSpec.pre6 enc Try.prog Try.f6 Rows.scoreSetsRow.domain false) (Rows.scoreSetsSpec.post enc Try.prog Try.f6 false true false false) := by
  refine returnsInHanded_of_change (C := Try.checked) own started (by kernel_rfl) Try.func6
    (ChangeSpec.witness6 (enc := enc) (C := Try.checked) false ⟨#[], #[.int .u8 0, .int .u8 0, .int .i64 0, .int .i64 0, .int .i64 0], []⟩ 8 (by kernel_rfl) (by kernel_rfl) (by kernel_rfl) (by kernel_rfl)) ?_
  intro W base args ds gs before hval0 hW _ _
  have hval : ∀ (j : Nat) t v, Try.f6.params[j]? = some t → args[j]? = some v → Value.okWide Try.prog W .any base t v := hval0
  have hW' := hW
  obtain ⟨p, q, hA0, hV, rfl, hfz, hnd⟩ := hW
  have hA : DataW.TrodAll enc Try.prog W 0 (fun _ => true) true Try.f6.params.toList args.toList ds p := hA0
  obtain ⟨rfl, rfl⟩ := trodVars_none hV
  rw [List.append_nil] at hW'
  have hlt : ∀ x ∈ p, x.block < W.heap.size := fun x hx => hW'.lt x hx
  rw [Try.params6] at hA hval
  obtain ⟨v0, vs0, d0, ds0, p0, q0, hargs, rfl, rfl, h0, hr0⟩ := trodAll_cons hA
  obtain ⟨v1, vs1, d1, ds1, p1, q1, rfl, rfl, rfl, h1, hr1⟩ := trodAll_cons hr0
  obtain ⟨v2, vs2, d2, ds2, p2, q2, rfl, rfl, rfl, h2, hr2⟩ := trodAll_cons hr1
  obtain ⟨v3, vs3, d3, ds3, p3, q3, rfl, rfl, rfl, h3, hr3⟩ := trodAll_cons hr2
  obtain ⟨v4, vs4, d4, ds4, p4, q4, rfl, rfl, rfl, h4, hr4⟩ := trodAll_cons hr3
  obtain ⟨rfl, rfl, rfl⟩ := trodAll_nil hr4
  obtain rfl := args_of hargs
  obtain ⟨z0, rfl, _, _, wf0⟩ := open_int (k := .u8) Try.underlying5 (hval 0 5 v0 rfl rfl) h0
  have hb0 := wf_u8 wf0
  obtain ⟨x0, rfl⟩ : ∃ n : Nat, z0 = (n : Int) := ⟨z0.toNat, by omega⟩
  have hx0 : x0 < 256 := by omega
  obtain ⟨z1, rfl, _, _, wf1⟩ := open_int (k := .u8) Try.underlying5 (hval 1 5 v1 rfl rfl) h1
  have hb1 := wf_u8 wf1
  obtain ⟨x1, rfl⟩ : ∃ n : Nat, z1 = (n : Int) := ⟨z1.toNat, by omega⟩
  have hx1 : x1 < 256 := by omega
  obtain ⟨z2, rfl, _, _, wf2⟩ := open_int (k := .i64) Try.underlying3 (hval 2 3 v2 rfl rfl) h2
  have hx2 := wf_i64 wf2
  obtain ⟨z3, rfl, _, _, wf3⟩ := open_int (k := .i64) Try.underlying3 (hval 3 3 v3 rfl rfl) h3
  have hx3 := wf_i64 wf3
  obtain ⟨z4, rfl, _, _, wf4⟩ := open_int (k := .i64) Try.underlying3 (hval 4 3 v4 rfl rfl) h4
  have hx4 := wf_i64 wf4
  refine (sets_any x0 x1 z2 z3 z4 W hx0 hx1).mono fun e W' ⟨he, hb⟩ => ?_
  subst he
  refine ⟨_, rfl, ?_⟩
  exact post_of_below (pv := []) hW' (fun _ _ _ => trodAll_mk1 (shut_bool Try.underlying4 _)) (fun sp hsp => trodAll_below (by kernel_rfl) hb (by rw [Try.params6]; kernel_rfl) hA0 hlt hsp) (fun _ _ => rfl) (by simp) hb (ok_one (by kernel_rfl) rfl (okWide_bool_mk Try.underlying4 _))

theorem scoreSets_holds : Rows.ScoreSetsSaid :=
  OpenClaim.holds_of_wide 6 Try.f6 rfl rfl rfl rfl rfl rfl rfl ⟨rfl, rfl, rfl, rfl, rfl⟩ rfl rfl rfl rfl rfl (by kernel_rfl) Try.func6 (by kernel_rfl)
    (of_decide_eq_true (by kernel_rfl)) (by unfold Func.isWrapper; first | (rw [if_pos (by decide +kernel)]; kernel_rfl) | (rw [if_neg (by decide +kernel)]; exact ⟨rfl, rfl⟩))
    (fun os started H enc _ => lifted os started H enc)
#print axioms scoreSets_holds
end Go.Proofs.Ytddfiennoekjpaa
