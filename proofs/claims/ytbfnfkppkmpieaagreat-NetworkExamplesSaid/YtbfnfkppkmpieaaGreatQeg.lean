import Derived.Test.YtbfnfkppkmpieaaGreatQef
set_option linter.unusedVariables false
set_option linter.unusedSimpArgs false
set_option maxHeartbeats 25600000
set_option maxRecDepth 200000
set_option linter.defProp false
namespace Go.Proofs.YtbfnfkppkmpieaaGreat
open Go.RowKit
open Go.RowKit Go.ChangeShapes Go.WideShapes Go.ChangeAt Go.Joins Go.Deep
open Go.Proofs.Tryz
open Option renaming some->γ,none->δ
open Bool renaming true->ε,false->ζ
open Inhabited renaming default->η
theorem networkExamples_lifted(os:Os)(B:os.Started)(H:Type)(enc:TypeId×Value->H):
  ReturnsInHanded {} checked os 8 .any (Rows.networkExamplesSpec.pre6 enc prog Tryz.f8 Rows.networkExamplesRow.domain ζ) (Rows.networkExamplesSpec.post enc prog Tryz.f8 ζ ε ζ ζ):=by
 refine returnsInHanded_of_change (C:=checked) Tryz.own B ah func8
  (ChangeSpec.witness6 (enc:=enc) (C:=checked) ζ ⟨#[],#[],[]⟩ 8 ah ah ah ah) ?_
 intro W base args D S l G P L _;have N:∀(j:Nat) t v,Tryz.f8.params[j]? =γ t->args[j]? =γ v->Value.okWide prog W .any base t v:=G;have I:=P;obtain⟨p,q,K,hV,rfl,R,F⟩:=P;obtain⟨rfl,rfl⟩:=trodVars_none hV;have M:DataW.TrodAll enc prog W 0 (fun _=>ε) ε Tryz.f8.params.toList args.toList D p:=K;have J:=M;simp only[aaj] at I;rw[params8] at M N;obtain⟨ha,rfl,rfl⟩:=trodAll_nil M;obtain rfl:args= #[]:=by simpa using ha
 refine(Np W).mono fun e W' ⟨O,hb⟩=> ?_;subst O;exact⟨_,rfl,OB afs rfl rfl aa4 (by rw[params8];intro t Q;simp at Q) I J rfl rfl rfl hb⟩
theorem networkExamples_holds:Rows.NetworkExamplesSaid:=
 OpenClaim.holds_of_wide 8 Tryz.f8 rfl rfl rfl rfl rfl rfl rfl ⟨rfl,rfl,rfl,rfl,rfl⟩ rfl rfl rfl rfl rfl ah func8 ah
  (abj ah) (by unfold Func.isWrapper;first|(rw[ι (by decide+kernel)];kernel_rfl)|(rw[θ (by decide+kernel)];exact⟨rfl,rfl⟩))
  (fun os B H enc _=>networkExamples_lifted os B H enc)
end Go.Proofs.YtbfnfkppkmpieaaGreat
