import Derived.Test.YtbfnfkppkmpieaaGreatQsf
set_option linter.unusedVariables false
set_option linter.unusedSimpArgs false
set_option maxHeartbeats 25600000
set_option maxRecDepth 200000
set_option linter.defProp false
namespace Go.Proofs.YtbfnfkppkmpieaaGreat
open Go.RowKit
open Go.RowKit Go.ChangeShapes Go.WideShapes Go.ChangeAt Go.Joins Go.Deep
open Go.RowKit Go.Deep
open Go.Proofs.Tryz
open Option renaming some->γ,none->δ
open Bool renaming true->ε,false->ζ
open Inhabited renaming default->η
open Value renaming slice->aO
open World renaming alloc->aU
open Mc
theorem networkScales_lifted(os:Os)(B:os.Started)(H:Type)(enc:TypeId×Value->H):
  ReturnsInHanded {} checked os 7 .any (Rows.networkScalesSpec.pre6 enc prog Tryz.f7 Rows.networkScalesRow.domain ζ) (Rows.networkScalesSpec.post enc prog Tryz.f7 ζ ε ζ ζ):=by
 refine returnsInHanded_of_change (C:=checked) Tryz.own B ah func7
  (ChangeSpec.witness6 (enc:=enc) (C:=checked) ζ ⟨#[],#[.agg #[ByteArray.empty,(),(),(),()],.agg #[aJ,ζ,aJ,aJ,aJ,aJ],aJ],[]⟩ 8 ah ah ah ah) ?_
 intro W base args F gs l G P J _;have V:∀(j:Nat) t v,Tryz.f7.params[j]? =γ t->args[j]? =γ v->Value.okWide prog W .any base t v:=G;have I:=P;obtain⟨p,q,D,hV,rfl,Y,U⟩:=P;obtain⟨rfl,rfl⟩:=trodVars_none hV;have M:DataW.TrodAll enc prog W 0 (fun _=>ε) ε Tryz.f7.params.toList args.toList F p:=D;have K:=M;simp only[Z6] at I;rw[params7] at M V;obtain⟨v0,v1,T,d0,d1,Z,p0,p1,p2,rfl,rfl,rfl,R,S,Q⟩:=trodAll_three M;obtain⟨A0,n0,c0,A1,n1,c1,A2,n2,c2,A3,n3,c3,L,s,rfl,hs⟩:=Gj (V 0 27 v0 rfl rfl) R;obtain⟨f,rfl⟩:=JQ (V 1 33 v1 rfl rfl) S;obtain⟨k,rfl,rfl,rfl,wk⟩:=open_int underlying3 (V 2 3 T rfl rfl) Q;refine(KL f k W hs).mono fun e W' ⟨O,hb⟩=> ?_;subst O;exact⟨_,rfl,Qc afx rfl rfl aaP (by rw[params7];intro t N;simp at N;rcases N with rfl|rfl|rfl<;>exact⟨ah,aa0 ah⟩) I K rfl rfl rfl hb⟩
theorem networkScales_holds:Rows.NetworkScalesSaid:=
 OpenClaim.holds_of_wide 7 Tryz.f7 rfl rfl rfl rfl rfl rfl rfl ⟨rfl,rfl,rfl,rfl,rfl⟩ rfl rfl rfl rfl rfl ah func7 ah
  (aa0 ah) (by unfold Func.isWrapper;first|(rw[ι (by decide+kernel)];kernel_rfl)|(rw[θ (by decide+kernel)];exact⟨rfl,rfl⟩))
  (fun os B H enc _=>networkScales_lifted os B H enc)
end Go.Proofs.YtbfnfkppkmpieaaGreat
