import Derived.Test.YtbfnfkppkmpieaaGreatQpf
set_option linter.unusedVariables false
set_option linter.unusedSimpArgs false
set_option maxHeartbeats 25600000
set_option maxRecDepth 200000
set_option linter.defProp false
namespace Go.Proofs.YtbfnfkppkmpieaaGreat
open Go.RowKit
open Go.RowKit Go.ChangeShapes Go.WideShapes Go.ChangeAt Go.Joins Go.Deep
open Go.RowKit Go.Deep
open Go.Proofs.Tryz
open Option renaming some->γ,none->δ
open Bool renaming true->ε,false->ζ
open Inhabited renaming default->η
open Value renaming slice->aO
open World renaming alloc->aU
open Mc
theorem networkOhm_lifted(os:Os)(D:os.Started)(H:Type)(enc:TypeId×Value->H):
  ReturnsInHanded {} checked os 5 .any (Rows.networkOhmSpec.pre6 enc prog Tryz.f5 Rows.networkOhmRow.domain ζ) (Rows.networkOhmSpec.post enc prog Tryz.f5 ζ ε ζ ζ):=by
 refine returnsInHanded_of_change (C:=checked) Tryz.own D ah func5
  (ChangeSpec.witness6 (enc:=enc) (C:=checked) ζ ⟨#[],#[.agg #[ByteArray.empty,(),(),(),()],.agg #[(),()],.agg #[aJ,ζ,aJ,aJ,aJ,aJ]],[]⟩ 8 ah ah ah ah) ?_
 intro W base args F gs B G T M _;have N:∀(j:Nat) t v,Tryz.f5.params[j]? =γ t->args[j]? =γ v->Value.okWide prog W .any base t v:=G;have J:=T;obtain⟨p,q,I,hV,rfl,YB,Yy⟩:=T;obtain⟨rfl,rfl⟩:=trodVars_none hV;have R:DataW.TrodAll enc prog W 0 (fun _=>ε) ε Tryz.f5.params.toList args.toList F p:=I;have Q:=R;simp only[Z6] at J;rw[params5] at R N;obtain⟨v0,v1,v2,d0,d1,d2,P,p1,p2,rfl,rfl,rfl,Y,Z,U⟩:=trodAll_three R;obtain⟨A0,n0,c0,A1,n1,c1,A2,n2,c2,A3,n3,c3,L,s,rfl,hs⟩:=Gv (N 0 27 v0 rfl rfl) Y;obtain⟨PA,pn,pc,PB,V,qc,K,p,rfl,hp⟩:=DU (N 1 31 v1 rfl rfl) Z;obtain⟨f,rfl⟩:=JY (N 2 33 v2 rfl rfl) U;refine(Ud f W hs hp).mono fun e W' ⟨O,hb⟩=> ?_;subst O;exact⟨_,rfl,Qj afA rfl rfl aaP (by rw[params5];intro t S;simp at S;rcases S with rfl|rfl|rfl<;>exact⟨ah,aaZ ah⟩) J Q rfl rfl rfl hb⟩
theorem networkOhm_holds:Rows.NetworkOhmSaid:=
 OpenClaim.holds_of_wide 5 Tryz.f5 rfl rfl rfl rfl rfl rfl rfl ⟨rfl,rfl,rfl,rfl,rfl⟩ rfl rfl rfl rfl rfl ah func5 ah
  (aaZ ah) (by unfold Func.isWrapper;first|(rw[ι (by decide+kernel)];kernel_rfl)|(rw[θ (by decide+kernel)];exact⟨rfl,rfl⟩))
  (fun os D H enc _=>networkOhm_lifted os D H enc)
end Go.Proofs.YtbfnfkppkmpieaaGreat
