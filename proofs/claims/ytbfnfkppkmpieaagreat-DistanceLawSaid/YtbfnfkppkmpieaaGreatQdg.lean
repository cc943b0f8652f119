import Derived.Test.YtbfnfkppkmpieaaGreatQdf
set_option linter.unusedVariables false
set_option linter.unusedSimpArgs false
set_option maxHeartbeats 25600000
set_option maxRecDepth 200000
set_option linter.defProp false
namespace Go.Proofs.YtbfnfkppkmpieaaGreat
open Go.RowKit
open Go.RowKit Go.ChangeShapes Go.WideShapes Go.ChangeAt Go.Joins Go.Deep
open Go.RowKit Go.Deep
open Go.Proofs.Tryz
open Option renaming some->γ,none->δ
open Bool renaming true->ε,false->ζ
open Inhabited renaming default->η
theorem distanceLaw_lifted(os:Os)(B:os.Started)(H:Type)(enc:TypeId×Value->H):
  ReturnsInHanded {} checked os 3 .any (Rows.distanceLawSpec.pre6 enc prog Tryz.f3 Rows.distanceLawRow.domain ζ) (Rows.distanceLawSpec.post enc prog Tryz.f3 ζ ε ζ ζ):=by
 refine returnsInHanded_of_change (C:=checked) Tryz.own B ah func3
  (ChangeSpec.witness6 (enc:=enc) (C:=checked) ζ ⟨#[],#[.agg #[.string ByteArray.empty,.slice δ 0 0,.slice δ 0 0,.slice δ 0 0,.slice δ 0 0],.agg #[.slice δ 0 0,.slice δ 0 0],.agg #[.int .i64 0,.bool ζ,.int .i64 0,.int .i64 0,.int .i64 0,.int .i64 0]],[]⟩ 8 ah ah ah ah) ?_
 intro W base args D gs l N S G _;have F:∀(j:Nat) t v,Tryz.f3.params[j]? =γ t->args[j]? =γ v->Value.okWide prog W .any base t v:=N;have O:=S;obtain⟨p,q,J,hV,rfl,WI,I⟩:=S;obtain⟨rfl,rfl⟩:=trodVars_none hV;have Q:DataW.TrodAll enc prog W 0 (fun _=>ε) ε Tryz.f3.params.toList args.toList D p:=J;have P:=Q;simp only[aaj] at O;rw[params3] at Q F;obtain⟨v0,v1,Z,d0,d1,d2,M,p1,p2,rfl,rfl,rfl,V,Y,T⟩:=trodAll_three Q;obtain⟨A0,n0,c0,A1,n1,c1,A2,n2,c2,A3,n3,c3,L,s,rfl,hs⟩:=Et (F 0 27 v0 rfl rfl) V;obtain⟨PA,pn,pc,PB,qn,qc,K,p,rfl,hp⟩:=BU (F 1 31 v1 rfl rfl) Y;obtain⟨f,rfl⟩:=Ic (F 2 33 Z rfl rfl) T;refine(Ow f W hs hp).mono fun e W' ⟨U,hb⟩=> ?_;subst U;exact⟨_,rfl,NN afl rfl rfl aaV (by rw[params3];intro t R;simp at R;rcases R with rfl|rfl|rfl<;>exact⟨ah,abf ah⟩) O P rfl rfl rfl hb⟩
theorem distanceLaw_holds:Rows.DistanceLawSaid:=
 OpenClaim.holds_of_wide 3 Tryz.f3 rfl rfl rfl rfl rfl rfl rfl ⟨rfl,rfl,rfl,rfl,rfl⟩ rfl rfl rfl rfl rfl ah func3 ah
  (abf ah) (by unfold Func.isWrapper;first|(rw[ι (by decide+kernel)];kernel_rfl)|(rw[θ (by decide+kernel)];exact⟨rfl,rfl⟩))
  (fun os B H enc _=>distanceLaw_lifted os B H enc)
end Go.Proofs.YtbfnfkppkmpieaaGreat
