import Derived.Test.YtbfnfkppkmpieaaGreatQf
set_option linter.unusedVariables false
set_option maxHeartbeats 25600000
set_option maxRecDepth 200000
set_option linter.defProp false
namespace Go.Proofs.YtbfnfkppkmpieaaGreat
open Go.RowKit
open Go.RowKit Go.ChangeShapes Go.WideShapes Go.ChangeAt Go.Joins Go.Deep
theorem networkChecks_lifted(os:Os)(B:os.Started)(H:Type)(enc:TypeId×Value->H):
  ReturnsInHanded {} Tryz.checked os 4 .any (Rows.networkChecksSpec.pre6 enc Tryz.prog Tryz.f4 Rows.networkChecksRow.domain false) (Rows.networkChecksSpec.post enc Tryz.prog Tryz.f4 false true false false):=by
 refine returnsInHanded_of_change (C:=Tryz.checked) Tryz.own B ah Tryz.func4
  (ChangeSpec.witness6 (enc:=enc) (C:=Tryz.checked) false ⟨#[],#[.agg #[.string ByteArray.empty,.slice none 0 0,.slice none 0 0,.slice none 0 0,.slice none 0 0],.agg #[.int .i64 0,.bool false,.int .i64 0,.int .i64 0,.int .i64 0,.int .i64 0]],[]⟩ 8 ah ah ah ah) ?_
 intro W base args F Y l J R M _;have N:∀(j:Nat) t v,Tryz.f4.params[j]? =some t->args[j]? =some v->Value.okWide Tryz.prog W .any base t v:=J;have K:=R;obtain⟨p,q,G,hV,rfl,T,D⟩:=R;obtain⟨rfl,rfl⟩:=trodVars_none hV;have Q:DataW.TrodAll enc Tryz.prog W 0 (fun _=>true) true Tryz.f4.params.toList args.toList F p:=G;have I:=Q;simp only[List.append_nil] at K;rw[Tryz.params4] at Q N;obtain⟨v0,v1,d0,Z,P,p1,rfl,rfl,rfl,U,V⟩:=trodAll_two Q;obtain⟨A0,n0,c0,A1,n1,c1,A2,n2,c2,A3,n3,c3,L,s,rfl,hs⟩:=Fb (N 0 27 v0 rfl rfl) U;obtain⟨f,rfl⟩:=IX (N 1 33 v1 rfl rfl) V;refine(QM f W hs).mono fun e W' ⟨O,hb⟩=> ?_;subst O;exact⟨_,rfl,Qi Tryz.laidOut rfl rfl Tryz.underlying4 (by rw[Tryz.params4];intro t S;simp at S;rcases S with rfl|rfl<;>exact⟨ah,of_decide_eq_true ah⟩) K I rfl rfl rfl hb⟩
theorem networkChecks_holds:Rows.NetworkChecksSaid:=
 OpenClaim.holds_of_wide 4 Tryz.f4 rfl rfl rfl rfl rfl rfl rfl ⟨rfl,rfl,rfl,rfl,rfl⟩ rfl rfl rfl rfl rfl ah Tryz.func4 ah
  (of_decide_eq_true ah) (by unfold Func.isWrapper;first|(rw[if_pos (by decide+kernel)];kernel_rfl)|(rw[if_neg (by decide+kernel)];exact⟨rfl,rfl⟩))
  (fun os B H enc _=>networkChecks_lifted os B H enc)
end Go.Proofs.YtbfnfkppkmpieaaGreat
