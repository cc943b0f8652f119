import Derived.Test.YtbfnfkppkmpieaaGreatQde
set_option linter.unusedVariables false
set_option linter.unusedSimpArgs false
set_option maxHeartbeats 25600000
set_option maxRecDepth 200000
set_option linter.defProp false
namespace Go.Proofs.YtbfnfkppkmpieaaGreat
open Go.RowKit
open Go.Proofs.Tryz
open Option renaming some->γ,none->δ
open Bool renaming true->ε,false->ζ
open Inhabited renaming default->η
def mZ (w:World) (x:Nat):Prop:=Blk w x 52 #[.bool ζ]
def mZ.ext{w w' x}(h:mZ w x)(j:Ext w w'):mZ w' x:=Blk.ext h j
def PE (w:World) (e:Nat->En) (p:PQ) (n:Nat):Prop:=GV w (e 0).v p.u n/\GV w (e 1).v p.v n
def QM(x W e1 p q n m w)(hc:mZ w x)(h0:PE w W p n)(h1:PE w e1 q m)(hn:2*max n m+65<=12800):
  Calls prog 49 #[.pointer (γ ⟨x,0,δ⟩),.agg (aM 2 W).toArray,.agg (aM 2 e1).toArray] w fun r w'=>∃e:Nat->En,r=.returned (.agg (aM 2 e).toArray)/\PE w' e ⟨p.u+q.u,p.v+q.v⟩ (n+m+65)/\Ext w w':=by
 have HC:=aJ hc;have HX:=aJ (aeR h0.1 h0.2);have HY:=aJ (aeR h1.1 h1.2);clear hc h0 h1;go_enter func49,ntmps49;(go_wp2_with (refine aS rfl 44 rfl _ jU (fun w_ Q=>Hid.o ?_)));refine aJ ?_;refine Qp ?_;replace Q:=Hid.o Q;have hx:Ext w w_:=by rw[Q];exact((Ext.new _ _).alloc _).alloc _
 have G:Blk w_ w.heap.size 44 (aM 2 W).toArray:=by rw[Q];exact((Blk.new _ _ _).alloc _).alloc _
 have D:Blk w_ (w.heap.size+1) 44 (aM 2 e1).toArray:=by rw[Q];exact(aeE _ _ (bF _ _)).alloc _
 have V:Blk w_ (w.heap.size+2) 44 (aM 2 fun _=>zEn).toArray:=by rw[Q];exact aeE _ _ (by rw[bF,bF])
 have Z:w.heap.size<=w.heap.size+2:=Nat.le_add_right _ _;(try simp only[bF]);clear Q;generalize w.heap.size+2=g6 at V Z⊢;generalize w.heap.size+1=g5 at D⊢;generalize M:w.heap.size=g4 at G Z⊢;have R:=aJ hx;have Ww:=aJ G.rng;have Y:=aJ D.rng;have I:=aJ V;have HL:Hid (w.heap.size<=g6):=aJ aa;clear hx G D V Z M;(go_wp2_with (refine σ rfl 44 _ rfl g4 (0) rf (aM 2 W) _ Ww.o kC rfl (dL W) (Hid.o ?_)));refine aJ ?_;refine Qp ?_;(go_wp2_with (refine σ rfl 44 _ rfl g5 (0) rf (aM 2 e1) _ Y.o kC rfl (dL e1) (Hid.o ?_)));refine aJ ?_;refine Qp ?_;(go_wp2_with fail);refine(Qw _ p n _ q m _ (HX.ext R.o) (HY.ext R.o) hn).mono ?_;rintro _ w2 ⟨_,rfl,⟨u,rfl,l⟩,F⟩;obtain⟨N,rfl,J,C⟩:=l.row;have HU:=aJ (And.intro J C);clear J C;replace R:=R.aC F;replace I:=I.aA F;clear l F Ww Y;(go_wp2_with (refine aS rfl 44 rfl _ jU (fun WM Q=>Hid.o ?_)));refine aJ ?_;refine Qp ?_;replace Q:=Hid.o Q;have hx:Ext w2 WM:=by rw[Q];exact Ext.new _ _
 have hb:Blk WM w2.heap.size 44 (aM 2 fun _=>zEn).toArray:=by rw[Q];exact Blk.new _ _ _
 have O:=aJ (dF (f:=N) hb);have T:=R.size;clear Q;generalize j:w2.heap.size=g10 at hb O⊢;(go_wp2_with (refine aL rfl 44 (.tmp 7) (.tmp 13) rfl g10 (0) (aM 2 N) rf rf O.o (dL N) (bY 2 N) (fun L Q=>Hid.o ?_)));refine aJ ?_;refine Qp ?_;replace Q:=Hid.o Q;obtain⟨Wz,H,Wv⟩:=eZ hx aa hb Q;replace R:=R.aC H;have K:=mZ.ext HC.o R.o;have k0:L.cell? ⟨x,0,δ⟩=γ (.bool ζ):=Blk.cell K 0;have f0:=Blk.frozen K;have P:Ext L (L.setCell ⟨x,0,δ⟩ (.bool ζ)):=(Ext.refl L).stay K rfl;have S:=H.trans P;replace R:=R.aC P;replace I:=I.aA S;replace HU:=aJ (And.intro (HU.o.1.ext S) (HU.o.2.ext S));have B:=aJ (Wz.ext P).rng;clear Wz H Wv hb hx O Q T j P S K;(go_wp2_with (refine σ rfl 44 _ rfl g10 (0) rf (aM 2 N) _ B.o kC rfl (dL N) (Hid.o ?_)));refine aJ ?_;refine Qp ?_;have O:=aJ (dF (f:=N) I.o);(go_wp2_with (refine aL rfl 44 (.tmp 6) (.tmp 26) rfl g6 (0) (aM 2 N) rf rf O.o (dL N) (bY 2 N) (fun U Q=>Hid.o ?_)));refine aJ ?_;refine Qp ?_;replace Q:=Hid.o Q;have hF:=eZ R.o HL.o I.o Q;(go_wp2_with fail);exact iC rfl rfl rf hF.1 kC rfl (by rw[nS];exact dL N) ⟨N,rfl,⟨hF.2.2 _ _ _ HU.o.1,hF.2.2 _ _ _ HU.o.2⟩,hF.2.1⟩
theorem MW(x e0)(k:En)(p:PQ)(q n m w)(hc:mZ w x)(h0:PE w e0 p n)(h1:GV w k.v q m)(hn:2*max n m+1<=12800):
  Calls prog 50 #[.pointer (γ ⟨x,0,δ⟩),.agg (aM 2 e0).toArray,k.v] w fun r w'=>∃e:Nat->En,r=.returned (.agg (aM 2 e).toArray)/\PE w' e ⟨p.u*q,p.v*q⟩ (n+m+1)/\Ext w w':=by
 have HC:=aJ hc;have HX:=aJ (aeR h0.1 h0.2);have HY:=aJ h1;clear hc h0 h1;unfold En.v gv;go_enter func50,ntmps50;(go_wp2_with (refine aS rfl 44 rfl _ jU (fun w_ Q=>Hid.o ?_)));refine aJ ?_;refine Qp ?_;replace Q:=Hid.o Q;have hx:Ext w w_:=by rw[Q];exact((Ext.new _ _).alloc _).alloc _
 have G:Blk w_ w.heap.size 44 (aM 2 e0).toArray:=by rw[Q];exact((Blk.new _ _ _).alloc _).alloc _
 have D:Blk w_ (w.heap.size+1) 42 k.cells.toArray:=by rw[Q];exact(aeE _ _ (bF _ _)).alloc _
 have WA:Blk w_ (w.heap.size+2) 44 (aM 2 fun _=>zEn).toArray:=by rw[Q];exact aeE _ _ (by rw[bF,bF])
 have Z:w.heap.size<=w.heap.size+2:=Nat.le_add_right _ _;(try simp only[bF]);clear Q;generalize w.heap.size+2=g6 at WA Z⊢;generalize w.heap.size+1=g5 at D⊢;generalize M:w.heap.size=g4 at G Z⊢;have R:=aJ hx;have Ww:=aJ G.rng;have Y:=aJ WA;have HL:Hid (w.heap.size<=g6):=aJ aa;have k5:w_.cell? ⟨g5,0,δ⟩=γ (.bool k.s1):=(D.cell 0).trans rfl;have V:w_.cell? ⟨g5,1,δ⟩=γ (.slice k.A1 k.n1 k.c1):=(D.cell 1).trans rfl;have S:w_.cell? ⟨g5,2,δ⟩=γ (.bool k.s2):=(D.cell 2).trans rfl;have I:w_.cell? ⟨g5,3,δ⟩=γ (.slice k.A2 k.n2 k.c2):=(D.cell 3).trans rfl;have W:w_.cell? ⟨g5,4,δ⟩=γ (.bool k.s3):=(D.cell 4).trans rfl;have N:w_.cell? ⟨g5,5,δ⟩=γ (.slice k.A3 k.n3 k.c3):=(D.cell 5).trans rfl;clear hx G D WA Z M;(go_wp2_with (refine σ rfl 44 _ rfl g4 (0) rf (aM 2 e0) _ Ww.o kC rfl (dL e0) (Hid.o ?_)));refine aJ ?_;refine Qp ?_;(go_wp2_with fail);refine(NU _ p n k.v q m _ (HX.ext R.o) (HY.ext R.o) hn).mono ?_;rintro _ w2 ⟨_,rfl,⟨u,rfl,l⟩,F⟩;obtain⟨e2,rfl,J,C⟩:=l.row;have HU:=aJ (And.intro J C);clear J C;replace R:=R.aC F;replace Y:=Y.aA F;clear l F Ww k5 V S I W N;(go_wp2_with (refine aS rfl 44 rfl _ jU (fun WM Q=>Hid.o ?_)));refine aJ ?_;refine Qp ?_;replace Q:=Hid.o Q;have hx:Ext w2 WM:=by rw[Q];exact Ext.new _ _
 have hb:Blk WM w2.heap.size 44 (aM 2 fun _=>zEn).toArray:=by rw[Q];exact Blk.new _ _ _
 have O:=aJ (dF (f:=e2) hb);have T:=R.size;clear Q;generalize j:w2.heap.size=g10 at hb O⊢;(go_wp2_with (refine aL rfl 44 (.tmp 7) (.tmp 13) rfl g10 (0) (aM 2 e2) rf rf O.o (dL e2) (bY 2 e2) (fun L Q=>Hid.o ?_)));refine aJ ?_;refine Qp ?_;replace Q:=Hid.o Q;obtain⟨Wz,H,Wv⟩:=eZ hx aa hb Q;replace R:=R.aC H;have K:=mZ.ext HC.o R.o;have k0:L.cell? ⟨x,0,δ⟩=γ (.bool ζ):=Blk.cell K 0;have f0:=Blk.frozen K;have P:Ext L (L.setCell ⟨x,0,δ⟩ (.bool ζ)):=(Ext.refl L).stay K rfl;have Wl:=H.trans P;replace R:=R.aC P;replace Y:=Y.aA Wl;replace HU:=aJ (And.intro (HU.o.1.ext Wl) (HU.o.2.ext Wl));have B:=aJ (Wz.ext P).rng;clear Wz H Wv hb hx O Q T j P Wl K;(go_wp2_with (refine σ rfl 44 _ rfl g10 (0) rf (aM 2 e2) _ B.o kC rfl (dL e2) (Hid.o ?_)));refine aJ ?_;refine Qp ?_;have O:=aJ (dF (f:=e2) Y.o);(go_wp2_with (refine aL rfl 44 (.tmp 6) (.tmp 26) rfl g6 (0) (aM 2 e2) rf rf O.o (dL e2) (bY 2 e2) (fun U Q=>Hid.o ?_)));refine aJ ?_;refine Qp ?_;replace Q:=Hid.o Q;have hF:=eZ R.o HL.o Y.o Q;(go_wp2_with fail);exact iC rfl rfl rf hF.1 kC rfl (by rw[nS];exact dL e2) ⟨e2,rfl,⟨hF.2.2 _ _ _ HU.o.1,hF.2.2 _ _ _ HU.o.2⟩,hF.2.1⟩
def oH(x re im den w)(hc:mZ w x)(l0: -9223372036854775808<=re)(u0:re<=9223372036854775807)(l1: -9223372036854775808<=im)(u1:im<=9223372036854775807)(l2: -9223372036854775808<=den)(u2:den<=9223372036854775807)(hd:den≠0):
  Calls prog 48 #[.pointer (γ ⟨x,0,δ⟩),.int .i64 re,.int .i64 im,.int .i64 den] w fun r w'=>∃e:En,r=.returned e.v/\GV w' e.v ⟨(re:Rat)/(den:Rat),(im:Rat)/(den:Rat)⟩ 64/\Ext w w':=by
 have R:=aJ hc;clear hc;have P:=aJ (Ext.new w (.cells #[.bool ζ,.slice δ 0 0,.bool ζ,.slice δ 0 0,.bool ζ,.slice δ 0 0] 42));have H:=aJ (Blk.new w 42 #[.bool ζ,.slice δ 0 0,.bool ζ,.slice δ 0 0,.bool ζ,.slice δ 0 0]);go_enter func48,ntmps48;(go_wp2_with fail);generalize (w.alloc (.cells #[.bool ζ,.slice δ 0 0,.bool ζ,.slice δ 0 0,.bool ζ,.slice δ 0 0] 42))=w1 at P H⊢;generalize J:w.heap.size=g8 at H⊢;have U:Hid (w.heap.size<=g8):=aJ aa;clear J;refine(NW re im den _ l0 u0 l1 u1 l2 u2 hd).mono ?_;rintro _ w2 ⟨_,rfl,⟨u,rfl,l⟩,F⟩;obtain⟨s1,A1,n1,c1,s2,A2,n2,c2,s3,A3,n3,c3,rfl⟩:=l.opn;have B:=P.trans F;have K:=mZ.ext R.o B;have M:Ext w2 (w2.alloc (.cells #[.bool s1,.slice A1 n1 c1,.bool s2,.slice A2 n2 c2,.bool s3,.slice A3 n3 c3] 42)):=Ext.new _ _;have N:=mZ.ext K M;have k0:=Blk.cell N;have f0:=Blk.frozen N;have L:=(Ext.refl _).stay N (i:=0) (v:=.bool ζ) rfl;have C:=M.trans L;have I:=(Blk.new w2 42 #[.bool s1,.slice A1 n1 c1,.bool s2,.slice A2 n2 c2,.bool s3,.slice A3 n3 c3]).ext L;have Y:=I.cell;have j:=aJ ((H.ext F).ext C);have D:=aJ (B.trans C);have V:=aJ (l.ext C);have W:=j.cell;have G:=j.frozen;clear M N L C I K B F l;obtain⟨p1,p2,O⟩:=eH D.o U.o j.o V.o;have S:=aJ p1;have T:=aJ p2;have Q:=aJ O;clear p1 p2 O;(go_wp2_with fail);exact dE rfl rfl rfl T.o ⟨⟨s1,A1,n1,c1,s2,A2,n2,c2,s3,A3,n3,c3⟩,rfl,Q.o,S.o⟩
def prs (k:Int):List (Int×Int):=
 if k<=3 then [(k-1,-1)] else if k=4 then [(0,1)] else if k=5 then [(1,2)] else if k=6 then [(2,0)]
 else if k=7 then [(0,1),(0,-1),(1,-1)] else if k=8 then [(1,2),(1,-1),(2,-1)] else if k=9 then [(2,0),(2,-1),(0,-1)] else [(0,1),(1,2),(2,0)]
def TG (w:World) (G o:Nat) (l:List (Int×Int)):Prop:=∀n a b,l[n]? =γ (a,b)->w.cell? ⟨G,o+n*2,δ⟩=γ (.int .i64 a)/\w.cell? ⟨G,o+n*2+1,δ⟩=γ (.int .i64 b)
def zm{w G o t cs l}(hb:Blk w G t cs)(h:∀n,n<l.length->cs[o+n*2]? =γ (.int .i64 (l.getD n (0,0)).1)/\cs[o+n*2+1]? =γ (.int .i64 (l.getD n (0,0)).2)):TG w G o l:=fun n a b hn=>by
 have Z:n<l.length:=(μ.1 hn).1;have hd:l.getD n (0,0)=(a,b):=by rw[φ,hn];rfl
 have j:=h n Z;rw[hd] at j;exact⟨(hb.cell _).trans j.1,(hb.cell _).trans j.2⟩
def NB(k)(h:1<=k/\k<=10)(w):
  Calls prog 12 #[.int .i64 k] w fun r w'=>∃G o c,r=.returned (.slice (γ ⟨G,o,δ⟩) (prs k).length c)/\w.heap.size<=G/\TG w' G o (prs k)/\Ext w w':=by
 have l:k=1\/k=2\/k=3\/k=4\/k=5\/k=6\/k=7\/k=8\/k=9\/k=10:=aa;clear h;rcases l with rfl|rfl|rfl|rfl|rfl|rfl|rfl|rfl|rfl|rfl
 all_goals
  go_enter func12,ntmps12;go_wp2;go_ret
 iterate 3
  exact⟨_,_,_,rfl,abT _,zm (aeE _ _ (bF _ _)) (fun n hn=>by
   have hn:n<1:=hn;obtain rfl:n=0:=aa;exact⟨rfl,rfl⟩),(Ext.new _ _).trans (Ext.new _ _)⟩
 iterate 3
  exact⟨_,_,_,rfl,κ _,zm (Blk.new _ _ _) (fun n hn=>by
   have hn:n<1:=hn;obtain rfl:n=0:=aa;exact⟨rfl,rfl⟩),Ext.new _ _⟩
 iterate 3
  exact⟨_,_,_,rfl,aa,zm (aeE _ _ (by rw[bF,bF])) (fun n hn=>by
   have hn:n<3:=hn;have j:n=0\/n=1\/n=2:=aa;rcases j with rfl|rfl|rfl<;>exact⟨rfl,rfl⟩),((Ext.new _ _).trans (Ext.new _ _)).trans (Ext.new _ _)⟩
 exact⟨_,_,_,rfl,κ _,zm (Blk.new _ _ _) (fun n hn=>by
  have hn:n<3:=hn;have j:n=0\/n=1\/n=2:=aa;rcases j with rfl|rfl|rfl<;>exact⟨rfl,rfl⟩),Ext.new _ _⟩
theorem dH{P ops rest C}{Q:Act->Prop}{o a}(j:Region.wanted o (yielded ops a.tmps)=ε)(G)(x:Operand)(D:o.op=.load G x)(b B)(F:a.eval x=.pointer (γ ⟨b,B,δ⟩))(cs)(d:TypeDesc)(l:∀w,C w->w.rangeAt b B cs)(N:P.underlying G=γ d)(hd:d.isRow=ε)(hi:(P.info? G).map (·.size)=γ cs.length)(h:wpQuiet P ops C Q rest (a.put o.dst (.agg cs.toArray))):wpQuiet P ops C Q (o::rest) a:=by
 unfold wpQuiet;rw[ι j];refine⟨.agg cs.toArray,fun w j=> ?_,h⟩;unfold Oper.quietAt execOp;simp only[D,F,Instr.loadAt,Instr.sureAddr,aaG,aa4,aaB,run_loadVar_mid w b B G cs d (l w j) N hd hi];exact⟨rfl,rfl⟩
inductive NP where
 |any
 |gv (q:GQ) (n:Nat)
 |pv (p:PQ) (n:Nat)
 |eq (u:Value)
def NP.holds:NP->Nat->Nat->Value->World->Prop
 | .any,_,_,_,_=>True
 | .gv q n,_,_,v,w=>GV w v q n
 | .pv p n,_,_,v,w=>PV w v p n
 | .eq u,_,_,v,_=>v=u
def agr(f:NP){lo hi v w w'}(h:f.holds lo hi v w)(x:Ext w w'):f.holds lo hi v w':=by
 cases f with
 |any=>trivial
 |gv q n=>exact GV.ext h x
 |pv p n=>exact PV.ext h x
 |eq u=>exact h
def Tz:List (Nat×NP)->Nat->NP
 |[],_=> .any
 |p::r,i=>bif Nat.beq p.1 i then p.2 else Tz r i
def Vv:List (Nat×NP)->Nat->Bool
 |[],_=>ζ
 |p::r,i=>Nat.beq p.1 i||Vv r i
def NPs (l:List (Nat×NP)):Nat->Nat->Nat->Value->World->Prop:=fun i lo hi v w=>(Tz l i).holds lo hi v w
def OQ(l:List (Nat×NP)):∀i lo hi v w w',NPs l i lo hi v w->Ext w w'->NPs l i lo hi v w':=fun _ _ _ _ _ _ h x=>agr _ h x
def Blk.Di{w g n m o t e}(h:Blk w g t (aM n e).toArray)(B:2*m+1<n)(l:o=m*12):w.rangeAt g o (aM 2 fun t=>e (2*m+t)):=fun j v hv=>by
 have C:j<12:=by have:=(μ.1 hv).1;rwa[aW] at this
 rw[h.cell,Ξ,<-hv,l];obtain⟨a,b,rfl,hb⟩:∃a b,j=a*6+b/\b<6:=⟨j/6,j%6,aa,aa⟩;rw[dO (f:=fun t=>e (2*m+t)) hb aa,show m*12+(a*6+b)=(2*m+a)*6+b by omega,dO hb aa]
def Ph3.pv{w e P n}(h:Ph3 w e P n){m}(j:m<3):PV w (.agg (aM 2 fun t=>e (2*m+t)).toArray) (P m) n:=aeR (h m j).1 (h m j).2
def PV.to{w v p m n}(h:PV w v p m)(N:Bd p.u n)(hv:Bd p.v n):PV w v p n:=by
 obtain⟨e,rfl,l,j⟩:=h.row;exact aeR (l.to N) (j.to hv)
def PV.o{w f p n}(h:PV w (.agg (aM 2 f).toArray) p n):GV w (f 0).v p.u n/\GV w (f 1).v p.v n:=by
 obtain⟨e,U,l,j⟩:=h.row;have Z:aM 2 f=aM 2 e:=by injection U with U;simpa using congrArg Array.toList U
 rw[AR Z (by omega:0<2),AR Z (by omega:1<2)];exact⟨l,j⟩
def wO(x v u p q n m w)(hc:mZ w x)(B:PV w v p n)(D:PV w u q m)(hn:2*max n m+65<=12800):
  CV 49 #[.pointer (γ ⟨x,0,δ⟩),v,u] w fun y w'=>PV w' y (p+q) (n+m+65):=by
 obtain⟨e,rfl,H,I⟩:=B.row;obtain⟨f,rfl,C,l⟩:=D.row;exact(QM x e f p q n m w hc ⟨H,I⟩ ⟨C,l⟩ hn).mono fun r w' ⟨g,F,j,G⟩=>⟨_,F,aeR j.1 j.2,G⟩
def qL(x v u p q n m w)(hc:mZ w x)(B:PV w v p n)(l:GV w u q m)(hn:2*max n m+1<=12800):
  CV 50 #[.pointer (γ ⟨x,0,δ⟩),v,u] w fun y w'=>PV w' y (p.sc q) (n+m+1):=by
 obtain⟨e,rfl,F,G⟩:=B.row;obtain⟨s1,A1,n1,c1,s2,A2,n2,c2,s3,A3,n3,c3,rfl⟩:=l.opn;exact(MW x e ⟨s1,A1,n1,c1,s2,A2,n2,c2,s3,A3,n3,c3⟩ p q n m w hc ⟨F,G⟩ l hn).mono fun r w' ⟨g,C,j,D⟩=>⟨_,C,aeR j.1 j.2,D⟩
def FV{P:Program}{fn:Func}{R:Ending->World->Prop}{a:Act}{w:World}{t u g g':Nat}{T:TypeId}{cs cs':Array Value}{d:TypeDesc}(C:fn.results= #[.cell t T,.cell u T])(hd:a.defers=[])(hp:a.tmps[t]?.getD undef=.pointer (γ ⟨g,0,δ⟩))(M:a.tmps[u]?.getD undef=.pointer (γ ⟨g',0,δ⟩))(hb:Blk w g T cs)(B:Blk w g' T cs')(N:P.underlying T=γ d)(j:(match d with| .struct _| .array _ _=>ε|_=>ζ)=ε)(hi:(P.info? T).map (·.size)=γ cs.size)(l:(P.info? T).map (·.size)=γ cs'.size)(D:R (.returned (.tuple #[.agg cs,.agg cs'])) w):bodyPost P fn R .ret a w:=
 aak (v:=.tuple #[.agg cs,.agg cs']) (by simp[results,C,hp,M,asAddr,ab0 w g T T cs (0,0) d hb N j hi,ab0 w g' T T cs' (0,0) d B N j l]) hd D
def EC{a b:Int}(ha:0<=a/\a<=1000000)(hb:0<=b/\b<=1000000):0<=a*b/\a*b<=1000000000000:=by
 have j:=abH ha.1 hb.1;have l:=abI ha.2 hb.2 hb.1 aa;exact⟨j,aa⟩
structure UX (l:sj) (num den:Int):Prop where
 r:∀z,z=l.z1.r\/z=l.z1.x\/z=l.z0.r\/z=l.z0.x->0<=z/\z<=1000000
 n:0<=num/\num<=1000000
 d:1<=den/\den<=1000000
def PH(x ev ei V I l a b num den w)(hc:mZ w x)(hv:Ph3 w ev V 4600)(hi:Ph3 w ei I 4600)(ha:a<3)(hb:b<3)(Z:UX l num den)(XC:Bd (I a+(I b).sc (GQ.i (-1) 0)).u 4700/\Bd (I a+(I b).sc (GQ.i (-1) 0)).v 4700)(zq)(Ws:zq=⟨((num*l.z1.r:Int):Rat)/(den:Rat),((num*l.z1.x:Int):Rat)/(den:Rat)⟩):
  Calls prog 13 #[.pointer (γ ⟨x,0,δ⟩),.agg (aM 6 ev).toArray,.agg (aM 6 ei).toArray,.agg #[.string l.name,.int .i64 l.z1.r,.int .i64 l.z1.x,.int .i64 l.z0.r,.int .i64 l.z0.x],.int .i64 (a:Int),.int .i64 (b:Int),.int .i64 num,.int .i64 den] w fun r w'=>∃u y,r=.returned (.tuple #[u,y])/\PV w' u (V a+(V b).sc (GQ.i (-1) 0)) 9400/\PV w' y ((I a+(I b).sc (GQ.i (-1) 0)).sc zq) 4765/\Ext w w':=by
 have WF:=aJ Ws;clear Ws;have WO:=aJ XC;clear XC;have HC:=aJ hc;have HV:=aJ hv;have HI:=aJ hi;have Wo:=aJ Z;have HA:=aJ ha;have HB:=aJ hb;clear hc hv hi Z ha hb;go_enter func13,ntmps13;(iterate 12 (try (first|go_values|go_skip|go_guarded|go_step|go_upon|go_in|go_back|go_simp)));refine aS rfl 44 rfl _ jU (fun w_ Q=> ?_);refine Qp ?_;replace Q:=Hid.o Q;have C:=Q;clear Q;have WS:=aJ C;clear C;refine aS rfl 44 rfl _ jU (fun WM Q=> ?_);refine Qp ?_;replace Q:=Hid.o Q;have C:=WS.o;clear WS;have hx:Ext w WM:=by rw[Q,C];exact((((Ext.new _ _).alloc _).alloc _).alloc _).alloc _
 have Wt:Blk WM w.heap.size 45 (aM 6 ev).toArray:=by rw[Q,C];exact((((Blk.new _ _ _).alloc _).alloc _).alloc _).alloc _
 have XC:Blk WM (w.heap.size+1) 45 (aM 6 ei).toArray:=by rw[Q,C];exact(((aeE _ _ (bF _ _)).alloc _).alloc _).alloc _
 have WL:Blk WM (w.heap.size+2) 63 #[.string l.name,.int .i64 l.z1.r,.int .i64 l.z1.x,.int .i64 l.z0.r,.int .i64 l.z0.x]:=by rw[Q,C];exact((aeE _ _ (by rw[bF,bF])).alloc _).alloc _
 have B:Blk WM (w.heap.size+3) 44 (aM 2 fun _=>zEn).toArray:=by rw[Q,C];exact(aeE _ _ (by rw[bF,bF,bF])).alloc _
 have Xd:Blk WM (w.heap.size+4) 44 (aM 2 fun _=>zEn).toArray:=by rw[Q,C];exact aeE _ _ (by rw[bF,bF,bF,bF])
 have WE:w_.heap.size=w.heap.size+4:=by rw[C,bF,bF,bF,bF]
 clear Q C;(try simp only[bF]);rw[WE];clear WE;generalize Xm:w.heap.size+4=WI at Xd⊢;generalize Xq:w.heap.size+3=WQ at B⊢;generalize Xa:w.heap.size+2=Xh at WL⊢;generalize Xr:w.heap.size+1=g10 at XC⊢;generalize XA:w.heap.size=g9 at Wt⊢;have HQ:=aJ (show w.heap.size<=WQ/\w.heap.size<=WI/\WQ≠WI by omega);clear Xm Xq Xa Xr XA;have HX:=aJ hx;have K:=aJ Wt;have Wn:=aJ XC;have WK:=aJ WL;have Ww:=aJ B;have Wl:=aJ Xd;clear hx Wt XC WL B Xd;(go_wp2_with fail);refine(oH x (-1) 0 1 _ (HC.ext HX.o) aj aj aj aj aj aj aj).mono ?_;rintro _ w2 ⟨em,rfl,WX,F⟩;simp only[En.v,gv];have Xf:(⟨((-1:Int):Rat)/((1:Int):Rat),((0:Int):Rat)/((1:Int):Rat)⟩:GQ)=GQ.i (-1) 0:=by ext<;>simp only[GQ.bU,GQ.bS]<;>grind
 have HM:=aJ (show GV w2 em.v (GQ.i (-1) 0) 64 by rw[<-Xf];exact WX);clear Xf;replace HX:=HX.aC F;replace K:=K.aA F;replace Wn:=Wn.aA F;replace WK:=WK.aA F;replace Ww:=Ww.aA F;replace Wl:=Wl.aA F;clear WX F;have hy:Ext w2 (w2.alloc (.cells #[.bool em.s1,.slice em.A1 em.n1 em.c1,.bool em.s2,.slice em.A2 em.n2 em.c2,.bool em.s3,.slice em.A3 em.n3 em.c3] 42)):=Ext.new _ _;have G:=aJ (Blk.new w2 42 #[.bool em.s1,.slice em.A1 em.n1 em.c1,.bool em.s2,.slice em.A2 em.n2 em.c2,.bool em.s3,.slice em.A3 em.n3 em.c3]);have WL:=WK.ext hy;have Xj:=WL.cell 1;have Xb:=WL.cell 2;have WP:0<=num*l.z1.r/\num*l.z1.r<=1000000000000:=EC Wo.n (Wo.r _ (.inl rfl));have Wp:0<=num*l.z1.x/\num*l.z1.x<=1000000000000:=EC Wo.n (Wo.r _ (.inr (.inl rfl)));have Xg:wrap64 (num*l.z1.r)=num*l.z1.r:=pz _ aa;have Yp:wrap64 (num*l.z1.x)=num*l.z1.x:=pz _ aa;have Xl:=aJ WP;have Xp:=aJ Wp;have WS:=aJ Xg;have WN:=aJ Yp;have HY:=aJ hy;clear WP Wp WL;(go_wp2_with fail);refine(oH x (num*l.z1.r) (num*l.z1.x) den _ (HC.ext (HX.trans HY.o)) AcQ AcQ Adb Adb AaT AaT AaT).mono ?_;rintro _ w4 ⟨H,rfl,Xk,F⟩;simp only[En.v,gv];have j:=HY.trans F;have HZ:=aJ (show GV w4 H.v zq 64 by rw[WF.o];exact Xk);replace HM:=HM.aA j;replace HX:=HX.aC j;replace K:=K.aA j;replace Wn:=Wn.aA j;replace Ww:=Ww.aA j;replace Wl:=Wl.aA j;replace G:=G.aA F;clear j Xk F Xj Xb Xg Yp WS WN hy HY WK;generalize w2.heap.size=XM at G⊢;have N:=aJ (Blk.new w4 42 #[.bool H.s1,.slice H.A1 H.n1 H.c1,.bool H.s2,.slice H.A2 H.n2 H.c2,.bool H.s3,.slice H.A3 H.n3 H.c3]);have hy:Ext w4 (w4.alloc (.cells #[.bool H.s1,.slice H.A1 H.n1 H.c1,.bool H.s2,.slice H.A2 H.n2 H.c2,.bool H.s3,.slice H.A3 H.n3 H.c3] 42)):=Ext.new _ _;replace HZ:=HZ.aA hy;replace HM:=HM.aA hy;replace HX:=HX.aC hy;replace K:=K.aA hy;replace Wn:=Wn.aA hy;replace Ww:=Ww.aA hy;replace Wl:=Wl.aA hy;replace G:=G.aA hy;have WU:decide ((0:Int)<=(b:Int))=ε:=ag;(go_wp2_with fail);have Wt:=K.o;have XC:=Wn.o;have ac:=aK.blk G.o;have YS:=aK.blk N.o;have Wy:=HM;have XX:(0:Int)<=(a:Int):=aa;have XW:(a:Int)<3:=by have:=HA.o;omega
 have WJ:(0:Int)<=(b:Int):=aa;have Xn:(b:Int)<3:=by have:=HB.o;omega
 refine iV 25 (Vv [(9,.any),(10,.any),(21,.any),(22,.any),(24,.any)]) (NPs [(9,.pv ((V b).sc (GQ.i (-1) 0)) 4665),(10,.pv (V a+(V b).sc (GQ.i (-1) 0)) 9330),(21,.pv ((I b).sc (GQ.i (-1) 0)) 4665),(22,.pv (I a+(I b).sc (GQ.i (-1) 0)) 4700),(24,.pv ((I a+(I b).sc (GQ.i (-1) 0)).sc zq) 4765)]) (OQ _) ah ah ?_;refine Qd ?_;refine nP 9 rf ah ?_;refine Qd ?_;(iterate 3 (go_big_quiet_step (fail)));refine dH rf 44 _ rfl _ _ rf (aM 2 fun t=>ev (2*a+t)) _ Acu kC rfl (dL _) ?_;refine Qp ?_;(iterate 3 (go_big_quiet_step (fail)));refine dH rf 44 _ rfl _ _ rf (aM 2 fun t=>ev (2*b+t)) _ (by rintro W ⟨x,rfl⟩;exact(K.ext x.ext).Di (m:=b) (by have:=HB.o;omega) rfl) kC rfl (dL _) ?_;refine Qp ?_;(repeat (go_big_quiet_step (fail)));refine τ ?_;refine dR rf rf rf ?_ ?_
 .intro T J;have hW:=J.1;clear J;go_simp;exact⟨rfl,(qL x _ _ (V b) (GQ.i (-1) 0) 4600 64 _ (HC.ext (HX.trans hW)) ((HV.pv (m:=b) HB.o).ext (HX.trans hW)) (Wy.ext hW) aa).mono fun e w' ⟨v,U,hv,hx⟩=>⟨_,U,hx,hv⟩⟩
 intro v9 XB Yn WA;clear WA;refine Qp ?_;refine dR rf rf rf ?_ ?_
 .intro T J;have hW:=J.1;have h9:PV T v9 ((V b).sc (GQ.i (-1) 0)) 4665:=J.2 9 (v9,XB,Yn) rf ah;clear J;go_simp;exact⟨rfl,(wO x _ _ (V a) _ 4600 4665 _ (HC.ext (HX.trans hW)) ((HV.pv (m:=a) HA.o).ext (HX.trans hW)) h9 aa).mono fun e w' ⟨v,U,hv,hx⟩=>⟨_,U,hx,hv⟩⟩
 intro Xt W9 Xe WA;clear WA;refine Qp ?_;refine nP 10 rf ah ?_;refine Qd ?_;(iterate 1 (go_big_quiet_step (fail)));(iterate 3 (go_big_quiet_step (fail)));refine dH rf 44 _ rfl _ _ rf (aM 2 fun t=>ei (2*a+t)) _ Ab4 kC rfl (dL _) ?_;refine Qp ?_;(iterate 3 (go_big_quiet_step (fail)));refine dH rf 44 _ rfl _ _ rf (aM 2 fun t=>ei (2*b+t)) _ (by rintro W ⟨x,rfl⟩;exact(Wn.ext x.ext).Di (m:=b) (by have:=HB.o;omega) rfl) kC rfl (dL _) ?_;refine Qp ?_;(repeat (go_big_quiet_step (fail)));refine τ ?_;refine dR rf rf rf ?_ ?_
 .intro T J;have hW:=J.1;clear J;go_simp;exact⟨rfl,(qL x _ _ (I b) (GQ.i (-1) 0) 4600 64 _ (HC.ext (HX.trans hW)) ((HI.pv (m:=b) HB.o).ext (HX.trans hW)) (Wy.ext hW) aa).mono fun e w' ⟨v,U,hv,hx⟩=>⟨_,U,hx,hv⟩⟩
 intro Wm Wz Xx WA;clear WA;refine Qp ?_;refine dR rf rf rf ?_ ?_
 .intro T J;have hW:=J.1;have WG:PV T Wm ((I b).sc (GQ.i (-1) 0)) 4665:=J.2 21 (Wm,Wz,Xx) rf ah;clear J;go_simp;exact⟨rfl,(wO x _ _ (I a) _ 4600 4665 _ (HC.ext (HX.trans hW)) ((HI.pv (m:=a) HA.o).ext (HX.trans hW)) WG aa).mono fun e w' ⟨v,U,hv,hx⟩=>⟨_,U,hx,hv.to WO.o.1 WO.o.2⟩⟩
 intro WB Wv WC WA;clear WA;refine Qp ?_;refine Qs ?_;refine dR rf rf rf ?_ ?_
 .intro T J;have hW:=J.1;have WH:PV T WB (I a+(I b).sc (GQ.i (-1) 0)) 4700:=J.2 22 (WB,Wv,WC) rf ah;clear J;go_simp;exact⟨rfl,(qL x _ _ _ zq 4700 64 _ (HC.ext (HX.trans hW)) WH (HZ.ext hW) aa).mono fun e w' ⟨v,U,hv,hx⟩=>⟨_,U,hx,hv⟩⟩
 intro Wx XV X6 WA;clear WA;refine Qp ?_;refine bz ?_;intro wE J;have Wj:PV wE Xt (V a+(V b).sc (GQ.i (-1) 0)) 9330:=J.at_ 10 (e:=(Xt,W9,Xe)) rf;have D:PV wE Wx ((I a+(I b).sc (GQ.i (-1) 0)).sc zq) 4765:=J.at_ 24 (e:=(Wx,XV,X6)) rf;have M:=J.ext;obtain⟨f,rfl,h0,h1⟩:=Wj.row;obtain⟨f',rfl,Wu,L⟩:=D.row;have R:=aJ (HX.trans M);have B:=Ww.ext M;have Xd:=Wl.ext M;have O:=aJ (dF (f:=f) B);have WW:=aJ Wj;have WY:=aJ D;have Xi:=aJ B;have Xo:=aJ Xd;clear J Wj D M h0 h1 Wu L B Xd ac YS Wt XC;refine aL rfl 44 (.tmp 16) (.tmp 49) rfl WQ 0 (aM 2 f) rf rf O.o (dL f) (bY 2 f) (fun w8 Q=> ?_);refine Qp ?_;replace Q:=Hid.o Q;have hF:=eZ R.o HQ.o.1 Xi.o Q;have WZ:Mod (fun k=>k=WQ) wE w8:=by rw[Q];exact Mod.puts _ _ _ _ rfl
 have P:Blk w8 WI 44 (aM 2 fun _=>zEn).toArray:=Blk.mod Xo.o WZ (fun e=>HQ.o.2.2 e.symm);have WT:=aJ (dF (f:=f') P);have Y:=aJ hF;have Xc:=aJ P;clear hF P WZ Q O;refine aL rfl 44 (.tmp 17) (.tmp 63) rfl WI 0 (aM 2 f') rf rf WT.o (dL f') (bY 2 f') (fun w9 Q=> ?_);refine Qp ?_;replace Q:=Hid.o Q;have hG:=eZ Y.o.2.1 HQ.o.2.1 Xc.o Q;have Wq:Mod (fun k=>k=WI) w8 w9:=by rw[Q];exact Mod.puts _ _ _ _ rfl
 have WV:Blk w9 WQ 44 (aM 2 f).toArray:=Blk.mod Y.o.1 Wq HQ.o.2.2;have S:=aJ hG;have WR:=aJ WV;clear hG Wq WV Q;(go_wp2_with fail);exact FV rfl rfl rf rf WR.o S.o.1 kC rfl (by rw[nS];exact dL f) (by rw[nS];exact dL f') ⟨_,_,rfl,(aeR (S.o.2.2 _ _ _ (Y.o.2.2 _ _ _ WW.o.o.1)) (S.o.2.2 _ _ _ (Y.o.2.2 _ _ _ WW.o.o.2))).mono aa,aeR (S.o.2.2 _ _ _ (Y.o.2.2 _ _ _ WY.o.o.1)) (S.o.2.2 _ _ _ (Y.o.2.2 _ _ _ WY.o.o.2)),S.o.2.1⟩
inductive ND where
 |any
 |pv (p:PQ) (n:Nat)
 |box (t:TypeId) (cs:Array Value)
def ND.holds:ND->Nat->Nat->Value->World->Prop
 | .any,_,_,_,_=>True
 | .pv p n,_,_,v,w=>PV w v p n
 | .box t cs,lo,hi,v,w=>v=.pointer (γ ⟨lo,0,δ⟩)/\lo<hi/\Blk w lo t cs
def agj(f:ND){lo hi v w w'}(h:f.holds lo hi v w)(x:Ext w w'):f.holds lo hi v w':=by
 cases f with
 |any=>trivial
 |pv p n=>exact PV.ext h x
 |box t cs=>exact⟨h.1,h.2.1,Blk.ext h.2.2 x⟩
def Tv:List (Nat×ND)->Nat->ND
 |[],_=> .any
 |p::r,i=>bif Nat.beq p.1 i then p.2 else Tv r i
def Uk:List (Nat×ND)->Nat->Bool
 |[],_=>ζ
 |p::r,i=>Nat.beq p.1 i||Uk r i
def NDs (l:List (Nat×ND)):Nat->Nat->Nat->Value->World->Prop:=fun i lo hi v w=>(Tv l i).holds lo hi v w
def Fu(l:List (Nat×ND)):∀i lo hi v w w',NDs l i lo hi v w->Ext w w'->NDs l i lo hi v w':=fun _ _ _ _ _ _ h x=>agj _ h x
def Ku{a b}(ha:0<=a/\a<=1000000)(hb: -1000000<=b/\b<=1000000): -1000000000000<=a*b/\a*b<=1000000000000:=by
 have j:a*b<=a*1000000:=aco hb.2 ha.1;have l:a*(-1000000)<=a*b:=aco hb.1 ha.1;omega
def Qy(x:Nat)(ev ei V I)(l:sj)(a:Nat)(num den:Int)(w)(hc:mZ w x)(hv:Ph3 w ev V 4600)(hi:Ph3 w ei I 4600)(ha:a<3)(Z:UX l num den)(Wz:Bd (I 0+I 1).u 4700/\Bd (I 0+I 1).v 4700)(WB:Bd (I 0+I 1+I 2).u 4700/\Bd (I 0+I 1+I 2).v 4700)(zq z0)(WG:z0=⟨((num*(l.z0.r-l.z1.r):Int):Rat)/((3*den:Int):Rat),((num*(l.z0.x-l.z1.x):Int):Rat)/((3*den:Int):Rat)⟩)(Ws:zq=⟨((num*l.z1.r:Int):Rat)/(den:Rat),((num*l.z1.x:Int):Rat)/(den:Rat)⟩):
  Calls prog 13 #[.pointer (γ ⟨x,0,δ⟩),.agg (aM 6 ev).toArray,.agg (aM 6 ei).toArray,.agg #[.string l.name,.int .i64 l.z1.r,.int .i64 l.z1.x,.int .i64 l.z0.r,.int .i64 l.z0.x],.int .i64 (a:Int),.int .i64 (-1),.int .i64 num,.int .i64 den] w fun r w'=>∃u y,r=.returned (.tuple #[u,y])/\PV w' u (V a) 4600/\PV w' y ((I a).sc zq+(I 0+I 1+I 2).sc z0) 9500/\Ext w w':=by
 have WF:=aJ Ws;clear Ws;have WJ:=aJ WG;have XP:=aJ Wz;have XJ:=aJ WB;clear WG Wz WB;have HC:=aJ hc;have HV:=aJ hv;have HI:=aJ hi;have Wo:=aJ Z;have HA:=aJ ha;clear hc hv hi Z ha;go_enter func13,ntmps13;(iterate 12 (try (first|go_values|go_skip|go_guarded|go_step|go_upon|go_in|go_back|go_simp)));refine aS rfl 44 rfl _ jU (fun w_ Q=> ?_);refine Qp ?_;replace Q:=Hid.o Q;have C:=Q;clear Q;have WS:=aJ C;clear C;refine aS rfl 44 rfl _ jU (fun WM Q=> ?_);refine Qp ?_;replace Q:=Hid.o Q;have C:=WS.o;clear WS;have hx:Ext w WM:=by rw[Q,C];exact((((Ext.new _ _).alloc _).alloc _).alloc _).alloc _
 have Wt:Blk WM w.heap.size 45 (aM 6 ev).toArray:=by rw[Q,C];exact((((Blk.new _ _ _).alloc _).alloc _).alloc _).alloc _
 have XC:Blk WM (w.heap.size+1) 45 (aM 6 ei).toArray:=by rw[Q,C];exact(((aeE _ _ (bF _ _)).alloc _).alloc _).alloc _
 have WL:Blk WM (w.heap.size+2) 63 #[.string l.name,.int .i64 l.z1.r,.int .i64 l.z1.x,.int .i64 l.z0.r,.int .i64 l.z0.x]:=by rw[Q,C];exact((aeE _ _ (by rw[bF,bF])).alloc _).alloc _
 have B:Blk WM (w.heap.size+3) 44 (aM 2 fun _=>zEn).toArray:=by rw[Q,C];exact(aeE _ _ (by rw[bF,bF,bF])).alloc _
 have Xd:Blk WM (w.heap.size+4) 44 (aM 2 fun _=>zEn).toArray:=by rw[Q,C];exact aeE _ _ (by rw[bF,bF,bF,bF])
 have WE:w_.heap.size=w.heap.size+4:=by rw[C,bF,bF,bF,bF]
 clear Q C;(try simp only[bF]);rw[WE];clear WE;generalize Xm:w.heap.size+4=WI at Xd⊢;generalize Xq:w.heap.size+3=WQ at B⊢;generalize Xa:w.heap.size+2=Xh at WL⊢;generalize Xr:w.heap.size+1=g10 at XC⊢;generalize XA:w.heap.size=g9 at Wt⊢;have HQ:=aJ (show w.heap.size<=WQ/\w.heap.size<=WI/\WQ≠WI by omega);clear Xm Xq Xa Xr XA;have HX:=aJ hx;have K:=aJ Wt;have Wn:=aJ XC;have WK:=aJ WL;have Ww:=aJ B;have Wl:=aJ Xd;clear hx Wt XC WL B Xd;(go_wp2_with fail);refine(oH x (-1) 0 1 _ (HC.ext HX.o) aj aj aj aj aj aj aj).mono ?_;rintro _ w2 ⟨em,rfl,WX,F⟩;simp only[En.v,gv];have Xf:(⟨((-1:Int):Rat)/((1:Int):Rat),((0:Int):Rat)/((1:Int):Rat)⟩:GQ)=GQ.i (-1) 0:=by ext<;>simp only[GQ.bU,GQ.bS]<;>grind
 have HM:=aJ (show GV w2 em.v (GQ.i (-1) 0) 64 by rw[<-Xf];exact WX);clear Xf;replace HX:=HX.aC F;replace K:=K.aA F;replace Wn:=Wn.aA F;replace WK:=WK.aA F;replace Ww:=Ww.aA F;replace Wl:=Wl.aA F;clear WX F;have hy:Ext w2 (w2.alloc (.cells #[.bool em.s1,.slice em.A1 em.n1 em.c1,.bool em.s2,.slice em.A2 em.n2 em.c2,.bool em.s3,.slice em.A3 em.n3 em.c3] 42)):=Ext.new _ _;have G:=aJ (Blk.new w2 42 #[.bool em.s1,.slice em.A1 em.n1 em.c1,.bool em.s2,.slice em.A2 em.n2 em.c2,.bool em.s3,.slice em.A3 em.n3 em.c3]);have WL:=WK.ext hy;have Xj:=WL.cell 1;have Xb:=WL.cell 2;have WP:0<=num*l.z1.r/\num*l.z1.r<=1000000000000:=EC Wo.n (Wo.r _ (.inl rfl));have Wp:0<=num*l.z1.x/\num*l.z1.x<=1000000000000:=EC Wo.n (Wo.r _ (.inr (.inl rfl)));have Xg:wrap64 (num*l.z1.r)=num*l.z1.r:=pz _ aa;have Yp:wrap64 (num*l.z1.x)=num*l.z1.x:=pz _ aa;have Xl:=aJ WP;have Xp:=aJ Wp;have WS:=aJ Xg;have WN:=aJ Yp;have HY:=aJ hy;clear WP Wp WL;(go_wp2_with fail);refine(oH x (num*l.z1.r) (num*l.z1.x) den _ (HC.ext (HX.trans HY.o)) AcQ AcQ Adb Adb AaT AaT AaT).mono ?_;rintro _ w4 ⟨H,rfl,Xk,F⟩;simp only[En.v,gv];have j:=HY.trans F;have HZ:=aJ (show GV w4 H.v zq 64 by rw[WF.o];exact Xk);replace HM:=HM.aA j;replace HX:=HX.aC j;replace K:=K.aA j;replace Wn:=Wn.aA j;replace Ww:=Ww.aA j;replace Wl:=Wl.aA j;replace G:=G.aA F;replace WK:=WK.aA j;clear j Xk F Xj Xb Xg Yp WS WN hy HY;generalize w2.heap.size=XM at G⊢;have N:=aJ (Blk.new w4 42 #[.bool H.s1,.slice H.A1 H.n1 H.c1,.bool H.s2,.slice H.A2 H.n2 H.c2,.bool H.s3,.slice H.A3 H.n3 H.c3]);have hy:Ext w4 (w4.alloc (.cells #[.bool H.s1,.slice H.A1 H.n1 H.c1,.bool H.s2,.slice H.A2 H.n2 H.c2,.bool H.s3,.slice H.A3 H.n3 H.c3] 42)):=Ext.new _ _;replace HZ:=HZ.aA hy;replace HM:=HM.aA hy;replace HX:=HX.aC hy;replace K:=K.aA hy;replace Wn:=Wn.aA hy;replace Ww:=Ww.aA hy;replace Wl:=Wl.aA hy;replace G:=G.aA hy;replace WK:=WK.aA hy;have WU:decide ((0:Int)<=-1)=ζ:=aj;clear hy;have Xj:=WK.cell 1;have Xb:=WK.cell 2;have Wv:=WK.cell 3;have XY:=WK.cell 4;have WO:=Wo.o;have b1:=WO.r _ (.inl rfl);have b2:=WO.r _ (.inr (.inl rfl));have b3:=WO.r _ (.inr (.inr (.inl rfl)));have b4:=WO.r _ (.inr (.inr (.inr rfl)));have XZ:wrap64 (l.z0.r-l.z1.r)=l.z0.r-l.z1.r:=pz _ aa;have X3:wrap64 (l.z0.x-l.z1.x)=l.z0.x-l.z1.x:=pz _ aa;have WP:=Ku WO.n (show-1000000<=l.z0.r-l.z1.r/\l.z0.r-l.z1.r<=1000000 by omega);have Wp:=Ku WO.n (show-1000000<=l.z0.x-l.z1.x/\l.z0.x-l.z1.x<=1000000 by omega);have Xg:wrap64 (num*(l.z0.r-l.z1.r))=num*(l.z0.r-l.z1.r):=pz _ aa;have Yp:wrap64 (num*(l.z0.x-l.z1.x))=num*(l.z0.x-l.z1.x):=pz _ aa;have XE:wrap64 (3*den)=3*den:=pz _ (by have:=WO.d;omega);have Xy:=aJ WP;have Xz:=aJ Wp;clear WP Wp b1 b2 b3 b4 WO;(go_wp2_with fail);refine(oH x (num*(l.z0.r-l.z1.r)) (num*(l.z0.x-l.z1.x)) (3*den) _ (HC.ext HX.o) (by have:=Xy.o;omega) (by have:=Xy.o;omega) (by have:=Xz.o;omega) (by have:=Xz.o;omega) AaT AaT AaT).mono ?_;rintro _ w6 ⟨D,rfl,Wx,F⟩;simp only[En.v,gv];clear Xj Xb Wv XY XZ X3 Xg Yp XE WU;have HO:=aJ (show GV w6 D.v z0 64 by rw[WJ.o];exact Wx);have hy:Ext w6 (w6.alloc (.cells #[.bool D.s1,.slice D.A1 D.n1 D.c1,.bool D.s2,.slice D.A2 D.n2 D.c2,.bool D.s3,.slice D.A3 D.n3 D.c3] 42)):=Ext.new _ _;have j:=F.trans hy;have Wy:=aJ (Blk.new w6 42 #[.bool D.s1,.slice D.A1 D.n1 D.c1,.bool D.s2,.slice D.A2 D.n2 D.c2,.bool D.s3,.slice D.A3 D.n3 D.c3]);replace HO:=HO.aA hy;replace HZ:=HZ.aA j;replace HM:=HM.aA j;replace HX:=HX.aC j;replace K:=K.aA j;replace Wn:=Wn.aA j;replace Ww:=Ww.aA j;replace Wl:=Wl.aA j;replace G:=G.aA j;replace N:=N.aA j;clear hy j F Wx;generalize w4.heap.size=ac at N⊢;(go_wp2_with fail);generalize w6.heap.size=X6 at Wy⊢;generalize (w6.alloc (.cells #[.bool D.s1,.slice D.A1 D.n1 D.c1,.bool D.s2,.slice D.A2 D.n2 D.c2,.bool D.s3,.slice D.A3 D.n3 D.c3] 42))=w7 at HO HZ HM HX K Wn Ww Wl G N Wy⊢;have Wt:=K.o;have XC:=Wn.o;have YS:=aK.blk N.o;have XG:=aK.blk Wy.o;have XX:(0:Int)<=(a:Int):=aa;have XW:(a:Int)<3:=by have:=HA.o;omega
 refine iV 11 (Uk [(6,.any),(9,.any),(10,.any)]) (NDs [(6,.pv (I 0+I 1) 4700),(9,.pv (I 0+I 1+I 2) 4700),(10,.box 44 (aM 2 fun _=>zEn).toArray)]) (Fu _) ah ah ?_;refine Qd ?_;refine nP 6 rf ah ?_;refine Qd ?_;(iterate 3 (go_big_quiet_step (fail)));refine dH rf 44 _ rfl _ _ rf (aM 2 fun t=>ei (2*0+t)) _ (by rintro W ⟨x,rfl⟩;exact(Wn.ext x.ext).Di (m:=0) aa rfl) kC rfl (dL _) ?_;refine Qp ?_;(iterate 1 (go_big_quiet_step (fail)));refine dH rf 44 _ rfl _ _ rf (aM 2 fun t=>ei (2*1+t)) _ (by rintro W ⟨x,rfl⟩;exact(Wn.ext x.ext).Di (m:=1) aa rfl) kC rfl (dL _) ?_;refine Qp ?_;refine τ ?_;refine dR rf rf rf ?_ ?_
 .intro T J;have hW:=J.1;clear J;go_simp;exact⟨rfl,(wO x _ _ (I 0) (I 1) 4600 4600 _ (HC.ext (HX.trans hW)) ((HI.pv (m:=0) aa).ext (HX.trans hW)) ((HI.pv (m:=1) aa).ext (HX.trans hW)) aa).mono fun e w' ⟨v,U,hv,hx⟩=>⟨_,U,hx,hv.to XP.o.1 XP.o.2⟩⟩
 intro v6 X4 WH WA;clear WA;refine Qp ?_;refine nP 2 rf ah ?_;refine Qd ?_;(iterate 1 (go_big_quiet_step (fail)));refine dH rf 44 _ rfl _ _ rf (aM 2 fun t=>ei (2*2+t)) _ (by rintro W ⟨x,rfl⟩;exact(Wn.ext x.ext).Di (m:=2) aa rfl) kC rfl (dL _) ?_;refine Qp ?_;refine τ ?_;refine dR rf rf rf ?_ ?_
 .intro T J;have hW:=J.1;have h6:PV T v6 (I 0+I 1) 4700:=J.2 6 (v6,X4,WH) rf ah;clear J;go_simp;exact⟨rfl,(wO x _ _ (I 0+I 1) (I 2) 4700 4600 _ (HC.ext (HX.trans hW)) h6 ((HI.pv (m:=2) aa).ext (HX.trans hW)) aa).mono fun e w' ⟨v,U,hv,hx⟩=>⟨_,U,hx,hv.to XJ.o.1 XJ.o.2⟩⟩
 intro v9 XB Yn WA;clear WA;refine Qp ?_;refine Eb ?_;intro Xe Xx XU;refine bz ?_;intro wE J;have XF:PV wE v9 (I 0+I 1+I 2) 4700:=J.at_ 9 (e:=(v9,XB,Yn)) rf;have Xt:Blk wE Xe 44 (aM 2 fun _=>zEn).toArray:=(J.at_ 10 rf).2.2;have Wm:=J.low 10 _ rf;have M:=J.ext;obtain⟨f,rfl,h0,h1⟩:=XF.row;have R:=aJ (HX.trans M);have XD:=aJ XF;have Xu:=aJ Xt;have XV:Hid (w.heap.size<=Xe):=aJ (by have:=HX.size;have Q:w7.heap.size<=Xe:=Wm;omega);have XL:Hid (w7.heap.size<=Xe):=aJ Wm;have Xn:=aJ M;have O:=aJ (dF (f:=f) Xt);clear J XF Xt Wm M h0 h1 XU YS XG Wt XC;refine aL rfl 44 (.tmp 21) (.tmp 95) rfl Xe 0 (aM 2 f) rf rf O.o (dL f) (bY 2 f) (fun w8 Q=> ?_);refine Qp ?_;replace Q:=Hid.o Q;have hF:=eZ R.o XV.o Xu.o Q;have Wj:Ext w7 w8:=(eZ Xn.o XL.o Xu.o Q).2.1;have HS:=aJ (aeR (hF.2.2 _ _ _ XD.o.o.1) (hF.2.2 _ _ _ XD.o.o.2));have XN:=aJ hF.1;replace R:=aJ hF.2.1;replace HO:=HO.aA Wj;replace HZ:=HZ.aA Wj;replace K:=K.aA Wj;replace Wn:=Wn.aA Wj;replace Ww:=Ww.aA Wj;replace Wl:=Wl.aA Wj;replace N:=N.aA Wj;replace Wy:=Wy.aA Wj;clear hF Wj Q O XD Xu Xn;(go_wp2_with fail);have YS:=aK.blk N.o;have XG:=aK.blk Wy.o;refine iV 15 (Uk [(9,.any),(13,.any),(14,.any)]) (NDs [(9,.pv ((I a).sc zq) 4665),(13,.pv ((I 0+I 1+I 2).sc z0) 4765),(14,.pv ((I a).sc zq+(I 0+I 1+I 2).sc z0) 9495)]) (Fu _) ah ah ?_;refine Qd ?_;refine nP 9 rf ah ?_;refine Qd ?_;(iterate 2 (go_big_quiet_step (fail)));refine dH rf 44 _ rfl _ _ rf (aM 2 fun t=>ev (2*a+t)) _ Acu kC rfl (dL _) ?_;refine Qp ?_;(iterate 4 (go_big_quiet_step (fail)));refine dH rf 44 _ rfl _ _ rf (aM 2 fun t=>ei (2*a+t)) _ Ab4 kC rfl (dL _) ?_;refine Qp ?_;(repeat (go_big_quiet_step (fail)));refine τ ?_;refine dR rf rf rf ?_ ?_
 .intro T J;have hW:=J.1;clear J;go_simp;exact⟨rfl,(qL x _ _ (I a) zq 4600 64 _ (HC.ext (R.trans hW)) ((HI.pv (m:=a) HA.o).ext (R.trans hW)) (HZ.ext hW) aa).mono fun e w' ⟨v,U,hv,hx⟩=>⟨_,U,hx,hv⟩⟩
 intro XK XR XO WA;clear WA;refine Qp ?_;refine nP 3 rf ah ?_;refine Qd ?_;(iterate 1 (go_big_quiet_step (fail)));refine dH rf 44 _ rfl _ _ rf (aM 2 f) _ (by rintro W ⟨x,rfl⟩;exact(XN.ext x.ext).rng) kC rfl (dL _) ?_;refine Qp ?_;(repeat (go_big_quiet_step (fail)));refine τ ?_;refine dR rf rf rf ?_ ?_
 .intro T J;have hW:=J.1;clear J;go_simp;exact⟨rfl,(qL x _ _ (I 0+I 1+I 2) z0 4700 64 _ (HC.ext (R.trans hW)) (HS.ext hW) (HO.ext hW) aa).mono fun e w' ⟨v,U,hv,hx⟩=>⟨_,U,hx,hv⟩⟩
 intro XH XQ X9 WA;clear WA;refine Qp ?_;refine dR rf rf rf ?_ ?_
 .intro T J;have hW:=J.1;have h9:PV T XK ((I a).sc zq) 4665:=J.2 9 (XK,XR,XO) rf ah;have WC:PV T XH ((I 0+I 1+I 2).sc z0) 4765:=J.2 13 (XH,XQ,X9) rf ah;clear J;go_simp;exact⟨rfl,(wO x _ _ _ _ 4665 4765 _ (HC.ext (R.trans hW)) h9 WC aa).mono fun e w' ⟨v,U,hv,hx⟩=>⟨_,U,hx,hv⟩⟩
 intro XT Xw Xv WA;clear WA;refine Qp ?_;refine bz ?_;intro XI J;have W9:PV XI XT ((I a).sc zq+(I 0+I 1+I 2).sc z0) 9495:=J.at_ 14 (e:=(XT,Xw,Xv)) rf;have M:=J.ext;obtain⟨f',rfl,Wu,L⟩:=W9.row;have B:=Ww.ext M;have Xd:=Wl.ext M;have WW:=aJ ((HV.pv (m:=a) HA.o).ext (R.trans M));have X5:=aJ (R.trans M);have WY:=aJ W9;have Xi:=aJ B;have Xo:=aJ Xd;have O:=aJ (dF (f:=fun t=>ev (2*a+t)) B);clear J W9 M Wu L B Xd YS XG;refine aL rfl 44 (.tmp 16) (.tmp 98) rfl WQ 0 (aM 2 fun t=>ev (2*a+t)) rf rf O.o (dL _) (bY 2 _) (fun wA Q=> ?_);refine Qp ?_;replace Q:=Hid.o Q;have hF:=eZ X5.o HQ.o.1 Xi.o Q;have WZ:Mod (fun k=>k=WQ) XI wA:=by rw[Q];exact Mod.puts _ _ _ _ rfl
 have P:Blk wA WI 44 (aM 2 fun _=>zEn).toArray:=Blk.mod Xo.o WZ (fun e=>HQ.o.2.2 e.symm);have WT:=aJ (dF (f:=f') P);have Y:=aJ hF;have Xc:=aJ P;clear hF P WZ Q O;refine aL rfl 44 (.tmp 17) (.tmp 110) rfl WI 0 (aM 2 f') rf rf WT.o (dL f') (bY 2 f') (fun wB Q=> ?_);refine Qp ?_;replace Q:=Hid.o Q;have hG:=eZ Y.o.2.1 HQ.o.2.1 Xc.o Q;have Wq:Mod (fun k=>k=WI) wA wB:=by rw[Q];exact Mod.puts _ _ _ _ rfl
 have WV:Blk wB WQ 44 (aM 2 fun t=>ev (2*a+t)).toArray:=Blk.mod Y.o.1 Wq HQ.o.2.2;have S:=aJ hG;have WR:=aJ WV;clear hG Wq WV Q;(go_wp2_with fail);exact FV rfl rfl rf rf WR.o S.o.1 kC rfl (by rw[nS];exact dL _) (by rw[nS];exact dL f') ⟨_,_,rfl,aeR (S.o.2.2 _ _ _ (Y.o.2.2 _ _ _ WW.o.o.1)) (S.o.2.2 _ _ _ (Y.o.2.2 _ _ _ WW.o.o.2)),(aeR (S.o.2.2 _ _ _ (Y.o.2.2 _ _ _ WY.o.o.1)) (S.o.2.2 _ _ _ (Y.o.2.2 _ _ _ WY.o.o.2))).mono aa,S.o.2.1⟩
open Go.RowKit Go.ChangeShapes Go.WideShapes Go.ChangeAt Go.Joins Go.Deep
def Tryz.own:ownKnob prog.godebug=δ:=ah
def afl:laidOutB prog=ε:=ah
section
variable {H:Type} {enc:TypeId×Value->H} {P:Program}
def wm(Z:laidOutB P=ε){W W'}(hb:Ext W W'){sp}:∀{j:List TypeId} {B:List Value} {D:List (DataW H)} {ps:List MemPlace},
  (∀t∈j,P.readableRec t=ε/\t<P.types.size)->(∀p∈ps,p.block<W.heap.size)->(∀p∈ps,sp p.block=ε)->
  DataW.TrodAll enc P W 0 (fun _=>ε) ε j B D ps->DataW.TrodAll enc P W' 0 sp ε j B D ps
 |[],_,_,_,_,_,_,h=>by
  obtain⟨rfl,rfl,rfl⟩:=trodAll_nil h;exact trodAll_mk0
 |t::j,_,_,_,ht,hlt,hsp,h=>by
  obtain⟨v,B,d,D,p,ps,rfl,rfl,rfl,F,C⟩:=trodAll_cons h;refine trodAll_cons_mk ?_ (wm Z hb (fun t h=>ht t (ib _ h)) (fun x l=>hlt x (by simp[l])) (fun x l=>hsp x (by simp[l])) C);exact WideElems.Trod_stays Z (ht t ag).1 (ht t ag).2 F (fun x l=>hb.same (hlt x (by simp[l]))) (fun x l=>hsp x (by simp[l]))
def NN{f}{s:ChangeSpec}{apart N C M W W' args}{D:List (DataW H)}{l:List MemPlace}(Z:laidOutB P=ε)(hv:s.vars=[])(O:f.resultTypes= #[4])(T:P.underlying 4=γ .bool)(U:∀t∈f.params.toList,P.readableRec t=ε/\t<P.types.size)(R:DataW.Whole enc P f.params.toList s.vars apart W args.toList D [] l)(V:DataW.TrodAll enc P W 0 (fun _=>ε) ε f.params.toList args.toList D l)(e1:(s.fn H (D++[])).results=[.lit (.bool ε)])(Y:(s.fn H (D++[])).args=D)(e3:(s.fn H (D++[])).vars=[])(hb:Ext W W'):s.post enc P f apart N C M W args (.bool ε) W':=by
 have Q:∀p∈l,p.block<W.heap.size:=fun p hp=>R.lt p hp;have L:∀(b:Nat) (sp:Nat->Bool) (hd:Bool),DataW.TrodAll enc P W' b sp hd f.resultTypes.toList ((Value.bool ε).resultList f.resultTypes.size) (s.fn H (D++[])).results []:=by
  intro b sp hd;rw[e1,O];exact trodAll_mk1 (shut_bool T _)
 have F:∀sp:Nat->Bool,(∀p∈l,sp p.block=ε)->DataW.TrodAll enc P W' 0 sp ε f.params.toList args.toList (s.fn H (D++[])).args l:=by
  intro sp G;rw[Y];exact wm Z hb U Q G V
 have I:∀sp:Nat->Bool,(∀p∈l,sp p.block=ε)->DataW.TrodVars enc P W' sp s.vars (s.fn H (D++[])).vars []:=by
  intro sp _;rw[e3,hv];rfl
 have S:∀(j:Nat) (t:TypeId) (r:Value),f.resultTypes[j]? =γ t->((Value.bool ε).resultList f.resultTypes.size)[j]? =γ r->Value.okWide P W' .any 0 t r:=by
  exact ok_one O rfl (okWide_bool_mk T _)
 have J:∀p∈l,(fun b=>decide (b<W.heap.size)) p.block=ε:=fun p hp=>by simpa using Q p hp
 refine⟨D,[],l,[],l,[],R,L _ _ _,F _ J,I _ J,World.keptBut_mono (fun p hp=>⟨hp,?_⟩) (hb.frame (·∈l)),fun _=> ?_⟩
 .exact Or.inr (by simpa using hp)
 .obtain⟨_,_,_,_,_,hz,hn⟩:=R;refine⟨S,_,_,([]++l)++[],⟨[]++l,[],trodAll_append (F _ (fun _ _=>rfl)) (L _ _ _),I _ (fun _ _=>rfl),rfl,?_,?_⟩,?_⟩
  .intro b B hp;have K:MemPlace.cell b B∈l:=by simpa using hp
   rw[hb.frozen (Q _ K)];exact hz b B K
  .intro ha;simpa using hn ha
  .intro p hp _;simpa using hp
end
structure wP (w:World) (A0:Option Addr) (n0 c0:Nat) (A1:Option Addr) (n1 c1:Nat) (A2:Option Addr) (n2 c2:Nat) (A3:Option Addr) (n3 c3:Nat) (L:Nat->Hd) (s:StD):Prop where
 buses:Strs w A0 n0 s.buses
 nc:n0<=c0
 mx:n0<=9223372036854775807/\n1<=9223372036854775807/\n2<=9223372036854775807/\n3<=9223372036854775807
 l1:s.lines.length=n1
 lines:Arr w A1 n1 5 (fun i=>mo (s.lines.getD i η))
 l2:s.srcs.length=n2
 srcs:Arr w A2 n2 6 (fun i=>xM (s.srcs.getD i η))
 l3:s.bays.length=n3
 bays:Arr w A3 n3 12 (fun i=>ja (s.bays.getD i η) (L i))
 links:∀i,i<n3->Lks w (L i).A (L i).n (s.bays.getD i η).links
section
variable {w:World} {A0:Option Addr} {n0 c0:Nat} {A1:Option Addr} {n1 c1:Nat} {A2:Option Addr} {n2 c2:Nat} {A3:Option Addr} {n3 c3:Nat} {L:Nat->Hd} {s:StD}
def wP.is_(h:wP w A0 n0 c0 A1 n1 c1 A2 n2 c2 A3 n3 c3 L s)(j:n0<=1000000/\n1<=1000000/\n2<=1000000/\n3<=1000000):kY w A0 n0 c0 A1 n1 c1 A2 n2 c2 A3 n3 c3 L s:=
 ⟨h.buses,h.nc,j,h.l1,h.lines,h.l2,h.srcs,h.l3,h.bays,h.links⟩
def wP.ext{w'}(h:wP w A0 n0 c0 A1 n1 c1 A2 n2 c2 A3 n3 c3 L s)(x:Ext w w'):wP w' A0 n0 c0 A1 n1 c1 A2 n2 c2 A3 n3 c3 L s:=
 ⟨h.buses.ext x,h.nc,h.mx,h.l1,h.lines.ext x,h.l2,h.srcs.ext x,h.l3,h.bays.ext x,fun i hi=>(h.links i hi).ext x⟩
end
theorem R5{w:World}{R v}(h:w.cell? R=γ v):∃b o,R=⟨b,o,δ⟩:=by
 have hs:R.spot=δ:=by
  unfold World.cell? at h;split at h
  .split at h
   .cases h
   .rename_i G;simpa using G
  .cases h
 obtain⟨b,o,sp⟩:=R;simp only at hs;subst hs;exact⟨b,o,rfl⟩
theorem TN(R:Addr):R.add 0=R:=by
 unfold Addr.add;split<;>simp_all
section
variable {H:Type} {enc:TypeId×Value->H} {P:Program} {w:World} {base:Nat} {spare:Nat->Bool} {held:Bool}
theorem open_arr{α:Type}[Inhabited α]{t e k}(C:α->List Value)(Q:α->Prop)(R:P.underlying t=γ (.slice e))(hk:P.cellsOf e=k)(Y:0<k)(K:∀d,(C d).length=k)(ho:∀j cs x,cs.length=k->DataW.trod enc P w base spare held j e cs=γ x->∃d,cs=C d/\Q d){j v}{x:DataW H×List MemPlace}(h:DataW.trod enc P w base spare held j t [v]=γ x):
  ∃(A:Option Addr) (n c:Nat) (l:List α),v=.slice A n c/\l.length=n/\Arr w A n k (fun i=>C (l.getD i η))/\(∀i,i<n->Q (l.getD i η))/\n<=c/\n<=9223372036854775807:=by
 rcases open_slice R h with ⟨J,_⟩|⟨a,len,F,m,nf,D,G,J,_,Z,hm,M,_,hi⟩
 .injection J with J;exact⟨δ,0,0,[],J,rfl,fun h=>absurd h aa,fun i hi=>absurd hi aa,κ _,aa⟩
 .injection J with J;have B:len<=m:=by rw[M];split<;>omega
  unfold maxLen at hm;rw[hk] at hi;obtain⟨d,hd⟩:=choose_lt (α:=α) (n:=len) (p:=fun i d=>(∀t u,(C d)[t]? =γ u->w.cell? ((a.add (i*k)).add t)=γ u)/\Q d) (fun i U=>by
   obtain⟨cs',h1,W⟩:=hi i aa;obtain⟨_,V,hc⟩:=World.cells?_some h1;obtain⟨d,rfl,hr⟩:=ho _ _ _ V W;refine⟨d,fun t u N=> ?_,hr⟩;have R:t<k:=by have:=(μ.1 N).1;rw[K] at this;exact this
   rw[hc t R];exact N)
  have T:∀i,i<len->((List.range len).map d).getD i η=d i:=fun i hi=>by
   rw[φ,I5,aaD hi];rfl
  refine⟨γ a,len,F,(List.range len).map d,J,ag,fun hn=> ?_,fun i L=>by rw[T i L];exact(hd i L).2,Z,aa⟩;obtain⟨u0,S⟩:∃u,(C (d 0))[0]? =γ u:=⟨_,ν (by rw[K];exact Y)⟩;have I:=(hd 0 hn).1 0 u0 S;rw[aa0,TN,TN] at I;obtain⟨b,o,rfl⟩:=R5 I;refine⟨b,o,rfl,lt_of_cell I,fun i L t u N=> ?_⟩;have O:(C (((List.range len).map d).getD i η))[t]? =γ u:=N;rw[T i L] at O;have:=(hd i L).1 t u O;rw[add_plain,add_plain] at this;exact this
end
section
variable {H:Type} {enc:TypeId×Value->H} {w:World} {base:Nat} {spare:Nat->Bool} {held:Bool}
def aeN:prog.cellsOf 3=1:=ah
def afd:prog.cellsOf 4=1:=ah
def ae1:prog.cellsOf 9=1:=ah
def ae4:prog.cellsOf 54=2:=ah
def af3:prog.cellsOf 63=5:=ah
def aga:prog.cellsOf 83=6:=ah
def afZ:prog.cellsOf 57=12:=ah
def af2:prog.cellsOf 137=2:=ah
def af0:prog.cellsOf 55=1:=ah
def afX:prog.cellsOf 23=1:=ah
def afW:prog.cellsOf 24=1:=ah
def afY:prog.cellsOf 25=1:=ah
def afV:prog.cellsOf 22=1:=ah
def af4:prog.cellsOf 28=1:=ah
def af7:prog.cellsOf 92=1:=ah
def afS:prog.cellsOf 29=1:=ah
def af5:prog.cellsOf 27=5:=ah
def afU:prog.cellsOf 31=2:=ah
def afT:prog.cellsOf 33=6:=ah
def jB{j c}{x:DataW H×List MemPlace}(h:DataW.trod enc prog w base spare held j 3 [c]=γ x):∃z:Int,c=.int .i64 z:=by
 obtain⟨z,e,_,_⟩:=DataW.trod_int underlying3 h;exact⟨z,by simpa using e⟩
def Jd{j c}{x:DataW H×List MemPlace}(h:DataW.trod enc prog w base spare held j 4 [c]=γ x):∃z:Bool,c=.bool z:=by
 obtain⟨z,e,_⟩:=DataW.trod_bool aaV h;exact⟨z,by simpa using e⟩
def zo{j c}{x:DataW H×List MemPlace}(h:DataW.trod enc prog w base spare held j 9 [c]=γ x):∃z:ByteArray,c=.string z:=by
 obtain⟨z,e,_,_⟩:=DataW.trod_string ac5 h;exact⟨z,by simpa using e⟩
def sD{j c0 c1}{x:DataW H×List MemPlace}(h:DataW.trod enc prog w base spare held j 54 [c0,c1]=γ x):∃z:Imp,c0=.int .i64 z.r/\c1=.int .i64 z.x:=by
 obtain⟨xs,n,_,C,_,V,l⟩:=aaL underlying54 h
 match xs,V with
 |[y0,y1],_=>
  have B:DataW.trod enc prog w base spare held n 3 [c0]=γ y0:=by simpa[aeN] using l 0 _ rfl
  have g1:DataW.trod enc prog w base spare held n 3 [c1]=γ y1:=by simpa[aeN] using l 1 _ rfl
  obtain⟨a,rfl⟩:=jB B;obtain⟨b,rfl⟩:=jB g1;exact⟨⟨a,b⟩,rfl,rfl⟩
def Mv{j cs}{x:DataW H×List MemPlace}(Z:cs.length=5)(h:DataW.trod enc prog w base spare held j 63 cs=γ x):∃d:sj,cs=mo d:=by
 obtain⟨xs,n,_,C,_,V,l⟩:=aaL acP h
 match cs,Z,xs,V with
 |[c0,c1,c2,c3,c4],_,[y0,y1,y2],_=>
  have B:DataW.trod enc prog w base spare held n 9 [c0]=γ y0:=by simpa[ae1] using l 0 _ rfl
  have g1:DataW.trod enc prog w base spare held n 54 [c1,c2]=γ y1:=by simpa[ae4] using l 1 _ rfl
  have g2:DataW.trod enc prog w base spare held n 54 [c3,c4]=γ y2:=by simpa[ae4] using l 2 _ rfl
  obtain⟨a,rfl⟩:=zo B;obtain⟨z1,rfl,rfl⟩:=sD g1;obtain⟨z0,rfl,rfl⟩:=sD g2;exact⟨⟨a,z1,z0⟩,rfl⟩
def Ou{j cs}{x:DataW H×List MemPlace}(Z:cs.length=6)(h:DataW.trod enc prog w base spare held j 83 cs=γ x):∃d:BV,cs=xM d:=by
 obtain⟨xs,n,_,C,_,V,l⟩:=aaL underlying83 h
 match cs,Z,xs,V with
 |[c0,c5,c1,c2,c3,c4],_,[y0,y3,y1,y2],_=>
  have B:DataW.trod enc prog w base spare held n 9 [c0]=γ y0:=by simpa[ae1] using l 0 _ rfl
  have g3:DataW.trod enc prog w base spare held n 3 [c5]=γ y3:=by simpa[aeN] using l 1 _ rfl
  have g1:DataW.trod enc prog w base spare held n 54 [c1,c2]=γ y1:=by simpa[ae4] using l 2 _ rfl
  have g2:DataW.trod enc prog w base spare held n 54 [c3,c4]=γ y2:=by simpa[ae4] using l 3 _ rfl
  obtain⟨a,rfl⟩:=zo B;obtain⟨e,rfl⟩:=jB g3;obtain⟨z1,rfl,rfl⟩:=sD g1;obtain⟨z0,rfl,rfl⟩:=sD g2;exact⟨⟨a,e,z1,z0⟩,rfl⟩
def MR{j cs}{x:DataW H×List MemPlace}(Z:cs.length=2)(h:DataW.trod enc prog w base spare held j 137 cs=γ x):∃d:CL,cs=NC d:=by
 obtain⟨xs,n,_,C,_,V,l⟩:=aaL underlying137 h
 match cs,Z,xs,V with
 |[c0,c1],_,[y0,y1],_=>
  have B:DataW.trod enc prog w base spare held n 3 [c0]=γ y0:=by simpa[aeN] using l 0 _ rfl
  have g1:DataW.trod enc prog w base spare held n 3 [c1]=γ y1:=by simpa[aeN] using l 1 _ rfl
  obtain⟨a,rfl⟩:=jB B;obtain⟨b,rfl⟩:=jB g1;exact⟨⟨a,b⟩,rfl⟩
def TS (w:World) (d:gJ×Hd):Prop:=Lks w d.2.A d.2.n d.1.links
instance:Inhabited Hd:=⟨⟨δ,0,0⟩⟩
def Nw{j cs}{x:DataW H×List MemPlace}(Z:cs.length=12)(h:DataW.trod enc prog w base spare held j 57 cs=γ x):∃d:gJ×Hd,cs=ja d.1 d.2/\TS w d:=by
 obtain⟨xs,n,_,P,_,V,I⟩:=aaL abD h
 match cs,Z,xs,V with
 |[c0,c1,c2,c3,c4,c5,c6,c7,c8,c9,c10,c11],_,[y0,y1,y2,y3,y4,y5,y6,y7,y8,y9,y10],_=>
  have J:DataW.trod enc prog w base spare held n 9 [c0]=γ y0:=by simpa[ae1] using I 0 _ rfl
  have g1:DataW.trod enc prog w base spare held n 3 [c1]=γ y1:=by simpa[aeN] using I 1 _ rfl
  have g2:DataW.trod enc prog w base spare held n 3 [c2]=γ y2:=by simpa[aeN] using I 2 _ rfl
  have g3:DataW.trod enc prog w base spare held n 3 [c3]=γ y3:=by simpa[aeN] using I 3 _ rfl
  have g4:DataW.trod enc prog w base spare held n 54 [c4,c5]=γ y4:=by simpa[ae4] using I 4 _ rfl
  have g5:DataW.trod enc prog w base spare held n 55 [c6]=γ y5:=by simpa[af0] using I 5 _ rfl
  have g6:DataW.trod enc prog w base spare held n 4 [c7]=γ y6:=by simpa[afd] using I 6 _ rfl
  have g7:DataW.trod enc prog w base spare held n 3 [c8]=γ y7:=by simpa[aeN] using I 7 _ rfl
  have g8:DataW.trod enc prog w base spare held n 3 [c9]=γ y8:=by simpa[aeN] using I 8 _ rfl
  have g9:DataW.trod enc prog w base spare held n 3 [c10]=γ y9:=by simpa[aeN] using I 9 _ rfl
  have g10:DataW.trod enc prog w base spare held n 3 [c11]=γ y10:=by simpa[aeN] using I 10 _ rfl
  obtain⟨M,rfl⟩:=zo J;obtain⟨N,rfl⟩:=jB g1;obtain⟨O,rfl⟩:=jB g2;obtain⟨K,rfl⟩:=jB g3;obtain⟨z,rfl,rfl⟩:=sD g4;obtain⟨A,m,c,l,rfl,S,L,_,_,_⟩:=open_arr NC (fun _=>True) underlying55 af2 aa (fun _=>rfl) (fun f cs x Z h=>(MR Z h).imp fun d e=>⟨e,trivial⟩) g5;obtain⟨G,rfl⟩:=Jd g6;obtain⟨D,rfl⟩:=jB g7;obtain⟨C,rfl⟩:=jB g8;obtain⟨F,rfl⟩:=jB g9;obtain⟨B,rfl⟩:=jB g10;exact⟨(⟨M,N,O,K,z,l,G,D,C,F,B⟩,⟨A,m,c⟩),rfl,S,L⟩
theorem Et{r:Reach}{b0:Nat}{v:Value}{d:DataW H}{p:List MemPlace}(hv:Value.okWide prog w r b0 27 v)(h:DataW.Trod enc prog w base spare held 27 v d p):
  ∃A0 n0 c0 A1 n1 c1 A2 n2 c2 A3 n3 c3 L s,v=stV s.name A0 n0 c0 A1 n1 c1 A2 n2 c2 A3 n3 c3/\wP w A0 n0 c0 A1 n1 c1 A2 n2 c2 A3 n3 c3 L s:=by
 obtain⟨cs,rfl,F⟩:=adx underlying27 hv;obtain⟨l⟩:=cs;rw[af5] at F;obtain⟨j,hf⟩:=h;obtain⟨xs,n,_,hx,_,V,D⟩:=aaL underlying27 hf
 match l,F,xs,V with
 |[c0,c1,c2,c3,c4],_,[y0,y1,y2,y3,y4],_=>
  have g0:DataW.trod enc prog w base spare held n 9 [c0]=γ y0:=by simpa[Value.cells,ae1] using D 0 _ rfl
  have g1:DataW.trod enc prog w base spare held n 22 [c1]=γ y1:=by simpa[Value.cells,afV] using D 1 _ rfl
  have g2:DataW.trod enc prog w base spare held n 23 [c2]=γ y2:=by simpa[Value.cells,afX] using D 2 _ rfl
  have g3:DataW.trod enc prog w base spare held n 24 [c3]=γ y3:=by simpa[Value.cells,afW] using D 3 _ rfl
  have g4:DataW.trod enc prog w base spare held n 25 [c4]=γ y4:=by simpa[Value.cells,afY] using D 4 _ rfl
  obtain⟨nm,rfl⟩:=zo g0;obtain⟨A0,n0,k0,l0,rfl,I,J,_,G,O⟩:=open_arr (α:=ByteArray) (fun s=>[Value.string s]) (fun _=>True) underlying22 ae1 aa (fun _=>rfl) (fun f cs x Z h=>by
   match cs,Z with
   |[c],_=>obtain⟨z,rfl⟩:=zo h;exact⟨z,rfl,trivial⟩) g1
  obtain⟨A1,n1,C,l1,rfl,S,K,_,_,P⟩:=open_arr mo (fun _=>True) underlying23 af3 aa (fun _=>rfl) (fun f cs x Z h=>(Mv Z h).imp fun d e=>⟨e,trivial⟩) g2;obtain⟨A2,n2,k2,l2,rfl,T,R,_,_,Q⟩:=open_arr xM (fun _=>True) underlying24 aga aa (fun _=>rfl) (fun f cs x Z h=>(Ou Z h).imp fun d e=>⟨e,trivial⟩) g3;obtain⟨A3,n3,Y,l3,rfl,U,W,B,_,N⟩:=open_arr (fun d:gJ×Hd=>ja d.1 d.2) (TS w) underlying25 afZ aa (fun _=>rfl) (fun f cs x Z h=>Nw Z h) g4;have hb:∀i,i<n3->(l3.map (·.1)).getD i η=(l3.getD i η).1:=fun i hi=>by
   have M:i<l3.length:=aa;rw[φ,φ,I5,ν M];rfl
  refine⟨A0,n0,k0,A1,n1,C,A2,n2,k2,A3,n3,Y,fun i=>(l3.getD i η).2,⟨nm,l0,l1,l2,l3.map (·.1)⟩,rfl,⟨?_,G,⟨O,P,Q,N⟩,S,K,T,R,by simpa using U,?_,?_⟩⟩
  .exact Arr.reads (f:=Value.string) (d:=η) J I
  .exact W.congr fun i hi=>by rw[hb i hi]
  .intro i hi;have:=B i hi;unfold TS at this;rw[<-hb i hi] at this;exact this
def BU{r:Reach}{R:Nat}{v:Value}{d:DataW H}{p:List MemPlace}(hv:Value.okWide prog w r R 31 v)(h:DataW.Trod enc prog w base spare held 31 v d p):
  ∃PA P Y PB N qc K q,v=nu PA P Y PB N qc/\iW w PA P PB N K q:=by
 obtain⟨cs,rfl,D⟩:=adx acO hv;obtain⟨l⟩:=cs;rw[afU] at D;obtain⟨j,W⟩:=h;obtain⟨xs,n,_,hx,_,V,O⟩:=aaL acO W
 match l,D,xs,V with
 |[c0,c1],_,[y0,y1],_=>
  have T:DataW.trod enc prog w base spare held n 28 [c0]=γ y0:=by simpa[Value.cells,af4] using O 0 _ rfl
  have g1:DataW.trod enc prog w base spare held n 29 [c1]=γ y1:=by simpa[Value.cells,afS] using O 1 _ rfl
  obtain⟨A0,n0,k0,l0,rfl,F,J,_,Q,L⟩:=open_arr (α:=Bool) (fun s=>[Value.bool s]) (fun _=>True) acb afd aa (fun _=>rfl) (fun f cs x Z h=>by
   match cs,Z with
   |[c],_=>obtain⟨z,rfl⟩:=Jd h;exact⟨z,rfl,trivial⟩) T
  obtain⟨A1,n1,C,l1,rfl,S,G,B,_,M⟩:=open_arr (α:=List Int×Hd) (fun d=>[d.2.v]) (fun d=>d.1.length=d.2.n/\Arr w d.2.A d.2.n 1 (fun k=>[.int .i64 (d.1.getD k 0)])/\d.2.n<=9223372036854775807) underlying29 af7 aa (fun _=>rfl) (fun f cs x Z h=>by
   match cs,Z with
   |[c],_=>
    obtain⟨A,m,k,l,rfl,S,U,_,_,hm⟩:=open_arr (α:=Int) (fun z=>[Value.int .i64 z]) (fun _=>True) aca aeN aa (fun _=>rfl) (fun f cs x Z h=>by
     match cs,Z with
     |[c],_=>obtain⟨z,rfl⟩:=jB h;exact⟨z,rfl,trivial⟩) h
    exact⟨(l,⟨A,m,k⟩),rfl,S,U,hm⟩) g1
  have hb:∀i,i<n1->(l1.map (·.1)).getD i []=(l1.getD i η).1:=fun i hi=>by
   have I:i<l1.length:=aa;rw[φ,φ,I5,ν I];rfl
  refine⟨A0,n0,k0,A1,n1,C,fun i=>(l1.getD i η).2,⟨l0,l1.map (·.1)⟩,rfl,⟨F,J,by simpa using S,G,?_,?_,L,M,fun i hi=>(B i hi).2.2⟩⟩
  .intro i hi;show((l1.map (·.1)).getD i []).length=_;rw[hb i hi];exact(B i hi).1
  .intro i hi;show Arr w _ _ 1 (fun k=>[.int .i64 (((l1.map (·.1)).getD i []).getD k 0)]);rw[hb i hi];exact(B i hi).2.1
def Ic{r:Reach}{D:Nat}{v:Value}{d:DataW H}{p:List MemPlace}(hv:Value.okWide prog w r D 33 v)(h:DataW.Trod enc prog w base spare held 33 v d p):∃f:dZ,v=oU f:=by
 obtain⟨cs,rfl,C⟩:=adx underlying33 hv;obtain⟨l⟩:=cs;rw[afT] at C;obtain⟨j,K⟩:=h;obtain⟨xs,n,_,O,_,V,B⟩:=aaL underlying33 K
 match l,C,xs,V with
 |[c0,c1,c2,c3,c4,c5],_,[y0,y1,y2,y3,y4,y5],_=>
  have F:DataW.trod enc prog w base spare held n 3 [c0]=γ y0:=by simpa[Value.cells,aeN] using B 0 _ rfl
  have g1:DataW.trod enc prog w base spare held n 4 [c1]=γ y1:=by simpa[Value.cells,afd] using B 1 _ rfl
  have g2:DataW.trod enc prog w base spare held n 3 [c2]=γ y2:=by simpa[Value.cells,aeN] using B 2 _ rfl
  have g3:DataW.trod enc prog w base spare held n 3 [c3]=γ y3:=by simpa[Value.cells,aeN] using B 3 _ rfl
  have g4:DataW.trod enc prog w base spare held n 3 [c4]=γ y4:=by simpa[Value.cells,aeN] using B 4 _ rfl
  have g5:DataW.trod enc prog w base spare held n 3 [c5]=γ y5:=by simpa[Value.cells,aeN] using B 5 _ rfl
  obtain⟨L,rfl⟩:=jB F;obtain⟨M,rfl⟩:=Jd g1;obtain⟨N,rfl⟩:=jB g2;obtain⟨G,rfl⟩:=jB g3;obtain⟨J,rfl⟩:=jB g4;obtain⟨I,rfl⟩:=jB g5;exact⟨⟨L,M,N,G,J,I⟩,rfl⟩
end
open Go.RowKit Go.Deep
def LgP (w:World) (n0 n1 n2 n3:Nat) (e:Ending) (w':World):Prop:=∃b,e=.returned (.bool b)/\Ext w w'/\(b=ζ->n0<=8/\n1<=10/\n2<=8/\n3<=20)
def LgP.yes{w w' n0 n1 n2 n3}(x:Ext w w'):LgP w n0 n1 n2 n3 (.returned (.bool ε)) w':=⟨_,rfl,x,fun h=>by cases h⟩
def LgP.no{w w' n0 n1 n2 n3}(x:Ext w w')(h:n0<=8/\n1<=10/\n2<=8/\n3<=20):LgP w n0 n1 n2 n3 (.returned (.bool ζ)) w':=⟨_,rfl,x,fun _=>h⟩
theorem M3{A0 n0 c0 A1 n1 c1 A2 n2 c2 A3 n3 c3 L s}(w)(hs:wP w A0 n0 c0 A1 n1 c1 A2 n2 c2 A3 n3 c3 L s):
  Calls prog 38 #[stV s.name A0 n0 c0 A1 n1 c1 A2 n2 c2 A3 n3 c3] w (LgP w n0 n1 n2 n3):=by
 have S:=aJ hs;clear hs;unfold stV;by_cases O:8<n0
 .have N:decide ((8:Int)<(n0:Int))=ε:=ae;clear O;exact AaF
 have N:decide ((8:Int)<(n0:Int))=ζ:=ae;by_cases G:10<n1
 .have H:decide ((10:Int)<(n1:Int))=ε:=ae;clear G;exact AaF
 have H:decide ((10:Int)<(n1:Int))=ζ:=ae;by_cases J:8<n2
 .have d3:decide ((8:Int)<(n2:Int))=ε:=ae;clear J;exact AaF
 have d3:decide ((8:Int)<(n2:Int))=ζ:=ae;by_cases K:20<n3
 .have P:decide ((20:Int)<(n3:Int))=ε:=ae;clear K;exact AaF
 have P:decide ((20:Int)<(n3:Int))=ζ:=ae;go_enter func38,ntmps38;(go_wp2_with fail);clear N H d3 P;have l:=aJ (Blk.new w 27 #[.string s.name,.slice A0 n0 c0,.slice A1 n1 c1,.slice A2 n2 c2,.slice A3 n3 c3]);have D:=aJ (Ext.new w (.cells #[.string s.name,.slice A0 n0 c0,.slice A1 n1 c1,.slice A2 n2 c2,.slice A3 n3 c3] 27));generalize (w.alloc (.cells #[.string s.name,.slice A0 n0 c0,.slice A1 n1 c1,.slice A2 n2 c2,.slice A3 n3 c3] 27))=w0 at D l⊢;generalize w.heap.size=g2 at l⊢;have M:Hid (n0<=8/\n1<=10/\n2<=8/\n3<=20):=aJ aa;clear O G J K;go_loopw [3] (fun iv wr=>∃k:Nat,k<=n3/\iv=.int .i64 k/\Ext w0 wr) (fun iv _=>n3-(intOf iv).toNat)
 case atStart=>exact⟨0,aa,rfl,Ext.refl _⟩
 case round=>
  rename World=>wr;obtain⟨k,T,rfl,C⟩:=hrel;have I:=aJ C;clear C;by_cases F:k<n3
  .have hd:decide ((k:Int)<(n3:Int))=ε:=ae;have q1:(0:Int)<=(k:Int):=aa;have q2:(k:Int)<(n3:Int):=aa;have B:Hid (wrap64 ((k:Int)+1)=(k:Int)+1):=aJ (pz _ (by have:=M.o;omega));obtain⟨lb,lo,R,hb,hc⟩:=(S.bays.ext (D.trans I.o)).at_ F;generalize s.bays.getD k η=j at hc;have U:=hc 6 _ rfl;subst R;have Q:=(l.ext I.o).cell;clear hb hc;(go_wp2_with fail);all_goals first
    |(go_ret;exact LgP.yes (D.trans I.o))
    |(refine⟨⟨k+1,aa,by rw[B.o];rfl,I.o⟩,?_⟩;rw[B.o];simp[intOf];omega)
  .have hd:decide ((k:Int)<(n3:Int))=ζ:=ae;obtain rfl:k=n3:=aa;have Q:=(l.ext I.o).cell;(go_wp2_with fail);clear Q hd;go_ret;exact LgP.no (D.trans I.o) M.o
def FnP (w:World) (n0 n1 n2 n3:Nat) (s:StD) (p:dA) (e:Ending) (w':World):Prop:=∃b,e=.returned (.bool b)/\Ext w w'/\(b=ε->(n0<=8/\n1<=10/\n2<=8/\n3<=20)/\chk s=0/\jb s p=0)
def FnP.no{w w' n0 n1 n2 n3 s p}(x:Ext w w'):FnP w n0 n1 n2 n3 s p (.returned (.bool ζ)) w':=⟨_,rfl,x,fun h=>by cases h⟩
def FnP.yes{w w' n0 n1 n2 n3 s p}(x:Ext w w')(b)(h:b=ε->(n0<=8/\n1<=10/\n2<=8/\n3<=20)/\chk s=0/\jb s p=0):FnP w n0 n1 n2 n3 s p (.returned (.bool b)) w':=⟨_,rfl,x,h⟩
theorem NZ{A0 n0 c0 A1 n1 c1 A2 n2 c2 A3 n3 c3 L s PA M N PB J qc K p}(w)(hs:wP w A0 n0 c0 A1 n1 c1 A2 n2 c2 A3 n3 c3 L s)(hp:iW w PA M PB J K p):
  Calls prog 9 #[stV s.name A0 n0 c0 A1 n1 c1 A2 n2 c2 A3 n3 c3,nu PA M N PB J qc] w (FnP w n0 n1 n2 n3 s p):=by
 have W:=aJ hs;have Z:=aJ hp;clear hs hp;unfold stV nu;go_enter func9,ntmps9;(go_wp2_with fail);have F:Ext w ((w.alloc (.cells #[.string s.name,.slice A0 n0 c0,.slice A1 n1 c1,.slice A2 n2 c2,.slice A3 n3 c3] 27)).alloc (.cells #[.slice PA M N,.slice PB J qc] 31)):=(Ext.new _ _).alloc _;have C:Hid (Blk ((w.alloc (.cells #[.string s.name,.slice A0 n0 c0,.slice A1 n1 c1,.slice A2 n2 c2,.slice A3 n3 c3] 27)).alloc (.cells #[.slice PA M N,.slice PB J qc] 31)) w.heap.size 27 #[.string s.name,.slice A0 n0 c0,.slice A1 n1 c1,.slice A2 n2 c2,.slice A3 n3 c3]):=aJ ((Blk.new _ _ _).alloc _);have D:Hid (Blk ((w.alloc (.cells #[.string s.name,.slice A0 n0 c0,.slice A1 n1 c1,.slice A2 n2 c2,.slice A3 n3 c3] 27)).alloc (.cells #[.slice PA M N,.slice PB J qc] 31)) (w.heap.size+1) 31 #[.slice PA M N,.slice PB J qc]):=aJ (aeE _ _ ag);have R:=aJ F;clear F;generalize ((w.alloc (.cells #[.string s.name,.slice A0 n0 c0,.slice A1 n1 c1,.slice A2 n2 c2,.slice A3 n3 c3] 27)).alloc (.cells #[.slice PA M N,.slice PB J qc] 31))=w0 at R C D⊢;generalize w.heap.size+1=g4 at D⊢;generalize w.heap.size=g3 at C⊢;refine(M3 _ (W.ext R.o)).mono ?_;rintro _ w1 ⟨b,rfl,F,hb⟩;have P:=aJ (R.trans F);replace C:=C.aA F;replace D:=D.aA F;clear F R;cases b
 rotate_left
 .clear hb C D;(go_wp2_with fail);go_ret;exact FnP.no P.o
 have Y:=aJ (hb rfl);clear hb;have G:=aJ ((W.ext P.o).is_ (by have:=Y.o;omega));have I:=aJ (Z.ext P.o);clear W Z;have S:=C.cell;(go_wp2_with fail);clear S;refine(FC _ G.o).mono ?_;rintro _ w2 ⟨rfl,F⟩;have O:=aJ (P.trans F);replace G:=G.aA F;replace I:=I.aA F;replace C:=C.aA F;replace D:=D.aA F;clear F P;obtain⟨V,H⟩:∃z,chk s=z:=⟨_,rfl⟩;rw[H];by_cases Q:V=0
 .subst Q;have S:=C.cell;have k4:=D.cell;have U:=aJ H;clear H;(go_wp2_with fail);clear S k4;refine(ES _ _ G.o I.o).mono ?_;rintro _ w3 ⟨rfl,F⟩;have T:=aJ (O.trans F);clear F;obtain⟨B,l⟩:∃z,jb s p=z:=⟨_,rfl⟩;rw[l];have j:=aJ l;clear l;(go_wp2_with fail);go_ret;exact FnP.yes T.o _ (fun h=>⟨Y.o,U.o,by rw[j.o];simpa using h⟩)
 .have hd:decide (V=0)=ζ:=by simpa using Q
  have X9:(V==0)=ζ:=by simpa using Q
  clear H Q;(go_wp2_with fail);go_ret;exact FnP.no O.o
section
variable {k:Int} {s:StD} {p:dA} {f:dZ}
theorem Nr{i:Nat}(j:(s.bays.getD i η).kind=1):j6 s p f i=fun n=>iL (bI s p f) (dK s p f) f n (dY s p (s.bays.getD i η).obj.toNat (s.bays.getD i η).en.toNat):=by
 funext n;unfold j6;simp only[j];rfl
theorem OG{i:Nat}(j:(s.bays.getD i η).kind=1):rQ s p f i=Ol (bI s p f) (dK s p f) f (γ (half s p f (s.bays.getD i η).obj.toNat (s.bays.getD i η).en.toNat)):=by
 funext n;unfold rQ way;rw[ι j]
def NJ(hs:iT s){i:Nat}(hi:i<s.bays.length)(j:(s.bays.getD i η).kind=1):(s.bays.getD i η).obj.toNat<s.lines.length/\((s.bays.getD i η).obj.toNat:Int)=(s.bays.getD i η).obj:=by
 have:=MF (hs.obj i hi) j;omega
end
section
variable {D:GQ} {x y:Nat->GQ} {sh:Nat}
def VL:Wh (GQ.i (-1) 0) (q2 0):=QI aj
def Sc(j:nL x D)(hs:sh<3)(m:Nat):FrP D 2 2257 ((phv x sh m).sc (GQ.i (-1) 0)):=FrP.le ((j.phv hs m).sc VL) aa
def KU(j:nL x D)(hs:sh<3)(a b:Nat):FrP D 2 2258 (phv x sh a+phv x sh b):=FrP.le ((j.phv hs a).add (j.phv hs b)) aa
def Oo(j:nL x D)(hs:sh<3)(a b:Nat):FrP D 2 2258 (phv x sh a+(phv x sh b).sc (GQ.i (-1) 0)):=FrP.le ((j.phv hs a).add (Sc j hs b)) aa
end
def aeX(p:PQ):p.sc (GQ.i 0 0)=PQ.zero:=by ext<;>simp only[PQ.sc,PQ.zero,GQ.aR,GQ.aQ,GQ.bU,GQ.bS]<;>grind
def aft{p q}(h:p+q.sc (GQ.i (-1) 0)=PQ.zero):p=q:=by
 have B:=congrArg (fun z:PQ=>z.u.re) h;have j:=congrArg (fun z:PQ=>z.u.im) h;have C:=congrArg (fun z:PQ=>z.v.re) h;have l:=congrArg (fun z:PQ=>z.v.im) h;simp only[PQ.sc,PQ.zero,PQ.iZ,PQ.iR,GQ.aR,GQ.aQ,GQ.bf,GQ.aY,GQ.bU,GQ.bS] at B j C l;ext<;>grind
def MN{k}(D:1<=k/\k<=10){x y}(h:Cnd k (GQ.i 0 0) (phq x) (phq y)):
  ∀ab∈prs k,∃a:Nat,a<3/\ab.1=(a:Int)/\((ab.2= -1/\phv y (shf k) a=PQ.zero)\/∃b:Nat,b<3/\ab.2=(b:Int)/\phv y (shf k) a=phv y (shf k) b):=by
 have hs:=h.shift (Ii k);have l:k=1\/k=2\/k=3\/k=4\/k=5\/k=6\/k=7\/k=8\/k=9\/k=10:=aa;clear h D;rcases l with rfl|rfl|rfl|rfl|rfl|rfl|rfl|rfl|rfl|rfl
 .have h:=hs.2.2;rw[aeX] at h;intro ab j;obtain rfl:=Z6.1 j;exact⟨0,aa,rfl,.inl ⟨rfl,h⟩⟩
 .have h:=hs.2.2;rw[aeX] at h;intro ab j;obtain rfl:=Z6.1 j;exact⟨1,aa,rfl,.inl ⟨rfl,h⟩⟩
 .have h:=hs.2.2;rw[aeX] at h;intro ab j;obtain rfl:=Z6.1 j;exact⟨2,aa,rfl,.inl ⟨rfl,h⟩⟩
 .have h:=hs.2.2;rw[aeX] at h;intro ab j;obtain rfl:=Z6.1 j;exact⟨0,aa,rfl,.inr ⟨1,aa,rfl,aft h⟩⟩
 .have h:=hs.2.2;rw[aeX] at h;intro ab j;obtain rfl:=Z6.1 j;exact⟨1,aa,rfl,.inr ⟨2,aa,rfl,aft h⟩⟩
 .have h:=hs.2.2;rw[aeX] at h;intro ab j;obtain rfl:=Z6.1 j;exact⟨2,aa,rfl,.inr ⟨0,aa,rfl,aft h⟩⟩
 .have h:=hs.2.2;rw[aeX] at h;have e:=hs.2.1;intro ab j;rcases ψ.1 j with rfl|j
  .exact⟨0,aa,rfl,.inr ⟨1,aa,rfl,e⟩⟩
  rcases ψ.1 j with rfl|j
  .exact⟨0,aa,rfl,.inl ⟨rfl,h⟩⟩
  obtain rfl:=Z6.1 j;exact⟨1,aa,rfl,.inl ⟨rfl,e.symm.trans h⟩⟩
 .have h:=hs.2.2;rw[aeX] at h;have e:=hs.2.1;intro ab j;rcases ψ.1 j with rfl|j
  .exact⟨1,aa,rfl,.inr ⟨2,aa,rfl,e⟩⟩
  rcases ψ.1 j with rfl|j
  .exact⟨1,aa,rfl,.inl ⟨rfl,h⟩⟩
  obtain rfl:=Z6.1 j;exact⟨2,aa,rfl,.inl ⟨rfl,e.symm.trans h⟩⟩
 .have h:=hs.2.2;rw[aeX] at h;have e:=hs.2.1;intro ab j;rcases ψ.1 j with rfl|j
  .exact⟨2,aa,rfl,.inr ⟨0,aa,rfl,e⟩⟩
  rcases ψ.1 j with rfl|j
  .exact⟨2,aa,rfl,.inl ⟨rfl,h⟩⟩
  obtain rfl:=Z6.1 j;exact⟨0,aa,rfl,.inl ⟨rfl,e.symm.trans h⟩⟩
 .have C:=hs.2 0 aa;have l:=hs.2 1 aa;have B:=hs.2 2 aa;rw[aeX] at C l B;intro ab j;rcases ψ.1 j with rfl|j
  .exact⟨0,aa,rfl,.inr ⟨1,aa,rfl,C.trans l.symm⟩⟩
  rcases ψ.1 j with rfl|j
  .exact⟨1,aa,rfl,.inr ⟨2,aa,rfl,l.trans B.symm⟩⟩
  obtain rfl:=Z6.1 j;exact⟨2,aa,rfl,.inr ⟨0,aa,rfl,B.trans C.symm⟩⟩
theorem Hz{s p f}(hs:iT s)(F:lD s.buses.length s.lines.length f){i}(hi:i<s.bays.length)(l:(s.bays.getD i η).kind=1)(Z:f.line=ε)(G:(s.bays.getD i η).obj=f.obj)(n):
  j6 s p f i n-iL (bI s p f) (dK s p f) f n (dK s p f)=rQ s p f i n*zq (if n=0 then (s.lines.getD (s.bays.getD i η).obj.toNat η).z0 else (s.lines.getD (s.bays.getD i η).obj.toNat η).z1) (if (s.bays.getD i η).en.toNat=0 then f.num else f.den-f.num) f.den:=by
 obtain⟨B,C⟩:=NJ hs hi l;have U:(s.bays.getD i η).en.toNat<=1:=by have:=IW (hs.rng i hi);omega
 have hd:=Ms (p:=p) hs F B U n;have j:iB f (s.bays.getD i η).obj.toNat=ε:=by unfold iB;rw[Z,abQ];exact pq (by rw[C,G])
 rw[Nr l,OG l];have hb:(half s p f (s.bays.getD i η).obj.toNat (s.bays.getD i η).en.toNat).b=dK s p f:=by unfold half dK;rw[j,Z];rfl
 rw[oP,hb] at hd;refine hd.trans ?_;congr 1;unfold BrD.zs half;rw[j];simp only[Ad];by_cases D:n=0
 .subst D;rfl
 .rw[θ D,θ aa]
def agl(x):x+PQ.zero.sc (GQ.i (-1) 0)=x:=by ext<;>simp only[PQ.sc,PQ.zero,PQ.iZ,PQ.iR,GQ.aR,GQ.aQ,GQ.bf,GQ.aY,GQ.bU,GQ.bS]<;>grind
def Jp{x y c d:Nat->GQ}{sh:Nat}{z1 z0 N:GQ}(hs:sh<3)(hd:∀n,n<3->d n=x n-y n)(B:d 0=c 0*z0)(l:d 1=c 1*z1)(j:d 2=c 2*z1)(D:N*GQ.i 3 0=z0-z1)(a:Nat):
  (phv y sh a=PQ.zero->phv x sh a=(phv c sh a).sc z1+(phv c sh 0+phv c sh 1+phv c sh 2).sc N)/\
  ∀b,phv y sh a=phv y sh b->phv x sh a+(phv x sh b).sc (GQ.i (-1) 0)=(phv c sh a+(phv c sh b).sc (GQ.i (-1) 0)).sc z1:=by
 refine⟨fun h=> ?_,fun b h=> ?_⟩
 .have e:=DU (sh:=sh) hd a;rw[h,agl] at e;rw[e];exact Sb hs B l j D a
 .have F:=DU (sh:=sh) hd a;have C:=DU (sh:=sh) hd b;rw[<-OL l j a b,<-F,<-C,h];ext<;>simp only[PQ.sc,PQ.iZ,PQ.iR,GQ.aR,GQ.aQ,GQ.bf,GQ.aY,GQ.bU,GQ.bS]<;>grind
def Mj{D x sh}(j:nL x D)(hs:sh<3):FrP D 2 2259 (phv x sh 0+phv x sh 1+phv x sh 2):=FrP.le ((KU j hs 0 1).add ((j.phv hs 2).le aa)) aa
def FrP.bd7{D x h e p}(hp:FrP D h e p)(j:nL x D)(B:e+(h+2250)<4700)(l:h+2250+(h+2250)<4700):Bd p.u 4700/\Bd p.v 4700:=hp.bd j.2.1 j.1 B l
def QL{z1 z0:Imp}{m d}(hd:1<=d):(⟨((m*(z0.r-z1.r):Int):Rat)/((3*d:Int):Rat),((m*(z0.x-z1.x):Int):Rat)/((3*d:Int):Rat)⟩:GQ)*GQ.i 3 0=zq z0 m d-zq z1 m d:=by
 have j:(d:Rat)≠0:=fun e=>by have:=Rat.intCast_inj.1 (e.trans Rat.intCast_zero.symm);omega
 ext<;>simp only[zq,GQ.aR,GQ.aQ,GQ.bX,GQ.cu,GQ.bU,GQ.bS,aan,abo]<;>grind
def Pp{s p f}(H:iT s)(J:lD s.buses.length s.lines.length f)(Z:f.line=ε)(hr:f.r=0){i}(hi:i<s.bays.length)(l:(s.bays.getD i η).kind=1)(ho:(s.bays.getD i η).obj=f.obj){m}(hm:m=if (s.bays.getD i η).en=1 then f.den-f.num else f.num){a b}(W:(a,b)∈prs f.kind)(x ev ec):
  ∃P:PQ,∀w:World,mZ w x->Ph3 w ev (phv (j6 s p f i) (shf f.kind)) 4600->Ph3 w ec (phv (rQ s p f i) (shf f.kind)) 4600->
   Calls prog 13 #[.pointer (γ ⟨x,0,δ⟩),.agg (aM 6 ev).toArray,.agg (aM 6 ec).toArray,.agg (mo (s.lines.getD f.obj.toNat η)).toArray,.int .i64 a,.int .i64 b,.int .i64 m,.int .i64 f.den] w fun r w'=>∃u y,r=.returned (.tuple #[u,y])/\PV w' u P 9500/\PV w' y P 9500/\Ext w w':=by
 have Yq:=J.line Z;have WB:=J.lk Z;have T:=J.kind.2;obtain⟨R,M⟩:=qQ (p:=p) H J;obtain⟨D,hD⟩:=afv (fN:=dK s p f) (f:=f) M R J.r;obtain⟨E,Y⟩:=hD.Uu (way s p f i) (fun b hb=>AO H J hi hb);have K:nL (rQ s p f i) E:=Y;have I:=Ii f.kind;have G:=OO (f:=f) (fN:=dK s p f) M R J.r;rw[hr] at G;simp only[θ (show ¬f.kind=0 by omega)] at G;obtain⟨a',ha,e1,B⟩:=MN ⟨WB,T⟩ G _ W;obtain rfl:a=a':=e1;have U:=IW (H.rng i hi);have WC:(if (s.bays.getD i η).en.toNat=0 then f.num else f.den-f.num)=m:=by
  rw[hm];by_cases N:(s.bays.getD i η).en=1
  .rw[ι N,θ aa]
  .rw[θ N,ι aa]
 have j:∀n,j6 s p f i n-iL (bI s p f) (dK s p f) f n (dK s p f)=rQ s p f i n*zq (if n=0 then (s.lines.getD f.obj.toNat η).z0 else (s.lines.getD f.obj.toNat η).z1) m f.den:=fun n=>by
  have h:=Hz (p:=p) H J hi l Z ho n;rw[WC,ho] at h;exact h
 have F:=H.line f.obj.toNat aa;generalize s.lines.getD f.obj.toNat η=L at j F⊢;rw[pU,pU] at F;have Q:UX L m f.den:=⟨fun z O=>by rcases O with rfl|rfl|rfl|rfl<;>omega,by rw[hm];split<;>omega,aa⟩;have h0:=j 0;have N:=j 1;have h2:=j 2;rw[ι rfl] at h0;rw[θ aj] at N h2;have C:=Jp (x:=j6 s p f i) (y:=fun n=>iL (bI s p f) (dK s p f) f n (dK s p f)) (c:=rQ s p f i) (d:=fun n=>j6 s p f i n-iL (bI s p f) (dK s p f) f n (dK s p f)) I (fun n _=>rfl) h0 N h2 (QL aa) a';rcases B with ⟨e2,O⟩|⟨b',hb,e2,O⟩
 .obtain rfl:b= -1:=e2;refine⟨phv (j6 s p f i) (shf f.kind) a',fun w hc hv V=> ?_⟩;refine(Qy x ev ec _ _ L a' m f.den w hc hv V ha Q ((KU K I 0 1).bd7 K aa aa) ((Mj K I).bd7 K aa aa) _ _ rfl rfl).mono ?_;rintro r w' ⟨u,y,e,p1,p2,S⟩;exact⟨u,y,e,p1.mono aa,by rw[C.1 O];exact p2,S⟩
 .obtain rfl:b=b':=e2;refine⟨phv (j6 s p f i) (shf f.kind) a'+(phv (j6 s p f i) (shf f.kind) b').sc (GQ.i (-1) 0),fun w hc hv V=> ?_⟩;refine(PH x ev ec _ _ L a' b' m f.den w hc hv V ha hb Q ((Oo K I a' b').bd7 K aa aa) _ rfl).mono ?_;rintro r w' ⟨u,y,e,p1,p2,S⟩;exact⟨u,y,e,p1.mono aa,by rw[C.2 b' O];exact p2.mono aa,S⟩
def Blk.Vk{w g n m o t e}(h:Blk w g t (aM n e).toArray)(B:m*6+5<n)(l:o=m*36):w.rangeAt g o (aM 6 fun t=>e (m*6+t)):=fun j v hv=>by
 have C:j<36:=by have:=(μ.1 hv).1;rwa[aW] at this
 rw[h.cell,Ξ,<-hv,l];obtain⟨a,b,rfl,hb⟩:∃a b,j=a*6+b/\b<6:=⟨j/6,j%6,aa,aa⟩;rw[dO (f:=fun t=>e (m*6+t)) hb aa,show m*36+(a*6+b)=(m*6+a)*6+b by omega,dO hb aa]
theorem M4(n:Nat)(e:Nat->En):∀v∈aM n e,mr v=ε:=fun v hv=>by
 unfold aM at hv;rw[ac0] at hv;obtain⟨j,_,l⟩:=hv;unfold En.cells at l;simp only[ψ,RS,aaU] at l;rcases l with rfl|rfl|rfl|rfl|rfl|rfl<;>rfl
theorem Q0(a b:Value)(e:Nat->En)(ha:mr a=ε)(hb:mr b=ε):∀(j:Nat) (v:Value),(ku a b e).toArray[j]? =γ v->mr v=ε:=fun j v hv=>by
 rw[Ξ] at hv;have l:=xx hv;unfold ku at l;simp only[ψ] at l;rcases l with rfl|rfl|l
 .exact ha
 .exact hb
 .exact M4 _ _ v l
def R7{w W W':World}{g GC GV_:Nat}{F ec ev ef:Nat->En}{s:StD}{p:dA}{f:dZ}(I:Ext w W)(J:w.heap.size<=g)(hb:Blk W g 47 (ku (.slice δ 0 0) (.slice δ 0 0) F).toArray)(hs:CK W GC GV_ ec ev ef s p f)(C:W'=puts W g 0 (ku (.slice (γ ⟨GC,0,δ⟩) s.bays.length s.bays.length) (.slice (γ ⟨GV_,0,δ⟩) s.bays.length s.bays.length) ef)):
  Blk W' g 47 (ku (.slice (γ ⟨GC,0,δ⟩) s.bays.length s.bays.length) (.slice (γ ⟨GV_,0,δ⟩) s.bays.length s.bays.length) ef).toArray/\CK W' GC GV_ ec ev ef s p f/\Ext w W':=by
 have m:Mod (fun k=>k=g) W W':=by rw[C];exact Mod.puts _ _ _ _ rfl
 have H:gu (fun k=>k=g) W:=fun k G _=>by
  obtain rfl:k=g:=G;exact⟨_,_,hb,Q0 _ _ _ rfl rfl⟩
 have l:=bR 0 (ku (.slice (γ ⟨GC,0,δ⟩) s.bays.length s.bays.length) (.slice (γ ⟨GV_,0,δ⟩) s.bays.length s.bays.length) ef) hb;rw[fU _ _ (by rw[iK,iK]),<-C] at l;have gv:∀{v:Value} {q:GQ} {n:Nat},GV W v q n->GV W' v q n:=fun h=>h.fo m H;have B:∀{e:Nat->En} {P:Nat->PQ},Ph3 W e P 4600->Ph3 W' e P 4600:=fun h j D=>⟨gv (h j D).1,gv (h j D).2⟩;exact⟨l,⟨hs.bc.mod m (Blk.eF hs.bc hb aj),hs.bv.mod m (Blk.eF hs.bv hb aj),fun i hi=>B (hs.c i hi),fun i hi=>B (hs.v i hi),B hs.fc,B hs.fv⟩,fC I m (fun k e=>by have e:k=g:=e;omega)⟩
inductive NL where
 |any
 |two (p:PQ) (n:Nat)
 |pt
def NL.holds:NL->Nat->Nat->Value->World->Prop
 | .any,_,_,_,_=>True
 | .two p n,_,_,v,w=>∃u y,v=.tuple #[u,y]/\PV w u p n/\PV w y p n
 | .pt,lo,hi,v,_=>v=.pointer (γ ⟨lo,0,δ⟩)/\lo<hi
def afK(f:NL){lo hi v w w'}(h:f.holds lo hi v w)(x:∀u p n,PV w u p n->PV w' u p n):f.holds lo hi v w':=by
 cases f with
 |any=>trivial
 |two p n=>obtain⟨u,y,e,l,j⟩:=h;exact⟨u,y,e,x _ _ _ l,x _ _ _ j⟩
 |pt=>exact h
def K7:List (Nat×NL)->Nat->NL
 |[],_=> .any
 |p::r,i=>bif Nat.beq p.1 i then p.2 else K7 r i
def VJ:List (Nat×NL)->Nat->Bool
 |[],_=>ζ
 |p::r,i=>Nat.beq p.1 i||VJ r i
def NLs (l:List (Nat×NL)):Nat->Nat->Nat->Value->World->Prop:=fun i lo hi v w=>(K7 l i).holds lo hi v w
def PdL:Nat->Nat->Nat->Value->World->Prop:=fun i lo hi _ w=>[34,35].contains i=ε->lo<hi/\Blk w lo 44 (aM 2 fun _=>zEn).toArray
def PoL (P:PQ):Nat->Nat->Nat->Value->World->Prop:=fun _ lo hi _ w=>lo<hi/\∃f:Nat->En,Blk w lo 44 (aM 2 f).toArray/\PV w (.agg (aM 2 f).toArray) P 9500
def Sto.pv{g w w'}(h:Sto g w w')(u p n)(N:PV w u p n):PV w' u p n:=by
 obtain⟨e,rfl,l,j⟩:=N.row;exact aeR (h.gv l) (h.gv j)
def zT{k j}(h:SG [(36,34),(37,35)] k=γ j):(k=36/\j=34)\/(k=37/\j=35):=by simpa using AB h
theorem VM{ops w0}(P)(nl:List (Nat×NL))(G:anc ops ops.size 36 34=ε)(F:anc ops ops.size 37 35=ε)(D:K7 nl 36=.any)(l:K7 nl 37=.any):Late ops w0 (NLs nl) PdL (PoL P) (SG [(36,34),(37,35)]):=by
 refine⟨fun i lo hi v w w' h x=>afK _ h (fun u p n N=>N.ext x),fun i lo hi v g w w' h x=>afK _ h x.pv,fun i lo hi v w w' h x hc=>⟨(h hc).1,(h hc).2.ext x⟩,fun i lo hi v g w w' h x C hc=>⟨(h hc).1,x.blk (h hc).2 (show lo≠g by have:=(h hc).1;omega)⟩,fun i lo hi v w w' h x=> ?_,fun i lo hi v g w w' h x C=> ?_,fun k j hs=> ?_,fun k H j hs B=> ?_,fun k j hs=> ?_,fun k j lo hi v w hs=> ?_⟩
 .obtain⟨a,f,b,c⟩:=h;exact⟨a,f,b.ext x,c.ext x⟩
 .obtain⟨a,f,b,c⟩:=h;exact⟨a,f,x.blk b (show lo≠g by omega),x.pv _ _ _ c⟩
 .rcases zT hs with ⟨rfl,rfl⟩|⟨rfl,rfl⟩<;>assumption
 .have a:=zT hs;have b:=zT B;omega
 .rcases zT hs with ⟨rfl,rfl⟩|⟨rfl,rfl⟩<;>rfl
 .rcases zT hs with ⟨rfl,rfl⟩|⟨rfl,rfl⟩<;>(unfold NLs;first|rw[D]|rw[l])<;>trivial
def RD{ev:Operand->Value}{o}{x y:Operand}{g w}(f)(B:o.op=.store 44 x y)(F:ev x=.pointer (γ ⟨g,0,δ⟩))(C:ev y=.agg (aM 2 f).toArray)(hb:Blk w g 44 (aM 2 fun _=>zEn).toArray):∃w',(execOp ev o).run prog w=.ok .skip w'/\Sto g w w'/\Blk w' g 44 (aM 2 f).toArray:=by
 have W:(Instr.storeAt 44 (.pointer (γ ⟨g,0,δ⟩)) (.agg (aM 2 f).toArray)).run prog w=.ok () (w.setCells g 0 (aM 2 f)):=by
  have D:=run_storeAt_mid (P:=prog) w g 0 44 (aM 2 f).toArray (dF (f:=f) hb) (dL f) (acu (bY 2 f));exact D
 refine⟨w.setCells g 0 (aM 2 f),?_,?_,?_⟩
 .exact Abi
 .rw[jq];have T:=fD w g 0 (aM 2 f);exact⟨T.os,T.tape,T.output,xR g _ _ _,fun i j=>vk g _ _ _ i j,⟨_,_,hb,dm _ _⟩⟩
 .rw[jq];have l:=bR 0 (aM 2 f) hb;rw[fU _ _ (by rw[aW,aW])] at l;exact l
def Qx{ev:Operand->Value}{o}{x y:Operand}{j lo hi v w P}(f)(D:o.op=.store 44 x y)(I:ev x=.pointer (γ ⟨lo,0,δ⟩))(F:ev y=.agg (aM 2 f).toArray)(B:lo<hi/\Blk w lo 44 (aM 2 fun _=>zEn).toArray)(G:PV w (.agg (aM 2 f).toArray) P 9500):∃w',(execOp ev o).run prog w=.ok .skip w'/\Sto lo w w'/\PoL P j lo hi v w':=by
 obtain⟨w',C,l,H⟩:=RD f D I F B.2;exact⟨w',C,l,B.1,f,H,l.pv _ _ _ G⟩
section
variable {P:Program} {ops:Array Oper} {w0:World} {E:Nat->Bool} {Φ Pd Po:Nat->Nat->Nat->Value->World->Prop} {S:Nat->Option Nat} {Q:Book->Act->Prop}
theorem LK{l o k j F a}{e:Value×Nat×Nat}(G:ops[k]? =γ o)(K:Region.wanted o (yielded ops a.tmps)=ε)(Y:E k=ε)(hS:S k=γ j)(hF:F j=γ e)(C:e.2.1<e.2.2)(hd:o.dst=δ)(I:∀lo hi v w',Φ k lo hi v w')(H:∀w,(∀i e,F i=γ e->anc ops ops.size k i=ε->Φ i e.2.1 e.2.2 e.1 w)->Pd j e.2.1 e.2.2 e.1 w->∃w',(execOp a.eval o).run P w=.ok .skip w'/\Sto e.2.1 w w'/\Po j e.2.1 e.2.2 e.1 w')(D:∀x,rz P ops w0 E Φ Pd Po S Q l (k+1) (F.set k x) a):rz P ops w0 E Φ Pd Po S Q (o::l) k F a:=by
 unfold rz p9;simp only[G,K,Y,Ad];refine⟨fun L B=>(by rw[hS] at B;cases B;exact⟨e,hF,C⟩),fun w J=> ?_,fun v lo hi _=>(by rw[hd];exact D (v,lo,hi))⟩;obtain⟨w',M,hs,hp⟩:=H w J.2.1 (J.2.2 j e hS hF);exact AaY
end
theorem Rm(k):(prs k).length<=3:=by
 unfold prs
 repeat' split
 all_goals simp
def OB(l):(prog.info? 63).map (·.size)=γ (mo l).length:=ah
theorem Ow{A0 n0 c0 A1 n1 c1 A2 n2 c2 A3 n3 c3 L s PA pn pc PB qn qc K p}(f w)(hs:wP w A0 n0 c0 A1 n1 c1 A2 n2 c2 A3 n3 c3 L s)(hp:iW w PA pn PB qn K p):
  CE 3 #[stV s.name A0 n0 c0 A1 n1 c1 A2 n2 c2 A3 n3 c3,nu PA pn pc PB qn qc,oU f] w (.bool ε):=by
 have HS:=aJ hs;have HP:=aJ hp;have XR:=aJ hs;clear hs hp;unfold stV nu oU;go_enter func3,ntmps3;(go_wp2_with fail);have F:Ext w (((w.alloc (.cells #[.string s.name,.slice A0 n0 c0,.slice A1 n1 c1,.slice A2 n2 c2,.slice A3 n3 c3] 27)).alloc (.cells #[.slice PA pn pc,.slice PB qn qc] 31)).alloc (.cells #[.int .i64 f.kind,.bool ε,.int .i64 f.obj,.int .i64 f.num,.int .i64 f.den,.int .i64 0] 33)):=((Ext.new _ _).alloc _).alloc _;have Wm:Hid (Blk (((w.alloc (.cells #[.string s.name,.slice A0 n0 c0,.slice A1 n1 c1,.slice A2 n2 c2,.slice A3 n3 c3] 27)).alloc (.cells #[.slice PA pn pc,.slice PB qn qc] 31)).alloc (.cells #[.int .i64 f.kind,.bool ε,.int .i64 f.obj,.int .i64 f.num,.int .i64 f.den,.int .i64 0] 33)) w.heap.size 27 #[.string s.name,.slice A0 n0 c0,.slice A1 n1 c1,.slice A2 n2 c2,.slice A3 n3 c3]):=aJ (((Blk.new _ _ _).alloc _).alloc _);have Ww:Hid (Blk (((w.alloc (.cells #[.string s.name,.slice A0 n0 c0,.slice A1 n1 c1,.slice A2 n2 c2,.slice A3 n3 c3] 27)).alloc (.cells #[.slice PA pn pc,.slice PB qn qc] 31)).alloc (.cells #[.int .i64 f.kind,.bool ε,.int .i64 f.obj,.int .i64 f.num,.int .i64 f.den,.int .i64 0] 33)) (w.heap.size+1) 31 #[.slice PA pn pc,.slice PB qn qc]):=aJ ((aeE _ _ ag).alloc _);have Wt:Hid (Blk (((w.alloc (.cells #[.string s.name,.slice A0 n0 c0,.slice A1 n1 c1,.slice A2 n2 c2,.slice A3 n3 c3] 27)).alloc (.cells #[.slice PA pn pc,.slice PB qn qc] 31)).alloc (.cells #[.int .i64 f.kind,.bool ε,.int .i64 f.obj,.int .i64 f.num,.int .i64 f.den,.int .i64 0] 33)) (w.heap.size+1+1) 33 #[.int .i64 f.kind,.bool ε,.int .i64 f.obj,.int .i64 f.num,.int .i64 f.den,.int .i64 0]):=aJ (aeE _ _ ag);have HX:=aJ F;clear F;generalize (((w.alloc (.cells #[.string s.name,.slice A0 n0 c0,.slice A1 n1 c1,.slice A2 n2 c2,.slice A3 n3 c3] 27)).alloc (.cells #[.slice PA pn pc,.slice PB qn qc] 31)).alloc (.cells #[.int .i64 f.kind,.bool ε,.int .i64 f.obj,.int .i64 f.num,.int .i64 f.den,.int .i64 0] 33))=w0 at HX Wm Ww Wt⊢;generalize w.heap.size+1+1=g5 at Wt⊢;generalize w.heap.size+1=g4 at Ww⊢;generalize w.heap.size=g3 at Wm⊢;refine(NZ _ (HS.ext HX.o) (HP.ext HX.o)).mono ?_;rintro _ w1 ⟨b,rfl,F,hb⟩;have HW:=aJ (HX.trans F);replace Wm:=Wm.aA F;replace Ww:=Ww.aA F;replace Wt:=Wt.aA F;clear F HX;cases b
 .clear hb Wm Ww Wt;(go_wp2_with fail);go_ret;exact⟨rfl,HW.o⟩
 have HT:=aJ (hb rfl);clear hb;have Wp:=aJ ((HS.ext HW.o).is_ (by have:=HT.o;omega));have XJ:=aJ (HP.ext HW.o);clear HS HP;have k3:=Wm.cell;have k5:=Wt.cell;(go_wp2_with fail);clear k3 k5;refine(yA _ Wp.o ⟨f.kind,ε,f.obj,f.num,f.den,0⟩).mono ?_;rintro _ w2 ⟨rfl,F⟩;have WN:=aJ (HW.trans F);replace Wp:=Wp.aA F;replace XJ:=XJ.aA F;replace Wm:=Wm.aA F;replace Ww:=Ww.aA F;replace Wt:=Wt.aA F;clear F HW;obtain⟨ck,Wu⟩:∃z,FB s ⟨f.kind,ε,f.obj,f.num,f.den,0⟩=z:=⟨_,rfl⟩;rw[Wu];by_cases h0:ck=0
 rotate_left
 .have hd:(ck !=0)=ε:=by simpa using h0
  have k3:=Wm.cell;have k5:=Wt.cell;clear Wu h0;(go_wp2_with fail);go_ret;exact⟨rfl,WN.o⟩
 subst h0;have YB:=aJ Wu;clear Wu;have k3:=Wm.cell;have k4:=Ww.cell;have k5:=Wt.cell;by_cases hk:f.kind=0
 .have hd:(f.kind==0)=ε:=by simpa using hk
  clear hk;(go_wp2_with fail);go_ret;exact⟨rfl,WN.o⟩
 have hd:(f.kind==0)=ζ:=by simpa using hk
 have V:=aJ hk;clear hk;have Xp:Hid (iF s.buses.length s.lines.length ⟨f.kind,ε,f.obj,f.num,f.den,0⟩=0):=aJ (by have Q:=YB.o;unfold FB at Q;rwa[ι HT.o.2.1] at Q);(go_wp2_with fail);clear k3 k4 k5 hd;refine(solve_run ⟨f.kind,ε,f.obj,f.num,f.den,0⟩ _ Wp.o XJ.o HT.o.2.1 HT.o.2.2 Xp.o).mono ?_;rintro _ w3 ⟨GC,GV_,ec,ev,ef,rfl,Xo,F⟩;have Wl:=aJ Xo;have WZ:=aJ (WN.trans F);replace Wp:=Wp.aA F;replace Wm:=Wm.aA F;replace Wt:=Wt.aA F;have XA:=Wm.lt;have XC:=Wt.lt;clear Xo F Ww XJ YB;(go_wp2_with (refine aS rfl 47 rfl _ Gg (fun wA Q=>Hid.o ?_)));refine aJ ?_;refine Qp ?_;replace Q:=Hid.o Q;have F:Ext w3 wA:=by rw[Q];exact Ext.new _ _
 have Xk:Blk wA w3.heap.size 47 (ku (.slice δ 0 0) (.slice δ 0 0) fun _=>zEn).toArray:=by rw[Q];exact Blk.new _ _ _
 have X6:=aJ (show w.heap.size<=w3.heap.size from WZ.size);have WV:=aJ (Wl.ext F);have Xj:=aJ (WZ.trans F);have WP:=aJ Xk;replace Wp:=Wp.aA F;replace Wm:=Wm.aA F;replace Wt:=Wt.aA F;have WM:=aJ (show g3≠w3.heap.size/\g5≠w3.heap.size from ⟨adP XA,adP XC⟩);clear Q Xk F Wl WZ XA XC;generalize w3.heap.size=g7 at X6 WP WM⊢;have O:Hid (World.there wA g7 0 (ku (.slice (γ ⟨GC,0,δ⟩) s.bays.length s.bays.length) (.slice (γ ⟨GV_,0,δ⟩) s.bays.length s.bays.length) ef).length):=aJ (WP.there Ab8);(go_wp2_with (refine aL rfl 47 (.tmp 7) (.tmp 39) rfl g7 (0) (ku (.slice (γ ⟨GC,0,δ⟩) s.bays.length s.bays.length) (.slice (γ ⟨GV_,0,δ⟩) s.bays.length s.bays.length) ef) rf rf O.o (sQ _ _ _) (Dv _ _ _ rfl rfl) (fun wT Q=>Hid.o ?_)));refine aJ ?_;refine Qp ?_;replace Q:=Hid.o Q;have WW:=R7 Xj.o X6.o WP.o WV.o Q;have XE:Mod (fun k=>k=g7) wA wT:=by rw[Q];exact Mod.puts _ _ _ _ rfl
 replace Wm:=aJ (Blk.mod Wm.o XE WM.o.1);replace Wt:=aJ (Blk.mod Wt.o XE WM.o.2);have Y:=aJ WW.1;have Wl:=aJ WW.2.1;have Xe:=aJ WW.2.2;replace Wp:=aJ ((XR.ext Xe.o).is_ (by have:=HT.o.1;omega));clear WW XE Q O WP WV Xj XR;have Wx:=Wp.l3;have S:=Wp.l1;subst Wx;subst S;have k3:=Wm.cell;have X8:wT.cell? ⟨g7,0,δ⟩=γ (.slice (γ ⟨GC,0,δ⟩) s.bays.length s.bays.length):=(Y.cell 0).trans rfl;have X5:wT.cell? ⟨g7,1,δ⟩=γ (.slice (γ ⟨GV_,0,δ⟩) s.bays.length s.bays.length):=(Y.cell 1).trans rfl;(go_wp2_with fail);clear k3 X8 X5;have WK:Ext wT (wT.alloc (.cells #[.bool ζ] 52)):=Ext.new _ _;have Xm:=aJ (show mZ (wT.alloc (.cells #[.bool ζ] 52)) wT.heap.size from Blk.new _ _ _);replace Wp:=Wp.aA WK;replace Wm:=Wm.aA WK;replace Wt:=Wt.aA WK;replace Y:=Y.aA WK;replace Wl:=Wl.aA WK;replace Xe:=Xe.aC WK;clear WK;generalize (wT.alloc (.cells #[.bool ζ] 52))=wX at Xm Wp Wm Wt Y Wl Xe⊢;generalize wT.heap.size=gX at Xm⊢;have WH:=aJ (xh HT.o.2.1);have XF:=aJ (afk Xp.o);have Yq:=XF.line rfl;have Xa:=XF.kind;have Xw:=V.o;have Xt:=aJ Yq;have XP:Hid (1<=f.kind/\f.kind<=10):=aJ (by have h1:0<=f.kind:=Xa.1;have h2:f.kind<=10:=Xa.2;omega);clear Yq Xa Xw;go_loopw [10] (fun iv wr=>∃i:Nat,i<=s.bays.length/\iv=.int .i64 i/\Ext wX wr) (fun iv _=>s.bays.length-(intOf iv).toNat)
 case atStart=>exact⟨0,aa,rfl,Ext.refl _⟩
 case round=>
  rename World=>wr;obtain⟨i,hi,rfl,WY⟩:=hrel;have I:=aJ WY;clear WY;have YE:s.bays.length<=16:=WH.nq;have k3:=(Wm.ext I.o).cell;by_cases Wj:i<s.bays.length
  rotate_left
  .obtain rfl:i=s.bays.length:=aa;have X9:decide ((s.bays.length:Int)<(s.bays.length:Int))=ζ:=ag;(go_wp2_with fail);clear k3 X9;go_ret;exact⟨rfl,Xe.trans I.o⟩
  have X9:decide ((i:Int)<(s.bays.length:Int))=ε:=ae;have q1:(0:Int)<=(i:Int):=aa;have q2:(i:Int)<(s.bays.length:Int):=aa;obtain⟨b,WU⟩:∃b,s.bays.getD i η=b:=⟨_,rfl⟩;obtain⟨gb,ob,X7,WL,Xb⟩:=(Wp.ext I.o).bays.at_ Wj;rw[WU] at Xb;have WO:=aJ WU;clear WU;subst X7;have Wn:=aJ (show wr.rangeAt gb (ob+i*12) (ja b (L i)) from Xb);clear Xb WL;(go_wp2_with (refine σ rfl 57 _ rfl gb (ob+i*12) rf (ja b (L i)) _ Wn.o abD rfl mG (Hid.o ?_)));refine aJ ?_;refine Qp ?_;(go_wp2_with (refine aS rfl 57 rfl _ wH (fun Yw Q=>Hid.o ?_)));refine aJ ?_;refine Qp ?_;replace Q:=Hid.o Q;have Xx:=aJ Q;clear Q;have O:Hid (Yw.there wr.heap.size 0 (ja b (L i)).length):=aJ (by rw[Xx.o];exact(Blk.new wr 57 pQ.toArray).there (show 0+(ja b (L i)).length<=pQ.toArray.size from κ 12));(go_wp2_with (refine aL rfl 57 (.tmp 11) (.tmp 74) rfl wr.heap.size (0) (ja b (L i)) rf rf O.o mG (yR _ _) (fun Xq Q=>Hid.o ?_)));refine aJ ?_;refine Qp ?_;replace Q:=Hid.o Q;have HO:=yO Xx.o Q;have Wy:=aJ HO.1;replace I:=I.aC HO.2;clear HO Xx Q Wn O k3 X9;generalize wr.heap.size=Xh at Wy⊢;have kk:Xq.cell? ⟨Xh,1,δ⟩=γ (.int .i64 b.kind):=(Wy.cell 1).trans rfl;have ko:Xq.cell? ⟨Xh,2,δ⟩=γ (.int .i64 b.obj):=(Wy.cell 2).trans rfl;have ke:Xq.cell? ⟨Xh,3,δ⟩=γ (.int .i64 b.en):=(Wy.cell 3).trans rfl;have k5:=(Wt.ext I.o).cell;by_cases h1:b.kind=1
  rotate_left
  .have Xw:(b.kind !=1)=ε:=by simpa using h1
   go_wp2_with fail
   exact AcF
  have Xw:(b.kind !=1)=ζ:=by simpa using h1
  have H1:=aJ h1;clear h1;by_cases h2:b.obj=f.obj
  rotate_left
  .have WF:(b.obj !=f.obj)=ε:=by simpa using h2
   go_wp2_with fail
   exact AcF
  have WF:(b.obj !=f.obj)=ζ:=by simpa using h2
  have H2:=aJ h2;clear h2;obtain⟨m,hm⟩:∃m:Int,m=if b.en=1 then f.den-f.num else f.num:=⟨_,rfl⟩;have HM:=aJ hm;by_cases U:b.en=1
  case' pos=>
   have WC:(b.en==1)=ε:=by rw[U];rfl
   rw[ι U] at hm;have hw:wrap64 (f.den-f.num)=f.den-f.num:=pz _ (by have Q:=Xt.o;have a1:2<=f.den/\f.den<=16:=Q.2.1;have a2:1<=f.num/\f.num<=f.den-1:=Q.2.2;omega);subst hm;clear U;(go_wp2_with fail);rw[hw];clear hw WC
  case' neg=>
   have WC:(b.en==1)=ζ:=by simpa using U
   rw[θ U] at hm;subst hm;clear U;(go_wp2_with fail);clear WC
  all_goals
   clear kk ko ke k5 Xw WF;refine(NB f.kind XP.o _).mono ?_;rintro _ w5 ⟨G,o,cc,rfl,_,Xi,F⟩;obtain⟨N,hN⟩:∃N,(prs f.kind).length=N:=⟨_,rfl⟩;rw[hN];have HN:=aJ hN;have XG:=aJ Xi;replace I:=I.aC F;clear hN Xi F Wy;go_wp2_with fail
   go_loopw [14] (fun nv wq=>∃n:Nat,n<=N/\nv=.int .i64 n/\Ext w5 wq) (fun nv _=>N-(intOf nv).toNat)
   case atStart=>exact⟨0,aa,rfl,Ext.refl _⟩
   case round=>
    rename World=>wq;obtain⟨n,hn,rfl,WJ⟩:=hrel;have HQ:=aJ WJ;clear WJ;have Yd:N<=3:=by rw[<-HN.o];exact Rm _
    by_cases WE:n<N
    rotate_left
    .obtain rfl:n=N:=aa;have Xc:decide ((n:Int)<(n:Int))=ζ:=ag
     go_wp2_with fail
     go_roundw
     case rel=>exact⟨i+1,aa,au,I.trans HQ.o⟩
     case measure=>simp[intOf];omega
    have Xc:decide ((n:Int)<(N:Int))=ε:=ae;obtain⟨⟨a,c⟩,Ws⟩:∃ab,(prs f.kind)[n]? =γ ab:=⟨_,ν (by rw[HN.o];exact WE)⟩;obtain⟨Xd,XX⟩:=XG.o n a c Ws;obtain⟨P,hP⟩:=Pp (p:=resolve 0 p) (f:=⟨f.kind,ε,f.obj,f.num,f.den,0⟩) WH.o XF.o rfl rfl Wj Ac4 (by rw[WO.o];exact H2.o) (HM.trans (by rw[WO.o])) (xx Ws) gX (fun j=>ev (i*6+j)) (fun j=>ec (i*6+j));clear Ws;obtain⟨l,Z⟩:∃l:Nat,f.obj=(l:Int):=⟨f.obj.toNat,by have Q:=Xt.o;have a1:0<=f.obj/\f.obj<s.lines.length:=Q.1;omega⟩;have Xl:l<s.lines.length:=by have Q:=Xt.o;have a1:0<=f.obj/\f.obj<s.lines.length:=Q.1;omega
    have Ym:Ext wX wq:=I.trans HQ.o;obtain⟨gl,ol,YI,XQ,XK⟩:=(Wp.ext Ym).lines.at_ Xl;subst YI;have XL:=aJ (show wq.rangeAt gl (ol+l*5) (mo (s.lines.getD l η)) from XK);clear XK XQ;have WI:Hid (s.lines.getD f.obj.toNat η=s.lines.getD l η):=aJ (by rw[Z];rfl);rw[WI.o] at hP;generalize s.lines.getD l η=LN at hP XL WI;clear WI;have XU:=aJ hP;clear hP;have D:Blk wq g5 33 #[.int .i64 f.kind,.bool ε,.int .i64 (l:Int),.int .i64 f.num,.int .i64 f.den,.int .i64 0]:=by have Q:=Wt.ext Ym;rwa[Z] at Q
    have WS:=aK.blk D;have YY:=aK.cell (show wq.cell? ⟨g7,0,δ⟩=γ (.slice (γ ⟨GC,0,δ⟩) s.bays.length s.bays.length) from ((Y.ext Ym).cell 0).trans rfl);have ac:=aK.cell (show wq.cell? ⟨g7,1,δ⟩=γ (.slice (γ ⟨GV_,0,δ⟩) s.bays.length s.bays.length) from ((Y.ext Ym).cell 1).trans rfl);have Wz:=aK.blk (Wm.ext Ym);have Ya:=aK.cell (HQ.cell_ Xd);have Yb:=aK.cell (HQ.cell_ XX);have H:=aJ Ym;have HV:=aJ (Wl.bv.ext Ym);have HC:=aJ (Wl.bc.ext Ym);have p1:(0:Int)<=(l:Int):=aa;have p2:(l:Int)<(s.lines.length:Int):=aa;have p3:(0:Int)<=(n:Int):=aa;have p4:(n:Int)<(N:Int):=aa;clear Ym Z D Xd XX;(go_wp2_with fail);refine tJ 37 (VJ [(30,.any),(34,.any),(35,.any),(36,.any)]) (NLs [(30,.two P 9500),(34,.pt),(35,.pt)]) PdL (PoL P) (SG [(36,34),(37,35)]) (VM P _ ah ah rf rf) ah ah ?_;refine Qd ?_;refine lK 30 rf ah ?_;refine Qd ?_;(iterate 5 (go_big_quiet_step (fail)));refine dH rf 45 _ rfl _ _ rf (aM 6 fun t=>ev (i*6+t)) _ (by rintro W ⟨x,rfl⟩;exact(HV.ext x.ext).Vk (m:=i) aa aa) aam rfl (jZ _) ?_;refine Qp ?_;(iterate 4 (go_big_quiet_step (fail)));refine dH rf 45 _ rfl _ _ rf (aM 6 fun t=>ec (i*6+t)) _ (by rintro W ⟨x,rfl⟩;exact(HC.ext x.ext).Vk (m:=i) aa aa) aam rfl (jZ _) ?_;refine Qp ?_;(iterate 5 (go_big_quiet_step (fail)));refine dH rf 63 _ rfl _ _ rf (mo LN) _ (by rintro W ⟨x,rfl⟩;exact fun t v hv=>x.ext.cell_ (XL.o t v hv)) acP rfl (OB _) ?_;refine Qp ?_;(repeat (go_big_quiet_step (fail)));refine τ ?_;refine jL rf rf rf rf ?_ ?_
    .intro T hW J;clear J;go_simp;refine⟨rfl,(XU.o T (Xm.ext (H.trans hW)) ((Wl.v i Wj).ext (H.trans hW)) ((Wl.c i Wj).ext (H.trans hW))).mono ?_⟩;rintro e w' ⟨u,y,U,h1,h2,hx⟩;exact⟨_,U,hx,(fun h=>absurd h aj),u,y,rfl,h1,h2⟩
    intro X4 Yk Yj WA;obtain⟨T,Wv⟩:=WA;obtain⟨u,y,rfl,-,-⟩:NL.holds (.two P 9500) Yk Yj X4 T:=Wv.get;clear Wv T;refine Qp ?_;refine lK 3 rf ah ?_;refine Qd ?_;(repeat (go_big_quiet_step (fail)));refine τ ?_;refine jL rf rf rf rf ?_ ?_
    .exact Aay
    intro v_ W9 WB WA;obtain⟨T,Wv⟩:=WA;obtain⟨rfl,WG⟩:NL.holds .pt W9 WB v_ T:=Wv.get;clear Wv T;refine Qp ?_;refine jL rf rf rf rf ?_ ?_
    .exact Aay
    intro v_ WQ Xu WA;obtain⟨T,Wv⟩:=WA;obtain⟨rfl,XB⟩:NL.holds .pt WQ Xu v_ T:=Wv.get;clear Wv T;refine Qp ?_;refine LK (j:=34) (e:=(.pointer (γ ⟨W9,0,δ⟩),W9,WB)) rf rf rf rf rf WG rf (fun _ _ _ _=>trivial) ?_ ?_
    .intro T hA hP;obtain⟨u',y',e_,pu,-⟩:NL.holds (.two P 9500) Yk Yj (.tuple #[u,y]) T:=hA 30 (.tuple #[u,y],Yk,Yj) rf ah;obtain⟨rfl,rfl⟩:u=u'/\y=y':=by simpa using e_
     obtain⟨fu,rfl,-,-⟩:=pu.row;exact Qx fu rf rf rf (hP rf) pu
    intro Yc;refine Qp ?_;refine FH ?_;intro wE J;obtain⟨u',y',e_,-,XI⟩:NL.holds (.two P 9500) Yk Yj (.tuple #[u,y]) wE:=J.at_ 30 (e:=(.tuple #[u,y],Yk,Yj)) rf;obtain⟨rfl,rfl⟩:u=u'/\y=y':=by simpa using e_
    obtain⟨-,fu,Xz,XZ⟩:PoL P 34 W9 WB (.pointer (γ ⟨W9,0,δ⟩)) wE:=J.post 36 34 (.pointer (γ ⟨W9,0,δ⟩),W9,WB) _ rf rf rf;have B:Blk wE WQ 44 (aM 2 fun _=>zEn).toArray:=((show PdL 35 WQ Xu (.pointer (γ ⟨WQ,0,δ⟩)) wE from J.pend 37 35 (.pointer (γ ⟨WQ,0,δ⟩),WQ,Xu) rf rf rf) rf).2;have XT:wq.heap.size<=WQ:=J.low 35 (.pointer (γ ⟨WQ,0,δ⟩),WQ,Xu) rf;have Wo:W9≠WQ:=Km WG XB (J.disj 34 35 (.pointer (γ ⟨W9,0,δ⟩),W9,WB) (.pointer (γ ⟨WQ,0,δ⟩),WQ,Xu) aj rf rf);have M:=J.ext;obtain⟨C,rfl,-,-⟩:=XI.row;have R:=aJ M;have XH:=aJ XZ;have XO:=aJ XI;have XD:=aJ Xz;have WR:=aJ B;have HL:=aJ (And.intro XT Wo);have WT:=aJ (dF (f:=C) B);clear J e_ XZ XI Xz B WG XB XT Wo M WS YY ac Wz Ya Yb HV HC XL XU;refine aL rfl 44 (.tmp 16) (.tmp 137) rfl WQ 0 (aM 2 C) rf rf WT.o (dL C) (bY 2 C) (fun w9 Q=> ?_);refine Qp ?_;replace Q:=Hid.o Q;have hG:=eZ R.o HL.o.1 WR.o Q;have Wq:Mod (fun k=>k=WQ) wE w9:=by rw[Q];exact Mod.puts _ _ _ _ rfl
    have Xy:Blk w9 W9 44 (aM 2 fu).toArray:=Blk.mod XD.o Wq HL.o.2;have Xn:=aJ Xy;have Xv:=aJ hG.1;replace HQ:=HQ.aC hG.2.1;have XW:=aJ (hG.2.2 _ _ _ XH.o.o.1);have Xr:=aJ (hG.2.2 _ _ _ XH.o.o.2);have X3:=aJ (hG.2.2 _ _ _ XO.o.o.1);have WX:=aJ (hG.2.2 _ _ _ XO.o.o.2);clear hG Wq Xy Q WT WR XH XO XD R;have kX:w9.cell? ⟨gX,0,δ⟩=γ (.bool ζ):=Blk.cell (Xm.ext (I.trans HQ.o)) 0;have XY:∀W,Ext w9 W->∀k,W.cell? ⟨W9,k,δ⟩=(#[.bool (fu 0).s1,.slice (fu 0).A1 (fu 0).n1 (fu 0).c1,.bool (fu 0).s2,.slice (fu 0).A2 (fu 0).n2 (fu 0).c2,.bool (fu 0).s3,.slice (fu 0).A3 (fu 0).n3 (fu 0).c3,.bool (fu 1).s1,.slice (fu 1).A1 (fu 1).n1 (fu 1).c1,.bool (fu 1).s2,.slice (fu 1).A2 (fu 1).n2 (fu 1).c2,.bool (fu 1).s3,.slice (fu 1).A3 (fu 1).n3 (fu 1).c3]:Array Value)[k]? :=fun W x=>(Xn.ext x).cell;have XV:∀W,Ext w9 W->∀k,W.cell? ⟨WQ,k,δ⟩=(#[.bool (C 0).s1,.slice (C 0).A1 (C 0).n1 (C 0).c1,.bool (C 0).s2,.slice (C 0).A2 (C 0).n2 (C 0).c2,.bool (C 0).s3,.slice (C 0).A3 (C 0).n3 (C 0).c3,.bool (C 1).s1,.slice (C 1).A1 (C 1).n1 (C 1).c1,.bool (C 1).s2,.slice (C 1).A2 (C 1).n2 (C 1).c2,.bool (C 1).s3,.slice (C 1).A3 (C 1).n3 (C 1).c3]:Array Value)[k]? :=fun W x=>(Xv.ext x).cell;have Xg:=aJ XY;have Xf:=aJ XV;clear XY XV Xn Xv;have XM:=Xg.o w9 (Ext.refl _);have XN:=Xf.o w9 (Ext.refl _);(go_wp2_with fail);clear XM XN kX;refine(CQ _ _ _ 9500 9500 _ XW.o X3.o aa aa).mono ?_;rintro _ wa ⟨rfl,F⟩;have XM:=Xg.o wa F;have XN:=Xf.o wa F;replace Xr:=Xr.aA F;replace WX:=WX.aA F;replace HQ:=HQ.aC F;clear F Xg Xf;(go_wp2_with fail);clear XM XN;refine(CQ _ _ _ 9500 9500 _ Xr.o WX.o aa aa).mono ?_;rintro _ wb ⟨rfl,F⟩;replace HQ:=HQ.aC F;clear F;go_wp2_with fail
    go_roundw
    case rel=>exact⟨n+1,aa,au,HQ.o⟩
    case measure=>simp[intOf];omega
end Go.Proofs.YtbfnfkppkmpieaaGreat
